/- ref16: char. -/
import Derived.Deep.QuietTactic
import Derived.Deep.LoopGhost
import Derived.Test.YtpcbcodmocmilaaGreatDoorPG28
namespace Go.Proofs.YtpcbcodmocmilaaGreatDoor
open Go.RowKit
set_option maxRecDepth 100000
set_option maxHeartbeats 4000000
def RCh (o:Option (Int×Nat))(e:Ending):Prop :=
 match o with
 | none=>e=.returned (.tuple #[.int .i64 0,.int .i64 0])
 | some (x,n)=>e=.returned (.tuple #[.int .i64 x,.int .i64 (n:Nat)])
theorem RCh.no {o:Option (Int×Nat)}(h:o=none):RCh o (.returned (.tuple #[.int .i64 0,.int .i64 0])):=by rw [h];rfl
theorem RCh.yes {o:Option (Int×Nat)}{x:Int}{n:Nat}{y m:Int}(h:o=some (x,n))(h1:y=x)(h2:m=n):RCh o (.returned (.tuple #[.int .i64 y,.int .i64 m])):=by rw [h,h1,h2];rfl
def c1B (u:Int):Bool:=decide (0≤u) && (decide (u<55296) || decide (57343<u))
def c2B (u v:Int):Bool:=decide (55296≤u) && decide (u<56320) && decide (56320≤v) && decide (v≤57343)
def uvV (u v:Int):Option (Int×Nat):=if c1B u then some (u,6) else if c2B u v then some (65536+(u-55296)*1024+v-56320,12) else none
theorem c1_t {u:Int}(h0:0≤u)(h:u<55296∨57343<u):c1B u=true:=by unfold c1B;simp;omega
theorem c1_f {u:Int}(h:u<0∨(55296≤u∧u≤57343)):c1B u=false:=by
 unfold c1B;rw [Bool.and_eq_false_iff,Bool.or_eq_false_iff];simp;omega
theorem c2_t {u v:Int}(h0:55296≤u)(h1:u<56320)(h2:56320≤v)(h3:v≤57343):c2B u v=true:=by unfold c2B;simp;omega
theorem c2_f {u v:Int}(h:u<55296∨56320≤u∨v<56320∨57343<v):c2B u v=false:=by
 cases hc:c2B u v with
 | false=>rfl
 | true=>exfalso;unfold c2B at hc;simp at hc;omega
theorem uv_1 {u v:Int}(h:c1B u=true):uvV u v=some (u,6):=by unfold uvV;rw [if_pos h]
theorem uv_2 {u v:Int}(h:c1B u=false)(h2:c2B u v=true):uvV u v=some (65536+(u-55296)*1024+v-56320,12):=by unfold uvV;rw [if_neg (by rw [h];decide),if_pos h2]
theorem uv_3 {u v:Int}(h:c1B u=false)(h2:c2B u v=false):uvV u v=none:=by unfold uvV;rw [if_neg (by rw [h];decide),if_neg (by rw [h2];decide)]
theorem units_uv (r:List UInt8):unitsV r=uvV (uval (unitV r)) (uval (runitV (r.drop 4))):=by
 unfold unitsV
 cases hu:unitV r with
 | none =>
  rw [show uval none = -1 from rfl,uv_3 (c1_f (by omega)) (c2_f (by omega))]
 | some a =>
  have ha:=unitV_bd hu
  rw [show uval (some a)=a from rfl]
  simp only
  by_cases h1:a<55296∨57343<a
  ·rw [if_pos h1,uv_1 (c1_t ha.1 h1)]
  ·rw [if_neg h1]
   have k1:=c1_f (u:=a) (by omega)
   by_cases h2:56320≤a
   ·rw [if_pos h2,uv_3 k1 (c2_f (by omega))]
   ·rw [if_neg h2]
    unfold runitV
    simp only [List.drop_drop]
    cases hq:(hd (r.drop 4) 92 && hd (r.drop 5) 117) with
    | false =>
     simp only [Bool.false_eq_true,if_false]
     rw [uv_3 k1 (c2_f (by unfold uval;simp))]
    | true =>
     simp only [if_true]
     rw [show 4+2=6 from rfl]
     cases hv:unitV (r.drop 6) with
     | none=>rw [uv_3 k1 (c2_f (by unfold uval;simp))]
     | some b =>
      rw [show uval (some b)=b from rfl]
      simp only
      by_cases h3:56320≤b∧b≤57343
      ·rw [if_pos h3,uv_2 k1 (c2_t (by omega) (by omega) h3.1 h3.2)]
       congr 2;omega
      ·rw [if_neg h3,uv_3 k1 (c2_f (by omega))]
def sgE :List (UInt8×Int):=[(92,92),(47,47),(98,8),(102,12),(110,10),(114,13),(116,9)]
def sgNo (i:Nat)(c:UInt8):Prop:=∀j,j<i→∀x,sgE[j]? = some x→x.1≠c
theorem sgNo_0 (c:UInt8):sgNo 0 c:=fun j h=>absurd h (by omega)
theorem sg_next {i:Nat}{c:UInt8}{n:Int}(h:((c.toNat:Int)==n)=false)(hn:sgNo i c)(hx:∃x,sgE[i]? = some x∧(x.1.toNat:Int)=n:=by exact⟨_,rfl,rfl⟩):sgNo (i+1) c:=by
 obtain⟨x,h1,h2⟩:=hx
 intro j hj y hy
 rcases Nat.lt_or_ge j i with h'|h'
 ·exact hn j h' y hy
 ·have:j=i:=by omega
  subst this
  rw [h1] at hy;cases hy
  intro e
  rw [beq_eq_false_iff_ne] at h
  exact h (by rw [←e];exact h2)
theorem sg_at {i:Nat}{c:UInt8}{n:Int}(h:((c.toNat:Int)==n)=true){x:UInt8×Int}(hx:sgE[i]? = some x:=by exact rfl)(hn:(x.1.toNat:Int)=n:=by rfl):sgE.find? (fun x=>x.1==c)=some x:=by
 have hc:c=x.1:=by rw [←UInt8.toNat_inj];rw [beq_iff_eq] at h;omega
 subst hc
 have hm:=List.mem_of_getElem? hx
 unfold sgE at hm ⊢
 simp only [List.mem_cons,List.not_mem_nil,or_false] at hm
 rcases hm with rfl|rfl|rfl|rfl|rfl|rfl|rfl <;> rfl
theorem sg_none {c:UInt8}(h:sgNo 7 c):sgE.find? (fun x=>x.1==c)=none:=by
 rw [List.find?_eq_none]
 intro x hx
 obtain⟨j,hj,rfl⟩:=List.getElem_of_mem hx
 have:=h j (by simpa [sgE] using hj) _ (List.getElem?_eq_getElem hj)
 simpa using this
theorem esc_sg (mark c:UInt8)(hm:mark=34∨mark=39):(if c=117 then none else (escV mark c).map (·,2))=(match sgE.find? (fun x=>x.1==c) with|some x=>some (x.2,2)|none=>if c=mark then some ((mark.toNat:Int),2) else none:Option (Int×Nat)):=by
 rcases hm with rfl|rfl
 ·exact all_u8 (P:=fun c=>(if c=117 then none else (escV 34 c).map (·,2))=(match sgE.find? (fun x=>x.1==c) with|some x=>some (x.2,2)|none=>if c=34 then some (((34:UInt8).toNat:Int),2) else none:Option (Int×Nat))) (by decide +kernel) c
 ·exact all_u8 (P:=fun c=>(if c=117 then none else (escV 39 c).map (·,2))=(match sgE.find? (fun x=>x.1==c) with|some x=>some (x.2,2)|none=>if c=39 then some (((39:UInt8).toNat:Int),2) else none:Option (Int×Nat))) (by decide +kernel) c
theorem u8_wr (c:UInt8)(n:Int)(h:(c.toNat:Int)=n):wrap64 (c.toNat:Int)=n:=by
 have:=c.toNat_lt
 rw [IntWalk.wrap64_in _ (by omega),h]
theorem esc_rest {s:ByteArray}{p:Nat}{mark:UInt8}(hp:p<s.size)(h92:(s[p].toNat:Int)=92) :
  (charT mark (dr s p)=uvV (uval (runitV (dr s p))) (uval (runitV (dr s (p+6))))∧hd (dr s (p+1)) 117=true)∨(uvV (uval (runitV (dr s p))) (uval (runitV (dr s (p+6))))=none∧charT mark (dr s p)=match dr s (p+1) with|[]=>none|d::_=>if d=117 then none else (escV mark d).map (·,2)):=by
 have hc:s[p]=92:=by rw [←UInt8.toNat_inj];simp;omega
 have e0:dr s p=s[p]::dr s (p+1):=drop_cons s p hp
 by_cases h3:s.size≤p+1
 ·right
  have e1:dr s (p+1)=[]:=drop_nil s (p+1) h3
  have e6:dr s (p+6)=[]:=drop_nil s (p+6) (by omega)
  rw [charT_end hp h92 h3]
  simp only [e1]
  refine⟨?_,trivial⟩
  rw [e0,e1,e6]
  have a1:uval (runitV [s[p]]) = -1:=by unfold runitV;simp [hd,uval]
  rw [a1,uv_3 (c1_f (by omega)) (c2_f (by omega))]
 ·have hp1:p+1<s.size:=by omega
  have e1:dr s (p+1)=s[p+1]::dr s (p+2):=drop_cons s (p+1) hp1
  by_cases h5:(s[p+1].toNat:Int)=117
  ·left
   have hd5:s[p+1]=117:=by rw [←UInt8.toNat_inj];simp;omega
   refine⟨?_,by rw [e1,hd5];rfl⟩
   rw [charT_u hp1 h92 h5,units_uv,dr_dr]
   congr 2
   unfold runitV
   rw [e0,hc]
   simp only [List.drop_succ_cons,List.drop_zero]
   rw [e1,hd5]
   rfl
  ·right
   have hd5:¬s[p+1]=117:=by intro h;apply h5;rw [h];rfl
   rw [charT_e hp1 h92 h5]
   refine⟨?_,?_⟩
   ·have a1:uval (runitV (dr s p)) = -1:=by
     unfold runitV
     rw [e0]
     simp only [List.drop_succ_cons,List.drop_zero]
     rw [e1]
     simp [hd,hd5,uval]
    rw [a1,uv_3 (c1_f (by omega)) (c2_f (by omega))]
   ·rw [e1];simp only;rw [if_neg hd5]
theorem rchar_any (s:ByteArray)(p:Nat)(mark:UInt8)(w:World)(hs:s.size≤1000000)(hp:p<s.size)(hm:mark=34∨mark=39) :
  Calls Tryz.prog 89 #[.string s,.int .i64 (p:Int),.int .u8 (mark.toNat:Int)] w fun e w'=>RCh (charT mark (dr s p)) e∧Bel w.heap.size w w':=by
 have hbi:=s[p].toNat_lt
 have hmk:=mark.toNat_lt
 have hzp:(s.extract p s.size).size≤maxLen:=by simp;unfold maxLen;omega
 by_cases h1:(s[p].toNat:Int)<32
 ·have HE:=hH (charT_ctl (mark:=mark) hp h1)
  go_enter Tryz.func89, Tryz.ntmps89
  go_wp2
  go_ret2
  exact⟨RCh.no HE.out,Bel.refl _ _⟩
 by_cases h2:(s[p].toNat:Int)=92
 ·have hb:((s[p].toNat:Int) != 92)=false:=by simp [h2]
  obtain⟨u,hu⟩:∃u,uval (runitV (dr s p))=u:=⟨_,rfl⟩
  obtain⟨v,hv⟩:∃v,uval (runitV (dr s (p+6)))=v:=⟨_,rfl⟩
  have hub:=runitV_bd (dr s p)
  have hvb:=runitV_bd (dr s (p+6))
  have her:=esc_rest (mark:=mark) hp h2
  rw [hu,hv] at her
  rw [hu] at hub
  rw [hv] at hvb
  obtain⟨hu0,hu1⟩:=hub
  obtain⟨hv0,hv1⟩:=hvb
  have hcu:=fun w=>runit_at s p u w hs (by omega) (hH hu)
  have hcv:=fun w=>runit_at s (p+6) v w hs (by omega) (hH hv)
  simp only [Int.natCast_add,Int.cast_ofNat_Int] at hcv
  have HER:=hH her
  have HB0:=hH (Bel.refl w.heap.size w)
  clear h2 hu hv her
  go_enter Tryz.func89, Tryz.ntmps89
  go_upto_region 6 with(first|(go_at_call 110;(with_reducible refine(hcu _).mono ?_);rintro e w' ⟨rfl,rfl⟩)|(go_at_call 110;(with_reducible refine(hcv _).mono ?_);rintro e w' ⟨rfl,rfl⟩))
  have HB0:=hH (Bel.refl w.heap.size w)
  go_cut [43] (fun b wx=>b=.bool (c1B u)∧w=wx)
  case first =>
   by_cases g1:u<0
   ·have G:=hH (c1_f (u:=u) (.inl g1))
    go_wp2
    go_meet
    case rel=>exact⟨by rw [G.out],rfl⟩
   ·by_cases g2:u<55296
    ·have G:=hH (c1_t (u:=u) (by omega) (.inl g2))
     have g1:0≤u:=by omega
     go_wp2
     go_meet
     case rel=>exact⟨by rw [G.out],rfl⟩
    ·have g1:0≤u:=by omega
     by_cases g3:57343<u
     ·have G:=hH (c1_t (u:=u) (by omega) (.inr g3))
      go_wp2
      go_meet
      case rel=>exact⟨by rw [G.out],rfl⟩
     ·have G:=hH (c1_f (u:=u) (.inr ⟨by omega,by omega⟩))
      go_wp2
      go_meet
      case rel=>exact⟨by rw [G.out],rfl⟩
  case rest =>
   obtain⟨rfl,rfl⟩:=hcut
   cases g:c1B u with
   | true =>
    have HE:=hH (uv_1 (v:=v) g)
    clear g
    go_wp2
    go_ret2
    have hE:charT mark (dr s p)=some (u,6):=by
     rcases HER.out with h|h
     ·rw [h.1];exact HE.out
     ·rw [HE.out] at h;cases h.1
    exact⟨RCh.yes hE rfl rfl,HB0.out⟩
   | false =>
    have G1:=hH g
    clear g
    go_upto_region 8 with fail
    go_cut [58] (fun b wx=>b=.bool (c2B u v)∧w=wx)
    case first =>
     by_cases g1:u<55296
     ·have G:=hH (c2_f (u:=u) (v:=v) (.inl g1))
      go_wp2
      go_meet
      case rel=>exact⟨by rw [G.out],rfl⟩
     ·have g1:55296≤u:=by omega
      by_cases g2:u<56320
      ·by_cases g3:v<56320
       ·have G:=hH (c2_f (u:=u) (v:=v) (.inr (.inr (.inl g3))))
        go_wp2
        go_meet
        case rel=>exact⟨by rw [G.out],rfl⟩
       ·have g3:56320≤v:=by omega
        by_cases g4:v≤57343
        ·have G:=hH (c2_t g1 g2 g3 g4)
         go_wp2
         go_meet
         case rel=>exact⟨by rw [G.out],rfl⟩
        ·have g4':57343<v:=by omega
         have G:=hH (c2_f (u:=u) (v:=v) (.inr (.inr (.inr g4'))))
         go_wp2
         go_meet
         case rel=>exact⟨by rw [G.out],rfl⟩
      ·have G:=hH (c2_f (u:=u) (v:=v) (.inr (.inl (by omega))))
       go_wp2
       go_meet
       case rel=>exact⟨by rw [G.out],rfl⟩
    case rest =>
     obtain⟨rfl,rfl⟩:=hcut
     cases g:c2B u v with
     | true =>
      have HE:=hH (uv_2 G1.out g)
      have hg:55296≤u∧u<56320∧56320≤v∧v≤57343:=by unfold c2B at g;simp at g;omega
      obtain⟨q1,q2,q3,q4⟩:=hg
      clear g
      go_wp2
      go_ret2
      have hE:charT mark (dr s p)=some (65536+(u-55296)*1024+v-56320,12):=by
       rcases HER.out with h|h
       ·rw [h.1];exact HE.out
       ·rw [HE.out] at h;cases h.1
      exact⟨RCh.yes hE rfl rfl,HB0.out⟩
     | false =>
      have HER2:Hid (charT mark (dr s p)=match dr s (p+1) with|[]=>none|d::_=>if d=117 then none else (escV mark d).map (·,2)):=by
       rcases HER.out with h|h
       ·rw [uv_3 G1.out g] at h
        exact hH (by
         rw [h.1]
         have h2:=h.2
         cases hx:dr s (p+1) with
         | nil=>rfl
         | cons d r =>
          rw [hx] at h2
          simp only [hd,beq_iff_eq] at h2
          simp only;rw [if_pos h2])
       ·exact hH h.2
      clear g HER G1 hcu hcv hu0 hu1 hv0 hv1
      by_cases h3:s.size≤p+1
      ·have HE:=hH (show charT mark (dr s p)=none by rw [HER2.out,show dr s (p+1)=[] from drop_nil s (p+1) h3])
       have h4:¬(p:Int)<(s.size:Int)-1:=by omega
       clear HER2
       go_wp2
       go_loopg [12] 0 (fun k v wx=>k=0∧v=.int .i64 0∧w=wx)
       case atStart=>exact⟨rfl,rfl,rfl⟩
       case round =>
        obtain⟨-,rfl,rfl⟩:=hrel
        go_wp2
        go_ret2
        exact⟨RCh.no HE.out,HB0.out⟩
      have h4:(p:Int)<(s.size:Int)-1:=by omega
      have hp1:p+1<s.size:=by omega
      have hbi1:=s[p+1].toNat_lt
      have HS:=hH (show charT mark (dr s p)=match sgE.find? (fun x=>x.1==s[p+1]) with|some x=>some (x.2,2)|none=>if s[p+1]=mark then some ((mark.toNat:Int),2) else none by
       rw [HER2.out,show dr s (p+1)=s[p+1]::dr s (p+2) from drop_cons s (p+1) hp1]
       exact esc_sg mark s[p+1] hm)
      clear HER2 h3
      go_wp2
      go_loopg [12] 7 (fun k v wx=>∃i:Nat,k=7-i∧i≤7∧v=.int .i64 i∧Hid (sgNo i s[p+1])∧Hid (Bel w.heap.size w wx))
      case atStart=>exact⟨0,rfl,by omega,rfl,hH (sgNo_0 _),HB0⟩
      case round =>
       obtain⟨i,hgk,hi,rfl,HN,HW⟩:=hrel
       have HGK:=hH hgk;clear hgk
       rcases (show i=0∨i=1∨i=2∨i=3∨i=4∨i=5∨i=6∨i=7 by omega) with rfl|rfl|rfl|rfl|rfl|rfl|rfl|rfl
       ·rw [show ((0:Nat):Int)=0 from rfl]
        have z1:(⟨#[92,47,98,102,110,114,116]⟩:ByteArray)[0].toNat=92:=rfl
        have z2:(⟨#[92,47,8,12,10,13,9]⟩:ByteArray)[0].toNat=92:=rfl
        cases hq:((s[p+1].toNat:Int)==92) with
        | true =>
         have HE:=hH (show charT mark (dr s p)=some (92,2) by rw [HS.out,sg_at (i:=0) (x:=(92,92)) hq])
         go_wp2
         have q1:IntKind.i64.wrap ((p:Int)+1)=(p:Int)+1:=IntWalk.i64_in _ (by omega)
         have q2:0≤(p:Int)+1:=by omega
         have q3:((p:Int)+1).toNat=p+1:=by omega
         have q4:(p:Int)+1<(s.size:Int):=by omega
         go_quiet (fail)
         go_wp2
         go_ret2
         exact⟨RCh.yes HE.out rfl rfl,HW.out.drewN _⟩
        | false =>
         have HN2:=hH (sg_next hq HN.out)
         go_wp2
         have q1:IntKind.i64.wrap ((p:Int)+1)=(p:Int)+1:=IntWalk.i64_in _ (by omega)
         have q2:0≤(p:Int)+1:=by omega
         have q3:((p:Int)+1).toNat=p+1:=by omega
         have q4:(p:Int)+1<(s.size:Int):=by omega
         go_quiet (fail)
         go_wp2
         go_roundg (7-1)
         case measure=>have:=HGK.out;simp;omega
         case rel=>exact⟨1,rfl,by omega,rfl,HN2,hH (HW.out.drewN _)⟩
       ·rw [show ((1:Nat):Int)=1 from rfl]
        have z1:(⟨#[92,47,98,102,110,114,116]⟩:ByteArray)[1].toNat=47:=rfl
        have z2:(⟨#[92,47,8,12,10,13,9]⟩:ByteArray)[1].toNat=47:=rfl
        cases hq:((s[p+1].toNat:Int)==47) with
        | true =>
         have HE:=hH (show charT mark (dr s p)=some (47,2) by rw [HS.out,sg_at (i:=1) (x:=(47,47)) hq])
         go_wp2
         have q1:IntKind.i64.wrap ((p:Int)+1)=(p:Int)+1:=IntWalk.i64_in _ (by omega)
         have q2:0≤(p:Int)+1:=by omega
         have q3:((p:Int)+1).toNat=p+1:=by omega
         have q4:(p:Int)+1<(s.size:Int):=by omega
         go_quiet (fail)
         go_wp2
         go_ret2
         exact⟨RCh.yes HE.out rfl rfl,HW.out.drewN _⟩
        | false =>
         have HN2:=hH (sg_next hq HN.out)
         go_wp2
         have q1:IntKind.i64.wrap ((p:Int)+1)=(p:Int)+1:=IntWalk.i64_in _ (by omega)
         have q2:0≤(p:Int)+1:=by omega
         have q3:((p:Int)+1).toNat=p+1:=by omega
         have q4:(p:Int)+1<(s.size:Int):=by omega
         go_quiet (fail)
         go_wp2
         go_roundg (7-2)
         case measure=>have:=HGK.out;simp;omega
         case rel=>exact⟨2,rfl,by omega,rfl,HN2,hH (HW.out.drewN _)⟩
       ·rw [show ((2:Nat):Int)=2 from rfl]
        have z1:(⟨#[92,47,98,102,110,114,116]⟩:ByteArray)[2].toNat=98:=rfl
        have z2:(⟨#[92,47,8,12,10,13,9]⟩:ByteArray)[2].toNat=8:=rfl
        cases hq:((s[p+1].toNat:Int)==98) with
        | true =>
         have HE:=hH (show charT mark (dr s p)=some (8,2) by rw [HS.out,sg_at (i:=2) (x:=(98,8)) hq])
         go_wp2
         have q1:IntKind.i64.wrap ((p:Int)+1)=(p:Int)+1:=IntWalk.i64_in _ (by omega)
         have q2:0≤(p:Int)+1:=by omega
         have q3:((p:Int)+1).toNat=p+1:=by omega
         have q4:(p:Int)+1<(s.size:Int):=by omega
         go_quiet (fail)
         go_wp2
         go_ret2
         exact⟨RCh.yes HE.out rfl rfl,HW.out.drewN _⟩
        | false =>
         have HN2:=hH (sg_next hq HN.out)
         go_wp2
         have q1:IntKind.i64.wrap ((p:Int)+1)=(p:Int)+1:=IntWalk.i64_in _ (by omega)
         have q2:0≤(p:Int)+1:=by omega
         have q3:((p:Int)+1).toNat=p+1:=by omega
         have q4:(p:Int)+1<(s.size:Int):=by omega
         go_quiet (fail)
         go_wp2
         go_roundg (7-3)
         case measure=>have:=HGK.out;simp;omega
         case rel=>exact⟨3,rfl,by omega,rfl,HN2,hH (HW.out.drewN _)⟩
       ·rw [show ((3:Nat):Int)=3 from rfl]
        have z1:(⟨#[92,47,98,102,110,114,116]⟩:ByteArray)[3].toNat=102:=rfl
        have z2:(⟨#[92,47,8,12,10,13,9]⟩:ByteArray)[3].toNat=12:=rfl
        cases hq:((s[p+1].toNat:Int)==102) with
        | true =>
         have HE:=hH (show charT mark (dr s p)=some (12,2) by rw [HS.out,sg_at (i:=3) (x:=(102,12)) hq])
         go_wp2
         have q1:IntKind.i64.wrap ((p:Int)+1)=(p:Int)+1:=IntWalk.i64_in _ (by omega)
         have q2:0≤(p:Int)+1:=by omega
         have q3:((p:Int)+1).toNat=p+1:=by omega
         have q4:(p:Int)+1<(s.size:Int):=by omega
         go_quiet (fail)
         go_wp2
         go_ret2
         exact⟨RCh.yes HE.out rfl rfl,HW.out.drewN _⟩
        | false =>
         have HN2:=hH (sg_next hq HN.out)
         go_wp2
         have q1:IntKind.i64.wrap ((p:Int)+1)=(p:Int)+1:=IntWalk.i64_in _ (by omega)
         have q2:0≤(p:Int)+1:=by omega
         have q3:((p:Int)+1).toNat=p+1:=by omega
         have q4:(p:Int)+1<(s.size:Int):=by omega
         go_quiet (fail)
         go_wp2
         go_roundg (7-4)
         case measure=>have:=HGK.out;simp;omega
         case rel=>exact⟨4,rfl,by omega,rfl,HN2,hH (HW.out.drewN _)⟩
       ·rw [show ((4:Nat):Int)=4 from rfl]
        have z1:(⟨#[92,47,98,102,110,114,116]⟩:ByteArray)[4].toNat=110:=rfl
        have z2:(⟨#[92,47,8,12,10,13,9]⟩:ByteArray)[4].toNat=10:=rfl
        cases hq:((s[p+1].toNat:Int)==110) with
        | true =>
         have HE:=hH (show charT mark (dr s p)=some (10,2) by rw [HS.out,sg_at (i:=4) (x:=(110,10)) hq])
         go_wp2
         have q1:IntKind.i64.wrap ((p:Int)+1)=(p:Int)+1:=IntWalk.i64_in _ (by omega)
         have q2:0≤(p:Int)+1:=by omega
         have q3:((p:Int)+1).toNat=p+1:=by omega
         have q4:(p:Int)+1<(s.size:Int):=by omega
         go_quiet (fail)
         go_wp2
         go_ret2
         exact⟨RCh.yes HE.out rfl rfl,HW.out.drewN _⟩
        | false =>
         have HN2:=hH (sg_next hq HN.out)
         go_wp2
         have q1:IntKind.i64.wrap ((p:Int)+1)=(p:Int)+1:=IntWalk.i64_in _ (by omega)
         have q2:0≤(p:Int)+1:=by omega
         have q3:((p:Int)+1).toNat=p+1:=by omega
         have q4:(p:Int)+1<(s.size:Int):=by omega
         go_quiet (fail)
         go_wp2
         go_roundg (7-5)
         case measure=>have:=HGK.out;simp;omega
         case rel=>exact⟨5,rfl,by omega,rfl,HN2,hH (HW.out.drewN _)⟩
       ·rw [show ((5:Nat):Int)=5 from rfl]
        have z1:(⟨#[92,47,98,102,110,114,116]⟩:ByteArray)[5].toNat=114:=rfl
        have z2:(⟨#[92,47,8,12,10,13,9]⟩:ByteArray)[5].toNat=13:=rfl
        cases hq:((s[p+1].toNat:Int)==114) with
        | true =>
         have HE:=hH (show charT mark (dr s p)=some (13,2) by rw [HS.out,sg_at (i:=5) (x:=(114,13)) hq])
         go_wp2
         have q1:IntKind.i64.wrap ((p:Int)+1)=(p:Int)+1:=IntWalk.i64_in _ (by omega)
         have q2:0≤(p:Int)+1:=by omega
         have q3:((p:Int)+1).toNat=p+1:=by omega
         have q4:(p:Int)+1<(s.size:Int):=by omega
         go_quiet (fail)
         go_wp2
         go_ret2
         exact⟨RCh.yes HE.out rfl rfl,HW.out.drewN _⟩
        | false =>
         have HN2:=hH (sg_next hq HN.out)
         go_wp2
         have q1:IntKind.i64.wrap ((p:Int)+1)=(p:Int)+1:=IntWalk.i64_in _ (by omega)
         have q2:0≤(p:Int)+1:=by omega
         have q3:((p:Int)+1).toNat=p+1:=by omega
         have q4:(p:Int)+1<(s.size:Int):=by omega
         go_quiet (fail)
         go_wp2
         go_roundg (7-6)
         case measure=>have:=HGK.out;simp;omega
         case rel=>exact⟨6,rfl,by omega,rfl,HN2,hH (HW.out.drewN _)⟩
       ·rw [show ((6:Nat):Int)=6 from rfl]
        have z1:(⟨#[92,47,98,102,110,114,116]⟩:ByteArray)[6].toNat=116:=rfl
        have z2:(⟨#[92,47,8,12,10,13,9]⟩:ByteArray)[6].toNat=9:=rfl
        cases hq:((s[p+1].toNat:Int)==116) with
        | true =>
         have HE:=hH (show charT mark (dr s p)=some (9,2) by rw [HS.out,sg_at (i:=6) (x:=(116,9)) hq])
         go_wp2
         have q1:IntKind.i64.wrap ((p:Int)+1)=(p:Int)+1:=IntWalk.i64_in _ (by omega)
         have q2:0≤(p:Int)+1:=by omega
         have q3:((p:Int)+1).toNat=p+1:=by omega
         have q4:(p:Int)+1<(s.size:Int):=by omega
         go_quiet (fail)
         go_wp2
         go_ret2
         exact⟨RCh.yes HE.out rfl rfl,HW.out.drewN _⟩
        | false =>
         have HN2:=hH (sg_next hq HN.out)
         go_wp2
         have q1:IntKind.i64.wrap ((p:Int)+1)=(p:Int)+1:=IntWalk.i64_in _ (by omega)
         have q2:0≤(p:Int)+1:=by omega
         have q3:((p:Int)+1).toNat=p+1:=by omega
         have q4:(p:Int)+1<(s.size:Int):=by omega
         go_quiet (fail)
         go_wp2
         go_roundg (7-7)
         case measure=>have:=HGK.out;simp;omega
         case rel=>exact⟨7,rfl,by omega,rfl,HN2,hH (HW.out.drewN _)⟩
       ·rw [show ((7:Nat):Int)=7 from rfl]
        by_cases hq:s[p+1]=mark
        ·have HE:=hH (show charT mark (dr s p)=some ((mark.toNat:Int),2) by rw [HS.out,sg_none HN.out];simp only;rw [if_pos hq])
         have hq':((s[p+1].toNat:Int)==(mark.toNat:Int))=true:=by rw [hq];simp
         clear hq
         go_wp2
         go_ret2
         exact⟨RCh.yes HE.out (by first|rfl|exact u8_wr _ _ rfl) rfl,HW.out⟩
        ·have HE:=hH (show charT mark (dr s p)=none by rw [HS.out,sg_none HN.out];simp only;rw [if_neg hq])
         have hq':((s[p+1].toNat:Int)==(mark.toNat:Int))=false:=by rw [beq_eq_false_iff_ne];intro e;exact hq (UInt8.toNat_inj.1 (by omega))
         clear hq
         go_wp2
         go_ret2
         exact⟨RCh.no HE.out,HW.out⟩
 ·have hb:((s[p].toNat:Int) != 92)=true:=by simpa using h2
  have hc:=charT_pl (mark:=mark) hp h1 h2
  obtain⟨x,n,hxn⟩:∃x n,scalV (dr s p)=(x,n):=⟨_,_,rfl⟩
  have hl:=scalV_len (dr s p)
  have hz:=scalV_z (dr s p)
  rw [hxn] at hc hl hz
  simp only at hc hl hz
  have HSC:=hH (show scalV (s.extract p s.size).data.toList=(x,n) by rw [ext_drop];exact hxn)
  have HE:Hid (RCh (charT mark (dr s p)) (.returned (.tuple #[.int .i64 x,.int .i64 n]))):=by
   by_cases hn:n=0
   ·have:=hz hn
    injection this with h3 h4
    rw [if_pos hn] at hc
    rw [h3,h4]
    exact hH (RCh.no hc)
   ·rw [if_neg hn] at hc
    exact hH (RCh.yes hc rfl (by omega))
  clear hc hl hz hxn
  go_enter Tryz.func89, Tryz.ntmps89
  go_wp2_with (go_at_call 37;refine(rscal_at _ _ _ _ hzp HSC).mono ?_;rintro e w' ⟨rfl,hbw⟩)
  go_ret2
  exact⟨HE.out,Bel.of hbw⟩
end Go.Proofs.YtpcbcodmocmilaaGreatDoor
