/- NG32: Xc, Xd, Xe joined. -/
import Derived.Deep.QuietTactic
import Derived.Deep.LoopGhost
import Derived.Test.YtjbdcjcfijjiiaaGreatDoorNG31
namespace Go.Proofs.YtjbdcjcfijjiiaaGreatDoor
open Go.RowKit
/- ref16: char. -/
section
open Go.RowKit
set_option maxRecDepth 100000
set_option maxHeartbeats 4000000
def RCh (o:Option (Int×Nat))(e:Ending):Prop :=
 match o with
 | none=>e=.returned (.tuple #[.int .i64 0,.int .i64 0])
 | some (x,n)=>e=.returned (.tuple #[.int .i64 x,.int .i64 (n:Nat)])
theorem RCh.no {o:Option (Int×Nat)}(h:o=none):RCh o (.returned (.tuple #[.int .i64 0,.int .i64 0])):=by rw [h];rfl
theorem RCh.yes {o:Option (Int×Nat)}{x:Int}{n:Nat}{y m:Int}(h:o=some (x,n))(h1:y=x)(h2:m=n):RCh o (.returned (.tuple #[.int .i64 y,.int .i64 m])):=by rw [h,h1,h2];rfl
def c1B (u:Int):Bool:=decide (0≤u) && (decide (u<55296) || decide (57343<u))
def c2B (u v:Int):Bool:=decide (55296≤u) && decide (u<56320) && decide (56320≤v) && decide (v≤57343)
def uvV (u v:Int):Option (Int×Nat):=if c1B u then some (u,6) else if c2B u v then some (65536+(u-55296)*1024+v-56320,12) else none
theorem c1_t {u:Int}(h0:0≤u)(h:u<55296∨57343<u):c1B u=true:=by unfold c1B;simp;omega
theorem c1_f {u:Int}(h:u<0∨(55296≤u∧u≤57343)):c1B u=false:=by
 unfold c1B;rw [Bool.and_eq_false_iff,Bool.or_eq_false_iff];simp;omega
theorem c2_t {u v:Int}(h0:55296≤u)(h1:u<56320)(h2:56320≤v)(h3:v≤57343):c2B u v=true:=by unfold c2B;simp;omega
theorem c2_f {u v:Int}(h:u<55296∨56320≤u∨v<56320∨57343<v):c2B u v=false:=by
 cases hc:c2B u v with
 | false=>rfl
 | true=>exfalso;unfold c2B at hc;simp at hc;omega
theorem uv_1 {u v:Int}(h:c1B u=true):uvV u v=some (u,6):=by unfold uvV;rw [if_pos h]
theorem uv_2 {u v:Int}(h:c1B u=false)(h2:c2B u v=true):uvV u v=some (65536+(u-55296)*1024+v-56320,12):=by unfold uvV;rw [if_neg (by rw [h];decide),if_pos h2]
theorem uv_3 {u v:Int}(h:c1B u=false)(h2:c2B u v=false):uvV u v=none:=by unfold uvV;rw [if_neg (by rw [h];decide),if_neg (by rw [h2];decide)]
theorem units_uv (r:List UInt8):unitsV r=uvV (uval (unitV r)) (uval (runitV (r.drop 4))):=by
 unfold unitsV
 cases hu:unitV r with
 | none =>
  rw [show uval none = -1 from rfl,uv_3 (c1_f (by omega)) (c2_f (by omega))]
 | some a =>
  have ha:=unitV_bd hu
  rw [show uval (some a)=a from rfl]
  simp only
  by_cases h1:a<55296∨57343<a
  ·rw [if_pos h1,uv_1 (c1_t ha.1 h1)]
  ·rw [if_neg h1]
   have k1:=c1_f (u:=a) (by omega)
   by_cases h2:56320≤a
   ·rw [if_pos h2,uv_3 k1 (c2_f (by omega))]
   ·rw [if_neg h2]
    unfold runitV
    simp only [List.drop_drop]
    cases hq:(hd (r.drop 4) 92 && hd (r.drop 5) 117) with
    | false =>
     simp only [Bool.false_eq_true,if_false]
     rw [uv_3 k1 (c2_f (by unfold uval;simp))]
    | true =>
     simp only [if_true]
     rw [show 4+2=6 from rfl]
     cases hv:unitV (r.drop 6) with
     | none=>rw [uv_3 k1 (c2_f (by unfold uval;simp))]
     | some b =>
      rw [show uval (some b)=b from rfl]
      simp only
      by_cases h3:56320≤b∧b≤57343
      ·rw [if_pos h3,uv_2 k1 (c2_t (by omega) (by omega) h3.1 h3.2)]
       congr 2;omega
      ·rw [if_neg h3,uv_3 k1 (c2_f (by omega))]
def sgE :List (UInt8×Int):=[(92,92),(47,47),(98,8),(102,12),(110,10),(114,13),(116,9)]
def sgNo (i:Nat)(c:UInt8):Prop:=∀j,j<i→∀x,sgE[j]? = some x→x.1≠c
theorem sgNo_0 (c:UInt8):sgNo 0 c:=fun j h=>absurd h (by omega)
theorem sg_next {i:Nat}{c:UInt8}{n:Int}(h:((c.toNat:Int)==n)=false)(hn:sgNo i c)(hx:∃x,sgE[i]? = some x∧(x.1.toNat:Int)=n:=by exact⟨_,rfl,rfl⟩):sgNo (i+1) c:=by
 obtain⟨x,h1,h2⟩:=hx
 intro j hj y hy
 rcases Nat.lt_or_ge j i with h'|h'
 ·exact hn j h' y hy
 ·have:j=i:=by omega
  subst this
  rw [h1] at hy;cases hy
  intro e
  rw [beq_eq_false_iff_ne] at h
  exact h (by rw [←e];exact h2)
theorem sg_at {i:Nat}{c:UInt8}{n:Int}(h:((c.toNat:Int)==n)=true){x:UInt8×Int}(hx:sgE[i]? = some x:=by exact rfl)(hn:(x.1.toNat:Int)=n:=by rfl):sgE.find? (fun x=>x.1==c)=some x:=by
 have hc:c=x.1:=by rw [←UInt8.toNat_inj];rw [beq_iff_eq] at h;omega
 subst hc
 have hm:=List.mem_of_getElem? hx
 unfold sgE at hm ⊢
 simp only [List.mem_cons,List.not_mem_nil,or_false] at hm
 rcases hm with rfl|rfl|rfl|rfl|rfl|rfl|rfl <;> rfl
theorem sg_none {c:UInt8}(h:sgNo 7 c):sgE.find? (fun x=>x.1==c)=none:=by
 rw [List.find?_eq_none]
 intro x hx
 obtain⟨j,hj,rfl⟩:=List.getElem_of_mem hx
 have:=h j (by simpa [sgE] using hj) _ (List.getElem?_eq_getElem hj)
 simpa using this
theorem esc_sg (mark c:UInt8)(hm:mark=34∨mark=39):(if c=117 then none else (escV mark c).map (·,2))=(match sgE.find? (fun x=>x.1==c) with|some x=>some (x.2,2)|none=>if c=mark then some ((mark.toNat:Int),2) else none:Option (Int×Nat)):=by
 rcases hm with rfl|rfl
 ·exact all_u8 (P:=fun c=>(if c=117 then none else (escV 34 c).map (·,2))=(match sgE.find? (fun x=>x.1==c) with|some x=>some (x.2,2)|none=>if c=34 then some (((34:UInt8).toNat:Int),2) else none:Option (Int×Nat))) (by decide +kernel) c
 ·exact all_u8 (P:=fun c=>(if c=117 then none else (escV 39 c).map (·,2))=(match sgE.find? (fun x=>x.1==c) with|some x=>some (x.2,2)|none=>if c=39 then some (((39:UInt8).toNat:Int),2) else none:Option (Int×Nat))) (by decide +kernel) c
theorem u8_wr (c:UInt8)(n:Int)(h:(c.toNat:Int)=n):wrap64 (c.toNat:Int)=n:=by
 have:=c.toNat_lt
 rw [IntWalk.wrap64_in _ (by omega),h]
theorem esc_rest {s:ByteArray}{p:Nat}{mark:UInt8}(hp:p<s.size)(h92:(s[p].toNat:Int)=92) :
  (charT mark (dr s p)=uvV (uval (runitV (dr s p))) (uval (runitV (dr s (p+6))))∧hd (dr s (p+1)) 117=true)∨(uvV (uval (runitV (dr s p))) (uval (runitV (dr s (p+6))))=none∧charT mark (dr s p)=match dr s (p+1) with|[]=>none|d::_=>if d=117 then none else (escV mark d).map (·,2)):=by
 have hc:s[p]=92:=by rw [←UInt8.toNat_inj];simp;omega
 have e0:dr s p=s[p]::dr s (p+1):=drop_cons s p hp
 by_cases h3:s.size≤p+1
 ·right
  have e1:dr s (p+1)=[]:=drop_nil s (p+1) h3
  have e6:dr s (p+6)=[]:=drop_nil s (p+6) (by omega)
  rw [charT_end hp h92 h3]
  simp only [e1]
  refine⟨?_,trivial⟩
  rw [e0,e1,e6]
  have a1:uval (runitV [s[p]]) = -1:=by unfold runitV;simp [hd,uval]
  rw [a1,uv_3 (c1_f (by omega)) (c2_f (by omega))]
 ·have hp1:p+1<s.size:=by omega
  have e1:dr s (p+1)=s[p+1]::dr s (p+2):=drop_cons s (p+1) hp1
  by_cases h5:(s[p+1].toNat:Int)=117
  ·left
   have hd5:s[p+1]=117:=by rw [←UInt8.toNat_inj];simp;omega
   refine⟨?_,by rw [e1,hd5];rfl⟩
   rw [charT_u hp1 h92 h5,units_uv,dr_dr]
   congr 2
   unfold runitV
   rw [e0,hc]
   simp only [List.drop_succ_cons,List.drop_zero]
   rw [e1,hd5]
   rfl
  ·right
   have hd5:¬s[p+1]=117:=by intro h;apply h5;rw [h];rfl
   rw [charT_e hp1 h92 h5]
   refine⟨?_,?_⟩
   ·have a1:uval (runitV (dr s p)) = -1:=by
     unfold runitV
     rw [e0]
     simp only [List.drop_succ_cons,List.drop_zero]
     rw [e1]
     simp [hd,hd5,uval]
    rw [a1,uv_3 (c1_f (by omega)) (c2_f (by omega))]
   ·rw [e1];simp only;rw [if_neg hd5]
theorem rchar_any (s:ByteArray)(p:Nat)(mark:UInt8)(w:World)(hs:s.size≤1000000)(hp:p<s.size)(hm:mark=34∨mark=39) :
  Calls Tryz.prog 64 #[.string s,.int .i64 (p:Int),.int .u8 (mark.toNat:Int)] w fun e w'=>RCh (charT mark (dr s p)) e∧Bel w.heap.size w w':=by
 have hbi:=s[p].toNat_lt
 have hmk:=mark.toNat_lt
 have hzp:(s.extract p s.size).size≤maxLen:=by simp;unfold maxLen;omega
 by_cases h1:(s[p].toNat:Int)<32
 ·have HE:=hH (charT_ctl (mark:=mark) hp h1)
  go_enter Tryz.func64, Tryz.ntmps64
  go_wp2
  go_ret2
  exact⟨RCh.no HE.out,Bel.refl _ _⟩
 by_cases h2:(s[p].toNat:Int)=92
 ·have hb:((s[p].toNat:Int) != 92)=false:=by simp [h2]
  obtain⟨u,hu⟩:∃u,uval (runitV (dr s p))=u:=⟨_,rfl⟩
  obtain⟨v,hv⟩:∃v,uval (runitV (dr s (p+6)))=v:=⟨_,rfl⟩
  have hub:=runitV_bd (dr s p)
  have hvb:=runitV_bd (dr s (p+6))
  have her:=esc_rest (mark:=mark) hp h2
  rw [hu,hv] at her
  rw [hu] at hub
  rw [hv] at hvb
  obtain⟨hu0,hu1⟩:=hub
  obtain⟨hv0,hv1⟩:=hvb
  have hcu:=fun w=>runit_at s p u w hs (by omega) (hH hu)
  have hcv:=fun w=>runit_at s (p+6) v w hs (by omega) (hH hv)
  simp only [Int.natCast_add,Int.cast_ofNat_Int] at hcv
  have HER:=hH her
  have HB0:=hH (Bel.refl w.heap.size w)
  clear h2 hu hv her
  go_enter Tryz.func64, Tryz.ntmps64
  go_upto_region 6 with(first|(go_at_call 84;(with_reducible refine(hcu _).mono ?_);rintro e w' ⟨rfl,rfl⟩)|(go_at_call 84;(with_reducible refine(hcv _).mono ?_);rintro e w' ⟨rfl,rfl⟩))
  have HB0:=hH (Bel.refl w.heap.size w)
  go_cut [43] (fun b wx=>b=.bool (c1B u)∧w=wx)
  case first =>
   by_cases g1:u<0
   ·have G:=hH (c1_f (u:=u) (.inl g1))
    go_wp2
    go_meet
    case rel=>exact⟨by rw [G.out],rfl⟩
   ·by_cases g2:u<55296
    ·have G:=hH (c1_t (u:=u) (by omega) (.inl g2))
     have g1:0≤u:=by omega
     go_wp2
     go_meet
     case rel=>exact⟨by rw [G.out],rfl⟩
    ·have g1:0≤u:=by omega
     by_cases g3:57343<u
     ·have G:=hH (c1_t (u:=u) (by omega) (.inr g3))
      go_wp2
      go_meet
      case rel=>exact⟨by rw [G.out],rfl⟩
     ·have G:=hH (c1_f (u:=u) (.inr ⟨by omega,by omega⟩))
      go_wp2
      go_meet
      case rel=>exact⟨by rw [G.out],rfl⟩
  case rest =>
   obtain⟨rfl,rfl⟩:=hcut
   cases g:c1B u with
   | true =>
    have HE:=hH (uv_1 (v:=v) g)
    clear g
    go_wp2
    go_ret2
    have hE:charT mark (dr s p)=some (u,6):=by
     rcases HER.out with h|h
     ·rw [h.1];exact HE.out
     ·rw [HE.out] at h;cases h.1
    exact⟨RCh.yes hE rfl rfl,HB0.out⟩
   | false =>
    have G1:=hH g
    clear g
    go_upto_region 8 with fail
    go_cut [58] (fun b wx=>b=.bool (c2B u v)∧w=wx)
    case first =>
     by_cases g1:u<55296
     ·have G:=hH (c2_f (u:=u) (v:=v) (.inl g1))
      go_wp2
      go_meet
      case rel=>exact⟨by rw [G.out],rfl⟩
     ·have g1:55296≤u:=by omega
      by_cases g2:u<56320
      ·by_cases g3:v<56320
       ·have G:=hH (c2_f (u:=u) (v:=v) (.inr (.inr (.inl g3))))
        go_wp2
        go_meet
        case rel=>exact⟨by rw [G.out],rfl⟩
       ·have g3:56320≤v:=by omega
        by_cases g4:v≤57343
        ·have G:=hH (c2_t g1 g2 g3 g4)
         go_wp2
         go_meet
         case rel=>exact⟨by rw [G.out],rfl⟩
        ·have g4':57343<v:=by omega
         have G:=hH (c2_f (u:=u) (v:=v) (.inr (.inr (.inr g4'))))
         go_wp2
         go_meet
         case rel=>exact⟨by rw [G.out],rfl⟩
      ·have G:=hH (c2_f (u:=u) (v:=v) (.inr (.inl (by omega))))
       go_wp2
       go_meet
       case rel=>exact⟨by rw [G.out],rfl⟩
    case rest =>
     obtain⟨rfl,rfl⟩:=hcut
     cases g:c2B u v with
     | true =>
      have HE:=hH (uv_2 G1.out g)
      have hg:55296≤u∧u<56320∧56320≤v∧v≤57343:=by unfold c2B at g;simp at g;omega
      obtain⟨q1,q2,q3,q4⟩:=hg
      clear g
      go_wp2
      go_ret2
      have hE:charT mark (dr s p)=some (65536+(u-55296)*1024+v-56320,12):=by
       rcases HER.out with h|h
       ·rw [h.1];exact HE.out
       ·rw [HE.out] at h;cases h.1
      exact⟨RCh.yes hE rfl rfl,HB0.out⟩
     | false =>
      have HER2:Hid (charT mark (dr s p)=match dr s (p+1) with|[]=>none|d::_=>if d=117 then none else (escV mark d).map (·,2)):=by
       rcases HER.out with h|h
       ·rw [uv_3 G1.out g] at h
        exact hH (by
         rw [h.1]
         have h2:=h.2
         cases hx:dr s (p+1) with
         | nil=>rfl
         | cons d r =>
          rw [hx] at h2
          simp only [hd,beq_iff_eq] at h2
          simp only;rw [if_pos h2])
       ·exact hH h.2
      clear g HER G1 hcu hcv hu0 hu1 hv0 hv1
      by_cases h3:s.size≤p+1
      ·have HE:=hH (show charT mark (dr s p)=none by rw [HER2.out,show dr s (p+1)=[] from drop_nil s (p+1) h3])
       have h4:¬(p:Int)<(s.size:Int)-1:=by omega
       clear HER2
       go_wp2
       go_loopg [12] 0 (fun k v wx=>k=0∧v=.int .i64 0∧w=wx)
       case atStart=>exact⟨rfl,rfl,rfl⟩
       case round =>
        obtain⟨-,rfl,rfl⟩:=hrel
        go_wp2
        go_ret2
        exact⟨RCh.no HE.out,HB0.out⟩
      have h4:(p:Int)<(s.size:Int)-1:=by omega
      have hp1:p+1<s.size:=by omega
      have hbi1:=s[p+1].toNat_lt
      have HS:=hH (show charT mark (dr s p)=match sgE.find? (fun x=>x.1==s[p+1]) with|some x=>some (x.2,2)|none=>if s[p+1]=mark then some ((mark.toNat:Int),2) else none by
       rw [HER2.out,show dr s (p+1)=s[p+1]::dr s (p+2) from drop_cons s (p+1) hp1]
       exact esc_sg mark s[p+1] hm)
      clear HER2 h3
      go_wp2
      go_loopg [12] 7 (fun k v wx=>∃i:Nat,k=7-i∧i≤7∧v=.int .i64 i∧Hid (sgNo i s[p+1])∧Hid (Bel w.heap.size w wx))
      case atStart=>exact⟨0,rfl,by omega,rfl,hH (sgNo_0 _),HB0⟩
      case round =>
       obtain⟨i,hgk,hi,rfl,HN,HW⟩:=hrel
       have HGK:=hH hgk;clear hgk
       rcases (show i=0∨i=1∨i=2∨i=3∨i=4∨i=5∨i=6∨i=7 by omega) with rfl|rfl|rfl|rfl|rfl|rfl|rfl|rfl
       ·rw [show ((0:Nat):Int)=0 from rfl]
        have z1:(⟨#[92,47,98,102,110,114,116]⟩:ByteArray)[0].toNat=92:=rfl
        have z2:(⟨#[92,47,8,12,10,13,9]⟩:ByteArray)[0].toNat=92:=rfl
        cases hq:((s[p+1].toNat:Int)==92) with
        | true =>
         have HE:=hH (show charT mark (dr s p)=some (92,2) by rw [HS.out,sg_at (i:=0) (x:=(92,92)) hq])
         go_wp2
         have q1:IntKind.i64.wrap ((p:Int)+1)=(p:Int)+1:=IntWalk.i64_in _ (by omega)
         have q2:0≤(p:Int)+1:=by omega
         have q3:((p:Int)+1).toNat=p+1:=by omega
         have q4:(p:Int)+1<(s.size:Int):=by omega
         go_quiet (fail)
         go_wp2
         go_ret2
         exact⟨RCh.yes HE.out rfl rfl,HW.out.drewN _⟩
        | false =>
         have HN2:=hH (sg_next hq HN.out)
         go_wp2
         have q1:IntKind.i64.wrap ((p:Int)+1)=(p:Int)+1:=IntWalk.i64_in _ (by omega)
         have q2:0≤(p:Int)+1:=by omega
         have q3:((p:Int)+1).toNat=p+1:=by omega
         have q4:(p:Int)+1<(s.size:Int):=by omega
         go_quiet (fail)
         go_wp2
         go_roundg (7-1)
         case measure=>have:=HGK.out;simp;omega
         case rel=>exact⟨1,rfl,by omega,rfl,HN2,hH (HW.out.drewN _)⟩
       ·rw [show ((1:Nat):Int)=1 from rfl]
        have z1:(⟨#[92,47,98,102,110,114,116]⟩:ByteArray)[1].toNat=47:=rfl
        have z2:(⟨#[92,47,8,12,10,13,9]⟩:ByteArray)[1].toNat=47:=rfl
        cases hq:((s[p+1].toNat:Int)==47) with
        | true =>
         have HE:=hH (show charT mark (dr s p)=some (47,2) by rw [HS.out,sg_at (i:=1) (x:=(47,47)) hq])
         go_wp2
         have q1:IntKind.i64.wrap ((p:Int)+1)=(p:Int)+1:=IntWalk.i64_in _ (by omega)
         have q2:0≤(p:Int)+1:=by omega
         have q3:((p:Int)+1).toNat=p+1:=by omega
         have q4:(p:Int)+1<(s.size:Int):=by omega
         go_quiet (fail)
         go_wp2
         go_ret2
         exact⟨RCh.yes HE.out rfl rfl,HW.out.drewN _⟩
        | false =>
         have HN2:=hH (sg_next hq HN.out)
         go_wp2
         have q1:IntKind.i64.wrap ((p:Int)+1)=(p:Int)+1:=IntWalk.i64_in _ (by omega)
         have q2:0≤(p:Int)+1:=by omega
         have q3:((p:Int)+1).toNat=p+1:=by omega
         have q4:(p:Int)+1<(s.size:Int):=by omega
         go_quiet (fail)
         go_wp2
         go_roundg (7-2)
         case measure=>have:=HGK.out;simp;omega
         case rel=>exact⟨2,rfl,by omega,rfl,HN2,hH (HW.out.drewN _)⟩
       ·rw [show ((2:Nat):Int)=2 from rfl]
        have z1:(⟨#[92,47,98,102,110,114,116]⟩:ByteArray)[2].toNat=98:=rfl
        have z2:(⟨#[92,47,8,12,10,13,9]⟩:ByteArray)[2].toNat=8:=rfl
        cases hq:((s[p+1].toNat:Int)==98) with
        | true =>
         have HE:=hH (show charT mark (dr s p)=some (8,2) by rw [HS.out,sg_at (i:=2) (x:=(98,8)) hq])
         go_wp2
         have q1:IntKind.i64.wrap ((p:Int)+1)=(p:Int)+1:=IntWalk.i64_in _ (by omega)
         have q2:0≤(p:Int)+1:=by omega
         have q3:((p:Int)+1).toNat=p+1:=by omega
         have q4:(p:Int)+1<(s.size:Int):=by omega
         go_quiet (fail)
         go_wp2
         go_ret2
         exact⟨RCh.yes HE.out rfl rfl,HW.out.drewN _⟩
        | false =>
         have HN2:=hH (sg_next hq HN.out)
         go_wp2
         have q1:IntKind.i64.wrap ((p:Int)+1)=(p:Int)+1:=IntWalk.i64_in _ (by omega)
         have q2:0≤(p:Int)+1:=by omega
         have q3:((p:Int)+1).toNat=p+1:=by omega
         have q4:(p:Int)+1<(s.size:Int):=by omega
         go_quiet (fail)
         go_wp2
         go_roundg (7-3)
         case measure=>have:=HGK.out;simp;omega
         case rel=>exact⟨3,rfl,by omega,rfl,HN2,hH (HW.out.drewN _)⟩
       ·rw [show ((3:Nat):Int)=3 from rfl]
        have z1:(⟨#[92,47,98,102,110,114,116]⟩:ByteArray)[3].toNat=102:=rfl
        have z2:(⟨#[92,47,8,12,10,13,9]⟩:ByteArray)[3].toNat=12:=rfl
        cases hq:((s[p+1].toNat:Int)==102) with
        | true =>
         have HE:=hH (show charT mark (dr s p)=some (12,2) by rw [HS.out,sg_at (i:=3) (x:=(102,12)) hq])
         go_wp2
         have q1:IntKind.i64.wrap ((p:Int)+1)=(p:Int)+1:=IntWalk.i64_in _ (by omega)
         have q2:0≤(p:Int)+1:=by omega
         have q3:((p:Int)+1).toNat=p+1:=by omega
         have q4:(p:Int)+1<(s.size:Int):=by omega
         go_quiet (fail)
         go_wp2
         go_ret2
         exact⟨RCh.yes HE.out rfl rfl,HW.out.drewN _⟩
        | false =>
         have HN2:=hH (sg_next hq HN.out)
         go_wp2
         have q1:IntKind.i64.wrap ((p:Int)+1)=(p:Int)+1:=IntWalk.i64_in _ (by omega)
         have q2:0≤(p:Int)+1:=by omega
         have q3:((p:Int)+1).toNat=p+1:=by omega
         have q4:(p:Int)+1<(s.size:Int):=by omega
         go_quiet (fail)
         go_wp2
         go_roundg (7-4)
         case measure=>have:=HGK.out;simp;omega
         case rel=>exact⟨4,rfl,by omega,rfl,HN2,hH (HW.out.drewN _)⟩
       ·rw [show ((4:Nat):Int)=4 from rfl]
        have z1:(⟨#[92,47,98,102,110,114,116]⟩:ByteArray)[4].toNat=110:=rfl
        have z2:(⟨#[92,47,8,12,10,13,9]⟩:ByteArray)[4].toNat=10:=rfl
        cases hq:((s[p+1].toNat:Int)==110) with
        | true =>
         have HE:=hH (show charT mark (dr s p)=some (10,2) by rw [HS.out,sg_at (i:=4) (x:=(110,10)) hq])
         go_wp2
         have q1:IntKind.i64.wrap ((p:Int)+1)=(p:Int)+1:=IntWalk.i64_in _ (by omega)
         have q2:0≤(p:Int)+1:=by omega
         have q3:((p:Int)+1).toNat=p+1:=by omega
         have q4:(p:Int)+1<(s.size:Int):=by omega
         go_quiet (fail)
         go_wp2
         go_ret2
         exact⟨RCh.yes HE.out rfl rfl,HW.out.drewN _⟩
        | false =>
         have HN2:=hH (sg_next hq HN.out)
         go_wp2
         have q1:IntKind.i64.wrap ((p:Int)+1)=(p:Int)+1:=IntWalk.i64_in _ (by omega)
         have q2:0≤(p:Int)+1:=by omega
         have q3:((p:Int)+1).toNat=p+1:=by omega
         have q4:(p:Int)+1<(s.size:Int):=by omega
         go_quiet (fail)
         go_wp2
         go_roundg (7-5)
         case measure=>have:=HGK.out;simp;omega
         case rel=>exact⟨5,rfl,by omega,rfl,HN2,hH (HW.out.drewN _)⟩
       ·rw [show ((5:Nat):Int)=5 from rfl]
        have z1:(⟨#[92,47,98,102,110,114,116]⟩:ByteArray)[5].toNat=114:=rfl
        have z2:(⟨#[92,47,8,12,10,13,9]⟩:ByteArray)[5].toNat=13:=rfl
        cases hq:((s[p+1].toNat:Int)==114) with
        | true =>
         have HE:=hH (show charT mark (dr s p)=some (13,2) by rw [HS.out,sg_at (i:=5) (x:=(114,13)) hq])
         go_wp2
         have q1:IntKind.i64.wrap ((p:Int)+1)=(p:Int)+1:=IntWalk.i64_in _ (by omega)
         have q2:0≤(p:Int)+1:=by omega
         have q3:((p:Int)+1).toNat=p+1:=by omega
         have q4:(p:Int)+1<(s.size:Int):=by omega
         go_quiet (fail)
         go_wp2
         go_ret2
         exact⟨RCh.yes HE.out rfl rfl,HW.out.drewN _⟩
        | false =>
         have HN2:=hH (sg_next hq HN.out)
         go_wp2
         have q1:IntKind.i64.wrap ((p:Int)+1)=(p:Int)+1:=IntWalk.i64_in _ (by omega)
         have q2:0≤(p:Int)+1:=by omega
         have q3:((p:Int)+1).toNat=p+1:=by omega
         have q4:(p:Int)+1<(s.size:Int):=by omega
         go_quiet (fail)
         go_wp2
         go_roundg (7-6)
         case measure=>have:=HGK.out;simp;omega
         case rel=>exact⟨6,rfl,by omega,rfl,HN2,hH (HW.out.drewN _)⟩
       ·rw [show ((6:Nat):Int)=6 from rfl]
        have z1:(⟨#[92,47,98,102,110,114,116]⟩:ByteArray)[6].toNat=116:=rfl
        have z2:(⟨#[92,47,8,12,10,13,9]⟩:ByteArray)[6].toNat=9:=rfl
        cases hq:((s[p+1].toNat:Int)==116) with
        | true =>
         have HE:=hH (show charT mark (dr s p)=some (9,2) by rw [HS.out,sg_at (i:=6) (x:=(116,9)) hq])
         go_wp2
         have q1:IntKind.i64.wrap ((p:Int)+1)=(p:Int)+1:=IntWalk.i64_in _ (by omega)
         have q2:0≤(p:Int)+1:=by omega
         have q3:((p:Int)+1).toNat=p+1:=by omega
         have q4:(p:Int)+1<(s.size:Int):=by omega
         go_quiet (fail)
         go_wp2
         go_ret2
         exact⟨RCh.yes HE.out rfl rfl,HW.out.drewN _⟩
        | false =>
         have HN2:=hH (sg_next hq HN.out)
         go_wp2
         have q1:IntKind.i64.wrap ((p:Int)+1)=(p:Int)+1:=IntWalk.i64_in _ (by omega)
         have q2:0≤(p:Int)+1:=by omega
         have q3:((p:Int)+1).toNat=p+1:=by omega
         have q4:(p:Int)+1<(s.size:Int):=by omega
         go_quiet (fail)
         go_wp2
         go_roundg (7-7)
         case measure=>have:=HGK.out;simp;omega
         case rel=>exact⟨7,rfl,by omega,rfl,HN2,hH (HW.out.drewN _)⟩
       ·rw [show ((7:Nat):Int)=7 from rfl]
        by_cases hq:s[p+1]=mark
        ·have HE:=hH (show charT mark (dr s p)=some ((mark.toNat:Int),2) by rw [HS.out,sg_none HN.out];simp only;rw [if_pos hq])
         have hq':((s[p+1].toNat:Int)==(mark.toNat:Int))=true:=by rw [hq];simp
         clear hq
         go_wp2
         go_ret2
         exact⟨RCh.yes HE.out (by first|rfl|exact u8_wr _ _ rfl) rfl,HW.out⟩
        ·have HE:=hH (show charT mark (dr s p)=none by rw [HS.out,sg_none HN.out];simp only;rw [if_neg hq])
         have hq':((s[p+1].toNat:Int)==(mark.toNat:Int))=false:=by rw [beq_eq_false_iff_ne];intro e;exact hq (UInt8.toNat_inj.1 (by omega))
         clear hq
         go_wp2
         go_ret2
         exact⟨RCh.no HE.out,HW.out⟩
 ·have hb:((s[p].toNat:Int) != 92)=true:=by simpa using h2
  have hc:=charT_pl (mark:=mark) hp h1 h2
  obtain⟨x,n,hxn⟩:∃x n,scalV (dr s p)=(x,n):=⟨_,_,rfl⟩
  have hl:=scalV_len (dr s p)
  have hz:=scalV_z (dr s p)
  rw [hxn] at hc hl hz
  simp only at hc hl hz
  have HSC:=hH (show scalV (s.extract p s.size).data.toList=(x,n) by rw [ext_drop];exact hxn)
  have HE:Hid (RCh (charT mark (dr s p)) (.returned (.tuple #[.int .i64 x,.int .i64 n]))):=by
   by_cases hn:n=0
   ·have:=hz hn
    injection this with h3 h4
    rw [if_pos hn] at hc
    rw [h3,h4]
    exact hH (RCh.no hc)
   ·rw [if_neg hn] at hc
    exact hH (RCh.yes hc rfl (by omega))
  clear hc hl hz hxn
  go_enter Tryz.func64, Tryz.ntmps64
  go_wp2_with (go_at_call 66;refine(rscal_at _ _ _ _ hzp HSC).mono ?_;rintro e w' ⟨rfl,hbw⟩)
  go_ret2
  exact⟨HE.out,Bel.of hbw⟩
end
/- ref16: text. -/
section
open Go.RowKit
set_option maxRecDepth 100000
set_option maxHeartbeats 4000000
theorem rcat (s t:ByteArray):(s++t).data.toList=s.data.toList++t.data.toList:=by simp [ByteArray.data_append]
def RTx (o:Option (List UInt8×Nat))(e:Ending):Prop :=
 match o with
 | none=>e=.returned (.tuple #[.string ⟨#[]⟩,.int .i64 (-1)])
 | some (t,k)=>e=.returned (.tuple #[.string (bs t),.int .i64 (k:Nat)])
theorem RTx.no {o:Option (List UInt8×Nat)}(h:o=none):RTx o (.returned (.tuple #[.string ⟨#[]⟩,.int .i64 (-1)])):=by rw [h];rfl
theorem RTx.yes {o:Option (List UInt8×Nat)}{t:List UInt8}{k:Nat}{u:ByteArray}{m:Int}(h:o=some (t,k))(h1:u=bs t)(h2:m=(k:Nat)):RTx o (.returned (.tuple #[.string u,.int .i64 m])):=by rw [h,h1,h2];rfl
def txQ (f:Nat)(mark:UInt8)(s:ByteArray)(p:Nat)(t:List UInt8):Option (List UInt8×Nat):=(txtF f mark (dr s p)).map fun x=>(t++x.1,p+x.2)
theorem txQ_none {f:Nat}{mark:UInt8}{s:ByteArray}{p:Nat}{t:List UInt8}(h:p<s.size)(hm:s[p]≠mark)(hc:charT mark (dr s p)=none):txQ (f+1) mark s p t=none:=by
 unfold txQ txtF
 rw [dr,drop_cons s p h] at hc ⊢
 simp only;rw [if_neg hm,hc];rfl
theorem txQ_some {f:Nat}{mark:UInt8}{s:ByteArray}{p:Nat}{t:List UInt8}{x:Int}{n:Nat}(h:p<s.size)(hm:s[p]≠mark)(hc:charT mark (dr s p)=some (x,n)):txQ (f+1) mark s p t=txQ f mark s (p+n) (t++putV x):=by
 unfold txQ
 have e:dr s p=s[p]::dr s (p+1):=drop_cons s p h
 rw [←dr_dr s p n]
 rw [e] at hc ⊢
 rw [show txtF (f+1) mark (s[p]::dr s (p+1))=if s[p]=mark then some ([],1) else match charT mark (s[p]::dr s (p+1)) with|none=>none|some (x,n)=>(txtF f mark ((s[p]::dr s (p+1)).drop n)).map fun (t,k)=>(putV x++t,n+k) from rfl]
 simp only;rw [if_neg hm,hc]
 simp only [Option.map_map]
 congr 1
 funext y
 simp only [Function.comp,List.append_assoc,Prod.mk.injEq,true_and]
 omega
theorem txQ_end {f:Nat}{mark:UInt8}{s:ByteArray}{p:Nat}{t:List UInt8}(h:s.size≤p):txQ f mark s p t=none:=by
 unfold txQ dr
 rw [drop_nil s p h]
 cases f <;> rfl
theorem txQ_mark {f:Nat}{mark:UInt8}{s:ByteArray}{p:Nat}{t:List UInt8}(h:p<s.size)(hm:s[p]=mark):txQ (f+1) mark s p t=some (t,p+1):=by
 unfold txQ txtF
 rw [dr,drop_cons s p h]
 simp only;rw [if_pos hm]
 simp
theorem rtext_any (s:ByteArray)(a:Nat)(mark:UInt8)(w:World)(hs:s.size≤1000000)(ha:a<s.size)(hm:s[a]=mark)(hq:mark=34∨mark=39) :
  Calls Tryz.prog 43 #[.string s,.int .i64 (a:Int)] w fun e w'=>RTx (txQ (s.size-a) mark s (a+1) []) e∧Bel w.heap.size w w':=by
 have hmk:=mark.toNat_lt
 have hm0:(s[a].toNat:Int)=(mark.toNat:Int):=by rw [hm]
 have HB:=hH (Bel.refl w.heap.size w)
 have HQ:=hH hq
 clear hq
 go_enter Tryz.func43, Tryz.ntmps43
 go_wp2
 go_loopg [1,7] (s.size-(a+1)) (fun k x y wr=>∃(p f:Nat) (t:List UInt8) (u:ByteArray),k=s.size-p∧p≤s.size∧s.size≤p+f∧u.size≤4*p∧x=.int .i64 p∧y=.string u∧Hid (u=bs t)∧Hid (txQ (s.size-a) mark s (a+1) []=txQ f mark s p t)∧Hid (Bel w.heap.size w wr))
 case atStart=>exact⟨a+1,s.size-a,[],⟨#[]⟩,rfl,by omega,by omega,Nat.zero_le _,by go_num,rfl,hH rfl,hH rfl,HB⟩
 case round =>
  clear HB
  obtain⟨p,f,t,u,hgk,hp,hf,hu,rfl,rfl,HU,HF,HB⟩:=hrel
  have HGK:=hH hgk;clear hgk
  by_cases hlt:p<s.size
  ·have hbi:=s[p].toNat_lt
   obtain⟨f',rfl⟩:∃f',f=f'+1:=⟨f-1,by omega⟩
   by_cases hx:s[p]=mark
   ·have HE:=hH (HF.out.trans (txQ_mark (t:=t) (f:=f') hlt hx))
    have hb:((s[p].toNat:Int) != (mark.toNat:Int))=false:=by simp [hx]
    clear hx
    go_wp2
    go_ret2
    exact⟨RTx.yes HE.out HU.out (by omega),HB.out⟩
   ·have hb:((s[p].toNat:Int) != (mark.toNat:Int))=true:=by
     rw [bne_iff_ne];intro e;exact hx (UInt8.toNat_inj.1 (by omega))
    have hch:=fun w'=>rchar_any s p mark w' hs hlt HQ.out
    cases hc:charT mark (dr s p) with
    | none =>
     have HE:=hH (HF.out.trans (txQ_none (t:=t) (f:=f') hlt hx hc))
     rw [hc] at hch
     clear hc hx
     go_wp2_with (go_at_call 64;refine(hch _).mono ?_;rintro e w2 ⟨rfl,hbw⟩;have HB2:=hH (HB.out.next hbw);clear hbw)
     go_ret2
     exact⟨RTx.no HE.out,HB2.out⟩
    | some xm =>
     obtain⟨x,m⟩:=xm
     have hok:=charT_val _ _ _ _ hc
     obtain⟨hm0',hml⟩:=charT_len _ _ _ _ hc
     rw [dr,List.length_drop,len_toList] at hml
     have HF:=hH (HF.out.trans (txQ_some (t:=t) (f:=f') hlt hx hc))
     rw [hc] at hch
     have HOK:=hH hok
     have hz:(bs (putV x)).size≤4:=by rw [←len_toList,bs_list];exact putV_len x
     have hm1:((m:Int)==0)=false:=by rw [beq_eq_false_iff_ne];omega
     clear hc hx hok
     go_wp2_with (first
      | (go_at_call 64;refine(hch _).mono ?_;rintro e w2 ⟨rfl,hbw⟩;have HB2:=hH (HB.out.next hbw);clear hbw)
      | (go_at_call 65;refine(rput_at x _ HOK.out).mono ?_;rintro e w3 ⟨rfl,hbw⟩;have HB3:=hH (HB2.out.next (Bel.of hbw));clear hbw))
     go_roundg (s.size-(p+m))
     case measure=>have:=HGK.out;simp;omega
     case rel=>exact⟨p+m,f',t++putV x,_,rfl,by omega,by omega,by rw [ByteArray.size_append];omega,by go_num,rfl,hH (bs_of (by rw [rcat,HU.out,bs_list,bs_list])),HF,HB3⟩
  ·have HE:=hH (HF.out.trans (txQ_end (t:=t) (f:=f) (mark:=mark) (show s.size≤p by omega)))
   go_wp2
   go_ret2
   exact⟨RTx.no HE.out,HB.out⟩
end
/- ref16: Name, digits. -/
section
open Go.RowKit
set_option maxRecDepth 100000
set_option maxHeartbeats 4000000
theorem rdigits_any (s:ByteArray)(a:Nat)(w:World)(hs:s.size≤1000000)(ha:a≤s.size) :
  Calls Tryz.prog 45 #[.string s,.int .i64 (a:Int)] w fun e w'=>e=.returned (.int .i64 (digN (dr s a):Nat))∧w=w':=by
 have hdb:=digN_bd s a ha
 go_enter Tryz.func45, Tryz.ntmps45
 go_wp2
 go_loop [5] (fun v=>∃i:Nat,a+i≤s.size∧v=.int .i64 i∧Hid (digN (dr s a)=i+digN (dr s (a+i)))) (fun v=>s.size-(a+(intOf v).toNat))
 case atStart=>exact⟨0,by omega,rfl,hH (by simp)⟩
 case round =>
  obtain⟨i,hi,rfl,HI⟩:=hrel
  by_cases hlt:a+i<s.size
  ·have hbi:=s[a+i].toNat_lt
   by_cases h1:(s[a+i].toNat:Int)<48
   ·have HE:=hH (show digN (dr s a)=i by rw [HI.out,dig_stop (fun _=>by unfold digB;simp;omega)];rfl)
    go_wp2
    go_ret
    exact⟨ret_int (by rw [HE.out]),rfl⟩
   ·by_cases h2:57<(s[a+i].toNat:Int)
    ·have HE:=hH (show digN (dr s a)=i by rw [HI.out,dig_stop (fun _=>by unfold digB;simp;omega)];rfl)
     go_wp2
     go_ret
     exact⟨ret_int (by rw [HE.out]),rfl⟩
    ·have HI:=hH (show digN (dr s a)=(i+1)+digN (dr s (a+(i+1))) by rw [HI.out,dig_step hlt (by unfold digB;simp;omega),Nat.add_assoc a i 1];omega)
     go_wp2
     go_round
     case rel=>exact⟨i+1,by omega,by go_num,HI⟩
     case measure=>simp [intOf] <;> omega
  ·have HE:=hH (show digN (dr s a)=i by rw [HI.out,dig_stop (fun h=>absurd h hlt)];rfl)
   go_wp2
   go_ret
   exact⟨ret_int (by rw [HE.out]),rfl⟩
theorem rdigits_at (s:ByteArray)(a d:Nat)(w:World)(hs:s.size≤1000000)(ha:a≤s.size)(h:Hid (digN (dr s a)=d)) :
  Calls Tryz.prog 45 #[.string s,.int .i64 (a:Int)] w fun e w'=>e=.returned (.int .i64 (d:Nat))∧w=w':=by
 rw [←h.out];exact rdigits_any s a w hs ha
theorem scal_asc (b:UInt8)(r:List UInt8)(h:(b.toNat:Int)<128):scalV (b::r)=((b.toNat:Int),1):=by unfold scalV;simp only;rw [if_pos h]
theorem scal_low {b:UInt8}{r:List UInt8}(h:(scalV (b::r)).1<128)(hn:(scalV (b::r)).2≠0):(b.toNat:Int)<128:=by
 rcases Int.lt_or_le (b.toNat:Int) 128 with h1|h1
 ·exact h1
 ·exfalso
  have key:∀x:Int×Int,(x=(0,0)∨128≤x.1)→x.1<128→x.2≠0→False:=by
   rintro x (rfl|h2) h3 h4
   ·exact h4 rfl
   ·omega
  refine key _ ?_ h hn
  clear h hn
  unfold scalV
  simp only
  rw [if_neg (by omega)]
  refine ite_P (fun x:Int×Int=>x=(0,0)∨128≤x.1) (fun h=>?_) (fun h=>?_)
  ·cases r with
   | nil=>exact .inl rfl
   | cons b1 r=>exact ite_P (fun x:Int×Int=>x=(0,0)∨128≤x.1) (fun h2=>.inr (by simp only;omega)) (fun _=>.inl rfl)
  ·refine ite_P (fun x:Int×Int=>x=(0,0)∨128≤x.1) (fun h=>?_) (fun h=>?_)
   ·match r with
    | []=>exact .inl rfl
    | [_]=>exact .inl rfl
    | b1::b2::r =>
     refine ite_P (fun x:Int×Int=>x=(0,0)∨128≤x.1) (fun h2=>.inr ?_) (fun _=>.inl rfl)
     have k1:=h2.1
     have k2:=h2.2.1
     split at k1 <;> split at k2 <;> (simp only;omega)
   ·refine ite_P (fun x:Int×Int=>x=(0,0)∨128≤x.1) (fun h=>?_) (fun _=>.inl rfl)
    match r with
    | []=>exact .inl rfl
    | [_]=>exact .inl rfl
    | [_,_]=>exact .inl rfl
    | b1::b2::b3::r =>
     refine ite_P (fun x:Int×Int=>x=(0,0)∨128≤x.1) (fun h2=>.inr ?_) (fun _=>.inl rfl)
     have k1:=h2.1
     have k2:=h2.2.1
     split at k1 <;> split at k2 <;> (simp only;omega)
def nmS (s:ByteArray)(a p f:Nat):Prop:=(p=a∧s.size≤a+f)∨(a<p∧s.size≤p+f∧a+nameL (dr s a)=p+namF f (dr s p))
theorem nmS_let {s:ByteArray}{a p f m:Nat}(h:nmS s a p f)(hp:p<s.size)(hl:letL (dr s p)=m)(hm:0<m):∃f',nmS s a (p+m) f':=by
 rcases h with⟨rfl,hf⟩|⟨h1,hf,h2⟩
 ·refine⟨(dr s p).length,.inr ⟨by omega,?_,?_⟩⟩
  ·unfold dr;rw [List.length_drop,len_toList];omega
  ·unfold nameL;rw [hl,if_neg (by omega),dr_dr];omega
 ·obtain⟨f',rfl⟩:∃f',f=f'+1:=⟨f-1,by omega⟩
  refine⟨f',.inr ⟨by omega,by omega,?_⟩⟩
  have hr:letR (dr s p)=m:=by unfold letR;rw [hl,if_neg (by omega)]
  rw [h2,namF_go f' _ m hr (by omega),dr_dr];omega
theorem nmS_dig {s:ByteArray}{a p f:Nat}(h:nmS s a p f)(hap:a<p)(hp:p<s.size)(hl:letL (dr s p)=0)(hd:isDig s[p]=true):∃f',nmS s a (p+1) f':=by
 rcases h with⟨rfl,hf⟩|⟨h1,hf,h2⟩
 ·omega
 ·obtain⟨f',rfl⟩:∃f',f=f'+1:=⟨f-1,by omega⟩
  refine⟨f',.inr ⟨by omega,by omega,?_⟩⟩
  have hr:letR (dr s p)=1:=by unfold letR;rw [hl,if_pos rfl,dr,drop_cons s p hp];simp only;rw [if_pos hd]
  rw [h2,namF_go f' _ 1 hr (by omega),dr_dr];omega
theorem nmS_stop {s:ByteArray}{a p f:Nat}(h:nmS s a p f)(hl:letL (dr s p)=0)(hd:p=a∨∀h:p<s.size,isDig s[p]=false):a+nameL (dr s a)=p:=by
 rcases h with⟨rfl,hf⟩|⟨h1,hf,h2⟩
 ·unfold nameL;rw [hl,if_pos rfl];rfl
 ·have hr:letR (dr s p)=0:=by
   unfold letR;rw [hl,if_pos rfl]
   rcases Nat.lt_or_ge p s.size with h3|h3
   ·rw [dr,drop_cons s p h3];simp only
    rw [hd.resolve_left (by omega) h3];rfl
   ·rw [dr,drop_nil s p h3]
  rw [h2,namF_stop _ _ hr];rfl
theorem rname_any (s:ByteArray)(a:Nat)(w:World)(hs:s.size≤1000000)(ha:a≤s.size) :
  Calls Tryz.prog 44 #[.string s,.int .i64 (a:Int)] w fun e w'=>e=.returned (.int .i64 ((a+nameL (dr s a):Nat):Int))∧Bel w.heap.size w w':=by
 have HB:=hH (Bel.refl w.heap.size w)
 go_enter Tryz.func44, Tryz.ntmps44
 go_wp2
 go_loopg [1] (s.size-a) (fun k x wr=>∃(p f:Nat),k=s.size-p∧a≤p∧p≤s.size∧x=.int .i64 p∧Hid (nmS s a p f)∧Hid (Bel w.heap.size w wr))
 case atStart=>exact⟨a,s.size,rfl,by omega,by omega,rfl,hH (.inl ⟨rfl,by omega⟩),HB⟩
 case round =>
  clear HB
  obtain⟨p,f,hgk,hap,hp,rfl,HN,HB⟩:=hrel
  have HGK:=hH hgk;clear hgk
  by_cases hlt:p<s.size
  ·have hzp:(s.extract p s.size).size≤maxLen:=by simp;unfold maxLen;omega
   obtain⟨c,n,hcn⟩:∃c n,scalV (dr s p)=(c,n):=⟨_,_,rfl⟩
   have hl:=scalV_len (dr s p)
   have hz:=scalV_z (dr s p)
   have hlo:=@scal_low s[p] (dr s (p+1))
   have has:=scal_asc s[p] (dr s (p+1))
   have e0:dr s p=s[p]::dr s (p+1):=drop_cons s p hlt
   rw [←e0] at hlo has
   have hLL:letL (dr s p)=if isLet c && decide (0<n) then n.toNat else 0:=by unfold letL;rw [hcn]
   rw [hcn] at hl hz hlo has
   simp only at hl hz hlo
   have HSC:=hH (show scalV (s.extract p s.size).data.toList=(c,n) by rw [ext_drop];exact hcn)
   obtain⟨hn0,hnl,hc0⟩:=hl
   rw [dr,List.length_drop,len_toList] at hnl
   have HLL:=hH hLL
   have HZ:=hH hz
   have HLO:=hH hlo
   have HAS:=hH has
   clear hz hlo has hLL hcn e0
   go_upto_region 4 with(go_at_call 66;refine(rscal_at _ _ _ _ hzp HSC).mono ?_;rintro e w1 ⟨rfl,hbw⟩;have HB1:=hH (HB.out.next (Bel.of hbw));clear hbw)
   go_cut [8] (fun b wx=>b=.bool (isLet c)∧w1=wx)
   case first =>
    obtain⟨z,hz⟩:∃z,(c==95)=z:=⟨_,rfl⟩
    have HZ5:=hH (show z=decide (c=95) by rw [←hz,Bool.eq_iff_iff];simp)
    cases z
    all_goals
     go_wp2
     all_goals
      go_meet
      case rel =>
       refine⟨congrArg Value.bool ?_,rfl⟩
       have hz5:=HZ5.out
       simp only [eq_comm (a:=true),eq_comm (a:=false),decide_eq_true_eq,decide_eq_false_iff_not] at hz5
       unfold isLet
       refine Bool.eq_iff_iff.2 ?_
       simp <;> omega
   case rest =>
    obtain⟨rfl,rfl⟩:=hcut
    cases hb:isLet c with
    | true =>
     have hn:n≠0:=by
      intro hn
      have:=HZ.out hn
      injection this with h3 h4
      rw [h3] at hb;exact absurd hb (by decide)
     have hn1:(n==0)=false:=by rw [beq_eq_false_iff_ne];exact hn
     obtain⟨m,rfl⟩:=Int.eq_ofNat_of_zero_le hn0
     have hm:0<m:=by omega
     obtain⟨f',hf'⟩:=nmS_let HN.out hlt (show letL (dr s p)=m by rw [HLL.out,hb];simp;omega) hm
     have HF:=hH hf'
     have hnl':m≤s.size-p:=by simpa using hnl
     clear hb hn hf' hnl
     go_wp2
     go_roundg (s.size-(p+m))
     case measure=>have:=HGK.out;simp;omega
     case rel=>exact⟨p+m,f',rfl,by omega,by omega,by go_num,HF,HB1⟩
    | false =>
     have hl0:letL (dr s p)=0:=by rw [HLL.out,hb];rfl
     by_cases hn:n=0
     ·have hn1:(n==0)=true:=by rw [hn];rfl
      have HE:=hH (nmS_stop HN.out hl0 (.inr (fun h=>by
       cases hd:isDig s[p] with
       | false=>rfl
       | true =>
        have h3:=HAS.out (by have:=(dig_int s[p]).1 hd;omega)
        injection h3 with h4 h5;omega)))
      clear hb hl0
      go_wp2
      go_ret
      exact⟨ret_int (by have:=HE.out;omega),HB1.out⟩
     ·have hn1:(n==0)=false:=by rw [beq_eq_false_iff_ne];exact hn
      by_cases hpa:p=a
      ·have HE:=hH (nmS_stop HN.out hl0 (.inl hpa))
       have hpa':((p:Int)==(a:Int))=true:=by rw [hpa];simp
       clear hb hl0 hpa
       go_wp2
       go_ret
       exact⟨ret_int (by have:=HE.out;omega),HB1.out⟩
      ·have hpa':((p:Int)==(a:Int))=false:=by rw [beq_eq_false_iff_ne];omega
       by_cases h48:c<48
       ·have HE:=hH (nmS_stop HN.out hl0 (.inr (fun h=>by
         cases hd:isDig s[p] with
         | false=>rfl
         | true =>
          have h1:=(dig_int s[p]).1 hd
          have h3:=HAS.out (by omega)
          injection h3 with h4 h5;omega)))
        clear hb hl0 hpa
        go_wp2
        go_ret
        exact⟨ret_int (by have:=HE.out;omega),HB1.out⟩
       ·by_cases h57:57<c
        ·have HE:=hH (nmS_stop HN.out hl0 (.inr (fun h=>by
          cases hd:isDig s[p] with
          | false=>rfl
          | true =>
           have h1:=(dig_int s[p]).1 hd
           have h3:=HAS.out (by omega)
           injection h3 with h4 h5;omega)))
         clear hb hl0 hpa
         go_wp2
         go_ret
         exact⟨ret_int (by have:=HE.out;omega),HB1.out⟩
        ·have h3:=HAS.out (HLO.out (by omega) hn)
         injection h3 with h4 h5
         obtain⟨f',hf'⟩:=nmS_dig HN.out (by omega) hlt hl0 ((dig_int s[p]).2 (by omega))
         have HF:=hH hf'
         have hn2:(0:Int)<n:=by omega
         have H5:=hH h5
         clear hb hl0 hpa hf' h4 h5 hn
         go_wp2
         go_roundg (s.size-(p+1))
         case measure=>have:=HGK.out;simp;omega
         case rel=>exact⟨p+1,f',rfl,by omega,by omega,by rw [H5.out];rfl,HF,HB1⟩
  ·have HE:=hH (nmS_stop HN.out (by rw [show dr s p=[] from drop_nil s p (by omega)];rfl) (.inr (fun h=>absurd h hlt)))
   go_wp2
   go_ret
   exact⟨ret_int (by have:=HE.out;omega),HB.out⟩
end

end Go.Proofs.YtjbdcjcfijjiiaaGreatDoor
