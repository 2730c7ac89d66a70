/- PG30: Xd, Xe joined. -/
import Derived.Deep.LoopGhost
import Derived.Test.YtpcbcodmocmilaaGreatDoorPXc
import Derived.Test.YtpcbcodmocmilaaGreatDoorPG28
namespace Go.Proofs.YtpcbcodmocmilaaGreatDoor
open Go.RowKit
/- ref16: text. -/
section
open Go.RowKit
set_option maxRecDepth 100000
set_option maxHeartbeats 4000000
theorem rcat (s t:ByteArray):(s++t).data.toList=s.data.toList++t.data.toList:=by simp [ByteArray.data_append]
def RTx (o:Option (List UInt8×Nat))(e:Ending):Prop :=
 match o with
 | none=>e=.returned (.tuple #[.string ⟨#[]⟩,.int .i64 (-1)])
 | some (t,k)=>e=.returned (.tuple #[.string (bs t),.int .i64 (k:Nat)])
theorem RTx.no {o:Option (List UInt8×Nat)}(h:o=none):RTx o (.returned (.tuple #[.string ⟨#[]⟩,.int .i64 (-1)])):=by rw [h];rfl
theorem RTx.yes {o:Option (List UInt8×Nat)}{t:List UInt8}{k:Nat}{u:ByteArray}{m:Int}(h:o=some (t,k))(h1:u=bs t)(h2:m=(k:Nat)):RTx o (.returned (.tuple #[.string u,.int .i64 m])):=by rw [h,h1,h2];rfl
def txQ (f:Nat)(mark:UInt8)(s:ByteArray)(p:Nat)(t:List UInt8):Option (List UInt8×Nat):=(txtF f mark (dr s p)).map fun x=>(t++x.1,p+x.2)
theorem txQ_none {f:Nat}{mark:UInt8}{s:ByteArray}{p:Nat}{t:List UInt8}(h:p<s.size)(hm:s[p]≠mark)(hc:charT mark (dr s p)=none):txQ (f+1) mark s p t=none:=by
 unfold txQ txtF
 rw [dr,drop_cons s p h] at hc ⊢
 simp only;rw [if_neg hm,hc];rfl
theorem txQ_some {f:Nat}{mark:UInt8}{s:ByteArray}{p:Nat}{t:List UInt8}{x:Int}{n:Nat}(h:p<s.size)(hm:s[p]≠mark)(hc:charT mark (dr s p)=some (x,n)):txQ (f+1) mark s p t=txQ f mark s (p+n) (t++putV x):=by
 unfold txQ
 have e:dr s p=s[p]::dr s (p+1):=drop_cons s p h
 rw [←dr_dr s p n]
 rw [e] at hc ⊢
 rw [show txtF (f+1) mark (s[p]::dr s (p+1))=if s[p]=mark then some ([],1) else match charT mark (s[p]::dr s (p+1)) with|none=>none|some (x,n)=>(txtF f mark ((s[p]::dr s (p+1)).drop n)).map fun (t,k)=>(putV x++t,n+k) from rfl]
 simp only;rw [if_neg hm,hc]
 simp only [Option.map_map]
 congr 1
 funext y
 simp only [Function.comp,List.append_assoc,Prod.mk.injEq,true_and]
 omega
theorem txQ_end {f:Nat}{mark:UInt8}{s:ByteArray}{p:Nat}{t:List UInt8}(h:s.size≤p):txQ f mark s p t=none:=by
 unfold txQ dr
 rw [drop_nil s p h]
 cases f <;> rfl
theorem txQ_mark {f:Nat}{mark:UInt8}{s:ByteArray}{p:Nat}{t:List UInt8}(h:p<s.size)(hm:s[p]=mark):txQ (f+1) mark s p t=some (t,p+1):=by
 unfold txQ txtF
 rw [dr,drop_cons s p h]
 simp only;rw [if_pos hm]
 simp
theorem rtext_any (s:ByteArray)(a:Nat)(mark:UInt8)(w:World)(hs:s.size≤1000000)(ha:a<s.size)(hm:s[a]=mark)(hq:mark=34∨mark=39) :
  Calls Tryz.prog 62 #[.string s,.int .i64 (a:Int)] w fun e w'=>RTx (txQ (s.size-a) mark s (a+1) []) e∧Bel w.heap.size w w':=by
 have hmk:=mark.toNat_lt
 have hm0:(s[a].toNat:Int)=(mark.toNat:Int):=by rw [hm]
 have HB:=hH (Bel.refl w.heap.size w)
 have HQ:=hH hq
 clear hq
 go_enter Tryz.func62, Tryz.ntmps62
 go_wp2
 go_loopg [1,7] (s.size-(a+1)) (fun k x y wr=>∃(p f:Nat) (t:List UInt8) (u:ByteArray),k=s.size-p∧p≤s.size∧s.size≤p+f∧u.size≤4*p∧x=.int .i64 p∧y=.string u∧Hid (u=bs t)∧Hid (txQ (s.size-a) mark s (a+1) []=txQ f mark s p t)∧Hid (Bel w.heap.size w wr))
 case atStart=>exact⟨a+1,s.size-a,[],⟨#[]⟩,rfl,by omega,by omega,Nat.zero_le _,by go_num,rfl,hH rfl,hH rfl,HB⟩
 case round =>
  clear HB
  obtain⟨p,f,t,u,hgk,hp,hf,hu,rfl,rfl,HU,HF,HB⟩:=hrel
  have HGK:=hH hgk;clear hgk
  by_cases hlt:p<s.size
  ·have hbi:=s[p].toNat_lt
   obtain⟨f',rfl⟩:∃f',f=f'+1:=⟨f-1,by omega⟩
   by_cases hx:s[p]=mark
   ·have HE:=hH (HF.out.trans (txQ_mark (t:=t) (f:=f') hlt hx))
    have hb:((s[p].toNat:Int) != (mark.toNat:Int))=false:=by simp [hx]
    clear hx
    go_wp2
    go_ret2
    exact⟨RTx.yes HE.out HU.out (by omega),HB.out⟩
   ·have hb:((s[p].toNat:Int) != (mark.toNat:Int))=true:=by
     rw [bne_iff_ne];intro e;exact hx (UInt8.toNat_inj.1 (by omega))
    have hch:=fun w'=>rchar_any s p mark w' hs hlt HQ.out
    cases hc:charT mark (dr s p) with
    | none =>
     have HE:=hH (HF.out.trans (txQ_none (t:=t) (f:=f') hlt hx hc))
     rw [hc] at hch
     clear hc hx
     go_wp2_with (go_at_call 89;refine(hch _).mono ?_;rintro e w2 ⟨rfl,hbw⟩;have HB2:=hH (HB.out.next hbw);clear hbw)
     go_ret2
     exact⟨RTx.no HE.out,HB2.out⟩
    | some xm =>
     obtain⟨x,m⟩:=xm
     have hok:=charT_val _ _ _ _ hc
     obtain⟨hm0',hml⟩:=charT_len _ _ _ _ hc
     rw [dr,List.length_drop,len_toList] at hml
     have HF:=hH (HF.out.trans (txQ_some (t:=t) (f:=f') hlt hx hc))
     rw [hc] at hch
     have HOK:=hH hok
     have hz:(bs (putV x)).size≤4:=by rw [←len_toList,bs_list];exact putV_len x
     have hm1:((m:Int)==0)=false:=by rw [beq_eq_false_iff_ne];omega
     clear hc hx hok
     go_wp2_with (first
      | (go_at_call 89;refine(hch _).mono ?_;rintro e w2 ⟨rfl,hbw⟩;have HB2:=hH (HB.out.next hbw);clear hbw)
      | (go_at_call 59;refine(rput_at x _ HOK.out).mono ?_;rintro e w3 ⟨rfl,hbw⟩;have HB3:=hH (HB2.out.next (Bel.of hbw));clear hbw))
     go_roundg (s.size-(p+m))
     case measure=>have:=HGK.out;simp;omega
     case rel=>exact⟨p+m,f',t++putV x,_,rfl,by omega,by omega,by rw [ByteArray.size_append];omega,by go_num,rfl,hH (bs_of (by rw [rcat,HU.out,bs_list,bs_list])),HF,HB3⟩
  ·have HE:=hH (HF.out.trans (txQ_end (t:=t) (f:=f) (mark:=mark) (show s.size≤p by omega)))
   go_wp2
   go_ret2
   exact⟨RTx.no HE.out,HB.out⟩
end
/- ref16: Name, digits. -/
section
open Go.RowKit
set_option maxRecDepth 100000
set_option maxHeartbeats 4000000
theorem rdigits_any (s:ByteArray)(a:Nat)(w:World)(hs:s.size≤1000000)(ha:a≤s.size) :
  Calls Tryz.prog 64 #[.string s,.int .i64 (a:Int)] w fun e w'=>e=.returned (.int .i64 (digN (dr s a):Nat))∧w=w':=by
 have hdb:=digN_bd s a ha
 go_enter Tryz.func64, Tryz.ntmps64
 go_wp2
 go_loop [5] (fun v=>∃i:Nat,a+i≤s.size∧v=.int .i64 i∧Hid (digN (dr s a)=i+digN (dr s (a+i)))) (fun v=>s.size-(a+(intOf v).toNat))
 case atStart=>exact⟨0,by omega,rfl,hH (by simp)⟩
 case round =>
  obtain⟨i,hi,rfl,HI⟩:=hrel
  by_cases hlt:a+i<s.size
  ·have hbi:=s[a+i].toNat_lt
   by_cases h1:(s[a+i].toNat:Int)<48
   ·have HE:=hH (show digN (dr s a)=i by rw [HI.out,dig_stop (fun _=>by unfold digB;simp;omega)];rfl)
    go_wp2
    go_ret
    exact⟨ret_int (by rw [HE.out]),rfl⟩
   ·by_cases h2:57<(s[a+i].toNat:Int)
    ·have HE:=hH (show digN (dr s a)=i by rw [HI.out,dig_stop (fun _=>by unfold digB;simp;omega)];rfl)
     go_wp2
     go_ret
     exact⟨ret_int (by rw [HE.out]),rfl⟩
    ·have HI:=hH (show digN (dr s a)=(i+1)+digN (dr s (a+(i+1))) by rw [HI.out,dig_step hlt (by unfold digB;simp;omega),Nat.add_assoc a i 1];omega)
     go_wp2
     go_round
     case rel=>exact⟨i+1,by omega,by go_num,HI⟩
     case measure=>simp [intOf] <;> omega
  ·have HE:=hH (show digN (dr s a)=i by rw [HI.out,dig_stop (fun h=>absurd h hlt)];rfl)
   go_wp2
   go_ret
   exact⟨ret_int (by rw [HE.out]),rfl⟩
theorem rdigits_at (s:ByteArray)(a d:Nat)(w:World)(hs:s.size≤1000000)(ha:a≤s.size)(h:Hid (digN (dr s a)=d)) :
  Calls Tryz.prog 64 #[.string s,.int .i64 (a:Int)] w fun e w'=>e=.returned (.int .i64 (d:Nat))∧w=w':=by
 rw [←h.out];exact rdigits_any s a w hs ha
theorem scal_asc (b:UInt8)(r:List UInt8)(h:(b.toNat:Int)<128):scalV (b::r)=((b.toNat:Int),1):=by unfold scalV;simp only;rw [if_pos h]
theorem scal_low {b:UInt8}{r:List UInt8}(h:(scalV (b::r)).1<128)(hn:(scalV (b::r)).2≠0):(b.toNat:Int)<128:=by
 rcases Int.lt_or_le (b.toNat:Int) 128 with h1|h1
 ·exact h1
 ·exfalso
  have key:∀x:Int×Int,(x=(0,0)∨128≤x.1)→x.1<128→x.2≠0→False:=by
   rintro x (rfl|h2) h3 h4
   ·exact h4 rfl
   ·omega
  refine key _ ?_ h hn
  clear h hn
  unfold scalV
  simp only
  rw [if_neg (by omega)]
  refine ite_P (fun x:Int×Int=>x=(0,0)∨128≤x.1) (fun h=>?_) (fun h=>?_)
  ·cases r with
   | nil=>exact .inl rfl
   | cons b1 r=>exact ite_P (fun x:Int×Int=>x=(0,0)∨128≤x.1) (fun h2=>.inr (by simp only;omega)) (fun _=>.inl rfl)
  ·refine ite_P (fun x:Int×Int=>x=(0,0)∨128≤x.1) (fun h=>?_) (fun h=>?_)
   ·match r with
    | []=>exact .inl rfl
    | [_]=>exact .inl rfl
    | b1::b2::r =>
     refine ite_P (fun x:Int×Int=>x=(0,0)∨128≤x.1) (fun h2=>.inr ?_) (fun _=>.inl rfl)
     have k1:=h2.1
     have k2:=h2.2.1
     split at k1 <;> split at k2 <;> (simp only;omega)
   ·refine ite_P (fun x:Int×Int=>x=(0,0)∨128≤x.1) (fun h=>?_) (fun _=>.inl rfl)
    match r with
    | []=>exact .inl rfl
    | [_]=>exact .inl rfl
    | [_,_]=>exact .inl rfl
    | b1::b2::b3::r =>
     refine ite_P (fun x:Int×Int=>x=(0,0)∨128≤x.1) (fun h2=>.inr ?_) (fun _=>.inl rfl)
     have k1:=h2.1
     have k2:=h2.2.1
     split at k1 <;> split at k2 <;> (simp only;omega)
def nmS (s:ByteArray)(a p f:Nat):Prop:=(p=a∧s.size≤a+f)∨(a<p∧s.size≤p+f∧a+nameL (dr s a)=p+namF f (dr s p))
theorem nmS_let {s:ByteArray}{a p f m:Nat}(h:nmS s a p f)(hp:p<s.size)(hl:letL (dr s p)=m)(hm:0<m):∃f',nmS s a (p+m) f':=by
 rcases h with⟨rfl,hf⟩|⟨h1,hf,h2⟩
 ·refine⟨(dr s p).length,.inr ⟨by omega,?_,?_⟩⟩
  ·unfold dr;rw [List.length_drop,len_toList];omega
  ·unfold nameL;rw [hl,if_neg (by omega),dr_dr];omega
 ·obtain⟨f',rfl⟩:∃f',f=f'+1:=⟨f-1,by omega⟩
  refine⟨f',.inr ⟨by omega,by omega,?_⟩⟩
  have hr:letR (dr s p)=m:=by unfold letR;rw [hl,if_neg (by omega)]
  rw [h2,namF_go f' _ m hr (by omega),dr_dr];omega
theorem nmS_dig {s:ByteArray}{a p f:Nat}(h:nmS s a p f)(hap:a<p)(hp:p<s.size)(hl:letL (dr s p)=0)(hd:isDig s[p]=true):∃f',nmS s a (p+1) f':=by
 rcases h with⟨rfl,hf⟩|⟨h1,hf,h2⟩
 ·omega
 ·obtain⟨f',rfl⟩:∃f',f=f'+1:=⟨f-1,by omega⟩
  refine⟨f',.inr ⟨by omega,by omega,?_⟩⟩
  have hr:letR (dr s p)=1:=by unfold letR;rw [hl,if_pos rfl,dr,drop_cons s p hp];simp only;rw [if_pos hd]
  rw [h2,namF_go f' _ 1 hr (by omega),dr_dr];omega
theorem nmS_stop {s:ByteArray}{a p f:Nat}(h:nmS s a p f)(hl:letL (dr s p)=0)(hd:p=a∨∀h:p<s.size,isDig s[p]=false):a+nameL (dr s a)=p:=by
 rcases h with⟨rfl,hf⟩|⟨h1,hf,h2⟩
 ·unfold nameL;rw [hl,if_pos rfl];rfl
 ·have hr:letR (dr s p)=0:=by
   unfold letR;rw [hl,if_pos rfl]
   rcases Nat.lt_or_ge p s.size with h3|h3
   ·rw [dr,drop_cons s p h3];simp only
    rw [hd.resolve_left (by omega) h3];rfl
   ·rw [dr,drop_nil s p h3]
  rw [h2,namF_stop _ _ hr];rfl
theorem rname_any (s:ByteArray)(a:Nat)(w:World)(hs:s.size≤1000000)(ha:a≤s.size) :
  Calls Tryz.prog 63 #[.string s,.int .i64 (a:Int)] w fun e w'=>e=.returned (.int .i64 ((a+nameL (dr s a):Nat):Int))∧Bel w.heap.size w w':=by
 have HB:=hH (Bel.refl w.heap.size w)
 go_enter Tryz.func63, Tryz.ntmps63
 go_wp2
 go_loopg [1] (s.size-a) (fun k x wr=>∃(p f:Nat),k=s.size-p∧a≤p∧p≤s.size∧x=.int .i64 p∧Hid (nmS s a p f)∧Hid (Bel w.heap.size w wr))
 case atStart=>exact⟨a,s.size,rfl,by omega,by omega,rfl,hH (.inl ⟨rfl,by omega⟩),HB⟩
 case round =>
  clear HB
  obtain⟨p,f,hgk,hap,hp,rfl,HN,HB⟩:=hrel
  have HGK:=hH hgk;clear hgk
  by_cases hlt:p<s.size
  ·have hzp:(s.extract p s.size).size≤maxLen:=by simp;unfold maxLen;omega
   obtain⟨c,n,hcn⟩:∃c n,scalV (dr s p)=(c,n):=⟨_,_,rfl⟩
   have hl:=scalV_len (dr s p)
   have hz:=scalV_z (dr s p)
   have hlo:=@scal_low s[p] (dr s (p+1))
   have has:=scal_asc s[p] (dr s (p+1))
   have e0:dr s p=s[p]::dr s (p+1):=drop_cons s p hlt
   rw [←e0] at hlo has
   have hLL:letL (dr s p)=if isLet c && decide (0<n) then n.toNat else 0:=by unfold letL;rw [hcn]
   rw [hcn] at hl hz hlo has
   simp only at hl hz hlo
   have HSC:=hH (show scalV (s.extract p s.size).data.toList=(c,n) by rw [ext_drop];exact hcn)
   obtain⟨hn0,hnl,hc0⟩:=hl
   rw [dr,List.length_drop,len_toList] at hnl
   have HLL:=hH hLL
   have HZ:=hH hz
   have HLO:=hH hlo
   have HAS:=hH has
   clear hz hlo has hLL hcn e0
   go_upto_region 4 with(go_at_call 37;refine(rscal_at _ _ _ _ hzp HSC).mono ?_;rintro e w1 ⟨rfl,hbw⟩;have HB1:=hH (HB.out.next (Bel.of hbw));clear hbw)
   go_cut [8] (fun b wx=>b=.bool (isLet c)∧w1=wx)
   case first =>
    obtain⟨z,hz⟩:∃z,(c==95)=z:=⟨_,rfl⟩
    have HZ5:=hH (show z=decide (c=95) by rw [←hz,Bool.eq_iff_iff];simp)
    cases z
    all_goals
     go_wp2
     all_goals
      go_meet
      case rel =>
       refine⟨congrArg Value.bool ?_,rfl⟩
       have hz5:=HZ5.out
       simp only [eq_comm (a:=true),eq_comm (a:=false),decide_eq_true_eq,decide_eq_false_iff_not] at hz5
       unfold isLet
       refine Bool.eq_iff_iff.2 ?_
       simp <;> omega
   case rest =>
    obtain⟨rfl,rfl⟩:=hcut
    cases hb:isLet c with
    | true =>
     have hn:n≠0:=by
      intro hn
      have:=HZ.out hn
      injection this with h3 h4
      rw [h3] at hb;exact absurd hb (by decide)
     have hn1:(n==0)=false:=by rw [beq_eq_false_iff_ne];exact hn
     obtain⟨m,rfl⟩:=Int.eq_ofNat_of_zero_le hn0
     have hm:0<m:=by omega
     obtain⟨f',hf'⟩:=nmS_let HN.out hlt (show letL (dr s p)=m by rw [HLL.out,hb];simp;omega) hm
     have HF:=hH hf'
     have hnl':m≤s.size-p:=by simpa using hnl
     clear hb hn hf' hnl
     go_wp2
     go_roundg (s.size-(p+m))
     case measure=>have:=HGK.out;simp;omega
     case rel=>exact⟨p+m,f',rfl,by omega,by omega,by go_num,HF,HB1⟩
    | false =>
     have hl0:letL (dr s p)=0:=by rw [HLL.out,hb];rfl
     by_cases hn:n=0
     ·have hn1:(n==0)=true:=by rw [hn];rfl
      have HE:=hH (nmS_stop HN.out hl0 (.inr (fun h=>by
       cases hd:isDig s[p] with
       | false=>rfl
       | true =>
        have h3:=HAS.out (by have:=(dig_int s[p]).1 hd;omega)
        injection h3 with h4 h5;omega)))
      clear hb hl0
      go_wp2
      go_ret
      exact⟨ret_int (by have:=HE.out;omega),HB1.out⟩
     ·have hn1:(n==0)=false:=by rw [beq_eq_false_iff_ne];exact hn
      by_cases hpa:p=a
      ·have HE:=hH (nmS_stop HN.out hl0 (.inl hpa))
       have hpa':((p:Int)==(a:Int))=true:=by rw [hpa];simp
       clear hb hl0 hpa
       go_wp2
       go_ret
       exact⟨ret_int (by have:=HE.out;omega),HB1.out⟩
      ·have hpa':((p:Int)==(a:Int))=false:=by rw [beq_eq_false_iff_ne];omega
       by_cases h48:c<48
       ·have HE:=hH (nmS_stop HN.out hl0 (.inr (fun h=>by
         cases hd:isDig s[p] with
         | false=>rfl
         | true =>
          have h1:=(dig_int s[p]).1 hd
          have h3:=HAS.out (by omega)
          injection h3 with h4 h5;omega)))
        clear hb hl0 hpa
        go_wp2
        go_ret
        exact⟨ret_int (by have:=HE.out;omega),HB1.out⟩
       ·by_cases h57:57<c
        ·have HE:=hH (nmS_stop HN.out hl0 (.inr (fun h=>by
          cases hd:isDig s[p] with
          | false=>rfl
          | true =>
           have h1:=(dig_int s[p]).1 hd
           have h3:=HAS.out (by omega)
           injection h3 with h4 h5;omega)))
         clear hb hl0 hpa
         go_wp2
         go_ret
         exact⟨ret_int (by have:=HE.out;omega),HB1.out⟩
        ·have h3:=HAS.out (HLO.out (by omega) hn)
         injection h3 with h4 h5
         obtain⟨f',hf'⟩:=nmS_dig HN.out (by omega) hlt hl0 ((dig_int s[p]).2 (by omega))
         have HF:=hH hf'
         have hn2:(0:Int)<n:=by omega
         have H5:=hH h5
         clear hb hl0 hpa hf' h4 h5 hn
         go_wp2
         go_roundg (s.size-(p+1))
         case measure=>have:=HGK.out;simp;omega
         case rel=>exact⟨p+1,f',rfl,by omega,by omega,by rw [H5.out];rfl,HF,HB1⟩
  ·have HE:=hH (nmS_stop HN.out (by rw [show dr s p=[] from drop_nil s p (by omega)];rfl) (.inr (fun h=>absurd h hlt)))
   go_wp2
   go_ret
   exact⟨ret_int (by have:=HE.out;omega),HB.out⟩
end

end Go.Proofs.YtpcbcodmocmilaaGreatDoor
