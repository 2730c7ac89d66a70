/- NG48: Wh, Wo, Wp, Wq joined. -/
import Derived.Test.YtjbdcjcfijjiiaaGreatDoorNG47
import Derived.Test.YtjbdcjcfijjiiaaGreatDoorNG46
namespace Go.Proofs.YtjbdcjcfijjiiaaGreatDoor
open Go.RowKit
/- qlex: numberOf. -/
section
open Go.RowKit
set_option maxRecDepth 100000
set_option maxHeartbeats 4000000
def NI (v n e:Int):Prop:=(e=0∧n=v∧0≤n∧n≤9007199254740991)∨(e=6∧n=9007199254740991∧v=9007199254740992)
theorem NI.bd {v n e:Int}(h:NI v n e):0≤n∧n≤9007199254740991:=by unfold NI at h;omega
theorem NI.low {v n e:Int}{c:UInt8}(h:NI v n e)(hc:48≤(c.toNat:Int))(h1:n*10+((c.toNat:Int)-48)≤9007199254740991):NI (capI v c) (n*10+((c.toNat:Int)-48)) e:=by
 unfold NI at *;unfold capI;omega
theorem NI.high {v n e:Int}{c:UInt8}(h:NI v n e)(hc:48≤(c.toNat:Int))(h1:9007199254740991<n*10+((c.toNat:Int)-48)):NI (capI v c) 9007199254740991 6:=by
 unfold NI at *;unfold capI;omega
def NumE (l:List UInt8)(e:Ending):Prop :=
 match numT l with
 | .error x=>∃v m:Int,e=.returned (.tuple #[.int .i64 v,.int .i64 m,.int .i64 x])
 | .ok (v,m)=>e=.returned (.tuple #[.int .i64 v,.int .i64 (m:Nat),.int .i64 0])
theorem NumE.err {l:List UInt8}{x:Int}(h:numT l=.error x)(v m:Int):NumE l (.returned (.tuple #[.int .i64 v,.int .i64 m,.int .i64 x])):=by
 unfold NumE;rw [h];exact⟨v,m,rfl⟩
theorem NumE.good {l:List UInt8}{v u:Int}{m:Nat}{k:Int}(h:numT l=.ok (v,m))(hu:u=v)(hk:k=m):NumE l (.returned (.tuple #[.int .i64 u,.int .i64 k,.int .i64 0])):=by
 unfold NumE;rw [h,hu,hk]
theorem number_true (s:ByteArray)(w:World)(hs:s.size≤9223372036854775000)(hb:hd s.data.toList 45=true) :
  Calls Tryz.prog 56 #[.string s] w fun e w'=>NumE s.data.toList e∧w=w':=by
 have HT:=hH (numT_t s hb)
 have HPR:=hH (show preB s.data.toList (⟨#[45]⟩:ByteArray).data.toList=true by rw [show (⟨#[45]⟩:ByteArray).data.toList=[45] from rfl,preB_one];exact hb)
 have hD:1+digN (dr s 1)≤s.size:=digN_bd s 1 (by have:0<s.size:=hd_lt (s:=s) (p:=0) (c:=45) (by simpa [dr] using hb);omega)
 clear hb
 go_enter Tryz.func56, Tryz.ntmps56
 go_wp2_with (go_at_call 59;refine(hp_at _ _ _ _ HPR).mono ?_;rintro e w' ⟨rfl,rfl⟩)
 go_loop [6,8,9] (fun u x y=>∃(p:Nat) (n e:Int),1≤p∧p≤1+digN (dr s 1)∧NI (numV ((dr s 1).take (p-1))) n e∧u=.int .i64 p∧x=.int .i64 n∧y=.int .i64 e) (fun u _ _=>s.size-(intOf u).toNat)
 case atStart=>exact⟨1,0,0,by omega,by omega,.inl ⟨rfl,rfl,by omega,by omega⟩,rfl,rfl,rfl⟩
 case round =>
  obtain⟨p,n,e,hpa,hpD,hI,rfl,rfl,rfl⟩:=hrel
  obtain⟨hn0,hn1⟩:=hI.bd
  by_cases hk:p<1+digN (dr s 1)
  ·obtain⟨hlt,hdg⟩:=dig_at s 1 p hpa hk
   obtain⟨hc0,hc1⟩:=digB_bd hdg
   have HB:=hH hdg
   have HS:=hH (show numV ((dr s 1).take (p+1-1))=capI (numV ((dr s 1).take (p-1))) s[p] by rw [dr_snoc s 1 p hpa hlt,numV_snoc])
   clear hdg
   by_cases hbig:9007199254740991<n*10+((s[p].toNat:Int)-48)
   ·have hI:=hI.high hc0 hbig
    go_wp2_with (go_at_call 55;refine(qdig_at _ _ _ HB).mono ?_;rintro e w' ⟨rfl,rfl⟩)
    go_round
    case rel=>exact⟨p+1,_,6,by omega,by omega,by rw [HS.out];exact hI,by go_num,rfl,rfl⟩
    case measure=>simp [intOf] <;> omega
   ·have hI:=hI.low hc0 (by omega)
    go_wp2_with (go_at_call 55;refine(qdig_at _ _ _ HB).mono ?_;rintro e w' ⟨rfl,rfl⟩)
    go_round
    case rel=>exact⟨p+1,_,e,by omega,by omega,by rw [HS.out];exact hI,by go_num,rfl,rfl⟩
    case measure=>simp [intOf] <;> omega
  ·have hp:p=1+digN (dr s 1):=by omega
   have hpk:p-1=digN (dr s 1):=by omega
   rw [hpk] at hI
   by_cases hlt:p<s.size
   ·have HB:=hH (dig_end s 1 p hp hlt)
    have HP:=hH hp
    have HD1:=hH hpk
    have HK:=hH hk
    have hq:digN (dr s 1)≤p-1:=by omega
    clear hpk hp hk
    ·have hni:=hI
     unfold NI at hni
     by_cases hD0:p=1
     ·have HE:=hH (show numT s.data.toList=.error 3 by rw [HT.out,if_pos (.inl (by have:=HP.out;omega))])
      subst hD0
      clear HT
      go_wp2_with (go_at_call 55;refine(qdig_at _ _ _ HB).mono ?_;rintro e w' ⟨rfl,rfl⟩)
      exact bodyPost_ret (v:=.tuple #[.int .i64 0,.int .i64 0,.int .i64 3]) (by simp [results,Tryz.results56,go_sem]) rfl ⟨NumE.err HE.out _ _,rfl⟩
     ·have hp1:1<p:=by omega
      have hp2:((p:Int)==1)=false:=by simp;omega
      have hs0:1<s.size:=by omega
      cases hz:((s[1].toNat:Int)==48) with
      | true =>
       have hzd:hd (dr s 1) 48=true:=hd_t hs0 (by simpa using hz)
       have HE:=hH (show numT s.data.toList=.error 3 by rw [HT.out,if_pos (.inr hzd)])
       clear HT hzd hD0
       go_wp2_with (go_at_call 55;refine(qdig_at _ _ _ HB).mono ?_;rintro e w' ⟨rfl,rfl⟩)
       exact bodyPost_ret (v:=.tuple #[.int .i64 0,.int .i64 0,.int .i64 3]) (by simp [results,Tryz.results56,go_sem]) rfl ⟨NumE.err HE.out _ _,rfl⟩
      | false =>
       have hzd:hd (dr s 1) 48=false:=hd_f (by intro _ h;rw [beq_eq_false_iff_ne] at hz;exact hz h)
       have HT:=hH (HT.out.trans (if_neg (by have:=HP.out;intro h;rcases h with h|h;(·omega);(·simp [hzd] at h))))
       rcases hni with⟨he,hn,_,_⟩|⟨he,hn,hv⟩
       ·have HE:=hH (show numT s.data.toList=.ok ((-n),p) by rw [HT.out,if_neg (by omega)];rw [show 1+digN (dr s 1)=p from HP.out.symm,hn])
        subst he
        clear HT hzd hD0 hn hI HP
        go_wp2_with (go_at_call 55;refine(qdig_at _ _ _ HB).mono ?_;rintro e w' ⟨rfl,rfl⟩)
        exact bodyPost_ret (v:=.tuple #[.int .i64 (-n),.int .i64 p,.int .i64 0]) (by simp [results,Tryz.results56,go_sem]) rfl ⟨NumE.good HE.out rfl rfl,rfl⟩
       ·have HE:=hH (show numT s.data.toList=.error 6 by rw [HT.out,if_pos hv])
        subst he
        clear HT hzd hD0 hn hI HP hv
        go_wp2_with (go_at_call 55;refine(qdig_at _ _ _ HB).mono ?_;rintro e w' ⟨rfl,rfl⟩)
        exact bodyPost_ret (v:=.tuple #[.int .i64 (-n),.int .i64 p,.int .i64 6]) (by simp [results,Tryz.results56,go_sem]) rfl ⟨NumE.err HE.out _ _,rfl⟩
   ·have HP:=hH hp
    have HD1:=hH hpk
    have HK:=hH hk
    have hq:digN (dr s 1)≤p-1:=by omega
    clear hpk hp hk
    ·have hni:=hI
     unfold NI at hni
     by_cases hD0:p=1
     ·have HE:=hH (show numT s.data.toList=.error 3 by rw [HT.out,if_pos (.inl (by have:=HP.out;omega))])
      subst hD0
      clear HT
      go_wp2
      exact bodyPost_ret (v:=.tuple #[.int .i64 0,.int .i64 0,.int .i64 3]) (by simp [results,Tryz.results56,go_sem]) rfl ⟨NumE.err HE.out _ _,rfl⟩
     ·have hp1:1<p:=by omega
      have hp2:((p:Int)==1)=false:=by simp;omega
      have hs0:1<s.size:=by omega
      cases hz:((s[1].toNat:Int)==48) with
      | true =>
       have hzd:hd (dr s 1) 48=true:=hd_t hs0 (by simpa using hz)
       have HE:=hH (show numT s.data.toList=.error 3 by rw [HT.out,if_pos (.inr hzd)])
       clear HT hzd hD0
       go_wp2
       exact bodyPost_ret (v:=.tuple #[.int .i64 0,.int .i64 0,.int .i64 3]) (by simp [results,Tryz.results56,go_sem]) rfl ⟨NumE.err HE.out _ _,rfl⟩
      | false =>
       have hzd:hd (dr s 1) 48=false:=hd_f (by intro _ h;rw [beq_eq_false_iff_ne] at hz;exact hz h)
       have HT:=hH (HT.out.trans (if_neg (by have:=HP.out;intro h;rcases h with h|h;(·omega);(·simp [hzd] at h))))
       rcases hni with⟨he,hn,_,_⟩|⟨he,hn,hv⟩
       ·have HE:=hH (show numT s.data.toList=.ok ((-n),p) by rw [HT.out,if_neg (by omega)];rw [show 1+digN (dr s 1)=p from HP.out.symm,hn])
        subst he
        clear HT hzd hD0 hn hI HP
        go_wp2
        exact bodyPost_ret (v:=.tuple #[.int .i64 (-n),.int .i64 p,.int .i64 0]) (by simp [results,Tryz.results56,go_sem]) rfl ⟨NumE.good HE.out rfl rfl,rfl⟩
       ·have HE:=hH (show numT s.data.toList=.error 6 by rw [HT.out,if_pos hv])
        subst he
        clear HT hzd hD0 hn hI HP hv
        go_wp2
        exact bodyPost_ret (v:=.tuple #[.int .i64 (-n),.int .i64 p,.int .i64 6]) (by simp [results,Tryz.results56,go_sem]) rfl ⟨NumE.err HE.out _ _,rfl⟩
theorem number_false (s:ByteArray)(w:World)(hs:s.size≤9223372036854775000)(hb:hd s.data.toList 45=false) :
  Calls Tryz.prog 56 #[.string s] w fun e w'=>NumE s.data.toList e∧w=w':=by
 have HT:=hH (numT_f s hb)
 have HPR:=hH (show preB s.data.toList (⟨#[45]⟩:ByteArray).data.toList=false by rw [show (⟨#[45]⟩:ByteArray).data.toList=[45] from rfl,preB_one];exact hb)
 have hD:0+digN (dr s 0)≤s.size:=digN_bd s 0 (by omega)
 clear hb
 go_enter Tryz.func56, Tryz.ntmps56
 go_wp2_with (go_at_call 59;refine(hp_at _ _ _ _ HPR).mono ?_;rintro e w' ⟨rfl,rfl⟩)
 go_loop [6,8,9] (fun u x y=>∃(p:Nat) (n e:Int),0≤p∧p≤0+digN (dr s 0)∧NI (numV ((dr s 0).take (p-0))) n e∧u=.int .i64 p∧x=.int .i64 n∧y=.int .i64 e) (fun u _ _=>s.size-(intOf u).toNat)
 case atStart=>exact⟨0,0,0,by omega,by omega,.inl ⟨rfl,rfl,by omega,by omega⟩,rfl,rfl,rfl⟩
 case round =>
  obtain⟨p,n,e,hpa,hpD,hI,rfl,rfl,rfl⟩:=hrel
  obtain⟨hn0,hn1⟩:=hI.bd
  by_cases hk:p<0+digN (dr s 0)
  ·obtain⟨hlt,hdg⟩:=dig_at s 0 p hpa hk
   obtain⟨hc0,hc1⟩:=digB_bd hdg
   have HB:=hH hdg
   have HS:=hH (show numV ((dr s 0).take (p+1-0))=capI (numV ((dr s 0).take (p-0))) s[p] by rw [dr_snoc s 0 p hpa hlt,numV_snoc])
   clear hdg
   by_cases hbig:9007199254740991<n*10+((s[p].toNat:Int)-48)
   ·have hI:=hI.high hc0 hbig
    go_wp2_with (go_at_call 55;refine(qdig_at _ _ _ HB).mono ?_;rintro e w' ⟨rfl,rfl⟩)
    go_round
    case rel=>exact⟨p+1,_,6,by omega,by omega,by rw [HS.out];exact hI,by go_num,rfl,rfl⟩
    case measure=>simp [intOf] <;> omega
   ·have hI:=hI.low hc0 (by omega)
    go_wp2_with (go_at_call 55;refine(qdig_at _ _ _ HB).mono ?_;rintro e w' ⟨rfl,rfl⟩)
    go_round
    case rel=>exact⟨p+1,_,e,by omega,by omega,by rw [HS.out];exact hI,by go_num,rfl,rfl⟩
    case measure=>simp [intOf] <;> omega
  ·have hp:p=0+digN (dr s 0):=by omega
   have hpk:p-0=digN (dr s 0):=by omega
   rw [hpk] at hI
   by_cases hlt:p<s.size
   ·have HB:=hH (dig_end s 0 p hp hlt)
    have HP:=hH hp
    have HD1:=hH hpk
    have HK:=hH hk
    have hq:digN (dr s 0)≤p-0:=by omega
    clear hpk hp hk
    ·have hni:=hI
     unfold NI at hni
     by_cases hD0:p=0
     ·have HE:=hH (show numT s.data.toList=.error 3 by rw [HT.out,if_pos (.inl (by have:=HP.out;omega))])
      subst hD0
      clear HT
      go_wp2_with (go_at_call 55;refine(qdig_at _ _ _ HB).mono ?_;rintro e w' ⟨rfl,rfl⟩)
      exact bodyPost_ret (v:=.tuple #[.int .i64 0,.int .i64 0,.int .i64 3]) (by simp [results,Tryz.results56,go_sem]) rfl ⟨NumE.err HE.out _ _,rfl⟩
     ·have hp1:0<p:=by omega
      have hp2:((p:Int)==0)=false:=by simp;omega
      have hs0:0<s.size:=by omega
      cases hz:((s[0].toNat:Int)==48) with
      | true =>
       have hzd:hd (dr s 0) 48=true:=hd_t hs0 (by simpa using hz)
       by_cases hD1:1<p
       ·have HE:=hH (show numT s.data.toList=.error 3 by rw [HT.out,if_pos (.inr ⟨hzd,by have:=HP.out;omega⟩)])
        clear HT hzd hD0
        go_wp2_with (go_at_call 55;refine(qdig_at _ _ _ HB).mono ?_;rintro e w' ⟨rfl,rfl⟩)
        exact bodyPost_ret (v:=.tuple #[.int .i64 0,.int .i64 0,.int .i64 3]) (by simp [results,Tryz.results56,go_sem]) rfl ⟨NumE.err HE.out _ _,rfl⟩
       ·have hD2:¬(1:Int)<(p:Int):=by omega
        have HT:=hH (HT.out.trans (if_neg (by have:=HP.out;intro h;omega)))
        rcases hni with⟨he,hn,_,_⟩|⟨he,hn,hv⟩
        ·have HE:=hH (show numT s.data.toList=.ok (n,p) by rw [HT.out,if_neg (by omega)];rw [show 0+digN (dr s 0)=p from HP.out.symm,hn])
         subst he
         clear HT hzd hD0 hn hI HP
         go_wp2_with (go_at_call 55;refine(qdig_at _ _ _ HB).mono ?_;rintro e w' ⟨rfl,rfl⟩)
         exact bodyPost_ret (v:=.tuple #[.int .i64 n,.int .i64 p,.int .i64 0]) (by simp [results,Tryz.results56,go_sem]) rfl ⟨NumE.good HE.out rfl rfl,rfl⟩
        ·have HE:=hH (show numT s.data.toList=.error 6 by rw [HT.out,if_pos hv])
         subst he
         clear HT hzd hD0 hn hI HP hv
         go_wp2_with (go_at_call 55;refine(qdig_at _ _ _ HB).mono ?_;rintro e w' ⟨rfl,rfl⟩)
         exact bodyPost_ret (v:=.tuple #[.int .i64 n,.int .i64 p,.int .i64 6]) (by simp [results,Tryz.results56,go_sem]) rfl ⟨NumE.err HE.out _ _,rfl⟩
      | false =>
       have hzd:hd (dr s 0) 48=false:=hd_f (by intro _ h;rw [beq_eq_false_iff_ne] at hz;exact hz h)
       have HT:=hH (HT.out.trans (if_neg (by have:=HP.out;intro h;rcases h with h|h;(·omega);(·simp [hzd] at h))))
       rcases hni with⟨he,hn,_,_⟩|⟨he,hn,hv⟩
       ·have HE:=hH (show numT s.data.toList=.ok (n,p) by rw [HT.out,if_neg (by omega)];rw [show 0+digN (dr s 0)=p from HP.out.symm,hn])
        subst he
        clear HT hzd hD0 hn hI HP
        go_wp2_with (go_at_call 55;refine(qdig_at _ _ _ HB).mono ?_;rintro e w' ⟨rfl,rfl⟩)
        exact bodyPost_ret (v:=.tuple #[.int .i64 n,.int .i64 p,.int .i64 0]) (by simp [results,Tryz.results56,go_sem]) rfl ⟨NumE.good HE.out rfl rfl,rfl⟩
       ·have HE:=hH (show numT s.data.toList=.error 6 by rw [HT.out,if_pos hv])
        subst he
        clear HT hzd hD0 hn hI HP hv
        go_wp2_with (go_at_call 55;refine(qdig_at _ _ _ HB).mono ?_;rintro e w' ⟨rfl,rfl⟩)
        exact bodyPost_ret (v:=.tuple #[.int .i64 n,.int .i64 p,.int .i64 6]) (by simp [results,Tryz.results56,go_sem]) rfl ⟨NumE.err HE.out _ _,rfl⟩
   ·have HP:=hH hp
    have HD1:=hH hpk
    have HK:=hH hk
    have hq:digN (dr s 0)≤p-0:=by omega
    clear hpk hp hk
    ·have hni:=hI
     unfold NI at hni
     by_cases hD0:p=0
     ·have HE:=hH (show numT s.data.toList=.error 3 by rw [HT.out,if_pos (.inl (by have:=HP.out;omega))])
      subst hD0
      clear HT
      go_wp2
      exact bodyPost_ret (v:=.tuple #[.int .i64 0,.int .i64 0,.int .i64 3]) (by simp [results,Tryz.results56,go_sem]) rfl ⟨NumE.err HE.out _ _,rfl⟩
     ·have hp1:0<p:=by omega
      have hp2:((p:Int)==0)=false:=by simp;omega
      have hs0:0<s.size:=by omega
      cases hz:((s[0].toNat:Int)==48) with
      | true =>
       have hzd:hd (dr s 0) 48=true:=hd_t hs0 (by simpa using hz)
       by_cases hD1:1<p
       ·have HE:=hH (show numT s.data.toList=.error 3 by rw [HT.out,if_pos (.inr ⟨hzd,by have:=HP.out;omega⟩)])
        clear HT hzd hD0
        go_wp2
        exact bodyPost_ret (v:=.tuple #[.int .i64 0,.int .i64 0,.int .i64 3]) (by simp [results,Tryz.results56,go_sem]) rfl ⟨NumE.err HE.out _ _,rfl⟩
       ·have hD2:¬(1:Int)<(p:Int):=by omega
        have HT:=hH (HT.out.trans (if_neg (by have:=HP.out;intro h;omega)))
        rcases hni with⟨he,hn,_,_⟩|⟨he,hn,hv⟩
        ·have HE:=hH (show numT s.data.toList=.ok (n,p) by rw [HT.out,if_neg (by omega)];rw [show 0+digN (dr s 0)=p from HP.out.symm,hn])
         subst he
         clear HT hzd hD0 hn hI HP
         go_wp2
         exact bodyPost_ret (v:=.tuple #[.int .i64 n,.int .i64 p,.int .i64 0]) (by simp [results,Tryz.results56,go_sem]) rfl ⟨NumE.good HE.out rfl rfl,rfl⟩
        ·have HE:=hH (show numT s.data.toList=.error 6 by rw [HT.out,if_pos hv])
         subst he
         clear HT hzd hD0 hn hI HP hv
         go_wp2
         exact bodyPost_ret (v:=.tuple #[.int .i64 n,.int .i64 p,.int .i64 6]) (by simp [results,Tryz.results56,go_sem]) rfl ⟨NumE.err HE.out _ _,rfl⟩
      | false =>
       have hzd:hd (dr s 0) 48=false:=hd_f (by intro _ h;rw [beq_eq_false_iff_ne] at hz;exact hz h)
       have HT:=hH (HT.out.trans (if_neg (by have:=HP.out;intro h;rcases h with h|h;(·omega);(·simp [hzd] at h))))
       rcases hni with⟨he,hn,_,_⟩|⟨he,hn,hv⟩
       ·have HE:=hH (show numT s.data.toList=.ok (n,p) by rw [HT.out,if_neg (by omega)];rw [show 0+digN (dr s 0)=p from HP.out.symm,hn])
        subst he
        clear HT hzd hD0 hn hI HP
        go_wp2
        exact bodyPost_ret (v:=.tuple #[.int .i64 n,.int .i64 p,.int .i64 0]) (by simp [results,Tryz.results56,go_sem]) rfl ⟨NumE.good HE.out rfl rfl,rfl⟩
       ·have HE:=hH (show numT s.data.toList=.error 6 by rw [HT.out,if_pos hv])
        subst he
        clear HT hzd hD0 hn hI HP hv
        go_wp2
        exact bodyPost_ret (v:=.tuple #[.int .i64 n,.int .i64 p,.int .i64 6]) (by simp [results,Tryz.results56,go_sem]) rfl ⟨NumE.err HE.out _ _,rfl⟩
theorem lexnumber_any (s:ByteArray)(w:World)(hs:s.size≤9223372036854775000) :
  Calls Tryz.prog 56 #[.string s] w fun e w'=>NumE s.data.toList e∧w=w':=by
 cases hb:hd s.data.toList 45 with
 | true=>exact number_true s w hs hb
 | false=>exact number_false s w hs hb
end
/- qlex: one, walked. -/
section
open Go.RowKit
set_option maxRecDepth 100000
set_option maxHeartbeats 2000000
def OneP (l:List UInt8)(w:World)(e:Ending)(w':World):Prop:=OneE l e∧Bel w.heap.size w w'
theorem one_str (s:ByteArray)(w:World)(hs:s.size≤1000000)(h0:0<s.size)(hc:s[0]=34∨s[0]=39) :
  Calls Tryz.prog 35 #[.string s] w (OneP s.data.toList w):=by
 have HE:=hH (tokT_str s h0 hc)
 have htx:=fun w=>text_any s s[0] w hs h0 rfl
 have hq:((s[0].toNat:Int)==34)=true∨(((s[0].toNat:Int)==34)=false∧((s[0].toNat:Int)==39)=true):=by
  rcases hc with hc|hc
  ·exact .inl (by rw [hc];rfl)
  ·exact .inr ⟨by rw [hc];rfl,by rw [hc];rfl⟩
 clear hc
 cases ht:txtF s.size s[0] (dr s 1) with
 | none =>
  have HE:=hH (show tokT s.data.toList=.error 3 by rw [HE.out,ht])
  rw [ht] at htx
  clear ht
  rcases hq with hq|⟨hq,hq2⟩
  all_goals
   go_enter Tryz.func35, Tryz.ntmps35
   generalize hQ:bodyPost Tryz.prog Tryz.f35 (OneP s.data.toList w)=Q
   have HQ:=hH hQ;clear hQ
   go_wp2_with (go_at_call 54;refine(htx _).mono ?_;rintro e w2 ⟨rfl,hb⟩;obtain⟨hc,hf⟩:=belcell hb;have HB:=hH hb;clear hb)
   rw [←HQ.out]
   exact bodyPost_ret (v:=.tuple #[.agg #[.int .i64 0,.string ⟨#[]⟩,.int .i64 0,.int .i64 0,.bool false],.int .i64 0,.int .i64 3]) (by simp [results,Tryz.results35,go_sem,hc]) rfl ⟨OneE.no HE.out _ _ _ _,bel_set5 HB.out⟩
 | some tk =>
  obtain⟨t,k⟩:=tk
  have HE:=hH (show tokT s.data.toList=.ok (4,t,0,k+1) by rw [HE.out,ht])
  rw [ht] at htx
  clear ht
  have hk1:(((k+1:Nat):Int)==0)=false:=by simp;omega
  rcases hq with hq|⟨hq,hq2⟩
  all_goals
   go_enter Tryz.func35, Tryz.ntmps35
   generalize hQ:bodyPost Tryz.prog Tryz.f35 (OneP s.data.toList w)=Q
   have HQ:=hH hQ;clear hQ
   go_wp2_with (go_at_call 54;refine(htx _).mono ?_;rintro e w2 ⟨rfl,hb⟩;obtain⟨hc,hf⟩:=belcell hb;have HB:=hH hb;clear hb)
   rw [←HQ.out]
   exact bodyPost_ret (v:=.tuple #[.agg #[.int .i64 4,.string (bs t),.int .i64 0,.int .i64 0,.bool false],.int .i64 ((k+1:Nat):Int),.int .i64 0]) (by simp [results,Tryz.results35,go_sem,hc]) rfl ⟨OneE.yes HE.out rfl rfl,bel_set5 HB.out⟩
theorem nine (s:ByteArray)(h0:0<s.size)(hc:¬(s[0]=34∨s[0]=39)):((s[0].toNat:Int)==34)=false∧((s[0].toNat:Int)==39)=false :=
 ⟨u8_ne (n:=34) (fun h=>hc (.inl h)) (by omega),u8_ne (n:=39) (fun h=>hc (.inr h)) (by omega)⟩
theorem one_num (s:ByteArray)(w:World)(hs:s.size≤1000000)(h0:0<s.size)(hc:¬(s[0]=34∨s[0]=39))(hd:isDig s[0]=true∨s[0]=45) :
  Calls Tryz.prog 35 #[.string s] w (OneP s.data.toList w):=by
 have HE:=hH (tokT_num s h0 hc hd)
 have hnu:=fun w=>lexnumber_any s w (by omega)
 obtain⟨hq1,hq2⟩:=nine s h0 hc
 have hq:digB (s[0].toNat:Int)=true∨(digB (s[0].toNat:Int)=false∧((s[0].toNat:Int)==45)=true):=by
  cases hx:digB (s[0].toNat:Int) with
  | true=>exact .inl rfl
  | false =>
   rw [digB_eq] at hx
   rcases hd with hd|hd
   ·rw [hx] at hd;cases hd
   ·exact .inr ⟨rfl,by rw [hd];rfl⟩
 clear hc hd
 unfold NumE at hnu
 cases ht:numT s.data.toList with
 | error x =>
  have HE:=hH (show tokT s.data.toList=.error x by rw [HE.out,ht])
  rw [ht] at hnu
  clear ht
  rcases hq with hq|⟨hq,hq3⟩
  all_goals
   have HDG:=hH hq
   clear hq
   go_enter Tryz.func35, Tryz.ntmps35
   generalize hQ:bodyPost Tryz.prog Tryz.f35 (OneP s.data.toList w)=Q
   have HQ:=hH hQ;clear hQ
   go_wp2_with (first|(go_at_call 55;refine(qdig_at _ _ _ HDG).mono ?_;rintro e w' ⟨rfl,rfl⟩)|(go_at_call 56;refine(hnu _).mono ?_;rintro e w' ⟨⟨v,m,rfl⟩,rfl⟩))
   rw [←HQ.out]
   exact bodyPost_ret (v:=.tuple #[.agg #[.int .i64 3,.string ⟨#[]⟩,.int .i64 v,.int .i64 0,.bool false],.int .i64 m,.int .i64 x]) (by simp [results,Tryz.results35,go_sem]) rfl ⟨OneE.no HE.out _ _ _ _,bel_lit⟩
 | ok vn =>
  obtain⟨v,n⟩:=vn
  have HE:=hH (show tokT s.data.toList=.ok (3,[],v,n) by rw [HE.out,ht])
  rw [ht] at hnu
  clear ht
  rcases hq with hq|⟨hq,hq3⟩
  all_goals
   have HDG:=hH hq
   clear hq
   go_enter Tryz.func35, Tryz.ntmps35
   generalize hQ:bodyPost Tryz.prog Tryz.f35 (OneP s.data.toList w)=Q
   have HQ:=hH hQ;clear hQ
   go_wp2_with (first|(go_at_call 55;refine(qdig_at _ _ _ HDG).mono ?_;rintro e w' ⟨rfl,rfl⟩)|(go_at_call 56;refine(hnu _).mono ?_;rintro e w' ⟨rfl,rfl⟩))
   rw [←HQ.out]
   exact bodyPost_ret (v:=.tuple #[.agg #[.int .i64 3,.string ⟨#[]⟩,.int .i64 v,.int .i64 0,.bool false],.int .i64 (n:Nat),.int .i64 0]) (by simp [results,Tryz.results35,go_sem]) rfl ⟨OneE.yes HE.out rfl rfl,bel_lit⟩
theorem nin2 (s:ByteArray)(h0:0<s.size)(hd:¬(isDig s[0]=true∨s[0]=45)):digB (s[0].toNat:Int)=false∧((s[0].toNat:Int)==45)=false :=
 ⟨by rw [digB_eq];cases h:isDig s[0] with|true=>exact absurd (.inl h) hd|false=>rfl,u8_ne (n:=45) (fun h=>hd (.inr h)) (by omega)⟩
theorem nameLen_at (s:ByteArray)(m:Nat)(w:World)(hs:s.size≤9223372036854775000)(h:Hid (nameL s.data.toList=m)) :
  Calls Tryz.prog 57 #[.string s] w fun e w'=>e=.returned (.int .i64 m)∧w=w':=by
 rw [←h.out];exact nameLen_any s w hs
theorem one_nam (s:ByteArray)(w:World)(hs:s.size≤1000000)(h0:0<s.size)(hc:¬(s[0]=34∨s[0]=39))(hd:¬(isDig s[0]=true∨s[0]=45)) :
  Calls Tryz.prog 35 #[.string s] w (OneP s.data.toList w):=by
 obtain⟨hq1,hq2⟩:=nine s h0 hc
 obtain⟨hq3,hq4⟩:=nin2 s h0 hd
 have HDG:=hH hq3
 have hnl:=nameL_le s.data.toList
 rw [len_toList] at hnl
 obtain⟨k,hk⟩:∃k,nameL s.data.toList=k:=⟨_,rfl⟩
 rw [hk] at hnl
 rcases Nat.eq_zero_or_pos k with hk0|hk0
 ·have HE:=hH (tokT_sgn s h0 hc hd (by omega))
  have HNL:=hH (show nameL s.data.toList=0 by omega)
  clear hc hd hq3 hk hk0 hnl
  have hsz:s.size≤9223372036854775000:=by omega
  go_enter Tryz.func35, Tryz.ntmps35
  generalize hQ:bodyPost Tryz.prog Tryz.f35 (OneP s.data.toList w)=Q
  have HQ:=hH hQ;clear hQ
  go_wp2_with (first|(go_at_call 55;refine(qdig_at _ _ _ HDG).mono ?_;rintro e w' ⟨rfl,rfl⟩)|(go_at_call 57;refine(nameLen_at s 0 _ hsz HNL).mono ?_;rintro e w' ⟨rfl,rfl⟩)|(go_at_call 58;refine(signs_any _).mono ?_;rintro e w' ⟨rfl,rfl⟩))
  go_loop [13,62] (fun _ v=>∃i:Nat,i≤21∧v=.int .i64 i∧Hid (∀j (hj:j<21),j<i→preB s.data.toList (signsL[j]'(by rw [sg_len];exact hj))=false)) (fun _ v=>21-(intOf v).toNat)
  case atStart=>exact⟨0,by omega,rfl,hH (fun j _ h=>absurd h (by omega))⟩
  case round =>
   obtain⟨i,hi,rfl,HI⟩:=hrel
   by_cases hlt:i<21
   ·obtain⟨x,hx⟩:∃x,x=signsL[i]'(by rw [sg_len];exact hlt):=⟨_,rfl⟩
    have ci:((w.alloc (.cells #[.int .i64 0,.string ⟨#[]⟩,.int .i64 0,.int .i64 0,.bool false] 72)).alloc (.cells sgA 9)).cell? ⟨w.heap.size+1,i,none⟩=some (.string (bs x)):=by
     rw [(Blk.new1 w _ 9 sgA).cell i,sgA_get i hlt,hx]
    have hxs:(bs x).size≤2∧0<(bs x).size:=by
     rw [←len_toList,bs_list,hx]
     exact⟨(show ∀y∈signsL,y.length≤2 by decide) _ (List.getElem_mem _),(show ∀y∈signsL,0<y.length by decide) _ (List.getElem_mem _)⟩
    have HXL:=hH (show ((bs x).size:Int)=(x.length:Nat) by rw [←len_toList,bs_list])
    obtain⟨hxs1,hxs2⟩:=hxs
    cases hp:preB s.data.toList x with
    | true =>
     have HE:=hH (show tokT s.data.toList=.ok (1,x,0,x.length) by
      rw [HE.out,find_from s.data.toList i hlt (by rw [←hx];exact hp) HI.out,hx])
     have HP:=hH (show preB s.data.toList (bs x).data.toList=true by rw [bs_list];exact hp)
     clear hp hx
     go_wp2_with (go_at_call 59;refine(hp_at _ _ _ _ HP).mono ?_;rintro e w' ⟨rfl,rfl⟩)
     rw [←HQ.out]
     exact bodyPost_ret (v:=.tuple #[.agg #[.int .i64 1,.string (bs x),.int .i64 0,.int .i64 0,.bool false],.int .i64 (bs x).size,.int .i64 0]) (by simp [results,Tryz.results35,go_sem]) rfl ⟨OneE.yes HE.out rfl HXL.out,bel_lit2⟩
    | false =>
     have HP:=hH (show preB s.data.toList (bs x).data.toList=false by rw [bs_list];exact hp)
     have HI:=hH (show ∀j (hj:j<21),j<i+1→preB s.data.toList (signsL[j]'(by rw [sg_len];exact hj))=false by
      intro j hj hji
      by_cases e:j=i
      ·subst e;rw [←hx];exact hp
      ·exact HI.out j hj (by omega))
     clear hp hx
     go_wp2_with (go_at_call 59;refine(hp_at _ _ _ _ HP).mono ?_;rintro e w' ⟨rfl,rfl⟩)
     go_round
     case rel=>exact⟨i+1,by omega,by go_num,HI⟩
     case measure=>simp [intOf] <;> omega
   ·have HE:=hH (show tokT s.data.toList=.error 3 by rw [HE.out,find_no s.data.toList (fun j hj=>HI.out j hj (by omega))])
    go_wp2
    rw [←HQ.out]
    exact bodyPost_ret (v:=.tuple #[.agg #[.int .i64 0,.string ⟨#[]⟩,.int .i64 0,.int .i64 0,.bool false],.int .i64 0,.int .i64 3]) (by simp [results,Tryz.results35,go_sem]) rfl ⟨OneE.no HE.out _ _ _ _,bel_lit2⟩
 ·have HE:=hH (show tokT s.data.toList=.ok (2,s.data.toList.take k,0,k) by rw [tokT_nam s h0 hc hd (by omega),hk])
  have HNL:=hH hk
  have hsz:s.size≤9223372036854775000:=by omega
  clear hc hd hq3 hk
  go_enter Tryz.func35, Tryz.ntmps35
  generalize hQ:bodyPost Tryz.prog Tryz.f35 (OneP s.data.toList w)=Q
  have HQ:=hH hQ;clear hQ
  go_wp2_with (first|(go_at_call 55;refine(qdig_at _ _ _ HDG).mono ?_;rintro e w' ⟨rfl,rfl⟩)|(go_at_call 57;refine(nameLen_at s k _ hsz HNL).mono ?_;rintro e w' ⟨rfl,rfl⟩))
  rw [←HQ.out]
  exact bodyPost_ret (v:=.tuple #[.agg #[.int .i64 2,.string (s.extract 0 k),.int .i64 0,.int .i64 0,.bool false],.int .i64 k,.int .i64 0]) (by simp [results,Tryz.results35,go_sem]) rfl ⟨OneE.yes HE.out (bs_of (ext_take s k)) rfl,bel_lit⟩
theorem one_any (s:ByteArray)(w:World)(hs:s.size≤1000000)(h0:0<s.size) :
  Calls Tryz.prog 35 #[.string s] w (OneP s.data.toList w):=by
 by_cases hc:s[0]=34∨s[0]=39
 ·exact one_str s w hs h0 hc
 ·by_cases hd:isDig s[0]=true∨s[0]=45
  ·exact one_num s w hs h0 hc hd
  ·exact one_nam s w hs h0 hc hd
end
/- qlex: Lex: memory and law, step by step. -/
section
open Go.RowKit
theorem tl_at (s r:ByteArray)(a g:Nat)(w:World)(_:a≤s.size)(hg:bkN (dr s a)=g)(hr:r=s.extract (a+g) s.size) :
  Calls Tryz.prog 34 #[.string (s.extract a s.size),.string ⟨#[32,9,10,13]⟩] w fun e w'=>e=.returned (.string r)∧Below w.heap.size w w':=by
 have:=tl_any (s.extract a s.size) w
 rw [ext_drop,show s.data.toList.drop a=dr s a from rfl,hg] at this
 refine this.mono ?_
 rintro e w' ⟨rfl,hb⟩
 refine⟨ret_str ?_,hb⟩
 rw [hr]
 exact(bs_of (by rw [ext_drop,ext_drop,List.drop_drop])).trans (bs_of (ext_drop s (a+g))).symm
end
/- qlex: Lex, walked. -/
section
open Go.RowKit
set_option maxRecDepth 100000
set_option maxHeartbeats 4000000
theorem lex_any (s:ByteArray)(w:World)(hs:s.size≤1000000) :
  Calls Tryz.prog 18 #[.string s] w (LexP s.data.toList w):=by
 by_cases hlong:4096<s.size
 ·have HE:=hH (lexL_long (l:=s.data.toList) (by rw [len_toList];exact hlong))
  go_enter Tryz.func18, Tryz.ntmps18
  generalize hQ:bodyPost Tryz.prog Tryz.f18 (LexP s.data.toList w)=Q
  have HQ:=hH hQ;clear hQ
  go_wp2
  rw [←HQ.out]
  exact bodyPost_ret (v:=.tuple #[.slice none 0 0,.agg #[.int .i64 4,.int .i64 0]]) (by simp [results,Tryz.results18,go_sem]) rfl (LexP.no HE.out bel_lit)
 ·have HL:=hH (show ¬4096<s.data.toList.length by rw [len_toList];exact hlong)
  have HX0:=hH (LX.start w)
  obtain⟨i0,hi,hz0,hz1,hz2'⟩:=info_parts info_tok
  go_enter Tryz.func18, Tryz.ntmps18
  generalize hQ:bodyPost Tryz.prog Tryz.f18 (LexP s.data.toList w)=Q
  have HQ:=hH hQ;clear hQ
  go_wp2
  go_loopg [4,5] s.size (fun k v x wr=>∃(a f:Nat) (toks:List TokD),k=s.size-a∧a≤s.size∧s.size<a+f∧toks.length≤a∧x=.int .i64 a∧Hid (lexF (s.data.toList.length+1) 0 s.data.toList=pref toks (lexF f a (dr s a)))∧Hid (LX w wr v toks))
  case atStart=>exact⟨0,s.size+1,[],by omega,by omega,by omega,by simp,rfl,hH (by rw [pref_nil,len_toList];rfl),HX0⟩
  case round =>
   clear HX0
   obtain⟨a,f,toks,hgk,ha,hf,htl,rfl,HF,HX⟩:=hrel
   have HGK:=hH hgk;clear hgk
   by_cases hlt:a<s.size
   ·obtain⟨g,hg⟩:∃g,bkN (dr s a)=g:=⟨_,rfl⟩
    have hgl:a+g≤s.size:=by have:=bkN_le (dr s a);rw [hg,dr,List.length_drop,len_toList] at this;omega
    obtain⟨r,hr⟩:∃r,r=s.extract (a+g) s.size:=⟨_,rfl⟩
    have hrz:(s.size:Int)-(r.size:Int)-(a:Int)=(g:Int):=by rw [hr];simp;omega
    have HRZ:=hH (show r.size=s.size-(a+g) by rw [hr];simp)
    have HTL:=hH (fun w=>tl_at s r a g w ha hg hr)
    have HRL:=hH (show r.data.toList=dr s (a+g) by rw [hr,ext_drop];rfl)
    have hrb:r.size≤s.size:=by have:=HRZ.out;omega
    obtain⟨f',rfl⟩:∃f',f=f'+1:=⟨f-1,by omega⟩
    have HG:=hH hg
    clear hr hg
    by_cases hbad:0<g∧(a=0∨s.size≤a+g)
    ·have HE:=hH (lexL_err HL.out (HF.out.trans (lex_gap (f:=f') (toks:=toks) hlt (by rw [HG.out];exact hbad.1) (by rw [HG.out];exact hbad.2))))
     obtain⟨hg0,hb2⟩:=hbad
     have hg0':(0:Int)<(g:Int):=by omega
     by_cases ha0:a=0
     ·have ha1:((a:Int)==0)=true:=by simp [ha0]
      clear ha0 hb2
      go_wp2_with (go_at_call 34;refine(HTL.out _).mono ?_;rintro e w1 ⟨rfl,hb⟩;have HX1:=hH (HX.out.bel (Bel.of hb));obtain⟨x1,⟨x2,x3⟩,x4,x5⟩:=HX1.out.1.two;clear hb)
      rw [←HQ.out]
      exact bodyPost_ret (v:=.tuple #[.slice none 0 0,.agg #[.int .i64 3,.int .i64 a]]) (by simp [results,Tryz.results18,go_sem,x2,x3]) rfl (LexP.no HE.out (HX1.out.stored _ _))
     ·have ha1:((a:Int)==0)=false:=by simp [ha0]
      have hre:=te_t (t:=r) (by have:=HRZ.out;omega)
      clear ha0 hb2
      go_wp2_with (go_at_call 34;refine(HTL.out _).mono ?_;rintro e w1 ⟨rfl,hb⟩;have HX1:=hH (HX.out.bel (Bel.of hb));obtain⟨x1,⟨x2,x3⟩,x4,x5⟩:=HX1.out.1.two;clear hb)
      rw [←HQ.out]
      exact bodyPost_ret (v:=.tuple #[.slice none 0 0,.agg #[.int .i64 3,.int .i64 a]]) (by simp [results,Tryz.results18,go_sem,x2,x3]) rfl (LexP.no HE.out (HX1.out.stored _ _))
    ·have hr0:0<r.size:=by have:=HRZ.out;omega
     have hre:=te_f hr0
     have hon:=fun w=>one_any r w (by omega) hr0
     rw [HRL.out] at hon
     unfold OneP OneE at hon
     have HBAD:=hH hbad
     have hgg:(g=0∧(decide ((0:Int)<(g:Int)))=false∧decide (0<g)=false)∨(0<g∧(decide ((0:Int)<(g:Int)))=true∧decide (0<g)=true∧((a:Int)==0)=false):=by
      rcases Nat.eq_zero_or_pos g with h|h
      ·exact .inl ⟨h,by simp [h],by simp [h]⟩
      ·exact .inr ⟨h,by simpa using h,by simpa using h,by simp;omega⟩
     clear hbad
     cases htk:tokT (dr s (a+g)) with
     | error e =>
      have HE:=hH (lexL_err HL.out (HF.out.trans (lex_err (f:=f') (toks:=toks) hlt HG.out HBAD.out htk)))
      rw [htk] at hon
      obtain⟨he0,he1⟩:=tokT_err htk
      clear htk
      rcases hgg with⟨-,hg1,hg1'⟩|⟨-,hg1,hg1',hg2⟩
      all_goals
       go_wp2_with (first|(go_at_call 34;refine(HTL.out _).mono ?_;rintro e w1 ⟨rfl,hb⟩;have HX1:=hH (HX.out.bel (Bel.of hb));clear hb)|(go_at_call 35;refine(hon _).mono ?_;rintro e w2 ⟨⟨k,st,nv,m,rfl⟩,hb⟩;have HX2:=hH (HX1.out.bel hb);obtain⟨x1,⟨x2,x3⟩,x4,x5⟩:=HX2.out.1.two;clear hb;unfold tokVV))
       rw [←HQ.out]
       exact bodyPost_ret (v:=.tuple #[.slice none 0 0,.agg #[.int .i64 e,.int .i64 ((a:Int)+(g:Int))]]) (by simp [results,Tryz.results18,go_sem,x1,x2,x3]) rfl (by rw [←Int.natCast_add];exact LexP.no HE.out ((HX2.out.stored _ _).alloc (by simp;omega) _))
     | ok kt =>
      obtain⟨k,t,v,n⟩:=kt
      have HF:=hH (HF.out.trans (lex_go (f:=f') (toks:=toks) hlt HG.out HBAD.out htk))
      obtain⟨hn0,hn1,_⟩:=tokT_ok _ _ _ _ _ htk
      rw [dr,List.length_drop,len_toList] at hn1
      rw [htk] at hon
      clear htk
      rcases hgg with⟨hg0,hg1,hg1'⟩|⟨hg0,hg1,hg1',hg2⟩
      ·have HGD:=hH (show decide (0<g)=false by simp;omega)
       clear hg0
       go_wp2_with (first
        | (go_at_call 34;refine(HTL.out _).mono ?_;rintro e w1 ⟨rfl,hb⟩;have HX1:=hH (HX.out.bel (Bel.of hb));clear hb)
        | (go_at_call 35;refine(hon _).mono ?_;rintro e w2 ⟨rfl,hb⟩;have HX2:=hH (HX1.out.bel hb);have hz2:=HX2.out.2.2.2;clear hb;unfold tokVV)
        | (at_builtin;refine wpList_append_any _ rfl (.tmp 61) (.tmp 63) 50 rfl (w.heap.size+1) 72 i0 _ 5 48 Tryz.underlying50 hi hz0 hz1 hz2' rfl (by decide) _ _ _ rfl (HX2.out.bel bel_lit2).2.1 (w2.heap.size+1+1) (some ⟨w2.heap.size+1,0,none⟩) 1 1 [.int .i64 k,.string (bs t),.int .i64 v,.int .i64 ((a:Int)+(g:Int)),.bool false] rfl (by have:=reads_new (w2.alloc (.cells #[.int .i64 k,.string (bs t),.int .i64 v,.int .i64 ((a:Int)+(g:Int)),.bool false] 72)) 72 5 1 [.int .i64 k,.string (bs t),.int .i64 v,.int .i64 ((a:Int)+(g:Int)),.bool false] rfl;simpa using this) (by simp [Value.oneCell']) (by unfold maxLen;omega) (by omega) (by simp;omega) ?_;intro v' w3 hown4 hg4 _;have HX3:Hid (LX w w3 v' (toks++[⟨k,t,v,a+g,false⟩])):=hH (LX.grown (HX2.out.bel bel_lit2) (by rw [show tokC ⟨k,t,v,a+g,false⟩=[.int .i64 k,.string (bs t),.int .i64 v,.int .i64 ((a:Int)+(g:Int)),.bool false] by unfold tokC;rw [Int.natCast_add]];exact hown4) hg4);clear hown4 hg4))
       have HF2:=hH (show lexF (s.data.toList.length+1) 0 s.data.toList=pref (toks++[⟨k,t,v,a+g,false⟩]) (lexF f' (a+g+n) (dr s (a+g+n))) by rw [HF.out,HGD.out])
       go_roundg (s.size-(a+g+n))
       case measure=>have:=HGK.out;simp;omega
       case rel=>exact⟨a+g+n,f',_,rfl,by omega,by omega,by simp;omega,by go_num,HF2,HX3⟩
      ·have HGD:=hH (show decide (0<g)=true by simp;omega)
       go_wp2_with (first
        | (go_at_call 34;refine(HTL.out _).mono ?_;rintro e w1 ⟨rfl,hb⟩;have HX1:=hH (HX.out.bel (Bel.of hb));clear hb)
        | (go_at_call 35;refine(hon _).mono ?_;rintro e w2 ⟨rfl,hb⟩;have HX2:=hH (HX1.out.bel hb);have hz2:=HX2.out.2.2.2;clear hb;unfold tokVV)
        | (at_builtin;refine wpList_append_any _ rfl (.tmp 61) (.tmp 63) 50 rfl (w.heap.size+1) 72 i0 _ 5 48 Tryz.underlying50 hi hz0 hz1 hz2' rfl (by decide) _ _ _ rfl (HX2.out.bel bel_lit2).2.1 (w2.heap.size+1+1) (some ⟨w2.heap.size+1,0,none⟩) 1 1 [.int .i64 k,.string (bs t),.int .i64 v,.int .i64 ((a:Int)+(g:Int)),.bool true] rfl (by have:=reads_new (w2.alloc (.cells #[.int .i64 k,.string (bs t),.int .i64 v,.int .i64 ((a:Int)+(g:Int)),.bool true] 72)) 72 5 1 [.int .i64 k,.string (bs t),.int .i64 v,.int .i64 ((a:Int)+(g:Int)),.bool true] rfl;simpa using this) (by simp [Value.oneCell']) (by unfold maxLen;omega) (by omega) (by simp;omega) ?_;intro v' w3 hown4 hg4 _;have HX3:Hid (LX w w3 v' (toks++[⟨k,t,v,a+g,true⟩])):=hH (LX.grown (HX2.out.bel bel_lit2) (by rw [show tokC ⟨k,t,v,a+g,true⟩=[.int .i64 k,.string (bs t),.int .i64 v,.int .i64 ((a:Int)+(g:Int)),.bool true] by unfold tokC;rw [Int.natCast_add]];exact hown4) hg4);clear hown4 hg4))
       have HF2:=hH (show lexF (s.data.toList.length+1) 0 s.data.toList=pref (toks++[⟨k,t,v,a+g,true⟩]) (lexF f' (a+g+n) (dr s (a+g+n))) by rw [HF.out,HGD.out])
       go_roundg (s.size-(a+g+n))
       case measure=>have:=HGK.out;simp;omega
       case rel=>exact⟨a+g+n,f',_,rfl,by omega,by omega,by simp;omega,by go_num,HF2,HX3⟩
   ·have HF:=hH (HF.out.trans (lex_stop (f:=f) (toks:=toks) (show s.size≤a by omega)))
    obtain⟨A,cap,hv,hcap,_⟩:=own_flat tokC 5 tokC_len wr _ _ _ _ toks HX.out.2.1 rfl
    subst hv
    obtain⟨x1,⟨x2,x3⟩,x4,x5⟩:=HX.out.1.two
    rcases Nat.eq_zero_or_pos toks.length with h0|h0
    ·have HE:=hH (lexL_nil HL.out (by rw [HF.out,List.eq_nil_of_length_eq_zero h0]))
     have h1:((toks.length:Int)==0)=true:=by simp [h0]
     clear h0
     go_wp2
     rw [←HQ.out]
     exact bodyPost_ret (v:=.tuple #[.slice none 0 0,.agg #[.int .i64 3,.int .i64 0]]) (by simp [results,Tryz.results18,go_sem,x2,x3]) rfl (LexP.no HE.out (HX.out.stored _ _))
    ·have HE:=hH (lexL_ok HL.out HF.out (by intro e;rw [e] at h0;simp at h0))
     have h1:((toks.length:Int)==0)=false:=by rw [beq_eq_false_iff_ne];omega
     go_wp2
     rw [←HQ.out]
     exact bodyPost_ret (v:=.tuple #[.slice A toks.length cap,.agg #[.int .i64 0,.int .i64 0]]) (by simp [results,Tryz.results18,go_sem,x2,x3]) rfl (LexP.yes HE.out (HX.out.store _ _) (HX.out.stored _ _))
end

end Go.Proofs.YtjbdcjcfijjiiaaGreatDoor
