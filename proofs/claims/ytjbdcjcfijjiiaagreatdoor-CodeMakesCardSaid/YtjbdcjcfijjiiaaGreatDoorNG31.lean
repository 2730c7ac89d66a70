/- NG31: Ue, Uf, Ug, Uh, Wb, Wc, Xa, Xb joined. -/
import Derived.Laws.BytesArg
import Derived.Handy
import Derived.Deep.RegionWith
import Derived.Test.YtjbdcjcfijjiiaaGreatDoorNG05
import Derived.Test.YtjbdcjcfijjiiaaGreatDoorNG04
namespace Go.Proofs.YtjbdcjcfijjiiaaGreatDoor
open Go.RowKit
/- qlex: what a token is told by; plain. -/
section
end
/- qlex: what a token is told by: numbers, signs; plain. -/
section
end
/- qlex: a token is told by its own bytes and what bounds it; plain. -/
section
end
/- qlex: what stands behind a blank changes no token ahead of it; plain. -/
section
theorem bkN_zero {u:List UInt8}(h:u.drop (bkN u)≠[]):bkN (u.drop (bkN u))=0:=by
 induction u with
 | nil=>rfl
 | cons c q ih =>
  by_cases hc:isBk c=true
  ·have e:bkN (c::q)=bkN q+1:=by rw [bkN,if_pos hc]
   rw [e,List.drop_succ_cons] at h ⊢
   exact ih h
  ·have e:bkN (c::q)=0:=by rw [bkN,if_neg hc]
   rw [e];exact e
theorem bkN_take (u:List UInt8):∀c∈u.take (bkN u),isBk c=true:=by
 induction u with
 | nil=>simp [bkN]
 | cons c q ih =>
  unfold bkN
  split
  ·rename_i hc
   intro d hd
   rw [List.take_succ_cons,List.mem_cons] at hd
   rcases hd with rfl|hd
   ·exact hc
   ·exact ih d hd
  ·simp
end
/- ref09: Put (as Ka, over A0). -/
section
open Go.RowKit
set_option maxHeartbeats 1000000
theorem conv_new (w:World)(xs:List Int)(n c:Nat)(t:TypeId)(m:Nat×Nat)(hn:xs.length=n) :
  (convert 136 9 (.slice (some ⟨w.heap.size,0,none⟩) n c)).run Tryz.prog (w.alloc (.cells (xs.map (Value.int .u8)).toArray t m))=.ok (.string (strOfNums xs)) (w.alloc (.cells (xs.map (Value.int .u8)).toArray t m)) :=
 run_convert_bytes_arg (P:=Tryz.prog) _ 136 5 Tryz.underlying136 Tryz.underlying5 w.heap.size 0 n c xs hn (fun i hi=>by
  rw [Nat.zero_add,World.cell?_alloc_mark]
  simp [List.getD,List.getElem?_eq_getElem (show i<xs.length by omega)]) 9 Tryz.underlying9
theorem conv_1 (w:World)(a:Int):(convert 136 9 (.slice (some ⟨w.heap.size,0,none⟩) 1 1)).run Tryz.prog (w.alloc (.cells #[.int .u8 a] 5))=.ok (.string (strOfNums [a])) (w.alloc (.cells #[.int .u8 a] 5)):=conv_new w [a] 1 1 _ _ rfl
theorem conv_2 (w:World)(a b:Int):(convert 136 9 (.slice (some ⟨w.heap.size,0,none⟩) 2 2)).run Tryz.prog (w.alloc (.cells #[.int .u8 a,.int .u8 b] 5))=.ok (.string (strOfNums [a,b])) (w.alloc (.cells #[.int .u8 a,.int .u8 b] 5)):=conv_new w [a,b] 2 2 _ _ rfl
theorem conv_3 (w:World)(a b c:Int):(convert 136 9 (.slice (some ⟨w.heap.size,0,none⟩) 3 3)).run Tryz.prog (w.alloc (.cells #[.int .u8 a,.int .u8 b,.int .u8 c] 5))=.ok (.string (strOfNums [a,b,c])) (w.alloc (.cells #[.int .u8 a,.int .u8 b,.int .u8 c] 5)):=conv_new w [a,b,c] 3 3 _ _ rfl
theorem conv_4 (w:World)(a b c d:Int):(convert 136 9 (.slice (some ⟨w.heap.size,0,none⟩) 4 4)).run Tryz.prog (w.alloc (.cells #[.int .u8 a,.int .u8 b,.int .u8 c,.int .u8 d] 5))=.ok (.string (strOfNums [a,b,c,d])) (w.alloc (.cells #[.int .u8 a,.int .u8 b,.int .u8 c,.int .u8 d] 5)):=conv_new w [a,b,c,d] 4 4 _ _ rfl
theorem put_any (c:Int)(w:World)(h0:0≤c)(h1:c<2097152) :
  Calls Tryz.prog 65 #[.int .i64 c] w fun e w'=>e=.returned (.string (strOfNums (putI c)))∧Below w.heap.size w w':=by
 have k1:=conv_1;have k2:=conv_2;have k3:=conv_3;have k4:=conv_4
 by_cases hb:c<0∨1114111<c∨(55296≤c∧c≤57343)
 ·have e:=hH (show strOfNums (putI c)=⟨#[]⟩ by rw [putI,if_pos hb];rfl)
  rcases hb with hb|hb|⟨hb,hb'⟩
  ·omega
  all_goals
   go_enter Tryz.func65, Tryz.ntmps65
   go_wp2
   go_ret
   exact⟨ret_str (by rw [e.out]),Below.refl _ _⟩
 ·have e:=hH (show putI c=_ by rw [putI,if_neg hb])
  have g1:c≤1114111:=by omega
  by_cases g2:c<55296
  ·clear hb
   by_cases h2:c<128
   ·have e:=hH (show putI c=_ from e.out.trans (if_pos h2))
    go_enter Tryz.func65, Tryz.ntmps65
    go_wp2
    go_ret
    exact⟨ret_str (by rw [e.out]),(Below.refl _ _).alloc (Nat.le_refl _) _⟩
   ·have e:=hH (show putI c=_ from e.out.trans (if_neg h2))
    by_cases h3:c<2048
    ·have e:=hH (show putI c=_ from e.out.trans (if_pos h3))
     go_enter Tryz.func65, Tryz.ntmps65
     go_wp2
     go_ret
     exact⟨ret_str (by rw [e.out]),(Below.refl _ _).alloc (Nat.le_refl _) _⟩
    ·have e:=hH (show putI c=_ from e.out.trans (if_neg h3))
     have e:=hH (show putI c=_ from e.out.trans (if_pos (by omega)))
     go_enter Tryz.func65, Tryz.ntmps65
     go_wp2
     go_ret
     exact⟨ret_str (by rw [e.out]),(Below.refl _ _).alloc (Nat.le_refl _) _⟩
  ·have g3:57343<c:=by omega
   clear hb
   have e:=hH (show putI c=_ from e.out.trans (if_neg (by omega)))
   have e:=hH (show putI c=_ from e.out.trans (if_neg (by omega)))
   by_cases h4:c<65536
   ·have e:=hH (show putI c=_ from e.out.trans (if_pos h4))
    go_enter Tryz.func65, Tryz.ntmps65
    go_wp2
    go_ret
    exact⟨ret_str (by rw [e.out]),(Below.refl _ _).alloc (Nat.le_refl _) _⟩
   ·have e:=hH (show putI c=_ from e.out.trans (if_neg h4))
    go_enter Tryz.func65, Tryz.ntmps65
    go_wp2
    go_ret
    exact⟨ret_str (by rw [e.out]),(Below.refl _ _).alloc (Nat.le_refl _) _⟩
end
/- ref09: Scalar (as Kb, over A0). -/
section
open Go.RowKit
set_option maxRecDepth 100000
set_option maxHeartbeats 1000000
def cd2 (a b:Int):Int:=(a-192)*64+b % 64
def cd3 (a b c:Int):Int:=((a-224)*64+b % 64)*64+c % 64
def cd4 (a b c d:Int):Int:=(((a-240)*64+b % 64)*64+c % 64)*64+d % 64
theorem str_iff (a b:ByteArray):((a.toList==b.toList)=true)↔a=b:=⟨fun h=>Classical.byContradiction (fun h'=>by rw [str_f h'] at h;exact Bool.noConfusion h),str_t⟩
def SCAL (s:ByteArray)(w:World)(r:Int×Int):Prop :=
  Calls Tryz.prog 66 #[.string s] w fun e w'=>e=.returned (.tuple #[.int .i64 r.1,.int .i64 r.2])∧Below w.heap.size w w'
theorem scal0 (s:ByteArray)(w:World)(_hs:s.size≤maxLen)(hl:s.size=0):SCAL s w (0,0):=by
 unfold SCAL
 go_enter Tryz.func66, Tryz.ntmps66
 go_wp2
 go_ret2
 exact⟨rfl,Below.refl _ _⟩
theorem scal1 (s:ByteArray)(w:World)(_hs:s.size≤maxLen)(hl:0<s.size)(h1:(s[0].toNat:Int)<128):SCAL s w ((s[0].toNat:Int),1):=by
 unfold SCAL
 go_enter Tryz.func66, Tryz.ntmps66
 go_wp2
 go_ret2
 exact⟨rfl,Below.refl _ _⟩
theorem scalm (s:ByteArray)(w:World)(_hs:s.size≤maxLen)(hl:0<s.size)(h1:128≤(s[0].toNat:Int))(h2:(s[0].toNat:Int)<192):SCAL s w (0,0):=by
 unfold SCAL
 go_enter Tryz.func66, Tryz.ntmps66
 go_wp2
 go_ret2
 exact⟨rfl,Below.refl _ _⟩
theorem scalh (s:ByteArray)(w:World)(_hs:s.size≤maxLen)(hl:0<s.size)(h1:248≤(s[0].toNat:Int)):SCAL s w (0,0):=by
 unfold SCAL
 go_enter Tryz.func66, Tryz.ntmps66
 go_wp2
 go_ret2
 exact⟨rfl,Below.refl _ _⟩
theorem scals2 (s:ByteArray)(w:World)(hs:s.size≤maxLen)(hl:0<s.size)(hl':s.size<2)(h1:192≤(s[0].toNat:Int))(h2:(s[0].toNat:Int)<224):SCAL s w (0,0):=by
 unfold SCAL
 unfold maxLen at hs
 go_enter Tryz.func66, Tryz.ntmps66
 go_wp2
 go_ret2
 exact⟨rfl,Below.refl _ _⟩
theorem scal2 (s:ByteArray)(w:World)(hs:s.size≤maxLen)(hl:2≤s.size)(h1:192≤(s[0].toNat:Int))(h2:(s[0].toNat:Int)<224) :
  ∃b:Bool,(b=true↔strOfNums (putI (cd2 (s[0].toNat:Int) (s[1].toNat:Int)))=s.extract 0 2)∧SCAL s w (cond b ((cd2 (s[0].toNat:Int) (s[1].toNat:Int)),2) (0,0)):=by
 unfold SCAL
 unfold maxLen at hs
 have hb1:(s[1].toNat:Int)<256:=by have:=s[1].toNat_lt;omega
 refine⟨(strOfNums (putI (cd2 (s[0].toNat:Int) (s[1].toNat:Int)))).toList==(s.extract 0 2).toList,str_iff _ _,?_⟩
 obtain⟨bb,hbb⟩:∃bb,((strOfNums (putI (cd2 (s[0].toNat:Int) (s[1].toNat:Int)))).toList==(s.extract 0 2).toList)=bb:=⟨_,rfl⟩
 rw [hbb]
 unfold cd2 at *
 go_enter Tryz.func66, Tryz.ntmps66
 go_wp2
 go_rounds 2
 go_region_with (go_at_call 65;refine(put_any _ _ (by omega) (by omega)).mono ?_;rintro e w' ⟨rfl,hbw⟩)
 cases bb
 all_goals
  go_wp2
  go_ret2
  exact⟨rfl,((Below.refl _ _).drew).trans hbw⟩
theorem scals3 (s:ByteArray)(w:World)(hs:s.size≤maxLen)(hl:0<s.size)(hl':s.size<3)(h1:224≤(s[0].toNat:Int))(h2:(s[0].toNat:Int)<240):SCAL s w (0,0):=by
 unfold SCAL
 unfold maxLen at hs
 go_enter Tryz.func66, Tryz.ntmps66
 go_wp2
 go_ret2
 exact⟨rfl,Below.refl _ _⟩
theorem scal3 (s:ByteArray)(w:World)(hs:s.size≤maxLen)(hl:3≤s.size)(h1:224≤(s[0].toNat:Int))(h2:(s[0].toNat:Int)<240) :
  ∃b:Bool,(b=true↔strOfNums (putI (cd3 (s[0].toNat:Int) (s[1].toNat:Int) (s[2].toNat:Int)))=s.extract 0 3)∧SCAL s w (cond b ((cd3 (s[0].toNat:Int) (s[1].toNat:Int) (s[2].toNat:Int)),3) (0,0)):=by
 unfold SCAL
 unfold maxLen at hs
 have hb1:(s[1].toNat:Int)<256:=by have:=s[1].toNat_lt;omega
 have hb2:(s[2].toNat:Int)<256:=by have:=s[2].toNat_lt;omega
 refine⟨(strOfNums (putI (cd3 (s[0].toNat:Int) (s[1].toNat:Int) (s[2].toNat:Int)))).toList==(s.extract 0 3).toList,str_iff _ _,?_⟩
 obtain⟨bb,hbb⟩:∃bb,((strOfNums (putI (cd3 (s[0].toNat:Int) (s[1].toNat:Int) (s[2].toNat:Int)))).toList==(s.extract 0 3).toList)=bb:=⟨_,rfl⟩
 rw [hbb]
 unfold cd3 at *
 go_enter Tryz.func66, Tryz.ntmps66
 go_wp2
 go_rounds 3
 go_region_with (go_at_call 65;refine(put_any _ _ (by omega) (by omega)).mono ?_;rintro e w' ⟨rfl,hbw⟩)
 cases bb
 all_goals
  go_wp2
  go_ret2
  exact⟨rfl,((Below.refl _ _).drew).trans hbw⟩
theorem scals4 (s:ByteArray)(w:World)(hs:s.size≤maxLen)(hl:0<s.size)(hl':s.size<4)(h1:240≤(s[0].toNat:Int))(h2:(s[0].toNat:Int)<248):SCAL s w (0,0):=by
 unfold SCAL
 unfold maxLen at hs
 go_enter Tryz.func66, Tryz.ntmps66
 go_wp2
 go_ret2
 exact⟨rfl,Below.refl _ _⟩
theorem scal4 (s:ByteArray)(w:World)(hs:s.size≤maxLen)(hl:4≤s.size)(h1:240≤(s[0].toNat:Int))(h2:(s[0].toNat:Int)<248) :
  ∃b:Bool,(b=true↔strOfNums (putI (cd4 (s[0].toNat:Int) (s[1].toNat:Int) (s[2].toNat:Int) (s[3].toNat:Int)))=s.extract 0 4)∧SCAL s w (cond b ((cd4 (s[0].toNat:Int) (s[1].toNat:Int) (s[2].toNat:Int) (s[3].toNat:Int)),4) (0,0)):=by
 unfold SCAL
 unfold maxLen at hs
 have hb1:(s[1].toNat:Int)<256:=by have:=s[1].toNat_lt;omega
 have hb2:(s[2].toNat:Int)<256:=by have:=s[2].toNat_lt;omega
 have hb3:(s[3].toNat:Int)<256:=by have:=s[3].toNat_lt;omega
 refine⟨(strOfNums (putI (cd4 (s[0].toNat:Int) (s[1].toNat:Int) (s[2].toNat:Int) (s[3].toNat:Int)))).toList==(s.extract 0 4).toList,str_iff _ _,?_⟩
 obtain⟨bb,hbb⟩:∃bb,((strOfNums (putI (cd4 (s[0].toNat:Int) (s[1].toNat:Int) (s[2].toNat:Int) (s[3].toNat:Int)))).toList==(s.extract 0 4).toList)=bb:=⟨_,rfl⟩
 rw [hbb]
 unfold cd4 at *
 go_enter Tryz.func66, Tryz.ntmps66
 go_wp2
 go_rounds 4
 go_region_with (go_at_call 65;refine(put_any _ _ (by omega) (by omega)).mono ?_;rintro e w' ⟨rfl,hbw⟩)
 cases bb
 all_goals
  go_wp2
  go_ret2
  exact⟨rfl,((Below.refl _ _).drew).trans hbw⟩
def bI (s:ByteArray)(i:Nat):Int:=((s.data.toList.getD i 0).toNat:Int)
theorem bI_eq (s:ByteArray)(i:Nat)(h:i<s.size):((s[i]).toNat:Int)=bI s i:=by
 have e:s.data.toList[i]? = some s[i]:=by
  rw [List.getElem?_eq_getElem (by simpa using h)];rfl
 simp [bI,List.getD,e]
def code2 (s:ByteArray):Int:=cd2 (bI s 0) (bI s 1)
def code3 (s:ByteArray):Int:=cd3 (bI s 0) (bI s 1) (bI s 2)
def code4 (s:ByteArray):Int:=cd4 (bI s 0) (bI s 1) (bI s 2) (bI s 3)
def scalM (s:ByteArray):Int×Int :=
 if s.size=0 then (0,0) else if bI s 0<128 then (bI s 0,1) else if bI s 0<192 then (0,0)
 else if bI s 0<224 then (if s.size<2 then (0,0) else if strOfNums (putI (code2 s))=s.extract 0 2 then (code2 s,2) else (0,0))
 else if bI s 0<240 then (if s.size<3 then (0,0) else if strOfNums (putI (code3 s))=s.extract 0 3 then (code3 s,3) else (0,0))
 else if bI s 0<248 then (if s.size<4 then (0,0) else if strOfNums (putI (code4 s))=s.extract 0 4 then (code4 s,4) else (0,0))
 else (0,0)
theorem scal_any (s:ByteArray)(w:World)(hs:s.size≤maxLen):SCAL s w (scalM s):=by
 unfold scalM code2 code3 code4
 by_cases h0:s.size=0
 ·rw [if_pos h0];exact scal0 s w hs h0
 ·rw [if_neg h0]
  have hl:0<s.size:=by omega
  have e0:=bI_eq s 0 hl
  by_cases h1:bI s 0<128
  ·rw [if_pos h1,←e0];exact scal1 s w hs hl (by omega)
  ·rw [if_neg h1]
   by_cases h2:bI s 0<192
   ·rw [if_pos h2];exact scalm s w hs hl (by omega) (by omega)
   ·rw [if_neg h2]
    by_cases h3:bI s 0<224
    ·rw [if_pos h3]
     by_cases hn:s.size<2
     ·rw [if_pos hn];exact scals2 s w hs hl hn (by omega) (by omega)
     ·rw [if_neg hn]
      obtain⟨b,hb,h⟩:=scal2 s w hs (by omega) (by omega) (by omega)
      rw [e0,bI_eq s 1 (by omega)] at h hb
      cases b
      ·rw [if_neg (fun e=>absurd (hb.2 e) (by decide))];exact h
      ·rw [if_pos (hb.1 rfl)];exact h
    ·rw [if_neg h3]
     by_cases h4:bI s 0<240
     ·rw [if_pos h4]
      by_cases hn:s.size<3
      ·rw [if_pos hn];exact scals3 s w hs hl hn (by omega) (by omega)
      ·rw [if_neg hn]
       obtain⟨b,hb,h⟩:=scal3 s w hs (by omega) (by omega) (by omega)
       rw [e0,bI_eq s 1 (by omega),bI_eq s 2 (by omega)] at h hb
       cases b
       ·rw [if_neg (fun e=>absurd (hb.2 e) (by decide))];exact h
       ·rw [if_pos (hb.1 rfl)];exact h
     ·rw [if_neg h4]
      by_cases h5:bI s 0<248
      ·rw [if_pos h5]
       by_cases hn:s.size<4
       ·rw [if_pos hn];exact scals4 s w hs hl hn (by omega) (by omega)
       ·rw [if_neg hn]
        obtain⟨b,hb,h⟩:=scal4 s w hs (by omega) (by omega) (by omega)
        rw [e0,bI_eq s 1 (by omega),bI_eq s 2 (by omega),bI_eq s 3 (by omega)] at h hb
        cases b
        ·rw [if_neg (fun e=>absurd (hb.2 e) (by decide))];exact h
        ·rw [if_pos (hb.1 rfl)];exact h
      ·rw [if_neg h5];exact scalh s w hs hl (by omega)
end
/- ref09's Scalar and Put in the words of the ranges; plain. -/
section
open Go.RowKit
theorem u8_of (x:Int)(a:UInt8)(h:0≤x)(h':x<256):UInt8.ofNat x.toNat=a↔x=(a.toNat:Int):=by
 rw [←UInt8.toNat_inj]
 simp
 omega
theorem str_ext {xs:List Int}{s:ByteArray}{n:Nat}:strOfNums xs=s.extract 0 n↔(xs.map fun x=>UInt8.ofNat x.toNat)=s.data.toList.take n:=by
 rw [←strOfNums_data,←ext_take]
 constructor
 ·intro h;rw [h]
 ·intro h;exact(bs_of h).trans (bs_of rfl).symm
theorem bI_bs (l:List UInt8)(i:Nat):bI (bs l) i=((l.getD i 0).toNat:Int):=by unfold bI;rw [bs_list]
theorem sz_bs (l:List UInt8):(bs l).size=l.length:=by rw [←len_toList,bs_list]
theorem put2 (a b:UInt8)(r:List UInt8)(h1:192≤(a.toNat:Int))(h2:(a.toNat:Int)<224) :
  strOfNums (putI (cd2 (a.toNat:Int) (b.toNat:Int)))=(bs (a::b::r)).extract 0 2↔(194≤(a.toNat:Int)∧128≤(b.toNat:Int)∧(b.toNat:Int)≤191):=by
 have hb:=b.toNat_lt
 rw [str_ext,bs_list]
 unfold putI cd2
 rw [if_neg (by omega)]
 by_cases h3:((a.toNat:Int)-192)*64+(b.toNat:Int) % 64<128
 ·rw [if_pos h3]
  constructor
  ·intro h;have:=congrArg List.length h;simp at this
  ·intro h;omega
 ·rw [if_neg h3,if_pos (by omega)]
  simp only [List.map_cons,List.map_nil,List.take_succ_cons,List.take_zero,List.cons.injEq,and_true]
  rw [u8_of _ _ (by omega) (by omega),u8_of _ _ (by omega) (by omega)]
  constructor
  ·intro h;omega
  ·intro h;omega
theorem put3 (a b c:UInt8)(r:List UInt8)(h1:224≤(a.toNat:Int))(h2:(a.toNat:Int)<240) :
  strOfNums (putI (cd3 (a.toNat:Int) (b.toNat:Int) (c.toNat:Int)))=(bs (a::b::c::r)).extract 0 3↔
  ((if (a.toNat:Int)=224 then 160 else 128)≤(b.toNat:Int)∧(b.toNat:Int)≤(if (a.toNat:Int)=237 then 159 else 191)∧128≤(c.toNat:Int)∧(c.toNat:Int)≤191):=by
 have hb:=b.toNat_lt
 have hc:=c.toNat_lt
 rw [str_ext,bs_list]
 unfold putI cd3
 obtain⟨v,hv⟩:∃v,(((a.toNat:Int)-224)*64+(b.toNat:Int) % 64)*64+(c.toNat:Int) % 64=v:=⟨_,rfl⟩
 rw [hv]
 by_cases h3:v<0∨1114111<v∨(55296≤v∧v≤57343)
 ·rw [if_pos h3]
  constructor
  ·intro h;have:=congrArg List.length h;simp at this
  ·intro h;exfalso;have k1:=h.1;have k2:=h.2.1;split at k1 <;> split at k2 <;> omega
 ·rw [if_neg h3]
  by_cases h4:v<128
  ·rw [if_pos h4]
   constructor
   ·intro h;have:=congrArg List.length h;simp at this
   ·intro h;exfalso;have k1:=h.1;have k2:=h.2.1;split at k1 <;> split at k2 <;> omega
  ·rw [if_neg h4]
   by_cases h5:v<2048
   ·rw [if_pos h5]
    constructor
    ·intro h;have:=congrArg List.length h;simp at this
    ·intro h;exfalso;have k1:=h.1;have k2:=h.2.1;split at k1 <;> split at k2 <;> omega
   ·rw [if_neg h5,if_pos (by omega)]
    simp only [List.map_cons,List.map_nil,List.take_succ_cons,List.take_zero,List.cons.injEq,and_true]
    rw [u8_of _ _ (by omega) (by omega),u8_of _ _ (by omega) (by omega),u8_of _ _ (by omega) (by omega)]
    constructor
    ·intro h
     refine⟨?_,?_,by omega,by omega⟩
     ·split <;> omega
     ·split <;> omega
    ·intro h;have k1:=h.1;have k2:=h.2.1
     split at k1 <;> split at k2 <;> omega
theorem put4 (a b c d:UInt8)(r:List UInt8)(h1:240≤(a.toNat:Int))(h2:(a.toNat:Int)<248) :
  strOfNums (putI (cd4 (a.toNat:Int) (b.toNat:Int) (c.toNat:Int) (d.toNat:Int)))=(bs (a::b::c::d::r)).extract 0 4↔
  ((a.toNat:Int)≤244∧(if (a.toNat:Int)=240 then 144 else 128)≤(b.toNat:Int)∧(b.toNat:Int)≤(if (a.toNat:Int)=244 then 143 else 191)∧128≤(c.toNat:Int)∧(c.toNat:Int)≤191∧128≤(d.toNat:Int)∧(d.toNat:Int)≤191):=by
 have hb:=b.toNat_lt
 have hc:=c.toNat_lt
 have hd:=d.toNat_lt
 rw [str_ext,bs_list]
 unfold putI cd4
 obtain⟨v,hv⟩:∃v,((((a.toNat:Int)-240)*64+(b.toNat:Int) % 64)*64+(c.toNat:Int) % 64)*64+(d.toNat:Int) % 64=v:=⟨_,rfl⟩
 rw [hv]
 by_cases h3:v<0∨1114111<v∨(55296≤v∧v≤57343)
 ·rw [if_pos h3]
  constructor
  ·intro h;have:=congrArg List.length h;simp at this
  ·intro h;exfalso;have k1:=h.2.1;have k2:=h.2.2.1;split at k1 <;> split at k2 <;> omega
 ·rw [if_neg h3]
  by_cases h4:v<65536
  ·constructor
   ·intro h
    exfalso
    have:=congrArg List.length h
    simp only [List.length_map,List.length_take,List.length_cons] at this
    revert this
    (repeat' split) <;> simp <;> omega
   ·intro h;exfalso;have k1:=h.2.1;have k2:=h.2.2.1;split at k1 <;> split at k2 <;> omega
  ·rw [if_neg (by omega),if_neg (by omega),if_neg h4]
   simp only [List.map_cons,List.map_nil,List.take_succ_cons,List.take_zero,List.cons.injEq,and_true]
   rw [u8_of _ _ (by omega) (by omega),u8_of _ _ (by omega) (by omega),u8_of _ _ (by omega) (by omega),u8_of _ _ (by omega) (by omega)]
   constructor
   ·intro h
    refine⟨by omega,?_,?_,by omega,by omega,by omega,by omega⟩
    ·split <;> omega
    ·split <;> omega
   ·intro h;have k1:=h.2.1;have k2:=h.2.2.1
    split at k1 <;> split at k2 <;> omega
theorem scalM_V (s:ByteArray):scalM s=scalV s.data.toList:=by
 obtain⟨l,hl⟩:∃l,s.data.toList=l:=⟨_,rfl⟩
 obtain rfl:s=bs l:=bs_of hl
 rw [bs_list]
 unfold scalM code2 code3 code4
 simp only [bI_bs,sz_bs]
 match l with
 | []=>rfl
 | a::l =>
  have ha:=a.toNat_lt
  rw [if_neg (by simp)]
  unfold scalV
  simp only [List.getD_cons_zero]
  by_cases h1:(a.toNat:Int)<128
  ·rw [if_pos h1,if_pos h1]
  ·rw [if_neg h1,if_neg h1]
   by_cases h2:(a.toNat:Int)<192
   ·rw [if_pos h2,if_neg (by omega),if_neg (by omega),if_neg (by omega)]
   ·rw [if_neg h2]
    by_cases h3:(a.toNat:Int)<224
    ·rw [if_pos h3]
     match l with
     | [] =>
      rw [if_pos (by simp)]
      (repeat' split) <;> first|rfl|(exfalso;simp_all;done)|omega
     | b::r =>
      rw [if_neg (by simp)]
      simp only [List.getD_cons_succ,List.getD_cons_zero]
      by_cases hC:194≤(a.toNat:Int)∧128≤(b.toNat:Int)∧(b.toNat:Int)≤191
      ·rw [if_pos ((put2 a b r (by omega) h3).2 hC),if_pos (show 194≤(a.toNat:Int)∧(a.toNat:Int)≤223 by omega),if_pos (show 128≤(b.toNat:Int)∧(b.toNat:Int)≤191 by omega)]
       unfold cd2
       rw [show (b.toNat:Int) % 64=(b.toNat:Int)-128 by omega]
      ·rw [if_neg (fun h=>hC ((put2 a b r (by omega) h3).1 h))]
       by_cases h4:194≤(a.toNat:Int)∧(a.toNat:Int)≤223
       ·rw [if_pos h4,if_neg (by omega)]
       ·rw [if_neg h4,if_neg (by omega),if_neg (by omega)]
    ·rw [if_neg h3]
     rw [if_neg (show ¬(194≤(a.toNat:Int)∧(a.toNat:Int)≤223) by omega)]
     by_cases h4:(a.toNat:Int)<240
     ·rw [if_pos h4,if_pos (show 224≤(a.toNat:Int)∧(a.toNat:Int)≤239 by omega)]
      match l with
      | []=>rw [if_pos (by simp)]
      | [_]=>rw [if_pos (by simp)]
      | b::c::r =>
       rw [if_neg (by simp)]
       simp only [List.getD_cons_succ,List.getD_cons_zero]
       by_cases hC:(if (a.toNat:Int)=224 then 160 else 128)≤(b.toNat:Int)∧(b.toNat:Int)≤(if (a.toNat:Int)=237 then 159 else 191)∧128≤(c.toNat:Int)∧(c.toNat:Int)≤191
       ·rw [if_pos ((put3 a b c r (by omega) h4).2 hC),if_pos hC]
        unfold cd3
        have k1:=hC.1
        have k2:=hC.2.1
        have e1:(b.toNat:Int) % 64=(b.toNat:Int)-128:=by split at k1 <;> split at k2 <;> omega
        have e2:(c.toNat:Int) % 64=(c.toNat:Int)-128:=by omega
        rw [e1,e2]
       ·rw [if_neg (fun h=>hC ((put3 a b c r (by omega) h4).1 h)),if_neg hC]
     ·rw [if_neg h4,if_neg (show ¬(224≤(a.toNat:Int)∧(a.toNat:Int)≤239) by omega)]
      by_cases h5:(a.toNat:Int)<248
      ·rw [if_pos h5]
       match l with
       | []=>rw [if_pos (by simp)];(repeat' split) <;> first|rfl|(exfalso;simp_all;done)
       | [_]=>rw [if_pos (by simp)];(repeat' split) <;> first|rfl|(exfalso;simp_all;done)
       | [_,_]=>rw [if_pos (by simp)];(repeat' split) <;> first|rfl|(exfalso;simp_all;done)
       | b::c::d::r =>
        rw [if_neg (by simp)]
        simp only [List.getD_cons_succ,List.getD_cons_zero]
        by_cases hC:(a.toNat:Int)≤244∧(if (a.toNat:Int)=240 then 144 else 128)≤(b.toNat:Int)∧(b.toNat:Int)≤(if (a.toNat:Int)=244 then 143 else 191)∧128≤(c.toNat:Int)∧(c.toNat:Int)≤191∧128≤(d.toNat:Int)∧(d.toNat:Int)≤191
        ·rw [if_pos ((put4 a b c d r (by omega) h5).2 hC),if_pos (show 240≤(a.toNat:Int)∧(a.toNat:Int)≤244 by omega),if_pos hC.2]
         unfold cd4
         have k1:=hC.2.1
         have k2:=hC.2.2.1
         have e1:(b.toNat:Int) % 64=(b.toNat:Int)-128:=by split at k1 <;> split at k2 <;> omega
         have e2:(c.toNat:Int) % 64=(c.toNat:Int)-128:=by omega
         have e3:(d.toNat:Int) % 64=(d.toNat:Int)-128:=by omega
         rw [e1,e2,e3]
        ·rw [if_neg (fun h=>hC ((put4 a b c d r (by omega) h5).1 h))]
         by_cases h6:240≤(a.toNat:Int)∧(a.toNat:Int)≤244
         ·rw [if_pos h6,if_neg (fun h=>hC ⟨h6.2,h⟩)]
         ·rw [if_neg h6]
      ·rw [if_neg h5,if_neg (by omega)]
theorem rscal_at (s:ByteArray)(c n:Int)(w:World)(hs:s.size≤maxLen)(h:Hid (scalV s.data.toList=(c,n))) :
  Calls Tryz.prog 66 #[.string s] w fun e w'=>e=.returned (.tuple #[.int .i64 c,.int .i64 n])∧Below w.heap.size w w':=by
 have:=scal_any s w hs
 unfold SCAL at this
 rw [scalM_V,h.out] at this;exact this
theorem rput_at (c:Int)(w:World)(h:okS c) :
  Calls Tryz.prog 65 #[.int .i64 c] w fun e w'=>e=.returned (.string (bs (putV c)))∧Below w.heap.size w w':=by
 have h':=h
 unfold okS at h'
 rw [←put_val c h];exact put_any c w h'.1 (by omega)
theorem scalV_z (l:List UInt8)(h:(scalV l).2=0):scalV l=(0,0):=by
 have key:∀x:Int×Int,(x=(0,0)∨x.2≠0)→x.2=0→x=(0,0):=fun x h1 h2=>h1.resolve_right (fun h3=>h3 h2)
 refine key _ ?_ h
 clear h
 cases l with
 | nil=>exact .inl rfl
 | cons b0 r =>
  unfold scalV
  simp only
  (repeat' split) <;> first|exact .inl rfl|exact .inr (by simp)
end
/- ref16: hex, unit. -/
section
open Go.RowKit
set_option maxRecDepth 100000
set_option maxHeartbeats 2000000
theorem hexI (c:UInt8):uval (hexV c)=if 48≤(c.toNat:Int)∧(c.toNat:Int)≤57 then (c.toNat:Int)-48 else if 97≤(c.toNat:Int)∧(c.toNat:Int)≤102 then (c.toNat:Int)-87 else if 65≤(c.toNat:Int)∧(c.toNat:Int)≤70 then (c.toNat:Int)-55 else -1:=by
 unfold hexV uval
 by_cases h1:48≤c.toNat∧c.toNat≤57
 ·rw [if_pos h1,if_pos (show (48≤(c.toNat:Int)∧(c.toNat:Int)≤57) by omega)];rfl
 ·rw [if_neg h1,if_neg (show ¬(48≤(c.toNat:Int)∧(c.toNat:Int)≤57) by omega)]
  by_cases h2:97≤c.toNat∧c.toNat≤102
  ·rw [if_pos h2,if_pos (show (97≤(c.toNat:Int)∧(c.toNat:Int)≤102) by omega)];rfl
  ·rw [if_neg h2,if_neg (show ¬(97≤(c.toNat:Int)∧(c.toNat:Int)≤102) by omega)]
   by_cases h3:65≤c.toNat∧c.toNat≤70
   ·rw [if_pos h3,if_pos (show (65≤(c.toNat:Int)∧(c.toNat:Int)≤70) by omega)];rfl
   ·rw [if_neg h3,if_neg (show ¬(65≤(c.toNat:Int)∧(c.toNat:Int)≤70) by omega)];rfl
theorem uval_bd (c:UInt8) : -1≤uval (hexV c)∧uval (hexV c)<16:=by
 rw [hexI];(repeat' split) <;> omega
theorem rhex_any (c:UInt8)(w:World) :
  Calls Tryz.prog 100 #[.int .u8 (c.toNat:Int)] w fun e w'=>e=.returned (.int .i64 (uval (hexV c)))∧w=w':=by
 have hc:=c.toNat_lt
 have HE:=hH (hexI c)
 go_enter Tryz.func100, Tryz.ntmps100
 go_wp2
 all_goals (go_ret;exact⟨ret_int (by rw [HE.out];(repeat' split) <;> omega),rfl⟩)
theorem rhex_at (c:UInt8)(d:Int)(w:World)(h:Hid (uval (hexV c)=d)) :
  Calls Tryz.prog 100 #[.int .u8 (c.toNat:Int)] w fun e w'=>e=.returned (.int .i64 d)∧w=w':=by
 rw [←h.out];exact rhex_any c w
def runitV (l:List UInt8):Option Int:=if hd l 92 && hd (l.drop 1) 117 then unitV (l.drop 2) else none
theorem runitV_bd (l:List UInt8) : -1≤uval (runitV l)∧uval (runitV l)<65536:=by
 unfold runitV
 split
 ·cases h:unitV (l.drop 2) with
  | none=>unfold uval;simp
  | some a=>have:=unitV_bd h;unfold uval;simp;omega
 ·unfold uval;simp
theorem runit_at (s:ByteArray)(a:Nat)(u:Int)(w:World)(hs:s.size≤1000000)(ha:a≤s.size+6)(h:Hid (uval (runitV (dr s a))=u)) :
  Calls Tryz.prog 84 #[.string s,.int .i64 (a:Int)] w fun e w'=>e=.returned (.int .i64 u)∧w=w':=by
 by_cases h6:s.size<a+6
 ·have HE:=hH (show u = -1 by
   rw [←h.out];unfold runitV
   simp only [dr_dr]
   rw [unit_short (dr s (a+2)) (by unfold dr;rw [List.length_drop,len_toList];omega)]
   split <;> rfl)
  have h6':(s.size:Int)-(a:Int)<6:=by omega
  clear h6
  go_enter Tryz.func84, Tryz.ntmps84
  go_wp2
  go_ret
  exact⟨ret_int (by rw [HE.out]),rfl⟩
 ·have h6':¬(s.size:Int)-(a:Int)<6:=by omega
  have e0:dr s a=s[a]::dr s (a+1):=drop_cons s a (by omega)
  have e1:dr s (a+1)=s[a+1]::dr s (a+2):=drop_cons s (a+1) (by omega)
  have hb0:=s[a].toNat_lt
  have hb1:=s[a+1].toNat_lt
  by_cases c0:s[a]=92
  ·by_cases c1:s[a+1]=117
   ·have t0:((s[a].toNat:Int) != 92)=false:=by rw [c0];rfl
    have t1:((s[a+1].toNat:Int) != 117)=false:=by rw [c1];rfl
    have HU:=hH (show u=uval (hexF 4 (dr s (a+2)) 0) by
     rw [←h.out,←unit_hexF _ (by unfold dr;rw [List.length_drop,len_toList];omega)]
     unfold runitV
     simp only [dr_dr]
     rw [e0,e1]
     rw [if_pos (by rw [c0,c1];rfl)])
    clear c0 c1 e0 e1
    go_enter Tryz.func84, Tryz.ntmps84
    go_wp2
    go_loop [5,6] (fun x v=>∃(i:Nat) (n:Int),2≤i∧i≤6∧0≤n∧((i=2∧n<1)∨(i=3∧n<16)∨(i=4∧n<256)∨(i=5∧n<4096)∨(i=6∧n<65536))∧Hid (u=uval (hexF (6-i) (dr s (a+i)) n))∧x=.int .i64 n∧v=.int .i64 i) (fun _ v=>6-(intOf v).toNat)
    case atStart=>exact⟨2,0,by omega,by omega,by omega,.inl ⟨rfl,by omega⟩,HU,rfl,rfl⟩
    case round =>
     clear HU
     obtain⟨i,n,hi2,hi,hn0,hn,HF,rfl,rfl⟩:=hrel
     have HN:=hH hn
     have hn1:n<65536:=by omega
     clear hn
     by_cases hlt:i<6
     ·have hlt2:a+i<s.size:=by omega
      have hbi:=s[a+i].toNat_lt
      obtain⟨d,hd⟩:∃d,uval (hexV s[a+i])=d:=⟨_,rfl⟩
      obtain⟨hd0,hd1⟩:=uval_bd s[a+i]
      rw [hd] at hd0 hd1
      have hstep:hexF (6-i) (dr s (a+i)) n=match hexV s[a+i] with|some d=>hexF (6-(i+1)) (dr s (a+(i+1))) (n*16+d)|none=>none:=by
       rw [show 6-i=(6-(i+1))+1 by omega,show dr s (a+i)=s[a+i]::dr s (a+i+1) from drop_cons s (a+i) hlt2];rfl
      have HD:=hH hd
      by_cases h1:d<0
      ·have HE:=hH (show u = -1 by
        rw [HF.out,hstep]
        cases hx:hexV s[a+i] with
        | none=>rfl
        | some y=>rw [hx] at hd;have:=hexV_bd hx;unfold uval at hd;simp at hd;omega)
       clear hstep hd HF
       go_wp2_with (go_at_call 100;refine(rhex_at _ _ _ HD).mono ?_;rintro e w' ⟨rfl,rfl⟩)
       go_ret
       exact⟨ret_int (by rw [HE.out]),rfl⟩
      ·have HF:=hH (show u=uval (hexF (6-(i+1)) (dr s (a+(i+1))) (n*16+d)) by
        rw [HF.out,hstep]
        cases hx:hexV s[a+i] with
        | none=>rw [hx] at hd;unfold uval at hd;simp at hd;omega
        | some y=>rw [hx] at hd;unfold uval at hd;simp at hd;rw [hd])
       have h3:0≤d:=by omega
       have HN2:=hH (show (i+1=2∧n*16+d<1)∨(i+1=3∧n*16+d<16)∨(i+1=4∧n*16+d<256)∨(i+1=5∧n*16+d<4096)∨(i+1=6∧n*16+d<65536) by have:=HN.out;omega)
       clear hstep hd
       go_wp2_with (go_at_call 100;refine(rhex_at _ _ _ HD).mono ?_;rintro e w' ⟨rfl,rfl⟩)
       go_round
       case rel=>exact⟨i+1,n*16+d,by omega,by omega,by omega,HN2.out,HF,rfl,by go_num⟩
       case measure=>simp [intOf] <;> omega
     ·have HE:=hH (show u=n by rw [HF.out,show 6-i=0 by omega];rfl)
      go_wp2
      go_ret
      exact⟨ret_int (by rw [HE.out]),rfl⟩
   ·have t0:((s[a].toNat:Int) != 92)=false:=by rw [c0];rfl
    have t1:((s[a+1].toNat:Int) != 117)=true:=by rw [bne_iff_ne];intro e;apply c1;rw [←UInt8.toNat_inj];simp;omega
    have HE:=hH (show u = -1 by
     rw [←h.out];unfold runitV
     simp only [dr_dr]
     rw [e0,e1,if_neg]
     ·rfl
     ·simp [hd,c1])
    clear c0 c1 e0 e1
    go_enter Tryz.func84, Tryz.ntmps84
    go_wp2
    go_ret
    exact⟨ret_int (by rw [HE.out]),rfl⟩
  ·have t0:((s[a].toNat:Int) != 92)=true:=by rw [bne_iff_ne];intro e;apply c0;rw [←UInt8.toNat_inj];simp;omega
   have HE:=hH (show u = -1 by
    rw [←h.out];unfold runitV
    simp only [dr_dr]
    rw [e0,if_neg]
    ·rfl
    ·simp [hd,c0])
   clear c0 e0 e1
   go_enter Tryz.func84, Tryz.ntmps84
   go_wp2
   go_ret
   exact⟨ret_int (by rw [HE.out]),rfl⟩
end

end Go.Proofs.YtjbdcjcfijjiiaaGreatDoor
