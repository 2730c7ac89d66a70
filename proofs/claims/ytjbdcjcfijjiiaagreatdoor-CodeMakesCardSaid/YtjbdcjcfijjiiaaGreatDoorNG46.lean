/- NG46: Wn, Wa, Wg, Wi, Wj, Wd joined. -/
import Derived.Laws.BitsLemmas
import Derived.Test.YtjbdcjcfijjiiaaGreatDoorNG05
import Derived.Test.YtjbdcjcfijjiiaaGreatDoorNG03
import Derived.Test.YtjbdcjcfijjiiaaGreatDoorShq
import Derived.Test.YtjbdcjcfijjiiaaGreatDoorNG04
import Derived.Test.YtjbdcjcfijjiiaaGreatDoorNG31
namespace Go.Proofs.YtjbdcjcfijjiiaaGreatDoor
open Go.RowKit
/- qlex: signs, one. -/
section
open Go.RowKit
set_option maxRecDepth 100000
set_option maxHeartbeats 1000000
theorem signs_any (w:World) :
  Calls Tryz.prog 58 #[] w fun e w'=>e=.returned (.slice (some ⟨w.heap.size,0,none⟩) 21 21)∧w'=w.alloc (.cells sgA 9):=by
 go_enter Tryz.func58, Tryz.ntmps58
 go_wp2
 go_ret
 exact⟨rfl,rfl⟩
def tokVV (k:Int)(s:ByteArray)(n:Int):Value:=.agg #[.int .i64 k,.string s,.int .i64 n,.int .i64 0,.bool false]
def OneE (l:List UInt8)(e:Ending):Prop :=
 match tokT l with
 | .error x=>∃(k:Int) (s:ByteArray) (n m:Int),e=.returned (.tuple #[tokVV k s n,.int .i64 m,.int .i64 x])
 | .ok (k,t,v,n)=>e=.returned (.tuple #[tokVV k (bs t) v,.int .i64 (n:Nat),.int .i64 0])
theorem OneE.no {l:List UInt8}{x:Int}(h:tokT l=.error x)(k:Int)(s:ByteArray)(n m:Int):OneE l (.returned (.tuple #[tokVV k s n,.int .i64 m,.int .i64 x])):=by
 unfold OneE;rw [h];exact⟨k,s,n,m,rfl⟩
theorem OneE.yes {l:List UInt8}{k v:Int}{t:List UInt8}{n:Nat}(h:tokT l=.ok (k,t,v,n)){s:ByteArray}{m:Int}(h1:s=bs t)(h2:m=n):OneE l (.returned (.tuple #[tokVV k s v,.int .i64 m,.int .i64 0])):=by
 unfold OneE;rw [h,h1,h2]
end
/- utf: first, Step, lead, tail: the machine of states. -/
section
open Go.RowKit
set_option maxRecDepth 100000
set_option maxHeartbeats 1000000
theorem ufirst_any (b:Int)(w:World)(h0:0≤b)(h1:b<256) :
  Calls Tryz.prog 105 #[.int .u8 b] w fun e w'=>e=.returned (.int .i64 (ufirst b))∧w=w':=by
 go_enter Tryz.func105, Tryz.ntmps105
 go_wp2
 all_goals
  go_ret
  exact⟨ret_int (by unfold ufirst;(try simp only [beq_iff_eq,beq_eq_false_iff_ne,ne_eq] at *);(repeat' split) <;> omega),rfl⟩
theorem ustep_any (st b:Int)(w:World)(h0:0≤b)(h1:b<256)(h2:0≤st)(h3:st≤8) :
  Calls Tryz.prog 91 #[.int .i64 st,.int .u8 b] w fun e w'=>e=.returned (.int .i64 (ustep st b))∧w=w':=by
 go_enter Tryz.func91, Tryz.ntmps91
 go_wp2_with (go_at_call 105;refine(ufirst_any _ _ (by omega) (by omega)).mono ?_;rintro e w' ⟨rfl,rfl⟩)
 all_goals
  go_ret
  exact⟨ret_int (by unfold ustep;(try simp only [beq_iff_eq,beq_eq_false_iff_ne,ne_eq] at *);(repeat' split) <;> omega),rfl⟩
theorem ulead_any (b:Int)(w:World)(h0:0≤b)(h1:b<256) :
  Calls Tryz.prog 92 #[.int .u8 b] w fun e w'=>e=.returned (.int .i64 (ulead b))∧w=w':=by
 go_enter Tryz.func92, Tryz.ntmps92
 go_wp2
 all_goals
  go_ret
  exact⟨ret_int (by unfold ulead;(repeat' split) <;> omega),rfl⟩
theorem wraps_i64 (n:Int)(h₀:0≤n)(h₁:n<2 ^ 62):IntKind.i64.wrap n=n:=by rw [IntKind.wrap_i64];omega
theorem and63 (x:Int)(h0:0≤x)(h1:x<4611686018427387904):bits .and .i64 x 63=x % 64:=bits_mask .i64 62 (by decide) wraps_i64 6 (by decide) x h0 h1
theorem and31 (x:Int)(h0:0≤x)(h1:x<4611686018427387904):bits .and .i64 x 31=x % 32:=bits_mask .i64 62 (by decide) wraps_i64 5 (by decide) x h0 h1
theorem and15 (x:Int)(h0:0≤x)(h1:x<4611686018427387904):bits .and .i64 x 15=x % 16:=bits_mask .i64 62 (by decide) wraps_i64 4 (by decide) x h0 h1
theorem and7 (x:Int)(h0:0≤x)(h1:x<4611686018427387904):bits .and .i64 x 7=x % 8:=bits_mask .i64 62 (by decide) wraps_i64 3 (by decide) x h0 h1
theorem orI (i:Nat)(x y:Int)(h0:0≤x)(hx:x % 2 ^ i=0)(h1:x<4611686018427387904)(h2:0≤y)(h3:y<2 ^ i)(h4:y<4611686018427387904):bits .or .i64 x y=x+y :=
 bits_join .i64 62 (by decide) wraps_i64 i x y h0 hx h1 h2 h3 h4
theorem utail_any (c:Int)(w:World)(h0:0≤c)(h1:c<2097152) :
  Calls Tryz.prog 96 #[.int .i64 c] w fun e w'=>e=.returned (.int .u8 (128+c % 64))∧w=w':=by
 have e1:=and63 c h0 (by omega)
 have e2:bits .or .i64 128 (c % 64)=128+c % 64:=orI 6 _ _ (by omega) (by omega) (by omega) (by omega) (by omega) (by omega)
 have e3:IntKind.u8.wrap (128+c % 64)=128+c % 64:=by rw [IntKind.wrap_u8];omega
 go_enter Tryz.func96, Tryz.ntmps96
 go_wp2
 go_ret
 exact⟨rfl,rfl⟩
end
/- The library's functions that qlex calls, in my words: HasPrefix, IndexByte, TrimLeft, a Builder's WriteString and String. -/
section
open Go.RowKit
set_option maxRecDepth 100000
set_option maxHeartbeats 2000000
theorem cc_used (b:Nat)(w:World)(h0:w.cell? ⟨b,0,none⟩=some (.pointer (some ⟨b,0,none⟩))) :
  Calls Tryz.prog 95 #[.pointer (some ⟨b,0,none⟩)] w fun e w'=>e=.returned (.tuple #[])∧w'=w:=by
 obtain⟨j,hj,_⟩:=Option.map_eq_some_iff.1 Tryz.Builder_Extra_169.sizeBuilder
 go_enter Tryz.func95, Tryz.ntmps95
 go_wp2
 rw [Lib.run_neq_ptr_same w _ Tryz.underlying135 hj]
 go_wp2
 go_end0
 exact⟨rfl,rfl⟩
theorem cc_fresh (b:Nat)(w:World)(h0:w.cell? ⟨b,0,none⟩=some (.pointer none))(hsh:w.shape? b=some (138,2))(hfz:w.frozen? ⟨b,0,none⟩=false) :
  Calls Tryz.prog 95 #[.pointer (some ⟨b,0,none⟩)] w fun e w'=>e=.returned (.tuple #[])∧w'=w.setCell ⟨b,0,none⟩ (.pointer (some ⟨b,0,none⟩)):=by
 obtain⟨j,hj,hjs⟩:=Option.map_eq_some_iff.1 Tryz.Builder_Extra_169.sizeBuilder
 go_enter Tryz.func95, Tryz.ntmps95
 go_wp2
 rw [Lib.run_to_unsafe w ⟨b,0,none⟩ Tryz.underlying135 Tryz.underlying167 hj (by rw [hjs];decide) hsh (Nat.zero_lt_succ 1)]
 simp only [Result.andThen]
 rw [Oper.upon_value]
 go_wp2
 rw [run_callFunc_extern Tryz.func107 (by kernel_rfl) (by kernel_rfl) (by kernel_rfl) (e:=Extern.AbiNoEscape.same) (by kernel_rfl)]
 rw [Lib.run_noEscape]
 simp only [Result.andThen]
 rw [Oper.upon_value]
 go_wp2
 rw [Lib.run_from_unsafe w ⟨b,0,none⟩ Tryz.underlying167 Tryz.underlying135 hj hsh Tryz.Builder_Extra_169.liesBuilder]
 simp only [Result.andThen]
 rw [Oper.upon_value]
 go_wp2
 go_end0
 exact⟨rfl,rfl⟩
theorem cc_any (B b:Nat)(bs:List Value)(w:World)(h:Lib.IsBuilder 138 5 B b bs w) :
  Calls Tryz.prog 95 #[.pointer (some ⟨b,0,none⟩)] w fun e w'=>e=.returned (.tuple #[])∧(Lib.BuilderAt 138 5 B b (.pointer (some ⟨b,0,none⟩)) bs w'∧Below B w w'):=by
 rcases h with h|h
 ·refine(cc_fresh b w h.cell0 h.shape h.frozen0).mono ?_
  rintro e w' ⟨rfl,rfl⟩
  exact⟨rfl,h.used _,(Below.refl B w).setCell (p:=⟨b,0,none⟩) h.1 _⟩
 ·refine(cc_used b w h.cell0).mono ?_
  rintro e w' ⟨rfl,rfl⟩
  exact⟨rfl,h,Below.refl B _⟩
theorem wrs_any (B b:Nat)(bs:List Value)(s:ByteArray)(w:World)(h:Lib.IsBuilder 138 5 B b bs w)(hlen:bs.length+s.size≤140737488355328)(hBw:B≤w.heap.size) :
  Calls Tryz.prog 77 #[.pointer (some ⟨b,0,none⟩),.string s] w fun e w'=>e=.returned (.tuple #[.int .i64 s.size,.nilIface])∧(Lib.IsBuilder 138 5 B b (bs++Lib.strCells s) w'∧Below B w w'):=by
 obtain⟨i0,hi,hz0,hz1,hz2⟩:=info_parts Tryz.Builder_Extra_169.infoByte
 go_enter Tryz.func77, Tryz.ntmps77
 go_wp2_with (go_at_call 95;refine(cc_any B b bs _ h).mono ?_)
 rintro e w1 ⟨rfl,h1,hb1⟩
 obtain⟨hB,v,hbk,hown,hne⟩:=h1
 have c0:w1.cell? ⟨b,0,none⟩=some (.pointer (some ⟨b,0,none⟩)):=by rw [Lib.cell_of_heap hbk];rfl
 have c1:w1.cell? ⟨b,1,none⟩=some v:=by rw [Lib.cell_of_heap hbk];rfl
 go_wp2_with (at_builtin;refine Lib.wpList_append_own_string _ rfl _ _ 136 9 rfl B 5 i0 Tryz.underlying136 Tryz.underlying9 hi hz0 hz1 hz2 _ _ _ rfl hown s rfl ?c3 ?c4 ?c5 ?_)
 case c3=>unfold maxLen;omega
 case c4=>omega
 case c5=>have:=hb1.size;omega
 intro v' w2 hown' hgrow _
 have hlt:b<w1.heap.size:=by
  rcases Nat.lt_or_ge b w1.heap.size with h'|h'
  ·exact h'
  ·simp [Array.getElem?_eq_none h'] at hbk
 have hb2:w2.heap[b]? = some (.cells #[.pointer (some ⟨b,0,none⟩),v] 138 (0,0)):=by
  rw [hgrow.block b hlt (fun e=>hne e.symm)]
  exact hbk
 have d0:w2.cell? ⟨b,0,none⟩=some (.pointer (some ⟨b,0,none⟩)):=by rw [Lib.cell_of_heap hb2];rfl
 have d1:w2.cell? ⟨b,1,none⟩=some v:=by rw [Lib.cell_of_heap hb2];rfl
 have f1:w2.frozen? ⟨b,1,none⟩=false:=Lib.frozen_of_heap hb2 1
 obtain⟨ao,n',cap,rfl⟩:∃ao n' cap,v'=.slice ao n' cap:=by
  rcases hown'.2 with⟨hv,_⟩|⟨g,cap,cur,hv,_⟩
  ·exact⟨_,_,_,hv⟩
  ·exact⟨_,_,_,hv⟩
 go_wp2
 go_ret2
 refine⟨rfl,?_,?_⟩
 ·exact .inr (Lib.BuilderAt.put (T:=138) (e:=5) hB hb2 (bs':=bs++Lib.strCells s) (by simpa [Lib.strCells_length] using hown') Tryz.Builder_Extra_169.neB5)
 ·exact(hb1.grown hgrow (by have:=hb1.size;omega) (fun k hk=>(hown.lt k hk).1)).setCell (p:=⟨b,1,none⟩) hB _
theorem hp_any (s p:ByteArray)(w:World) :
  Calls Tryz.prog 59 #[.string s,.string p] w fun e w'=>e=.returned (.bool (preB s.data.toList p.data.toList))∧w=w':=by
 refine(Tryz.strings_HasPrefix s p w).mono ?_
 rintro e w' ⟨rfl,rfl⟩
 exact⟨by rw [Lib.hasPrefix,preB_eq],rfl⟩
theorem ib_any (s:ByteArray)(c:Int)(w:World) :
  Calls Tryz.prog 94 #[.string s,.int .u8 c] w fun e w'=>e=.returned (.int .i64 (Lib.indexByte s.data.toList c.toNat.toUInt8))∧w=w' :=
 (Tryz.strings_IndexByte s c w).mono fun _ _ ⟨h1,h2⟩=>⟨h1,h2.symm⟩
theorem trim_drop (l:List UInt8):Lib.trimLeftS l [32,9,10,13]=l.drop (bkN l):=by
 unfold Lib.trimLeftS
 induction l with
 | nil=>rfl
 | cons c r ih =>
  have e:([32,9,10,13]:List UInt8).contains c=isBk c:=by
   unfold isBk;simp;rw [Bool.eq_iff_iff];simp [or_assoc]
  rw [List.dropWhile_cons,bkN,e]
  cases isBk c with
  | true=>simpa using ih
  | false=>simp
theorem tl_any (s:ByteArray)(w:World) :
  Calls Tryz.prog 34 #[.string s,.string ⟨#[32,9,10,13]⟩] w fun e w'=>e=.returned (.string (s.extract (bkN s.data.toList) s.size))∧Below w.heap.size w w':=by
 refine(Any.strings_TrimLeft_laid Tryz.lays161 (by kernel_rfl) s ⟨#[32,9,10,13]⟩ w (by decide) (by intro j b;match j with|0|1|2|3=>simp;rintro rfl;decide|j+4=>simp)).mono ?_
 rintro e w' ⟨rfl,hb⟩
 exact⟨ret_str (by rw [show (⟨#[32,9,10,13]⟩:ByteArray).data.toList=[32,9,10,13] from rfl,trim_drop,extract_list]),hb⟩
theorem hp_at (s p:ByteArray)(b:Bool)(w:World)(h:Hid (preB s.data.toList p.data.toList=b)) :
  Calls Tryz.prog 59 #[.string s,.string p] w fun e w'=>e=.returned (.bool b)∧w=w':=by
 rw [←h.out];exact hp_any s p w
end
/- qlex: unit, units, escaped. -/
section
open Go.RowKit
set_option maxRecDepth 100000
set_option maxHeartbeats 2000000
def hexs :List UInt8:=[48,49,50,51,52,53,54,55,56,57,97,98,99,100,101,102]
def hexD (c:UInt8):Int:=Lib.indexByte hexs (c ||| 32)
theorem hexV_D (c:UInt8):hexV c=if hexD c<0∨c.toNat<48 then none else some (hexD c) :=
 all_u8 (P:=fun c=>hexV c=if hexD c<0∨c.toNat<48 then none else some (hexD c)) (by decide +kernel) c
theorem hexD_bd (c:UInt8) : -1≤hexD c∧hexD c<16:=all_u8 (P:=fun c=>-1≤hexD c∧hexD c<16) (by decide +kernel) c
theorem or32 (c:UInt8):(bits .or .u8 (c.toNat:Int) 32).toNat.toUInt8=c ||| 32:=by
 have h:=(bits_nat .u8 8 (by decide) wraps_u8 c.toNat 32 c.toNat_lt (by decide)).2
 rw [show ((32:Nat):Int)=32 from rfl] at h
 rw [h,Int.toNat_natCast]
 apply UInt8.toNat_inj.1
 rw [UInt8.toNat_or]
 have:(c.toNat ||| 32)<256:=Nat.or_lt_two_pow (n:=8) c.toNat_lt (by decide)
 simp [Nat.toUInt8]
theorem hex_at (c:UInt8)(d:Int)(w:World)(h:Hid (hexD c=d)) :
  Calls Tryz.prog 94 #[.string ⟨#[48,49,50,51,52,53,54,55,56,57,97,98,99,100,101,102]⟩,.int .u8 (bits .or .u8 (c.toNat:Int) 32)] w fun e w'=>e=.returned (.int .i64 d)∧w=w':=by
 rw [←h.out,hexD,←or32]
 exact ib_any _ _ w
theorem unit_any (s:ByteArray)(w:World)(hs:s.size≤9223372036854775000) :
  Calls Tryz.prog 93 #[.string s] w fun e w'=>e=.returned (.int .i64 (uval (unitV s.data.toList)))∧w=w':=by
 by_cases h4:s.size<4
 ·have HE:=hH (show uval (unitV s.data.toList) = -1 by rw [unit_short _ (by rw [len_toList];exact h4)];rfl)
  go_enter Tryz.func93, Tryz.ntmps93
  go_wp2
  go_ret
  exact⟨ret_int (by rw [HE.out]),rfl⟩
 ·have h4':4≤s.size:=by omega
  have HU:=hH (unit_hexF s.data.toList (by rw [len_toList];exact h4'))
  clear h4
  go_enter Tryz.func93, Tryz.ntmps93
  go_wp2
  go_loop [3,9] (fun u v=>∃(i:Nat) (n:Int),i≤4∧0≤n∧((i=0∧n<1)∨(i=1∧n<16)∨(i=2∧n<256)∨(i=3∧n<4096)∨(i=4∧n<65536))∧Hid (hexF 4 s.data.toList 0=hexF (4-i) (dr s i) n)∧u=.int .i64 n∧v=.int .i64 i) (fun _ v=>4-(intOf v).toNat)
  case atStart=>exact⟨0,0,by omega,by omega,.inl ⟨rfl,by omega⟩,hH rfl,rfl,rfl⟩
  case round =>
   obtain⟨i,n,hi,hn0,hn,HF,rfl,rfl⟩:=hrel
   have HN:=hH hn
   have hn1:n<65536:=by omega
   clear hn
   by_cases hlt:i<4
   ·have hlt2:i<s.size:=by omega
    have hbi:=s[i].toNat_lt
    obtain⟨d,hd⟩:∃d,hexD s[i]=d:=⟨_,rfl⟩
    obtain⟨hd0,hd1⟩:=hexD_bd s[i]
    rw [hd] at hd0 hd1
    have hv:=hexV_D s[i]
    rw [hd] at hv
    have hstep:hexF (4-i) (dr s i) n=match hexV s[i] with|some d=>hexF (4-(i+1)) (dr s (i+1)) (n*16+d)|none=>none:=by
     rw [show 4-i=(4-(i+1))+1 by omega,show dr s i=s[i]::dr s (i+1) from drop_cons s i hlt2];rfl
    have HD:=hH hd
    by_cases h1:d<0
    ·have HE:=hH (show uval (unitV s.data.toList) = -1 by rw [HU.out,HF.out,hstep,hv,if_pos (.inl h1)];rfl)
     clear hv hstep hd HF HU
     go_wp2_with (go_at_call 94;refine(hex_at _ _ _ HD).mono ?_;rintro e w' ⟨rfl,rfl⟩)
     go_ret
     exact⟨ret_int (by rw [HE.out]),rfl⟩
    ·by_cases h2:(s[i].toNat:Int)<48
     ·have HE:=hH (show uval (unitV s.data.toList) = -1 by rw [HU.out,HF.out,hstep,hv,if_pos (.inr (by omega))];rfl)
      clear hv hstep hd HF HU
      go_wp2_with (go_at_call 94;refine(hex_at _ _ _ HD).mono ?_;rintro e w' ⟨rfl,rfl⟩)
      go_ret
      exact⟨ret_int (by rw [HE.out]),rfl⟩
     ·have HF:=hH (show hexF 4 s.data.toList 0=hexF (4-(i+1)) (dr s (i+1)) (n*16+d) by rw [HF.out,hstep,hv,if_neg (by omega)])
      have h3:0≤d:=by omega
      have ho:bits .or .i64 (n*16) d=n*16+d:=orI 4 _ _ (by omega) (by omega) (by omega) h3 (by omega) (by omega)
      have HN2:=hH (show (i+1=0∧n*16+d<1)∨(i+1=1∧n*16+d<16)∨(i+1=2∧n*16+d<256)∨(i+1=3∧n*16+d<4096)∨(i+1=4∧n*16+d<65536) by have:=HN.out;omega)
      clear hv hstep hd
      go_wp2_with (go_at_call 94;refine(hex_at _ _ _ HD).mono ?_;rintro e w' ⟨rfl,rfl⟩)
      go_round
      case rel=>exact⟨i+1,n*16+d,by omega,by omega,HN2.out,HF,rfl,by go_num⟩
      case measure=>simp [intOf] <;> omega
   ·have HE:=hH (show uval (unitV s.data.toList)=n by rw [HU.out,HF.out,show 4-i=0 by omega];rfl)
    go_wp2
    go_ret
    exact⟨ret_int (by rw [HE.out]),rfl⟩
theorem esc_ib (c:UInt8)(mark:UInt8)(hm:c≠mark):escV mark c=if Lib.indexByte [92,47,98,102,110,114,116] c<0 then none else some ((([92,47,8,12,10,13,9]:List UInt8).getD (Lib.indexByte [92,47,98,102,110,114,116] c).toNat 0).toNat:Int):=by
 unfold escV
 rw [if_neg hm]
 exact all_u8 (P:=fun c=>(if c=92 then some 92 else if c=47 then some 47 else if c=98 then some 8 else if c=102 then some 12 else if c=110 then some 10 else if c=114 then some 13 else if c=116 then some 9 else none)=if Lib.indexByte [92,47,98,102,110,114,116] c<0 then none else some ((([92,47,8,12,10,13,9]:List UInt8).getD (Lib.indexByte [92,47,98,102,110,114,116] c).toNat 0).toNat:Int)) (by decide +kernel) c
theorem esc_bd (c:UInt8) : -1≤Lib.indexByte [92,47,98,102,110,114,116] c∧Lib.indexByte [92,47,98,102,110,114,116] c<7:=all_u8 (P:=fun c=>-1≤Lib.indexByte [92,47,98,102,110,114,116] c∧Lib.indexByte [92,47,98,102,110,114,116] c<7) (by decide +kernel) c
theorem escib_at (c:UInt8)(d:Int)(w:World)(h:Hid (Lib.indexByte [92,47,98,102,110,114,116] c=d)) :
  Calls Tryz.prog 94 #[.string ⟨#[92,47,98,102,110,114,116]⟩,.int .u8 (c.toNat:Int)] w fun e w'=>e=.returned (.int .i64 d)∧w=w':=by
 rw [←h.out]
 have:=ib_any ⟨#[92,47,98,102,110,114,116]⟩ (c.toNat:Int) w
 rw [show ((c.toNat:Int)).toNat.toUInt8=c by simp] at this
 exact this
theorem u8_wrap (c:UInt8)(n:Int)(h:(c.toNat:Int)=n):wrap64 (c.toNat:Int)=n:=by
 have:=c.toNat_lt
 rw [IntWalk.wrap64_in _ (by omega),h]
theorem escaped_any (c mark:UInt8)(w:World) :
  Calls Tryz.prog 76 #[.int .u8 (c.toNat:Int),.int .u8 (mark.toNat:Int)] w fun e w'=>e=.returned (.int .i64 (uval (escV mark c)))∧w=w':=by
 have hc:=c.toNat_lt
 have hmk:=mark.toNat_lt
 by_cases hm:c=mark
 ·have HE:=hH (show uval (escV mark c)=c.toNat by unfold escV;rw [if_pos hm];rfl)
  have hq:((c.toNat:Int)==(mark.toNat:Int))=true:=by rw [hm];simp
  clear hm
  go_enter Tryz.func76, Tryz.ntmps76
  go_wp2
  go_ret
  exact⟨ret_int (by rw [HE.out]),rfl⟩
 ·have hq:((c.toNat:Int)==(mark.toNat:Int))=false:=by rw [beq_eq_false_iff_ne];intro e;exact hm (UInt8.toNat_inj.1 (by omega))
  have he:=esc_ib c mark hm
  obtain⟨hb0,hb1⟩:=esc_bd c
  obtain⟨d,hd⟩:∃d,Lib.indexByte [92,47,98,102,110,114,116] c=d:=⟨_,rfl⟩
  rw [hd] at he hb0 hb1
  have HD:=hH hd
  clear hd hm
  rcases (show d = -1∨d=0∨d=1∨d=2∨d=3∨d=4∨d=5∨d=6 by omega) with rfl|rfl|rfl|rfl|rfl|rfl|rfl|rfl
  all_goals
   have HE:=hH he
   clear he
   go_enter Tryz.func76, Tryz.ntmps76
   go_wp2_with (go_at_call 94;refine(escib_at _ _ _ HD).mono ?_;rintro e w' ⟨rfl,rfl⟩)
   go_ret
   exact⟨ret_int (by rw [HE.out];first|rfl|exact u8_wrap _ _ rfl),rfl⟩
end
/- qlex: units, char (text's closure). -/
section
open Go.RowKit
set_option maxRecDepth 100000
set_option maxHeartbeats 2000000
def ChE (o:Option (Int×Nat))(e:Ending):Prop :=
 match o with
 | none=>∃m:Int,e=.returned (.tuple #[.int .i64 (-1),.int .i64 m])
 | some (x,n)=>e=.returned (.tuple #[.int .i64 x,.int .i64 (n:Nat)])
theorem ChE.no {o:Option (Int×Nat)}(h:o=none)(m:Int):ChE o (.returned (.tuple #[.int .i64 (-1),.int .i64 m])):=by rw [h];exact⟨m,rfl⟩
theorem ChE.yes {o:Option (Int×Nat)}{x:Int}{n:Nat}{y m:Int}(h:o=some (x,n))(h1:y=x)(h2:m=n):ChE o (.returned (.tuple #[.int .i64 y,.int .i64 m])):=by rw [h,h1,h2];rfl
theorem unit_at (s:ByteArray)(u:Int)(w:World)(hs:s.size≤9223372036854775000)(h:Hid (uval (unitV s.data.toList)=u)) :
  Calls Tryz.prog 93 #[.string s] w fun e w'=>e=.returned (.int .i64 u)∧w=w':=by
 rw [←h.out];exact unit_any s w hs
theorem units_any (s:ByteArray)(w:World)(hs:s.size≤9223372036854775000)(h2:2≤s.size) :
  Calls Tryz.prog 75 #[.string s] w fun e w'=>ChE (unitsV (dr s 2)) e∧w=w':=by
 have hz2:(s.extract 2 s.size).size≤9223372036854775000:=by simp;omega
 cases hu:unitV (dr s 2) with
 | none =>
  have HU:=hH (show uval (unitV (s.extract 2 s.size).data.toList) = -1 by rw [ext_drop];show uval (unitV (dr s 2))=_;rw [hu];rfl)
  have HE:=hH (show unitsV (dr s 2)=none by unfold unitsV;rw [hu])
  clear hu
  go_enter Tryz.func75, Tryz.ntmps75
  go_wp2_with (go_at_call 93;refine(unit_at _ _ _ hz2 HU).mono ?_;rintro e w' ⟨rfl,rfl⟩)
  go_ret2
  exact⟨ChE.no HE.out _,rfl⟩
 | some a =>
  obtain⟨ha0,ha1⟩:=unitV_bd hu
  have hl6:=unitV_len hu
  rw [dr,List.length_drop,len_toList] at hl6
  have hs6:6≤s.size:=by omega
  clear hl6
  have HU:=hH (show uval (unitV (s.extract 2 s.size).data.toList)=a by rw [ext_drop];show uval (unitV (dr s 2))=_;rw [hu];rfl)
  have HX:=hH (show unitsV (dr s 2)=_ by unfold unitsV;rw [hu])
  simp only [dr_dr] at HX
  clear hu
  by_cases h1:a<55296∨57343<a
  ·have HE:=hH (HX.out.trans (if_pos h1))
   clear HX
   rcases h1 with h1|h1
   all_goals
    go_enter Tryz.func75, Tryz.ntmps75
    go_wp2_with (go_at_call 93;refine(unit_at _ _ _ hz2 HU).mono ?_;rintro e w' ⟨rfl,rfl⟩)
    go_ret2
    exact⟨ChE.yes HE.out rfl rfl,rfl⟩
  ·have HX:=hH (HX.out.trans (if_neg h1))
   by_cases h3:56320≤a
   ·have HE:=hH (HX.out.trans (if_pos h3))
    have h4:55296≤a:=by omega
    have h5:a≤57343:=by omega
    clear HX h1
    go_enter Tryz.func75, Tryz.ntmps75
    go_wp2_with (go_at_call 93;refine(unit_at _ _ _ hz2 HU).mono ?_;rintro e w' ⟨rfl,rfl⟩)
    go_ret2
    exact⟨ChE.no HE.out _,rfl⟩
   ·have HX:=hH (HX.out.trans (if_neg h3))
    have h4:55296≤a:=by omega
    have h5:a≤57343:=by omega
    clear h1
    have hpp:preB (s.extract 6 s.size).data.toList (⟨#[92,117]⟩:ByteArray).data.toList=(hd (dr s 6) 92 && hd (dr s 7) 117):=by
     rw [ext_drop];show preB (dr s 6) [92,117]=_;rw [preB_two,dr_dr]
    obtain⟨q,hq⟩:∃q,(hd (dr s 6) 92 && hd (dr s 7) 117)=q:=⟨_,rfl⟩
    rw [hq] at hpp
    have HP:=hH hpp
    clear hpp
    cases q with
    | false =>
     have HE:=hH (HX.out.trans (if_neg (by rw [show 2+4=6 from rfl,show 2+5=7 from rfl,hq];simp)))
     clear HX hq
     go_enter Tryz.func75, Tryz.ntmps75
     go_wp2_with (first|(go_at_call 93;refine(unit_at _ _ _ hz2 HU).mono ?_;rintro e w' ⟨rfl,rfl⟩)|(go_at_call 59;refine(hp_at _ _ _ _ HP).mono ?_;rintro e w' ⟨rfl,rfl⟩))
     go_ret2
     exact⟨ChE.no HE.out _,rfl⟩
    | true =>
     have HX:=hH (HX.out.trans (if_pos (by rw [show 2+4=6 from rfl,show 2+5=7 from rfl,hq])))
     have hs8:8≤s.size:=by
      rw [Bool.and_eq_true] at hq
      have:=hd_lt hq.2;omega
     have hz8:(s.extract 8 s.size).size≤9223372036854775000:=by simp;omega
     clear hq
     have HX:=hH (show unitsV (dr s 2)=match unitV (dr s 8) with|none=>none|some b=>if 56320≤b∧b≤57343 then some (65536+(a-55296)*1024+(b-56320),12) else none from HX.out)
     cases hv:unitV (dr s 8) with
     | none =>
      have HE:=hH (show unitsV (dr s 2)=none by rw [HX.out,hv])
      have HV:=hH (show uval (unitV (s.extract 8 s.size).data.toList) = -1 by rw [ext_drop];show uval (unitV (dr s 8))=_;rw [hv];rfl)
      clear HX hv
      go_enter Tryz.func75, Tryz.ntmps75
      go_wp2_with (first|(go_at_call 93;with_reducible refine(unit_at (s.extract 2 s.size) _ _ hz2 HU).mono ?_;rintro e w' ⟨rfl,rfl⟩)|(go_at_call 93;with_reducible refine(unit_at (s.extract 8 s.size) _ _ hz8 HV).mono ?_;rintro e w' ⟨rfl,rfl⟩)|(go_at_call 59;refine(hp_at _ _ _ _ HP).mono ?_;rintro e w' ⟨rfl,rfl⟩))
      go_ret2
      exact⟨ChE.no HE.out _,rfl⟩
     | some b =>
      obtain⟨hb0,hb1⟩:=unitV_bd hv
      have HV:=hH (show uval (unitV (s.extract 8 s.size).data.toList)=b by rw [ext_drop];show uval (unitV (dr s 8))=_;rw [hv];rfl)
      have HX:=hH (show unitsV (dr s 2)=_ by rw [HX.out,hv])
      clear hv
      by_cases h6:b<56320
      ·have HE:=hH (HX.out.trans (if_neg (by omega)))
       clear HX
       go_enter Tryz.func75, Tryz.ntmps75
       go_wp2_with (first|(go_at_call 93;with_reducible refine(unit_at (s.extract 2 s.size) _ _ hz2 HU).mono ?_;rintro e w' ⟨rfl,rfl⟩)|(go_at_call 93;with_reducible refine(unit_at (s.extract 8 s.size) _ _ hz8 HV).mono ?_;rintro e w' ⟨rfl,rfl⟩)|(go_at_call 59;refine(hp_at _ _ _ _ HP).mono ?_;rintro e w' ⟨rfl,rfl⟩))
       go_ret2
       exact⟨ChE.no HE.out _,rfl⟩
      ·by_cases h7:57343<b
       ·have HE:=hH (HX.out.trans (if_neg (by omega)))
        clear HX
        go_enter Tryz.func75, Tryz.ntmps75
        go_wp2_with (first|(go_at_call 93;with_reducible refine(unit_at (s.extract 2 s.size) _ _ hz2 HU).mono ?_;rintro e w' ⟨rfl,rfl⟩)|(go_at_call 93;with_reducible refine(unit_at (s.extract 8 s.size) _ _ hz8 HV).mono ?_;rintro e w' ⟨rfl,rfl⟩)|(go_at_call 59;refine(hp_at _ _ _ _ HP).mono ?_;rintro e w' ⟨rfl,rfl⟩))
        go_ret2
        exact⟨ChE.no HE.out _,rfl⟩
       ·have HE:=hH (HX.out.trans (if_pos (by omega)))
        have h8:56320≤b:=by omega
        have e1:bits .and .i64 a 1023=a-55296:=(bits_mask .i64 62 (by decide) wraps_i64 10 (by decide) a (by omega) (by omega)).trans (by omega)
        have e2:bits .and .i64 b 1023=b-56320:=(bits_mask .i64 62 (by decide) wraps_i64 10 (by decide) b (by omega) (by omega)).trans (by omega)
        clear HX
        go_enter Tryz.func75, Tryz.ntmps75
        go_wp2_with (first|(go_at_call 93;with_reducible refine(unit_at (s.extract 2 s.size) _ _ hz2 HU).mono ?_;rintro e w' ⟨rfl,rfl⟩)|(go_at_call 93;with_reducible refine(unit_at (s.extract 8 s.size) _ _ hz8 HV).mono ?_;rintro e w' ⟨rfl,rfl⟩)|(go_at_call 59;refine(hp_at _ _ _ _ HP).mono ?_;rintro e w' ⟨rfl,rfl⟩))
        go_ret2
        exact⟨ChE.yes HE.out rfl rfl,rfl⟩
end
/- utf: Put, Scalar: what the program's own functions compute. -/
section
open Go.RowKit
set_option maxRecDepth 100000
set_option maxHeartbeats 1000000
theorem uput_any (c:Int)(w:World)(h0:0≤c)(h1:c<2097152) :
  Calls Tryz.prog 78 #[.int .i64 c] w fun e w'=>e=.returned (.string (strOfNums (putI c)))∧Below w.heap.size w w':=by
 have k1:=conv_1;have k2:=conv_2;have k3:=conv_3;have k4:=conv_4
 by_cases hb:c<0∨1114111<c∨(55296≤c∧c≤57343)
 ·have e:=hH (show strOfNums (putI c)=⟨#[]⟩ by rw [putI,if_pos hb];rfl)
  rcases hb with hb|hb|⟨hb,hb'⟩
  ·omega
  all_goals
   go_enter Tryz.func78, Tryz.ntmps78
   go_wp2
   go_ret
   exact⟨ret_str (by rw [e.out]),Below.refl _ _⟩
 ·have e:=hH (show putI c=_ by rw [putI,if_neg hb])
  have g1:c≤1114111:=by omega
  by_cases h2:c<128
  ·have e:=hH (show putI c=_ from e.out.trans (if_pos h2))
   clear hb
   go_enter Tryz.func78, Tryz.ntmps78
   go_wp2
   go_ret
   exact⟨ret_str (by rw [e.out]),(Below.refl _ _).alloc (Nat.le_refl _) _⟩
  ·have e:=hH (show putI c=_ from e.out.trans (if_neg h2))
   by_cases h3:c<2048
   ·have e:=hH (show putI c=_ from e.out.trans (if_pos h3))
    clear hb
    have e2:bits .or .i64 192 (c / 64)=192+c / 64:=orI 5 _ _ (by omega) (by omega) (by omega) (by omega) (by omega) (by omega)
    have e3:IntKind.u8.wrap (192+c / 64)=192+c / 64:=by rw [IntKind.wrap_u8];omega
    go_enter Tryz.func78, Tryz.ntmps78
    go_wp2_with (go_at_call 96;refine(utail_any _ _ (by omega) (by omega)).mono ?_;rintro e w' ⟨rfl,rfl⟩)
    go_ret
    exact⟨ret_str (by rw [e.out]),(Below.refl _ _).alloc (Nat.le_refl _) _⟩
   ·have e:=hH (show putI c=_ from e.out.trans (if_neg h3))
    by_cases h4:c<65536
    ·have e:=hH (show putI c=_ from e.out.trans (if_pos h4))
     have e2:bits .or .i64 224 (c / 4096)=224+c / 4096:=orI 4 _ _ (by omega) (by omega) (by omega) (by omega) (by omega) (by omega)
     have e3:IntKind.u8.wrap (224+c / 4096)=224+c / 4096:=by rw [IntKind.wrap_u8];omega
     by_cases g2:c<55296
     ·clear hb
      go_enter Tryz.func78, Tryz.ntmps78
      go_wp2_with (go_at_call 96;refine(utail_any _ _ (by omega) (by omega)).mono ?_;rintro e w' ⟨rfl,rfl⟩)
      go_ret
      exact⟨ret_str (by rw [e.out]),(Below.refl _ _).alloc (Nat.le_refl _) _⟩
     ·have g3:57343<c:=by omega
      clear hb
      go_enter Tryz.func78, Tryz.ntmps78
      go_wp2_with (go_at_call 96;refine(utail_any _ _ (by omega) (by omega)).mono ?_;rintro e w' ⟨rfl,rfl⟩)
      go_ret
      exact⟨ret_str (by rw [e.out]),(Below.refl _ _).alloc (Nat.le_refl _) _⟩
    ·have e:=hH (show putI c=_ from e.out.trans (if_neg h4))
     have e2:bits .or .i64 240 (c / 262144)=240+c / 262144:=orI 3 _ _ (by omega) (by omega) (by omega) (by omega) (by omega) (by omega)
     have e3:IntKind.u8.wrap (240+c / 262144)=240+c / 262144:=by rw [IntKind.wrap_u8];omega
     have g3:57343<c:=by omega
     clear hb
     go_enter Tryz.func78, Tryz.ntmps78
     go_wp2_with (go_at_call 96;refine(utail_any _ _ (by omega) (by omega)).mono ?_;rintro e w' ⟨rfl,rfl⟩)
     go_ret
     exact⟨ret_str (by rw [e.out]),(Below.refl _ _).alloc (Nat.le_refl _) _⟩
end

end Go.Proofs.YtjbdcjcfijjiiaaGreatDoor
