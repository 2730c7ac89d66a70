/- NG08: Yb, Yd, Yc joined. -/
import Derived.Deep.RegionHeld3
import Derived.Test.YtjbdcjcfijjiiaaGreatDoorNG06
import Derived.Test.YtjbdcjcfijjiiaaGreatDoorNG07
namespace Go.Proofs.YtjbdcjcfijjiiaaGreatDoor
open Go.RowKit
/- ref17: form, next, must, open, shut, number (printed by gen_rb.py). -/
section
open Go.RowKit
set_option maxRecDepth 100000
set_option maxHeartbeats 2000000
theorem Blk.drew {w:World}{k:Nat}{T:TypeId}{cs:Array Value}(h:Blk w k T cs):Blk w.drew k T cs:=h
theorem Bel.far6 {B:Nat}{a w:World}(h:Bel B a w){k:Nat}(hk:B≤k){u0 u1 u2 u3 u4 u5:Value}:Bel B a ((((((w.setCell ⟨k,0,none⟩ u0).setCell ⟨k,1,none⟩ u1).setCell ⟨k,2,none⟩ u2).setCell ⟨k,3,none⟩ u3).setCell ⟨k,4,none⟩ u4).setCell ⟨k,5,none⟩ u5) :=
 (((((h.setCell hk u0).setCell hk u1).setCell hk u2).setCell hk u3).setCell hk u4).setCell hk u5
theorem cell_far6 {w:World}{b o:Nat}{v:Value}(h:w.cell? ⟨b,o,none⟩=some v){k:Nat}(hk:b≠k){u0 u1 u2 u3 u4 u5:Value}:((((((w.setCell ⟨k,0,none⟩ u0).setCell ⟨k,1,none⟩ u1).setCell ⟨k,2,none⟩ u2).setCell ⟨k,3,none⟩ u3).setCell ⟨k,4,none⟩ u4).setCell ⟨k,5,none⟩ u5).cell? ⟨b,o,none⟩=some v:=by
 have s:∀(x:World) (i:Nat) (u:Value),(x.setCell ⟨k,i,none⟩ u).cell? ⟨b,o,none⟩=x.cell? ⟨b,o,none⟩:=fun x i u=>World.cell?_of_block (Below.heap_setCell x ⟨k,i,none⟩ u b hk)
 rw [s,s,s,s,s,s];exact h
theorem RIn.fail {all:List TokD}{k:Nat}{t:PSt}(h:RIn all k t)(a e:Int):RIn all k (failS a e t):=⟨by rw [failS_len];exact h.eq,h.le,h.bd⟩
theorem RIn.form {all:List TokD}{k:Nat}{t:PSt}(h:RIn all k t)(E:Int):RIn all k (formS E t):=h.fail _ _
def RP (A:Option Addr)(all:List TokD)(c:Nat)(E dp:Int)(w:World)(t':PSt)(e:Ending)(w':World):Prop :=
 ∃k',e=.returned (rv A all.length c k' E t' dp)∧RIn all k' t'∧Bel w.heap.size w w'
section
variable  (A:Option Addr)(all:List TokD)(c k:Nat)(E:Int)(t:PSt)(dp:Int)(w:World)
theorem rform_any (h:RIn all k t)(hT:TkR w A all):Calls Tryz.prog 14 #[rv A all.length c k E t dp] w fun e w'=>e=.returned (rv A all.length c k E (formS E t) dp)∧Bel w.heap.size w w':=by
 have HW:=hH (((Bel.refl w.heap.size w).alloc (Nat.le_refl _) (.cells #[.slice A all.length c,.int .i64 (k:Int),.int .i64 E,.int .i64 t.fe,.int .i64 t.fa,.int .i64 dp] 54)).alloc (by simp) (.cells #[.slice none 0 0,.int .i64 0,.int .i64 0,.int .i64 0,.int .i64 0,.int .i64 0] 54))
 have HV0:=hH ((Blk.new w 54 #[.slice A all.length c,.int .i64 (k:Int),.int .i64 E,.int .i64 t.fe,.int .i64 t.fa,.int .i64 dp]).alloc (.cells #[.slice none 0 0,.int .i64 0,.int .i64 0,.int .i64 0,.int .i64 0,.int .i64 0] 54))
 have HZ0:=hH (Blk.new1 w (.cells #[.slice A all.length c,.int .i64 (k:Int),.int .i64 E,.int .i64 t.fe,.int .i64 t.fa,.int .i64 dp] 54) 54 #[.slice none 0 0,.int .i64 0,.int .i64 0,.int .i64 0,.int .i64 0,.int .i64 0])
 have HAT:=hH (fun W (hb:Bel w.heap.size w W)=>rat_any A all c k E t dp W h (hT.bel hb))
 have HFL:=hH (fun W=>rfail_any A all c k E t dp W (atS E t) 3)
 clear h hT
 go_enter Tryz.func14, Tryz.ntmps14
 go_wp2_with fail
 go_region_with (first|(go_at_call 28;refine(HAT.out _ ?_).mono ?_;(first|exact HW.out|exact HW.out.drew|exact HW.out.drew.drew);rintro e w1 ⟨rfl,hb⟩;have HB1:=hH (show Bel w.heap.size w w1 by (first|exact HW.out.next hb|exact HW.out.drew.next hb|exact HW.out.drew.drew.next hb));have HV1:=hH (show Blk w1 w.heap.size 54 #[.slice A all.length c,.int .i64 (k:Int),.int .i64 E,.int .i64 t.fe,.int .i64 t.fa,.int .i64 dp] by (first|exact HV0.out.bel hb HV0.out.lt|exact HV0.out.drew.bel hb HV0.out.lt|exact HV0.out.drew.drew.bel hb HV0.out.lt));have HZ1:=hH (show Blk w1 (w.heap.size+1) 54 #[.slice none 0 0,.int .i64 0,.int .i64 0,.int .i64 0,.int .i64 0,.int .i64 0] by (first|exact HZ0.out.bel hb HZ0.out.lt|exact HZ0.out.drew.bel hb HZ0.out.lt|exact HZ0.out.drew.drew.bel hb HZ0.out.lt));clear hb;obtain⟨qz,⟨q0,q1,q2,q3,q4,q5⟩,⟨qf0,qf1,qf2,qf3,qf4,qf5⟩⟩:=HV1.out.c6;obtain⟨zz,⟨z0,z1,z2,z3,z4,z5⟩,⟨zf0,zf1,zf2,zf3,zf4,zf5⟩⟩:=HZ1.out.c6)|(go_at_call 27;refine(HFL.out _).mono ?_;rintro e w2 ⟨rfl,hb⟩;have HB2:=hH (show Bel w.heap.size w w2 by (first|exact HB1.out.next hb|exact HB1.out.drew.next hb|exact HB1.out.drew.drew.next hb));have HV2:=hH (show Blk w2 w.heap.size 54 #[.slice A all.length c,.int .i64 (k:Int),.int .i64 E,.int .i64 t.fe,.int .i64 t.fa,.int .i64 dp] by (first|exact HV1.out.bel hb HV1.out.lt|exact HV1.out.drew.bel hb HV1.out.lt|exact HV1.out.drew.drew.bel hb HV1.out.lt));have HZ2:=hH (show Blk w2 (w.heap.size+1) 54 #[.slice none 0 0,.int .i64 0,.int .i64 0,.int .i64 0,.int .i64 0,.int .i64 0] by (first|exact HZ1.out.bel hb HZ1.out.lt|exact HZ1.out.drew.bel hb HZ1.out.lt|exact HZ1.out.drew.drew.bel hb HZ1.out.lt));clear hb;clear qz q0 q1 q2 q3 q4 q5 qf0 qf1 qf2 qf3 qf4 qf5;clear zz z0 z1 z2 z3 z4 z5 zf0 zf1 zf2 zf3 zf4 zf5;obtain⟨qz,⟨q0,q1,q2,q3,q4,q5⟩,⟨qf0,qf1,qf2,qf3,qf4,qf5⟩⟩:=HV2.out.c6;obtain⟨zz,⟨z0,z1,z2,z3,z4,z5⟩,⟨zf0,zf1,zf2,zf3,zf4,zf5⟩⟩:=HZ2.out.c6))
 all_goals
  go_wp2
  exact bodyPost_ret (v:=rv A all.length c k E (failS (atS E t) 3 t) dp) (by simp [results,Tryz.results14,go_sem,z0,z1,z2,z3,z4,z5]) rfl ⟨rfl,HB2.out.far6 (by omega)⟩
theorem rnext_any (h:RIn all k t)(hT:TkR w A all):Calls Tryz.prog 29 #[rv A all.length c k E t dp] w (RP A all c E dp w (nextS E t)):=by
 have HB0:=hH (((Bel.refl w.heap.size w).alloc (Nat.le_refl _) (.cells #[.slice A all.length c,.int .i64 (k:Int),.int .i64 E,.int .i64 t.fe,.int .i64 t.fa,.int .i64 dp] 54)).alloc (by simp) (.cells #[.slice none 0 0,.int .i64 0,.int .i64 0,.int .i64 0,.int .i64 0,.int .i64 0] 54))
 have HV0:=hH ((Blk.new w 54 #[.slice A all.length c,.int .i64 (k:Int),.int .i64 E,.int .i64 t.fe,.int .i64 t.fa,.int .i64 dp]).alloc (.cells #[.slice none 0 0,.int .i64 0,.int .i64 0,.int .i64 0,.int .i64 0,.int .i64 0] 54))
 have HZ0:=hH (Blk.new1 w (.cells #[.slice A all.length c,.int .i64 (k:Int),.int .i64 E,.int .i64 t.fe,.int .i64 t.fa,.int .i64 dp] 54) 54 #[.slice none 0 0,.int .i64 0,.int .i64 0,.int .i64 0,.int .i64 0,.int .i64 0])
 have HO:=hH (rover_any A all c k E t dp ((w.alloc (.cells #[.slice A all.length c,.int .i64 (k:Int),.int .i64 E,.int .i64 t.fe,.int .i64 t.fa,.int .i64 dp] 54)).alloc (.cells #[.slice none 0 0,.int .i64 0,.int .i64 0,.int .i64 0,.int .i64 0,.int .i64 0] 54)) h)
 cases ho:ovS t with
 | true =>
  rw [ho] at HO
  have HF:=hH (fun W (hb:Bel w.heap.size w W)=>rform_any A all c k E t dp W h (hT.bel hb))
  have HE:=hH (nextS_ov (E:=E) ho).1
  have HI:=hH (h.form E)
  clear ho h hT
  go_enter Tryz.func29, Tryz.ntmps29
  go_wp2_with (first|(go_at_call 16;refine(HO.out).mono ?_;rintro e w1 ⟨rfl,hb⟩;have HB1:=hH (HB0.out.next hb);have HV1:=hH (HV0.out.bel hb HV0.out.lt);have HZ1:=hH (HZ0.out.bel hb HZ0.out.lt);clear hb;obtain⟨qz,⟨q0,q1,q2,q3,q4,q5⟩,⟨qf0,qf1,qf2,qf3,qf4,qf5⟩⟩:=HV1.out.c6;obtain⟨zz,⟨z0,z1,z2,z3,z4,z5⟩,⟨zf0,zf1,zf2,zf3,zf4,zf5⟩⟩:=HZ1.out.c6)|(go_at_call 14;refine(HF.out _ HB1.out).mono ?_;rintro e w2 ⟨rfl,hb⟩;have HB2:=hH (HB1.out.next hb);have HV2:=hH (HV1.out.bel hb HV1.out.lt);have HZ2:=hH (HZ1.out.bel hb HZ1.out.lt);clear hb;clear qz q0 q1 q2 q3 q4 q5 qf0 qf1 qf2 qf3 qf4 qf5;clear zz z0 z1 z2 z3 z4 z5 zf0 zf1 zf2 zf3 zf4 zf5;obtain⟨qz,⟨q0,q1,q2,q3,q4,q5⟩,⟨qf0,qf1,qf2,qf3,qf4,qf5⟩⟩:=HV2.out.c6;obtain⟨zz,⟨z0,z1,z2,z3,z4,z5⟩,⟨zf0,zf1,zf2,zf3,zf4,zf5⟩⟩:=HZ2.out.c6))
  rw [HE.out]
  exact bodyPost_ret (v:=rv A all.length c k E (formS E t) dp) (by simp [results,Tryz.results29,go_sem,z0,z1,z2,z3,z4,z5]) rfl ⟨k,rfl,HI.out,HB2.out.far6 (by omega)⟩
 | false =>
  rw [ho] at HO
  obtain⟨hlt,hf⟩:=h.ov_no ho
  obtain⟨x,hx,ht⟩:=h.head hlt
  obtain⟨toks,fe,fa⟩:=t
  simp only at hf ht
  have HE:=hH (show nextS E ⟨toks,fe,fa⟩=⟨all.drop (k+1),fe,fa⟩ by unfold nextS;simp only;rw [if_pos hf,ht])
  have HI:=hH (show RIn all (k+1) ⟨all.drop (k+1),fe,fa⟩ from⟨rfl,by omega,h.bd⟩)
  have hbd:=h.bd
  clear ho h hT hf ht hx
  go_enter Tryz.func29, Tryz.ntmps29
  go_wp2_with (first|(go_at_call 16;refine(HO.out).mono ?_;rintro e w1 ⟨rfl,hb⟩;have HB1:=hH (HB0.out.next hb);have HV1:=hH (HV0.out.bel hb HV0.out.lt);have HZ1:=hH (HZ0.out.bel hb HZ0.out.lt);clear hb;obtain⟨qz,⟨q0,q1,q2,q3,q4,q5⟩,⟨qf0,qf1,qf2,qf3,qf4,qf5⟩⟩:=HV1.out.c6;obtain⟨zz,⟨z0,z1,z2,z3,z4,z5⟩,⟨zf0,zf1,zf2,zf3,zf4,zf5⟩⟩:=HZ1.out.c6))
  rw [HE.out]
  exact bodyPost_ret (v:=rv A all.length c (k+1) E ⟨all.drop (k+1),fe,fa⟩ dp) (by simp [results,Tryz.results29,go_sem,z0,z1,z2,z3,z4,z5]) rfl ⟨k+1,rfl,HI.out,(HB1.out.setCell (p:=⟨w.heap.size,1,none⟩) (Nat.le_refl _) _).far6 (by omega)⟩
theorem rmust_any (s:ByteArray)(h:RIn all k t)(hT:TkR w A all):Calls Tryz.prog 67 #[rv A all.length c k E t dp,.string s] w (RP A all c E dp w (mustS E s.data.toList t)):=by
 have HB0:=hH (((Bel.refl w.heap.size w).alloc (Nat.le_refl _) (.cells #[.slice A all.length c,.int .i64 (k:Int),.int .i64 E,.int .i64 t.fe,.int .i64 t.fa,.int .i64 dp] 54)).alloc (by simp) (.cells #[.slice none 0 0,.int .i64 0,.int .i64 0,.int .i64 0,.int .i64 0,.int .i64 0] 54))
 have HV0:=hH ((Blk.new w 54 #[.slice A all.length c,.int .i64 (k:Int),.int .i64 E,.int .i64 t.fe,.int .i64 t.fa,.int .i64 dp]).alloc (.cells #[.slice none 0 0,.int .i64 0,.int .i64 0,.int .i64 0,.int .i64 0,.int .i64 0] 54))
 have HZ0:=hH (Blk.new1 w (.cells #[.slice A all.length c,.int .i64 (k:Int),.int .i64 E,.int .i64 t.fe,.int .i64 t.fa,.int .i64 dp] 54) 54 #[.slice none 0 0,.int .i64 0,.int .i64 0,.int .i64 0,.int .i64 0,.int .i64 0])
 have HS:=hH (ris_any A all c k E t dp ((w.alloc (.cells #[.slice A all.length c,.int .i64 (k:Int),.int .i64 E,.int .i64 t.fe,.int .i64 t.fa,.int .i64 dp] 54)).alloc (.cells #[.slice none 0 0,.int .i64 0,.int .i64 0,.int .i64 0,.int .i64 0,.int .i64 0] 54)) s h (hT.bel HB0.out))
 cases ho:isS s.data.toList t with
 | true =>
  rw [ho] at HS
  have HF:=hH (fun W (hb:Bel w.heap.size w W)=>rnext_any A all c k E t dp W h (hT.bel hb))
  have HE:=hH (show mustS E s.data.toList t=nextS E t by unfold mustS;rw [if_pos ho])
  unfold RP at HF
  clear ho h hT
  go_enter Tryz.func67, Tryz.ntmps67
  go_wp2_with (first|(go_at_call 13;refine(HS.out).mono ?_;rintro e w1 ⟨rfl,hb⟩;have HB1:=hH (HB0.out.next hb);have HV1:=hH (HV0.out.bel hb HV0.out.lt);have HZ1:=hH (HZ0.out.bel hb HZ0.out.lt);clear hb;obtain⟨qz,⟨q0,q1,q2,q3,q4,q5⟩,⟨qf0,qf1,qf2,qf3,qf4,qf5⟩⟩:=HV1.out.c6;obtain⟨zz,⟨z0,z1,z2,z3,z4,z5⟩,⟨zf0,zf1,zf2,zf3,zf4,zf5⟩⟩:=HZ1.out.c6)|(go_at_call 29;refine(HF.out _ HB1.out).mono ?_;rintro e w2 ⟨k2,rfl,hi2,hb⟩;have HB2:=hH (HB1.out.next hb);have HV2:=hH (HV1.out.bel hb HV1.out.lt);have HZ2:=hH (HZ1.out.bel hb HZ1.out.lt);clear hb;have HI2:=hH hi2;clear hi2;clear qz q0 q1 q2 q3 q4 q5 qf0 qf1 qf2 qf3 qf4 qf5;clear zz z0 z1 z2 z3 z4 z5 zf0 zf1 zf2 zf3 zf4 zf5;obtain⟨qz,⟨q0,q1,q2,q3,q4,q5⟩,⟨qf0,qf1,qf2,qf3,qf4,qf5⟩⟩:=HV2.out.c6;obtain⟨zz,⟨z0,z1,z2,z3,z4,z5⟩,⟨zf0,zf1,zf2,zf3,zf4,zf5⟩⟩:=HZ2.out.c6))
  rw [HE.out]
  exact bodyPost_ret (v:=rv A all.length c k2 E (nextS E t) dp) (by simp [results,Tryz.results67,go_sem,z0,z1,z2,z3,z4,z5]) rfl ⟨k2,rfl,HI2.out,HB2.out.far6 (by omega)⟩
 | false =>
  rw [ho] at HS
  have HF:=hH (fun W (hb:Bel w.heap.size w W)=>rform_any A all c k E t dp W h (hT.bel hb))
  have HE:=hH (show mustS E s.data.toList t=formS E t by unfold mustS;rw [if_neg (by rw [ho];decide)])
  have HI:=hH (h.form E)
  clear ho h hT
  go_enter Tryz.func67, Tryz.ntmps67
  go_wp2_with (first|(go_at_call 13;refine(HS.out).mono ?_;rintro e w1 ⟨rfl,hb⟩;have HB1:=hH (HB0.out.next hb);have HV1:=hH (HV0.out.bel hb HV0.out.lt);have HZ1:=hH (HZ0.out.bel hb HZ0.out.lt);clear hb;obtain⟨qz,⟨q0,q1,q2,q3,q4,q5⟩,⟨qf0,qf1,qf2,qf3,qf4,qf5⟩⟩:=HV1.out.c6;obtain⟨zz,⟨z0,z1,z2,z3,z4,z5⟩,⟨zf0,zf1,zf2,zf3,zf4,zf5⟩⟩:=HZ1.out.c6)|(go_at_call 14;refine(HF.out _ HB1.out).mono ?_;rintro e w2 ⟨rfl,hb⟩;have HB2:=hH (HB1.out.next hb);have HV2:=hH (HV1.out.bel hb HV1.out.lt);have HZ2:=hH (HZ1.out.bel hb HZ1.out.lt);clear hb;clear qz q0 q1 q2 q3 q4 q5 qf0 qf1 qf2 qf3 qf4 qf5;clear zz z0 z1 z2 z3 z4 z5 zf0 zf1 zf2 zf3 zf4 zf5;obtain⟨qz,⟨q0,q1,q2,q3,q4,q5⟩,⟨qf0,qf1,qf2,qf3,qf4,qf5⟩⟩:=HV2.out.c6;obtain⟨zz,⟨z0,z1,z2,z3,z4,z5⟩,⟨zf0,zf1,zf2,zf3,zf4,zf5⟩⟩:=HZ2.out.c6))
  rw [HE.out]
  exact bodyPost_ret (v:=rv A all.length c k E (formS E t) dp) (by simp [results,Tryz.results67,go_sem,z0,z1,z2,z3,z4,z5]) rfl ⟨k,rfl,HI.out,HB2.out.far6 (by omega)⟩
theorem rshut_any :Calls Tryz.prog 87 #[rv A all.length c k E t dp] w fun e w'=>e=.returned (rv A all.length c k E t (wrap64 (dp-1)))∧Bel w.heap.size w w':=by
 go_enter Tryz.func87, Tryz.ntmps87
 go_wp2
 exact bodyPost_ret (v:=rv A all.length c k E t (wrap64 (dp-1))) (by simp [results,Tryz.results87,go_sem]) rfl ⟨rfl,Bel.of (by (repeat' (first | (with_reducible exact Below.refl _ _) | (with_reducible refine Below.trans ?_ (below_drewN _ _ _)) | (with_reducible refine Below.alloc ?_ ?_ _) | (with_reducible refine Below.setCell ?_ ?_ _) | (with_reducible refine Below.drew ?_) | go_size)))⟩
end
end
/- ref17: number (printed by gen_rb.py). -/
section
open Go.RowKit
set_option maxRecDepth 100000
set_option maxHeartbeats 2000000
section
variable  (A:Option Addr)(all:List TokD)(c k:Nat)(E:Int)(t:PSt)(dp:Int)(w:World)
theorem rnumber_no (h:RIn all k t)(hT:TkR w A all)(hk:kindS t≠3):Calls Tryz.prog 88 #[rv A all.length c k E t dp] w fun e w'=>e=.returned (.tuple #[rv A all.length c k E t dp,.int .i64 0,.bool false])∧Bel w.heap.size w w':=by
 have HB0:=hH (((Bel.refl w.heap.size w).alloc (Nat.le_refl _) (.cells #[.slice A all.length c,.int .i64 (k:Int),.int .i64 E,.int .i64 t.fe,.int .i64 t.fa,.int .i64 dp] 54)).alloc (by simp) (.cells #[.slice none 0 0,.int .i64 0,.int .i64 0,.int .i64 0,.int .i64 0,.int .i64 0] 54))
 have HV0:=hH ((Blk.new w 54 #[.slice A all.length c,.int .i64 (k:Int),.int .i64 E,.int .i64 t.fe,.int .i64 t.fa,.int .i64 dp]).alloc (.cells #[.slice none 0 0,.int .i64 0,.int .i64 0,.int .i64 0,.int .i64 0,.int .i64 0] 54))
 have HZ0:=hH (Blk.new1 w (.cells #[.slice A all.length c,.int .i64 (k:Int),.int .i64 E,.int .i64 t.fe,.int .i64 t.fa,.int .i64 dp] 54) 54 #[.slice none 0 0,.int .i64 0,.int .i64 0,.int .i64 0,.int .i64 0,.int .i64 0])
 obtain⟨q,hq⟩:∃q,kindS t=q:=⟨_,rfl⟩
 have HK:=hH (rkind_at A all c k E t dp _ q h (hT.bel HB0.out) (hH hq))
 have hq3:(q != 3)=true:=by rw [bne_iff_ne,←hq];exact hk
 clear h hT hk hq
 go_enter Tryz.func88, Tryz.ntmps88
 go_wp2_with (first|(go_at_call 26;refine(HK.out).mono ?_;rintro e w1 ⟨rfl,hb⟩;have HB1:=hH (HB0.out.next hb);have HV1:=hH (HV0.out.bel hb HV0.out.lt);have HZ1:=hH (HZ0.out.bel hb HZ0.out.lt);clear hb;obtain⟨qz,⟨q0,q1,q2,q3,q4,q5⟩,⟨qf0,qf1,qf2,qf3,qf4,qf5⟩⟩:=HV1.out.c6;obtain⟨zz,⟨z0,z1,z2,z3,z4,z5⟩,⟨zf0,zf1,zf2,zf3,zf4,zf5⟩⟩:=HZ1.out.c6))
 exact bodyPost_ret (v:=.tuple #[rv A all.length c k E t dp,.int .i64 0,.bool false]) (by simp [results,Tryz.results88,go_sem,z0,z1,z2,z3,z4,z5]) rfl ⟨rfl,HB1.out.far6 (by omega)⟩
theorem rnumber_yes (h:RIn all k t)(hT:TkR w A all)(hk:kindS t=3):Calls Tryz.prog 88 #[rv A all.length c k E t dp] w fun e w'=>∃k',e=.returned (.tuple #[rv A all.length c k' E (nextS E t) dp,.int .i64 (hdT t).n,.bool true])∧RIn all k' (nextS E t)∧Bel w.heap.size w w':=by
 have HB0:=hH (((Bel.refl w.heap.size w).alloc (Nat.le_refl _) (.cells #[.slice A all.length c,.int .i64 (k:Int),.int .i64 E,.int .i64 t.fe,.int .i64 t.fa,.int .i64 dp] 54)).alloc (by simp) (.cells #[.slice none 0 0,.int .i64 0,.int .i64 0,.int .i64 0,.int .i64 0,.int .i64 0] 54))
 have HV0:=hH ((Blk.new w 54 #[.slice A all.length c,.int .i64 (k:Int),.int .i64 E,.int .i64 t.fe,.int .i64 t.fa,.int .i64 dp]).alloc (.cells #[.slice none 0 0,.int .i64 0,.int .i64 0,.int .i64 0,.int .i64 0,.int .i64 0] 54))
 have HZ0:=hH (Blk.new1 w (.cells #[.slice A all.length c,.int .i64 (k:Int),.int .i64 E,.int .i64 t.fe,.int .i64 t.fa,.int .i64 dp] 54) 54 #[.slice none 0 0,.int .i64 0,.int .i64 0,.int .i64 0,.int .i64 0,.int .i64 0])
 obtain⟨q,hq⟩:∃q,kindS t=q:=⟨_,rfl⟩
 have HK:=hH (rkind_at A all c k E t dp _ q h (hT.bel HB0.out) (hH hq))
 have hq3:(q != 3)=false:=by rw [←hq,hk];rfl
 have hov:ovS t=false:=by
  cases h9:ovS t with
  | false=>rfl
  | true=>have:=(nextS_ov (E:=E) h9).2;unfold kindS at hk;rw [this] at hk;simp [tok0] at hk
 obtain⟨hlt,hf⟩:=h.ov_no hov
 obtain⟨x,hx,-⟩:=h.head hlt
 have hh:=h.hd hx hf
 have HN:=hH (fun W (hb:Bel w.heap.size w W)=>rnext_any A all c k E t dp W h (hT.bel hb))
 unfold RP at HN
 obtain⟨b,off,hA,hb0,d0,d1,d2,d3,d4⟩:=hT.at_ hx
 have hlt2:(k:Int)<(all.length:Int):=by omega
 have hbd:=h.bd
 rw [hh]
 subst hA
 clear h hT hk hq hov hf hx hh
 go_enter Tryz.func88, Tryz.ntmps88
 go_upto_region 3 with(first|(go_at_call 26;refine(HK.out).mono ?_;rintro e w1 ⟨rfl,hb⟩;have HB1:=hH (HB0.out.next hb);have HV1:=hH (HV0.out.bel hb HV0.out.lt);have HZ1:=hH (HZ0.out.bel hb HZ0.out.lt);have e2:=(HB1.out.cell (p:=⟨b,off+k*5+2,none⟩) hb0).trans d2;clear hb;obtain⟨qz,⟨q0,q1,q2,q3,q4,q5⟩,⟨qf0,qf1,qf2,qf3,qf4,qf5⟩⟩:=HV1.out.c6;obtain⟨zz,⟨z0,z1,z2,z3,z4,z5⟩,⟨zf0,zf1,zf2,zf3,zf4,zf5⟩⟩:=HZ1.out.c6))
 have hS1:w1.drew.cell? ⟨w.heap.size,0,none⟩=some (.slice (some ⟨b,off,none⟩) all.length c)∧w1.drew.cell? ⟨w.heap.size,1,none⟩=some (.int .i64 (k:Int))∧w1.drew.cell? ⟨w.heap.size,2,none⟩=some (.int .i64 E)∧w1.drew.cell? ⟨w.heap.size,3,none⟩=some (.int .i64 t.fe)∧w1.drew.cell? ⟨w.heap.size,4,none⟩=some (.int .i64 t.fa)∧w1.drew.cell? ⟨w.heap.size,5,none⟩=some (.int .i64 dp)∧w1.drew.cell? ⟨b,off+k*5+2,none⟩=some (.int .i64 x.n):=⟨q0,q1,q2,q3,q4,q5,e2⟩
 have hn1:w.heap.size≠w.heap.size+1:=by omega
 have hn2:b≠w.heap.size+1:=by omega
 go_region_held3 (fun w'=>w'.cell? ⟨w.heap.size,0,none⟩=some (.slice (some ⟨b,off,none⟩) all.length c)∧w'.cell? ⟨w.heap.size,1,none⟩=some (.int .i64 (k:Int))∧w'.cell? ⟨w.heap.size,2,none⟩=some (.int .i64 E)∧w'.cell? ⟨w.heap.size,3,none⟩=some (.int .i64 t.fe)∧w'.cell? ⟨w.heap.size,4,none⟩=some (.int .i64 t.fa)∧w'.cell? ⟨w.heap.size,5,none⟩=some (.int .i64 dp)∧w'.cell? ⟨b,off+k*5+2,none⟩=some (.int .i64 x.n)) (first|(with_reducible exact hS1)|(with_reducible exact hS2)|(with_reducible exact⟨cell_far6 hS2.1 hn1,cell_far6 hS2.2.1 hn1,cell_far6 hS2.2.2.1 hn1,cell_far6 hS2.2.2.2.1 hn1,cell_far6 hS2.2.2.2.2.1 hn1,cell_far6 hS2.2.2.2.2.2.1 hn1,cell_far6 hS2.2.2.2.2.2.2 hn2⟩)|(trace_state;fail)) (first|(go_at_call 29;refine(HN.out _ ?_).mono ?_;(first|exact HB1.out|exact HB1.out.drew|exact HB1.out.drew.drew);rintro e w2 ⟨k2,rfl,hi2,hb⟩;have HI2:=hH hi2;have HB2:=hH (show Bel w.heap.size w w2 by (first|exact HB1.out.next hb|exact HB1.out.drew.next hb|exact HB1.out.drew.drew.next hb));have HV2:=hH (show Blk w2 w.heap.size 54 #[.slice (some ⟨b,off,none⟩) all.length c,.int .i64 (k:Int),.int .i64 E,.int .i64 t.fe,.int .i64 t.fa,.int .i64 dp] by (first|exact HV1.out.bel hb HV1.out.lt|exact HV1.out.drew.bel hb HV1.out.lt|exact HV1.out.drew.drew.bel hb HV1.out.lt));have HZ2:=hH (show Blk w2 (w.heap.size+1) 54 #[.slice none 0 0,.int .i64 0,.int .i64 0,.int .i64 0,.int .i64 0,.int .i64 0] by (first|exact HZ1.out.bel hb HZ1.out.lt|exact HZ1.out.drew.bel hb HZ1.out.lt|exact HZ1.out.drew.drew.bel hb HZ1.out.lt));clear hi2 hb;obtain⟨rz,⟨r0,r1,r2,r3,r4,r5⟩,⟨rf0,rf1,rf2,rf3,rf4,rf5⟩⟩:=HV2.out.c6;obtain⟨yz,⟨y0,y1,y2,y3,y4,y5⟩,⟨yf0,yf1,yf2,yf3,yf4,yf5⟩⟩:=HZ2.out.c6;have hS2:w2.cell? ⟨w.heap.size,0,none⟩=some (.slice (some ⟨b,off,none⟩) all.length c)∧w2.cell? ⟨w.heap.size,1,none⟩=some (.int .i64 (k:Int))∧w2.cell? ⟨w.heap.size,2,none⟩=some (.int .i64 E)∧w2.cell? ⟨w.heap.size,3,none⟩=some (.int .i64 t.fe)∧w2.cell? ⟨w.heap.size,4,none⟩=some (.int .i64 t.fa)∧w2.cell? ⟨w.heap.size,5,none⟩=some (.int .i64 dp)∧w2.cell? ⟨b,off+k*5+2,none⟩=some (.int .i64 x.n):=⟨r0,r1,r2,r3,r4,r5,(HB2.out.cell (p:=⟨b,off+k*5+2,none⟩) hb0).trans d2⟩;clear r0 r1 r2 r3 r4 r5 rf0 rf1 rf2 rf3 rf4 rf5))
 all_goals
  go_wp2
  exact bodyPost_ret (v:=.tuple #[rv (some ⟨b,off,none⟩) all.length c k2 E (nextS E t) dp,.int .i64 x.n,.bool true]) (by simp [results,Tryz.results88,go_sem,y0,y1,y2,y3,y4,y5]) rfl ⟨k2,rfl,HI2.out,HB2.out.far6 (by omega)⟩
end
end
/- ref17: open (printed by gen_rb.py). -/
section
open Go.RowKit
set_option maxRecDepth 100000
set_option maxHeartbeats 2000000
section
variable  (A:Option Addr)(all:List TokD)(c k:Nat)(E:Int)(t:PSt)(dp:Int)(w:World)
theorem ropen_deep (h:RIn all k t)(hT:TkR w A all)(D:Int)(hD:wrap64 (dp+1)=D)(hb32:32<D):Calls Tryz.prog 85 #[rv A all.length c k E t dp] w fun e w'=>∃k',e=.returned (rv A all.length c k' E (nextS E (failS (atS E t) 5 t)) D)∧RIn all k' (nextS E (failS (atS E t) 5 t))∧Bel w.heap.size w w':=by
 have HB0:=hH ((((Bel.refl w.heap.size w).alloc (Nat.le_refl _) (.cells #[.slice A all.length c,.int .i64 (k:Int),.int .i64 E,.int .i64 t.fe,.int .i64 t.fa,.int .i64 D] 54)).alloc (by simp) (.cells #[.slice none 0 0,.int .i64 0,.int .i64 0,.int .i64 0,.int .i64 0,.int .i64 0] 54)))
 have HV0:=hH ((Blk.new w 54 #[.slice A all.length c,.int .i64 (k:Int),.int .i64 E,.int .i64 t.fe,.int .i64 t.fa,.int .i64 D]).alloc (.cells #[.slice none 0 0,.int .i64 0,.int .i64 0,.int .i64 0,.int .i64 0,.int .i64 0] 54))
 have HZ0:=hH (Blk.new1 w (.cells #[.slice A all.length c,.int .i64 (k:Int),.int .i64 E,.int .i64 t.fe,.int .i64 t.fa,.int .i64 D] 54) 54 #[.slice none 0 0,.int .i64 0,.int .i64 0,.int .i64 0,.int .i64 0,.int .i64 0])
 have HAT:=hH (fun W (hb:Bel w.heap.size w W)=>rat_any A all c k E t D W h (hT.bel hb))
 have HFL:=hH (fun W=>rfail_any A all c k E t D W (atS E t) 5)
 have HN:=hH (fun W (hb:Bel w.heap.size w W)=>rnext_any A all c k E (failS (atS E t) 5 t) D W (h.fail _ _) (hT.bel hb))
 unfold RP at HN
 clear h hT
 go_enter Tryz.func85, Tryz.ntmps85
 go_upto_region 3 with fail
 go_region_with (first|(go_at_call 28;refine(HAT.out _ ?_).mono ?_;(first|exact HB0.out|exact HB0.out.drew|exact HB0.out.drew.drew);rintro e w1 ⟨rfl,hb⟩;have HB1:=hH (show Bel w.heap.size w w1 by (first|exact HB0.out.next hb|exact HB0.out.drew.next hb|exact HB0.out.drew.drew.next hb));have HV1:=hH (show Blk w1 w.heap.size 54 #[.slice A all.length c,.int .i64 (k:Int),.int .i64 E,.int .i64 t.fe,.int .i64 t.fa,.int .i64 D] by (first|exact HV0.out.bel hb HV0.out.lt|exact HV0.out.drew.bel hb HV0.out.lt|exact HV0.out.drew.drew.bel hb HV0.out.lt));have HZ1:=hH (show Blk w1 (w.heap.size+1) 54 #[.slice none 0 0,.int .i64 0,.int .i64 0,.int .i64 0,.int .i64 0,.int .i64 0] by (first|exact HZ0.out.bel hb HZ0.out.lt|exact HZ0.out.drew.bel hb HZ0.out.lt|exact HZ0.out.drew.drew.bel hb HZ0.out.lt));clear hb;obtain⟨qz,⟨q0,q1,q2,q3,q4,q5⟩,⟨qf0,qf1,qf2,qf3,qf4,qf5⟩⟩:=HV1.out.c6;obtain⟨zz,⟨z0,z1,z2,z3,z4,z5⟩,⟨zf0,zf1,zf2,zf3,zf4,zf5⟩⟩:=HZ1.out.c6)|(go_at_call 27;refine(HFL.out _).mono ?_;rintro e w2 ⟨rfl,hb⟩;have HB2:=hH (show Bel w.heap.size w w2 by (first|exact HB1.out.next hb|exact HB1.out.drew.next hb|exact HB1.out.drew.drew.next hb));have HV2:=hH (show Blk w2 w.heap.size 54 #[.slice A all.length c,.int .i64 (k:Int),.int .i64 E,.int .i64 t.fe,.int .i64 t.fa,.int .i64 D] by (first|exact HV1.out.bel hb HV1.out.lt|exact HV1.out.drew.bel hb HV1.out.lt|exact HV1.out.drew.drew.bel hb HV1.out.lt));have HZ2:=hH (show Blk w2 (w.heap.size+1) 54 #[.slice none 0 0,.int .i64 0,.int .i64 0,.int .i64 0,.int .i64 0,.int .i64 0] by (first|exact HZ1.out.bel hb HZ1.out.lt|exact HZ1.out.drew.bel hb HZ1.out.lt|exact HZ1.out.drew.drew.bel hb HZ1.out.lt));clear hb;clear qz q0 q1 q2 q3 q4 q5 qf0 qf1 qf2 qf3 qf4 qf5;clear zz z0 z1 z2 z3 z4 z5 zf0 zf1 zf2 zf3 zf4 zf5;obtain⟨qz,⟨q0,q1,q2,q3,q4,q5⟩,⟨qf0,qf1,qf2,qf3,qf4,qf5⟩⟩:=HV2.out.c6;obtain⟨zz,⟨z0,z1,z2,z3,z4,z5⟩,⟨zf0,zf1,zf2,zf3,zf4,zf5⟩⟩:=HZ2.out.c6))
 all_goals
  have hne:w.heap.size≠w.heap.size+1:=by omega
  have hne2:w.heap.size+1≠w.heap.size:=by omega
  go_wp2_with (go_at_call 29;refine(HN.out _ (HB2.out.far6 (Nat.le_refl _))).mono ?_;rintro e w4 ⟨k2,rfl,hi2,hb⟩;have HI2:=hH hi2;have HB4:=hH ((HB2.out.far6 (Nat.le_refl _)).next hb);have HZ4:=hH ((HZ2.out.far6 hne2).bel hb (HZ2.out.far6 hne2).lt);clear hi2 hb;clear qz q0 q1 q2 q3 q4 q5 qf0 qf1 qf2 qf3 qf4 qf5;clear zz z0 z1 z2 z3 z4 z5 zf0 zf1 zf2 zf3 zf4 zf5;obtain⟨zz,⟨z0,z1,z2,z3,z4,z5⟩,⟨zf0,zf1,zf2,zf3,zf4,zf5⟩⟩:=HZ4.out.c6)
  exact bodyPost_ret (v:=rv A all.length c k2 E (nextS E (failS (atS E t) 5 t)) D) (by simp [results,Tryz.results85,go_sem,z0,z1,z2,z3,z4,z5]) rfl ⟨k2,rfl,HI2.out,HB4.out.far6 (by omega)⟩
theorem ropen_ok (h:RIn all k t)(hT:TkR w A all)(D:Int)(hD:wrap64 (dp+1)=D)(hb32:¬32<D):Calls Tryz.prog 85 #[rv A all.length c k E t dp] w fun e w'=>∃k',e=.returned (rv A all.length c k' E (nextS E (t)) D)∧RIn all k' (nextS E (t))∧Bel w.heap.size w w':=by
 have HB0:=hH ((((Bel.refl w.heap.size w).alloc (Nat.le_refl _) (.cells #[.slice A all.length c,.int .i64 (k:Int),.int .i64 E,.int .i64 t.fe,.int .i64 t.fa,.int .i64 D] 54)).alloc (by simp) (.cells #[.slice none 0 0,.int .i64 0,.int .i64 0,.int .i64 0,.int .i64 0,.int .i64 0] 54)))
 have HV0:=hH ((Blk.new w 54 #[.slice A all.length c,.int .i64 (k:Int),.int .i64 E,.int .i64 t.fe,.int .i64 t.fa,.int .i64 D]).alloc (.cells #[.slice none 0 0,.int .i64 0,.int .i64 0,.int .i64 0,.int .i64 0,.int .i64 0] 54))
 have HZ0:=hH (Blk.new1 w (.cells #[.slice A all.length c,.int .i64 (k:Int),.int .i64 E,.int .i64 t.fe,.int .i64 t.fa,.int .i64 D] 54) 54 #[.slice none 0 0,.int .i64 0,.int .i64 0,.int .i64 0,.int .i64 0,.int .i64 0])
 have HN:=hH (fun W (hb:Bel w.heap.size w W)=>rnext_any A all c k E t D W h (hT.bel hb))
 unfold RP at HN
 clear h hT
 go_enter Tryz.func85, Tryz.ntmps85
 go_wp2_with (first|(go_at_call 29;refine(HN.out _ HB0.out).mono ?_;rintro e w1 ⟨k2,rfl,hi2,hb⟩;have HB1:=hH (HB0.out.next hb);have HV1:=hH (HV0.out.bel hb HV0.out.lt);have HZ1:=hH (HZ0.out.bel hb HZ0.out.lt);clear hb;have HI2:=hH hi2;clear hi2;obtain⟨qz,⟨q0,q1,q2,q3,q4,q5⟩,⟨qf0,qf1,qf2,qf3,qf4,qf5⟩⟩:=HV1.out.c6;obtain⟨zz,⟨z0,z1,z2,z3,z4,z5⟩,⟨zf0,zf1,zf2,zf3,zf4,zf5⟩⟩:=HZ1.out.c6))
 exact bodyPost_ret (v:=rv A all.length c k2 E (nextS E t) D) (by simp [results,Tryz.results85,go_sem,z0,z1,z2,z3,z4,z5]) rfl ⟨k2,rfl,HI2.out,HB1.out.far6 (by omega)⟩
end
end

end Go.Proofs.YtjbdcjcfijjiiaaGreatDoor
