/- NG10: Ye, Qg0 joined. -/
import Derived.Deep.RegionHeld3
import Derived.Test.YtjbdcjcfijjiiaaGreatDoorNG08
import Derived.Test.YtjbdcjcfijjiiaaGreatDoorNG09
namespace Go.Proofs.YtjbdcjcfijjiiaaGreatDoor
open Go.RowKit
/- ref17: sel, where it is no filter and no number (printed by gen_rsel.py). -/
section
open Go.RowKit
set_option maxRecDepth 100000
set_option maxHeartbeats 2000000
theorem Blk.new2 (w:World)(o o':Obj)(t:TypeId)(cs:Array Value):Blk (((w.alloc o).alloc o').alloc (.cells cs t)) (w.heap.size+2) t cs:=by
 have:=Blk.new ((w.alloc o).alloc o') t cs;simpa using this
theorem Bel.far9b {B:Nat}{a w:World}(h:Bel B a w){k:Nat}(hk:B≤k){u0 u1 u2 u3 u4 u5 u6 u7 u8:Value}:Bel B a (((((((((w.setCell ⟨k,0,none⟩ u0).setCell ⟨k,1,none⟩ u1).setCell ⟨k,2,none⟩ u2).setCell ⟨k,3,none⟩ u3).setCell ⟨k,4,none⟩ u4).setCell ⟨k,5,none⟩ u5).setCell ⟨k,6,none⟩ u6).setCell ⟨k,7,none⟩ u7).setCell ⟨k,8,none⟩ u8) :=
 ((((((((h.setCell hk u0).setCell hk u1).setCell hk u2).setCell hk u3).setCell hk u4).setCell hk u5).setCell hk u6).setCell hk u7).setCell hk u8
theorem cell_far9 {w:World}{b o:Nat}{v:Value}(h:w.cell? ⟨b,o,none⟩=some v){k:Nat}(hk:b≠k){u0 u1 u2 u3 u4 u5 u6 u7 u8:Value}:((((((((((w.setCell ⟨k,0,none⟩ u0).setCell ⟨k,1,none⟩ u1).setCell ⟨k,2,none⟩ u2).setCell ⟨k,3,none⟩ u3).setCell ⟨k,4,none⟩ u4).setCell ⟨k,5,none⟩ u5).setCell ⟨k,6,none⟩ u6).setCell ⟨k,7,none⟩ u7).setCell ⟨k,8,none⟩ u8)).cell? ⟨b,o,none⟩=some v:=by
 have s:∀(x:World) (i:Nat) (u:Value),(x.setCell ⟨k,i,none⟩ u).cell? ⟨b,o,none⟩=x.cell? ⟨b,o,none⟩:=fun x i u=>World.cell?_of_block (Below.heap_setCell x ⟨k,i,none⟩ u b hk)
 rw [s,s,s,s,s,s,s,s,s];exact h
def RSelP (A:Option Addr)(all:List TokD)(c:Nat)(E:Int)(d:Nat)(w:World)(r:SelT×PSt)(e:Ending)(w':World):Prop :=
 ∃m pv k' dp',e=.returned (.tuple #[rv A all.length c k' E r.2 dp',selV r.1 pv])∧RIn all k' r.2∧(r.2.fe=0→dp'=(d:Int))∧SelC (Fr w) (ExR (Fr w) m w') w' (selL r.1 pv) r.1∧Bel w.heap.size w w'
theorem RSelP.plain {A:Option Addr}{all:List TokD}{c:Nat}{E:Int}{d k':Nat}{dp':Int}{w w':World}{r:SelT×PSt}{x:SelT}{t':PSt}(h:r=(x,t'))(hf:x.f=none)(h1:RIn all k' t')(h2:t'.fe=0→dp'=(d:Int))(hb:Bel w.heap.size w w') :
  RSelP A all c E d w r (.returned (.tuple #[rv A all.length c k' E t' dp',selV x (.pointer none)])) w':=by
 subst h
 exact⟨0,_,k',dp',rfl,h1,h2,⟨_,rfl,by rw [hf];rfl⟩,hb⟩
theorem nextS_fe0 {E:Int}{t:PSt}(h:(nextS E t).fe=0):t.fe=0:=Classical.byContradiction fun hf=>by rw [nextS_bad hf] at h;exact hf h
section
variable  (A:Option Addr)(all:List TokD)(c k:Nat)(E:Int)(P:Nat→PSt→ExprT×PSt)(t:PSt)(d:Nat)(dp:Int)(w:World)
theorem rsel_wild (h:RIn all k t)(hT:TkR w A all)(hd:t.fe=0→dp=(d:Int))(k4:kindS t≠4)(h42:isS [42] t=true):Calls Tryz.prog 68 #[rv A all.length c k E t dp] w (RSelP A all c E d w (selF E P d t)):=by
 have HB0:=hH ((((Bel.refl w.heap.size w).alloc (Nat.le_refl _) (.cells #[.slice A all.length c,.int .i64 (k:Int),.int .i64 E,.int .i64 t.fe,.int .i64 t.fa,.int .i64 dp] 54)).alloc (by simp) (.cells #[.slice none 0 0,.int .i64 0,.int .i64 0,.int .i64 0,.int .i64 0,.int .i64 0] 54)).alloc (by simp;omega) (.cells #[.int .i64 0,.string ⟨#[]⟩,.int .i64 0,.int .i64 0,.int .i64 0,.int .i64 0,.bool false,.bool false,.pointer none] 85))
 have HV0:=hH (((Blk.new w 54 #[.slice A all.length c,.int .i64 (k:Int),.int .i64 E,.int .i64 t.fe,.int .i64 t.fa,.int .i64 dp]).alloc (.cells #[.slice none 0 0,.int .i64 0,.int .i64 0,.int .i64 0,.int .i64 0,.int .i64 0] 54)).alloc (.cells #[.int .i64 0,.string ⟨#[]⟩,.int .i64 0,.int .i64 0,.int .i64 0,.int .i64 0,.bool false,.bool false,.pointer none] 85))
 have HZ0:=hH ((Blk.new1 w (.cells #[.slice A all.length c,.int .i64 (k:Int),.int .i64 E,.int .i64 t.fe,.int .i64 t.fa,.int .i64 dp] 54) 54 #[.slice none 0 0,.int .i64 0,.int .i64 0,.int .i64 0,.int .i64 0,.int .i64 0]).alloc (.cells #[.int .i64 0,.string ⟨#[]⟩,.int .i64 0,.int .i64 0,.int .i64 0,.int .i64 0,.bool false,.bool false,.pointer none] 85))
 have HS0:=hH (Blk.new2 w (.cells #[.slice A all.length c,.int .i64 (k:Int),.int .i64 E,.int .i64 t.fe,.int .i64 t.fa,.int .i64 dp] 54) (.cells #[.slice none 0 0,.int .i64 0,.int .i64 0,.int .i64 0,.int .i64 0,.int .i64 0] 54) 85 #[.int .i64 0,.string ⟨#[]⟩,.int .i64 0,.int .i64 0,.int .i64 0,.int .i64 0,.bool false,.bool false,.pointer none])
 obtain⟨q,hq⟩:∃q,kindS t=q:=⟨_,rfl⟩
 have hq4:(q==4)=false:=by rw [beq_eq_false_iff_ne,←hq];exact k4
 have HK:=hH (rkind_at A all c k E t dp _ q h (hT.bel HB0.out) (hH hq))
 have HI:=hH (fun W (hb:Bel w.heap.size w W)=>ris_at A all c k E t dp W ⟨#[42]⟩ true h (hT.bel hb) (hH h42))
 have HN:=hH (fun W (hb:Bel w.heap.size w W)=>rnext_any A all c k E t dp W h (hT.bel hb))
 unfold RP at HN
 have HE:=hH (show selF E P d t=(⟨1,[],0,0,0,0,false,false,none⟩,nextS E t) by unfold selF;rw [if_neg k4,ite_tt h42])
 have HD:=hH hd
 clear h hT hq k4 h42 hd
 go_enter Tryz.func68, Tryz.ntmps68
 generalize hQ:bodyPost Tryz.prog Tryz.f68 (RSelP A all c E d w (selF E P d t))=Q
 have HQ:=hH hQ;clear hQ
 go_wp2_with (first|(go_at_call 26;(with_reducible refine(HK.out).mono ?_);rintro e w1 ⟨rfl,hb⟩;have HB1:=hH (HB0.out.next hb);have HV1:=hH (HV0.out.bel hb HV0.out.lt);have HZ1:=hH (HZ0.out.bel hb HZ0.out.lt);have HS1:=hH (HS0.out.bel hb HS0.out.lt);clear hb;obtain⟨qz,⟨q0,q1,q2,q3,q4,q5⟩,⟨qf0,qf1,qf2,qf3,qf4,qf5⟩⟩:=HV1.out.c6;obtain⟨zz,⟨z0,z1,z2,z3,z4,z5⟩,⟨zf0,zf1,zf2,zf3,zf4,zf5⟩⟩:=HZ1.out.c6;obtain⟨sz,⟨s0,s1,s2,s3,s4,s5,s6,s7,s8⟩,⟨sf0,sf1,sf2,sf3,sf4,sf5,sf6,sf7,sf8⟩⟩:=HS1.out.c9)|(go_at_call 13;(with_reducible refine(HI.out _ HB1.out).mono ?_);rintro e w2 ⟨rfl,hb⟩;have HB2:=hH (HB1.out.next hb);have HV2:=hH (HV1.out.bel hb HV1.out.lt);have HZ2:=hH (HZ1.out.bel hb HZ1.out.lt);have HS2:=hH (HS1.out.bel hb HS1.out.lt);clear hb;clear qz q0 q1 q2 q3 q4 q5 qf0 qf1 qf2 qf3 qf4 qf5;clear zz z0 z1 z2 z3 z4 z5 zf0 zf1 zf2 zf3 zf4 zf5;clear sz s0 s1 s2 s3 s4 s5 s6 s7 s8 sf0 sf1 sf2 sf3 sf4 sf5 sf6 sf7 sf8;obtain⟨qz,⟨q0,q1,q2,q3,q4,q5⟩,⟨qf0,qf1,qf2,qf3,qf4,qf5⟩⟩:=HV2.out.c6;obtain⟨zz,⟨z0,z1,z2,z3,z4,z5⟩,⟨zf0,zf1,zf2,zf3,zf4,zf5⟩⟩:=HZ2.out.c6;obtain⟨sz,⟨s0,s1,s2,s3,s4,s5,s6,s7,s8⟩,⟨sf0,sf1,sf2,sf3,sf4,sf5,sf6,sf7,sf8⟩⟩:=HS2.out.c9)|(go_at_call 29;(with_reducible refine(HN.out _ HB2.out).mono ?_);rintro e w3 ⟨k2,rfl,hi2,hb⟩;have HB3:=hH (HB2.out.next hb);have HV3:=hH (HV2.out.bel hb HV2.out.lt);have HZ3:=hH (HZ2.out.bel hb HZ2.out.lt);have HS3:=hH (HS2.out.bel hb HS2.out.lt);clear hb;clear qz q0 q1 q2 q3 q4 q5 qf0 qf1 qf2 qf3 qf4 qf5;clear zz z0 z1 z2 z3 z4 z5 zf0 zf1 zf2 zf3 zf4 zf5;clear sz s0 s1 s2 s3 s4 s5 s6 s7 s8 sf0 sf1 sf2 sf3 sf4 sf5 sf6 sf7 sf8;obtain⟨qz,⟨q0,q1,q2,q3,q4,q5⟩,⟨qf0,qf1,qf2,qf3,qf4,qf5⟩⟩:=HV3.out.c6;obtain⟨zz,⟨z0,z1,z2,z3,z4,z5⟩,⟨zf0,zf1,zf2,zf3,zf4,zf5⟩⟩:=HZ3.out.c6;obtain⟨sz,⟨s0,s1,s2,s3,s4,s5,s6,s7,s8⟩,⟨sf0,sf1,sf2,sf3,sf4,sf5,sf6,sf7,sf8⟩⟩:=HS3.out.c9;have HI2:=hH hi2;clear hi2))
 rw [←HQ.out]
 exact bodyPost_ret (v:=.tuple #[rv A all.length c k2 E (nextS E t) dp,selV ⟨1,[],0,0,0,0,false,false,none⟩ (.pointer none)]) (by simp [results,Tryz.results68,go_sem,selV,bs,z0,z1,z2,z3,z4,z5,s0,s1,s2,s3,s4,s5,s6,s7,s8]) rfl (RSelP.plain HE.out rfl HI2.out (fun e=>HD.out (nextS_fe0 e)) ((HB3.out.far6 (k:=w.heap.size+1) (Nat.le_succ _)).far9b (k:=w.heap.size+2) (by omega)))
theorem rsel_form (h:RIn all k t)(hT:TkR w A all)(k4:kindS t≠4)(h42:isS [42] t=false)(h63:isS [63] t=false)(k3:kindS t≠3)(h58:isS [58] t=false):Calls Tryz.prog 68 #[rv A all.length c k E t dp] w (RSelP A all c E d w (selF E P d t)):=by
 have HB0:=hH ((((Bel.refl w.heap.size w).alloc (Nat.le_refl _) (.cells #[.slice A all.length c,.int .i64 (k:Int),.int .i64 E,.int .i64 t.fe,.int .i64 t.fa,.int .i64 dp] 54)).alloc (by simp) (.cells #[.slice none 0 0,.int .i64 0,.int .i64 0,.int .i64 0,.int .i64 0,.int .i64 0] 54)).alloc (by simp;omega) (.cells #[.int .i64 0,.string ⟨#[]⟩,.int .i64 0,.int .i64 0,.int .i64 0,.int .i64 0,.bool false,.bool false,.pointer none] 85))
 have HV0:=hH (((Blk.new w 54 #[.slice A all.length c,.int .i64 (k:Int),.int .i64 E,.int .i64 t.fe,.int .i64 t.fa,.int .i64 dp]).alloc (.cells #[.slice none 0 0,.int .i64 0,.int .i64 0,.int .i64 0,.int .i64 0,.int .i64 0] 54)).alloc (.cells #[.int .i64 0,.string ⟨#[]⟩,.int .i64 0,.int .i64 0,.int .i64 0,.int .i64 0,.bool false,.bool false,.pointer none] 85))
 have HZ0:=hH ((Blk.new1 w (.cells #[.slice A all.length c,.int .i64 (k:Int),.int .i64 E,.int .i64 t.fe,.int .i64 t.fa,.int .i64 dp] 54) 54 #[.slice none 0 0,.int .i64 0,.int .i64 0,.int .i64 0,.int .i64 0,.int .i64 0]).alloc (.cells #[.int .i64 0,.string ⟨#[]⟩,.int .i64 0,.int .i64 0,.int .i64 0,.int .i64 0,.bool false,.bool false,.pointer none] 85))
 have HS0:=hH (Blk.new2 w (.cells #[.slice A all.length c,.int .i64 (k:Int),.int .i64 E,.int .i64 t.fe,.int .i64 t.fa,.int .i64 dp] 54) (.cells #[.slice none 0 0,.int .i64 0,.int .i64 0,.int .i64 0,.int .i64 0,.int .i64 0] 54) 85 #[.int .i64 0,.string ⟨#[]⟩,.int .i64 0,.int .i64 0,.int .i64 0,.int .i64 0,.bool false,.bool false,.pointer none])
 obtain⟨q,hq⟩:∃q,kindS t=q:=⟨_,rfl⟩
 have hq4:(q==4)=false:=by rw [beq_eq_false_iff_ne,←hq];exact k4
 have hq3:(q != 3)=true:=by rw [bne_iff_ne,←hq];exact k3
 have HK:=hH (fun W (hb:Bel w.heap.size w W)=>rkind_at A all c k E t dp W q h (hT.bel hb) (hH hq))
 have HI:=hH (fun W (hb:Bel w.heap.size w W)=>ris_at A all c k E t dp W ⟨#[42]⟩ false h (hT.bel hb) (hH h42))
 have HJ:=hH (fun W (hb:Bel w.heap.size w W)=>ris_at A all c k E t dp W ⟨#[63]⟩ false h (hT.bel hb) (hH h63))
 have HM:=hH (fun W (hb:Bel w.heap.size w W)=>ris_at A all c k E t dp W ⟨#[58]⟩ false h (hT.bel hb) (hH h58))
 have HN:=hH (fun W (hb:Bel w.heap.size w W)=>rform_any A all c k E t dp W h (hT.bel hb))
 have HE:=hH (show selF E P d t=(⟨0,[],0,0,0,0,false,false,none⟩,formS E t) by unfold selF;rw [if_neg k4,ite_ff h42,ite_ff h63,decide_eq_false k3,h58];rfl)
 have HI2:=hH (h.form E)
 clear h hT hq k4 h42 h63 k3 h58
 go_enter Tryz.func68, Tryz.ntmps68
 generalize hQ:bodyPost Tryz.prog Tryz.f68 (RSelP A all c E d w (selF E P d t))=Q
 have HQ:=hH hQ;clear hQ
 go_wp2_with (first|(go_at_call 26;(with_reducible refine(HK.out _ HB3.out).mono ?_);rintro e w4 ⟨rfl,hb⟩;have HB4:=hH (HB3.out.next hb);have HV4:=hH (HV3.out.bel hb HV3.out.lt);have HZ4:=hH (HZ3.out.bel hb HZ3.out.lt);have HS4:=hH (HS3.out.bel hb HS3.out.lt);clear hb;clear qz q0 q1 q2 q3 q4 q5 qf0 qf1 qf2 qf3 qf4 qf5;clear zz z0 z1 z2 z3 z4 z5 zf0 zf1 zf2 zf3 zf4 zf5;clear sz s0 s1 s2 s3 s4 s5 s6 s7 s8 sf0 sf1 sf2 sf3 sf4 sf5 sf6 sf7 sf8;obtain⟨qz,⟨q0,q1,q2,q3,q4,q5⟩,⟨qf0,qf1,qf2,qf3,qf4,qf5⟩⟩:=HV4.out.c6;obtain⟨zz,⟨z0,z1,z2,z3,z4,z5⟩,⟨zf0,zf1,zf2,zf3,zf4,zf5⟩⟩:=HZ4.out.c6;obtain⟨sz,⟨s0,s1,s2,s3,s4,s5,s6,s7,s8⟩,⟨sf0,sf1,sf2,sf3,sf4,sf5,sf6,sf7,sf8⟩⟩:=HS4.out.c9)|(go_at_call 26;(with_reducible refine(HK.out _ HB0.out).mono ?_);rintro e w1 ⟨rfl,hb⟩;have HB1:=hH (HB0.out.next hb);have HV1:=hH (HV0.out.bel hb HV0.out.lt);have HZ1:=hH (HZ0.out.bel hb HZ0.out.lt);have HS1:=hH (HS0.out.bel hb HS0.out.lt);clear hb;obtain⟨qz,⟨q0,q1,q2,q3,q4,q5⟩,⟨qf0,qf1,qf2,qf3,qf4,qf5⟩⟩:=HV1.out.c6;obtain⟨zz,⟨z0,z1,z2,z3,z4,z5⟩,⟨zf0,zf1,zf2,zf3,zf4,zf5⟩⟩:=HZ1.out.c6;obtain⟨sz,⟨s0,s1,s2,s3,s4,s5,s6,s7,s8⟩,⟨sf0,sf1,sf2,sf3,sf4,sf5,sf6,sf7,sf8⟩⟩:=HS1.out.c9)|(go_at_call 13;(with_reducible refine(HI.out _ HB1.out).mono ?_);rintro e w2 ⟨rfl,hb⟩;have HB2:=hH (HB1.out.next hb);have HV2:=hH (HV1.out.bel hb HV1.out.lt);have HZ2:=hH (HZ1.out.bel hb HZ1.out.lt);have HS2:=hH (HS1.out.bel hb HS1.out.lt);clear hb;clear qz q0 q1 q2 q3 q4 q5 qf0 qf1 qf2 qf3 qf4 qf5;clear zz z0 z1 z2 z3 z4 z5 zf0 zf1 zf2 zf3 zf4 zf5;clear sz s0 s1 s2 s3 s4 s5 s6 s7 s8 sf0 sf1 sf2 sf3 sf4 sf5 sf6 sf7 sf8;obtain⟨qz,⟨q0,q1,q2,q3,q4,q5⟩,⟨qf0,qf1,qf2,qf3,qf4,qf5⟩⟩:=HV2.out.c6;obtain⟨zz,⟨z0,z1,z2,z3,z4,z5⟩,⟨zf0,zf1,zf2,zf3,zf4,zf5⟩⟩:=HZ2.out.c6;obtain⟨sz,⟨s0,s1,s2,s3,s4,s5,s6,s7,s8⟩,⟨sf0,sf1,sf2,sf3,sf4,sf5,sf6,sf7,sf8⟩⟩:=HS2.out.c9)|(go_at_call 13;(with_reducible refine(HJ.out _ HB2.out).mono ?_);rintro e w3 ⟨rfl,hb⟩;have HB3:=hH (HB2.out.next hb);have HV3:=hH (HV2.out.bel hb HV2.out.lt);have HZ3:=hH (HZ2.out.bel hb HZ2.out.lt);have HS3:=hH (HS2.out.bel hb HS2.out.lt);clear hb;clear qz q0 q1 q2 q3 q4 q5 qf0 qf1 qf2 qf3 qf4 qf5;clear zz z0 z1 z2 z3 z4 z5 zf0 zf1 zf2 zf3 zf4 zf5;clear sz s0 s1 s2 s3 s4 s5 s6 s7 s8 sf0 sf1 sf2 sf3 sf4 sf5 sf6 sf7 sf8;obtain⟨qz,⟨q0,q1,q2,q3,q4,q5⟩,⟨qf0,qf1,qf2,qf3,qf4,qf5⟩⟩:=HV3.out.c6;obtain⟨zz,⟨z0,z1,z2,z3,z4,z5⟩,⟨zf0,zf1,zf2,zf3,zf4,zf5⟩⟩:=HZ3.out.c6;obtain⟨sz,⟨s0,s1,s2,s3,s4,s5,s6,s7,s8⟩,⟨sf0,sf1,sf2,sf3,sf4,sf5,sf6,sf7,sf8⟩⟩:=HS3.out.c9)|(go_at_call 13;(with_reducible refine(HM.out _ HB4.out).mono ?_);rintro e w5 ⟨rfl,hb⟩;have HB5:=hH (HB4.out.next hb);have HV5:=hH (HV4.out.bel hb HV4.out.lt);have HZ5:=hH (HZ4.out.bel hb HZ4.out.lt);have HS5:=hH (HS4.out.bel hb HS4.out.lt);clear hb;clear qz q0 q1 q2 q3 q4 q5 qf0 qf1 qf2 qf3 qf4 qf5;clear zz z0 z1 z2 z3 z4 z5 zf0 zf1 zf2 zf3 zf4 zf5;clear sz s0 s1 s2 s3 s4 s5 s6 s7 s8 sf0 sf1 sf2 sf3 sf4 sf5 sf6 sf7 sf8;obtain⟨qz,⟨q0,q1,q2,q3,q4,q5⟩,⟨qf0,qf1,qf2,qf3,qf4,qf5⟩⟩:=HV5.out.c6;obtain⟨zz,⟨z0,z1,z2,z3,z4,z5⟩,⟨zf0,zf1,zf2,zf3,zf4,zf5⟩⟩:=HZ5.out.c6;obtain⟨sz,⟨s0,s1,s2,s3,s4,s5,s6,s7,s8⟩,⟨sf0,sf1,sf2,sf3,sf4,sf5,sf6,sf7,sf8⟩⟩:=HS5.out.c9)|(go_at_call 14;(with_reducible refine(HN.out _ HB5.out).mono ?_);rintro e w6 ⟨rfl,hb⟩;have HB6:=hH (HB5.out.next hb);have HV6:=hH (HV5.out.bel hb HV5.out.lt);have HZ6:=hH (HZ5.out.bel hb HZ5.out.lt);have HS6:=hH (HS5.out.bel hb HS5.out.lt);clear hb;clear qz q0 q1 q2 q3 q4 q5 qf0 qf1 qf2 qf3 qf4 qf5;clear zz z0 z1 z2 z3 z4 z5 zf0 zf1 zf2 zf3 zf4 zf5;clear sz s0 s1 s2 s3 s4 s5 s6 s7 s8 sf0 sf1 sf2 sf3 sf4 sf5 sf6 sf7 sf8;obtain⟨qz,⟨q0,q1,q2,q3,q4,q5⟩,⟨qf0,qf1,qf2,qf3,qf4,qf5⟩⟩:=HV6.out.c6;obtain⟨zz,⟨z0,z1,z2,z3,z4,z5⟩,⟨zf0,zf1,zf2,zf3,zf4,zf5⟩⟩:=HZ6.out.c6;obtain⟨sz,⟨s0,s1,s2,s3,s4,s5,s6,s7,s8⟩,⟨sf0,sf1,sf2,sf3,sf4,sf5,sf6,sf7,sf8⟩⟩:=HS6.out.c9))
 rw [←HQ.out]
 exact bodyPost_ret (v:=.tuple #[rv A all.length c k E (formS E t) dp,selV ⟨0,[],0,0,0,0,false,false,none⟩ (.pointer none)]) (by simp [results,Tryz.results68,go_sem,selV,bs,z0,z1,z2,z3,z4,z5,s0,s1,s2,s3,s4,s5,s6,s7,s8]) rfl (RSelP.plain HE.out rfl HI2.out (fun e=>absurd e (formS_fe E t)) ((HB6.out.far6 (k:=w.heap.size+1) (Nat.le_succ _)).far9b (k:=w.heap.size+2) (by omega)))
theorem rsel_name (h:RIn all k t)(hT:TkR w A all)(hd:t.fe=0→dp=(d:Int))(k4:kindS t=4):Calls Tryz.prog 68 #[rv A all.length c k E t dp] w (RSelP A all c E d w (selF E P d t)):=by
 have hov:ovS t=false:=by
  cases h9:ovS t with
  | false=>rfl
  | true=>have:=(nextS_ov (E:=E) h9).2;unfold kindS at k4;rw [this] at k4;simp [tok0] at k4
 obtain⟨hlt,hf⟩:=h.ov_no hov
 obtain⟨x,hx,-⟩:=h.head hlt
 have hh:=h.hd hx hf
 obtain⟨b,off,rfl,hb0,d0,d1,d2,d3,d4⟩:=hT.at_ hx
 obtain⟨q,hq⟩:∃q,kindS t=q:=⟨_,rfl⟩
 have hq4:(q==4)=true:=by rw [←hq,k4];rfl
 have HB0:=hH ((((Bel.refl w.heap.size w).alloc (Nat.le_refl _) (.cells #[.slice (some ⟨b,off,none⟩) all.length c,.int .i64 (k:Int),.int .i64 E,.int .i64 t.fe,.int .i64 t.fa,.int .i64 dp] 54)).alloc (by simp) (.cells #[.slice none 0 0,.int .i64 0,.int .i64 0,.int .i64 0,.int .i64 0,.int .i64 0] 54)).alloc (by simp;omega) (.cells #[.int .i64 0,.string ⟨#[]⟩,.int .i64 0,.int .i64 0,.int .i64 0,.int .i64 0,.bool false,.bool false,.pointer none] 85))
 have HV0:=hH (((Blk.new w 54 #[.slice (some ⟨b,off,none⟩) all.length c,.int .i64 (k:Int),.int .i64 E,.int .i64 t.fe,.int .i64 t.fa,.int .i64 dp]).alloc (.cells #[.slice none 0 0,.int .i64 0,.int .i64 0,.int .i64 0,.int .i64 0,.int .i64 0] 54)).alloc (.cells #[.int .i64 0,.string ⟨#[]⟩,.int .i64 0,.int .i64 0,.int .i64 0,.int .i64 0,.bool false,.bool false,.pointer none] 85))
 have HZ0:=hH ((Blk.new1 w (.cells #[.slice (some ⟨b,off,none⟩) all.length c,.int .i64 (k:Int),.int .i64 E,.int .i64 t.fe,.int .i64 t.fa,.int .i64 dp] 54) 54 #[.slice none 0 0,.int .i64 0,.int .i64 0,.int .i64 0,.int .i64 0,.int .i64 0]).alloc (.cells #[.int .i64 0,.string ⟨#[]⟩,.int .i64 0,.int .i64 0,.int .i64 0,.int .i64 0,.bool false,.bool false,.pointer none] 85))
 have HS0:=hH (Blk.new2 w (.cells #[.slice (some ⟨b,off,none⟩) all.length c,.int .i64 (k:Int),.int .i64 E,.int .i64 t.fe,.int .i64 t.fa,.int .i64 dp] 54) (.cells #[.slice none 0 0,.int .i64 0,.int .i64 0,.int .i64 0,.int .i64 0,.int .i64 0] 54) 85 #[.int .i64 0,.string ⟨#[]⟩,.int .i64 0,.int .i64 0,.int .i64 0,.int .i64 0,.bool false,.bool false,.pointer none])
 have HK:=hH (rkind_at (some ⟨b,off,none⟩) all c k E t dp _ q h (hT.bel HB0.out) (hH hq))
 have HN:=hH (fun W (hb:Bel w.heap.size w W)=>rnext_any (some ⟨b,off,none⟩) all c k E t dp W h (hT.bel hb))
 unfold RP at HN
 have HE:=hH (show selF E P d t=(⟨0,x.s,0,0,0,0,false,false,none⟩,nextS E t) by unfold selF;rw [if_pos k4,hh])
 have HD:=hH hd
 have hlt2:(k:Int)<(all.length:Int):=by omega
 have hbd:=h.bd
 clear h hT hq k4 hd hov hf hx hh
 go_enter Tryz.func68, Tryz.ntmps68
 generalize hQ:bodyPost Tryz.prog Tryz.f68 (RSelP (some ⟨b,off,none⟩) all c E d w (selF E P d t))=Q
 have HQ:=hH hQ;clear hQ
 go_upto_region 2 with(first|(go_at_call 26;(with_reducible refine(HK.out).mono ?_);rintro e w1 ⟨rfl,hb⟩;have HB1:=hH (HB0.out.next hb);have HV1:=hH (HV0.out.bel hb HV0.out.lt);have HZ1:=hH (HZ0.out.bel hb HZ0.out.lt);have HS1:=hH (HS0.out.bel hb HS0.out.lt);clear hb;obtain⟨qz,⟨q0,q1,q2,q3,q4,q5⟩,⟨qf0,qf1,qf2,qf3,qf4,qf5⟩⟩:=HV1.out.c6;obtain⟨zz,⟨z0,z1,z2,z3,z4,z5⟩,⟨zf0,zf1,zf2,zf3,zf4,zf5⟩⟩:=HZ1.out.c6;obtain⟨sz,⟨s0,s1,s2,s3,s4,s5,s6,s7,s8⟩,⟨sf0,sf1,sf2,sf3,sf4,sf5,sf6,sf7,sf8⟩⟩:=HS1.out.c9))
 have hS1:w1.drew.cell? ⟨w.heap.size,0,none⟩=some (.slice (some ⟨b,off,none⟩) all.length c)∧w1.drew.cell? ⟨w.heap.size,1,none⟩=some (.int .i64 (k:Int))∧w1.drew.cell? ⟨w.heap.size,2,none⟩=some (.int .i64 E)∧w1.drew.cell? ⟨w.heap.size,3,none⟩=some (.int .i64 t.fe)∧w1.drew.cell? ⟨w.heap.size,4,none⟩=some (.int .i64 t.fa)∧w1.drew.cell? ⟨w.heap.size,5,none⟩=some (.int .i64 dp)∧w1.drew.cell? ⟨b,off+k*5+1,none⟩=some (.string (bs x.s)):=⟨q0,q1,q2,q3,q4,q5,(HB1.out.cell (p:=⟨b,off+k*5+1,none⟩) hb0).trans d1⟩
 have hn1:w.heap.size≠w.heap.size+1:=by omega
 have hn2:b≠w.heap.size+1:=by omega
 have hm1:w.heap.size≠w.heap.size+2:=by omega
 have hm2:b≠w.heap.size+2:=by omega
 go_region_held3 (fun w'=>w'.cell? ⟨w.heap.size,0,none⟩=some (.slice (some ⟨b,off,none⟩) all.length c)∧w'.cell? ⟨w.heap.size,1,none⟩=some (.int .i64 (k:Int))∧w'.cell? ⟨w.heap.size,2,none⟩=some (.int .i64 E)∧w'.cell? ⟨w.heap.size,3,none⟩=some (.int .i64 t.fe)∧w'.cell? ⟨w.heap.size,4,none⟩=some (.int .i64 t.fa)∧w'.cell? ⟨w.heap.size,5,none⟩=some (.int .i64 dp)∧w'.cell? ⟨b,off+k*5+1,none⟩=some (.string (bs x.s))) (first|(with_reducible exact hS1)|(with_reducible exact hS2)|(with_reducible exact⟨cell_far6 hS2.1 hn1,cell_far6 hS2.2.1 hn1,cell_far6 hS2.2.2.1 hn1,cell_far6 hS2.2.2.2.1 hn1,cell_far6 hS2.2.2.2.2.1 hn1,cell_far6 hS2.2.2.2.2.2.1 hn1,cell_far6 hS2.2.2.2.2.2.2 hn2⟩)|(with_reducible exact⟨cell_far9 hS2.1 hm1,cell_far9 hS2.2.1 hm1,cell_far9 hS2.2.2.1 hm1,cell_far9 hS2.2.2.2.1 hm1,cell_far9 hS2.2.2.2.2.1 hm1,cell_far9 hS2.2.2.2.2.2.1 hm1,cell_far9 hS2.2.2.2.2.2.2 hm2⟩)|(with_reducible exact⟨cell_far9 (cell_far6 hS2.1 hn1) hm1,cell_far9 (cell_far6 hS2.2.1 hn1) hm1,cell_far9 (cell_far6 hS2.2.2.1 hn1) hm1,cell_far9 (cell_far6 hS2.2.2.2.1 hn1) hm1,cell_far9 (cell_far6 hS2.2.2.2.2.1 hn1) hm1,cell_far9 (cell_far6 hS2.2.2.2.2.2.1 hn1) hm1,cell_far9 (cell_far6 hS2.2.2.2.2.2.2 hn2) hm2⟩)|(with_reducible exact⟨cell_far6 (cell_far9 hS2.1 hm1) hn1,cell_far6 (cell_far9 hS2.2.1 hm1) hn1,cell_far6 (cell_far9 hS2.2.2.1 hm1) hn1,cell_far6 (cell_far9 hS2.2.2.2.1 hm1) hn1,cell_far6 (cell_far9 hS2.2.2.2.2.1 hm1) hn1,cell_far6 (cell_far9 hS2.2.2.2.2.2.1 hm1) hn1,cell_far6 (cell_far9 hS2.2.2.2.2.2.2 hm2) hn2⟩)) (first|(go_at_call 29;refine(HN.out _ ?_).mono ?_;(first|exact HB1.out|exact HB1.out.drew);rintro e w2 ⟨k2,rfl,hi2,hb⟩;have HI2:=hH hi2;have HB2:=hH (show Bel w.heap.size w w2 by first|exact HB1.out.next hb|exact HB1.out.drew.next hb);have HV2:=hH (show Blk w2 w.heap.size 54 #[.slice (some ⟨b,off,none⟩) all.length c,.int .i64 (k:Int),.int .i64 E,.int .i64 t.fe,.int .i64 t.fa,.int .i64 dp] by first|exact HV1.out.bel hb HV1.out.lt|exact(show Blk w1.drew w.heap.size 54 #[.slice (some ⟨b,off,none⟩) all.length c,.int .i64 (k:Int),.int .i64 E,.int .i64 t.fe,.int .i64 t.fa,.int .i64 dp] from HV1.out).bel hb HV1.out.lt);have HZ2:=hH (show Blk w2 (w.heap.size+1) 54 #[.slice none 0 0,.int .i64 0,.int .i64 0,.int .i64 0,.int .i64 0,.int .i64 0] by first|exact HZ1.out.bel hb HZ1.out.lt|exact(show Blk w1.drew (w.heap.size+1) 54 #[.slice none 0 0,.int .i64 0,.int .i64 0,.int .i64 0,.int .i64 0,.int .i64 0] from HZ1.out).bel hb HZ1.out.lt);have HS2:=hH (show Blk w2 (w.heap.size+2) 85 #[.int .i64 0,.string ⟨#[]⟩,.int .i64 0,.int .i64 0,.int .i64 0,.int .i64 0,.bool false,.bool false,.pointer none] by first|exact HS1.out.bel hb HS1.out.lt|exact(show Blk w1.drew (w.heap.size+2) 85 #[.int .i64 0,.string ⟨#[]⟩,.int .i64 0,.int .i64 0,.int .i64 0,.int .i64 0,.bool false,.bool false,.pointer none] from HS1.out).bel hb HS1.out.lt);clear hi2 hb;clear qz q0 q1 q2 q3 q4 q5 qf0 qf1 qf2 qf3 qf4 qf5;clear zz z0 z1 z2 z3 z4 z5 zf0 zf1 zf2 zf3 zf4 zf5;clear sz s0 s1 s2 s3 s4 s5 s6 s7 s8 sf0 sf1 sf2 sf3 sf4 sf5 sf6 sf7 sf8;obtain⟨qz,⟨q0,q1,q2,q3,q4,q5⟩,⟨qf0,qf1,qf2,qf3,qf4,qf5⟩⟩:=HV2.out.c6;obtain⟨zz,⟨z0,z1,z2,z3,z4,z5⟩,⟨zf0,zf1,zf2,zf3,zf4,zf5⟩⟩:=HZ2.out.c6;obtain⟨sz,⟨s0,s1,s2,s3,s4,s5,s6,s7,s8⟩,⟨sf0,sf1,sf2,sf3,sf4,sf5,sf6,sf7,sf8⟩⟩:=HS2.out.c9;have hS2:w2.cell? ⟨w.heap.size,0,none⟩=some (.slice (some ⟨b,off,none⟩) all.length c)∧w2.cell? ⟨w.heap.size,1,none⟩=some (.int .i64 (k:Int))∧w2.cell? ⟨w.heap.size,2,none⟩=some (.int .i64 E)∧w2.cell? ⟨w.heap.size,3,none⟩=some (.int .i64 t.fe)∧w2.cell? ⟨w.heap.size,4,none⟩=some (.int .i64 t.fa)∧w2.cell? ⟨w.heap.size,5,none⟩=some (.int .i64 dp)∧w2.cell? ⟨b,off+k*5+1,none⟩=some (.string (bs x.s)):=⟨q0,q1,q2,q3,q4,q5,(HB2.out.cell (p:=⟨b,off+k*5+1,none⟩) hb0).trans d1⟩))
 all_goals
  go_wp2
  rw [←HQ.out]
  exact bodyPost_ret (v:=.tuple #[rv (some ⟨b,off,none⟩) all.length c k2 E (nextS E t) dp,selV ⟨0,x.s,0,0,0,0,false,false,none⟩ (.pointer none)]) (by simp [results,Tryz.results68,go_sem,selV,bs,z0,z1,z2,z3,z4,z5,s0,s1,s2,s3,s4,s5,s6,s7,s8]) rfl (RSelP.plain HE.out rfl HI2.out (fun e=>HD.out (nextS_fe0 e)) ((HB2.out.far6 (k:=w.heap.size+1) (Nat.le_succ _)).far9b (k:=w.heap.size+2) (by omega)))
end
end
/- Rows that grow, of elements that lie in memory themselves. -/
section
open Go.RowKit
abbrev Rel (α:Type):=(Nat→Prop)→Nat→World→List Value→α→Prop
structure RelOk {α:Type}(k:Nat)(R:Rel α):Prop where
 keep:∀{K K':Nat→Prop} {m m':Nat} {w w':World} {cs:List Value} {x:α},R K m w cs x→Kp K K' w w'→m≤m'→R K' m' w' cs x
 len:∀{K:Nat→Prop} {m:Nat} {w:World} {cs:List Value} {x:α},R K m w cs x→cs.length=k
def RSel :Rel SelT:=fun K m w cs x=>SelC K (ExR K m w) w cs x
def RSeg :Rel SegT:=fun K m w cs x=>SegC K (ExR K m w) w cs x
def REx :Rel ExprT:=fun K m w cs x=>ExR K m w cs x
theorem RSel_ok :RelOk 9 RSel:=⟨fun h hk hm=>SelC.keep h hk fun _ _ h=>ExR.keep hk _ _ hm _ _ h,fun ⟨_,h,_⟩=>by rw [h];rfl⟩
theorem RSeg_ok :RelOk 2 RSeg:=⟨fun h hk hm=>SegC.keep h hk fun _ _ h=>ExR.keep hk _ _ hm _ _ h,fun ⟨_,h,_⟩=>by rw [h];rfl⟩
theorem REx_ok :RelOk 17 REx:=⟨fun h hk hm=>ExR.keep hk _ _ hm _ _ h,fun {K m w cs x} h=>by
 cases m with
 | zero=>exact h.elim
 | succ m=>obtain⟨kv,qv,lv,rv,h,_⟩:=h;rw [h];rfl⟩
theorem flat_at :∀(css:List (List Value)) (k:Nat),(∀cs∈css,cs.length=k)→∀(i j:Nat),j<k→css.flatten[i*k+j]? = (css[i]?).bind fun cs=>cs[j]?
 | [],_,_,_,_,_=>by simp
 | cs::r,k,h,0,j,hj=>by
  rw [List.flatten_cons,List.getElem?_append_left (by rw [h cs (by simp)];omega)];simp
 | cs::r,k,h,i+1,j,hj=>by
  rw [List.flatten_cons,List.getElem?_append_right (by rw [h cs (by simp),Nat.add_mul];omega),h cs (by simp),show (i+1)*k+j-k=i*k+j by rw [Nat.add_mul];omega,flat_at r k (fun c hc=>h c (by simp [hc])) i j hj]
  simp
structure BRow {α:Type}(k:Nat)(T:TypeId)(R:Rel α)(m:Nat)(w0 wr:World)(v:Value)(l:List α)(css:List (List Value)):Prop where
 len:css.length=l.length
 rel:∀(i:Nat) (cs:List Value) (x:α),css[i]? = some cs→l[i]? = some x→R (fun b=>w0.heap.size≤b∧v.ownBlock≠some b) m wr cs x
 each:∀cs∈css,cs.length=k
 own:wr.ownsRow w0.heap.size T k v l.length css.flatten
 size:w0.heap.size≤wr.heap.size
section
variable  {α:Type}{k:Nat}{T:TypeId}{R:Rel α}{m:Nat}{w0 wr w2:World}{v:Value}{l:List α}{css:List (List Value)}
theorem BRow.nil (k:Nat)(T:TypeId)(R:Rel α)(m:Nat)(hs:w0.heap.size≤wr.heap.size):BRow k T R m w0 wr (.slice none 0 0) ([]:List α) [] :=
 ⟨rfl,fun i cs x h _=>by simp at h,fun cs h=>by simp at h,World.ownsRow_nil _ _ _ _,hs⟩
theorem BRow.one (hR:RelOk k R){K:Nat→Prop}{cs:List Value}{x:α}(h:R K m w2 cs x)(hK:∀b,K b→b<w2.heap.size→w0.heap.size≤b)(hs:w0.heap.size≤w2.heap.size)(T:TypeId) :
  BRow k T R m w0 (w2.alloc (.cells cs.toArray T)) (.slice (some ⟨w2.heap.size,0,none⟩) 1 1) [x] [cs]:=by
 refine⟨rfl,?_,?_,?_,by simp;omega⟩
 ·intro i cs' x' h1 h2
  cases i with
  | zero =>
   cases h1;cases h2
   refine hR.keep h (Kp.alloc (Kp.id_ fun b hb hl=>⟨hK b hb hl,?_⟩) _) (Nat.le_refl _)
   simp only [Value.ownBlock,ne_eq,Option.some.injEq];omega
  | succ i=>simp at h1
 ·intro c hc;simp at hc;subst hc;exact hR.len h
 ·have:=World.ownsRow_lit (base:=w0.heap.size) (e:=T) (size:=k) w2 cs.toArray 1 hs (by unfold maxLen;omega) (by simp [hR.len h])
  simpa using this
theorem BRow.keepB (hR:RelOk k R)(h:BRow k T R m w0 wr v l css)(hb:∀b,w0.heap.size≤b→b<wr.heap.size→w2.heap[b]? = wr.heap[b]?)(hs:wr.heap.size≤w2.heap.size):BRow k T R m w0 w2 v l css:=by
 refine⟨h.len,fun i cs x h1 h2=>hR.keep (h.rel i cs x h1 h2) ⟨hs,fun b hK hl=>⟨hK,hb b hK.1 hl⟩⟩ (Nat.le_refl _),h.each,⟨h.own.1,?_⟩,Nat.le_trans h.size hs⟩
 rcases h.own.2 with h'|⟨g,cap,cur,h1,h2,h3,h4⟩
 ·exact .inl h'
 ·exact .inr ⟨g,cap,cur,h1,h2,(hb g h2 (Array.getElem?_eq_some_iff.1 h3).1).trans h3,h4⟩
theorem BRow.ex (hR:RelOk k R){g:Nat}(h:BRow k T R m w0 wr v l css)(hx:Ex g wr w2)(hg:g<w0.heap.size):BRow k T R m w0 w2 v l css :=
 h.keepB hR (fun b hb hl=>hx.block b hl (by omega)) hx.size
theorem BRow.bel (hR:RelOk k R)(h:BRow k T R m w0 wr v l css)(hx:Bel wr.heap.size wr w2):BRow k T R m w0 w2 v l css :=
 h.keepB hR (fun b _ hl=>hx.block b hl) hx.size
theorem BRow.snoc (hR:RelOk k R){w3 w4:World}{v':Value}{K:Nat→Prop}{mn:Nat}{cs:List Value}{x:α}(h:BRow k T R m w0 w3 v l css)(hn:R K mn w3 cs x)(hK:∀b,K b→b<w3.heap.size→w0.heap.size≤b∧v.ownBlock≠some b)
  (ho:w4.ownsRow w0.heap.size T k v' (l.length+1) (css.flatten++cs)) (hg:w3.grownBy w4 v.ownBlock) (hv:v'.ownBlock=v.ownBlock∨v'.ownBlock=some w3.heap.size) :
  BRow k T R (max m mn) w0 w4 v' (l++[x]) (css++[cs]):=by
 have hk:∀{K':Nat→Prop},(∀b,K' b→b<w3.heap.size→w0.heap.size≤b∧v.ownBlock≠some b)→Kp K' (fun b=>w0.heap.size≤b∧v'.ownBlock≠some b) w3 w4:=fun hK'=>by
  refine⟨hg.size,fun b hb hl=>?_⟩
  obtain⟨h1,h2⟩:=hK' b hb hl
  refine⟨⟨h1,?_⟩,hg.block b hl (fun e=>h2 e.symm)⟩
  rcases hv with hv|hv
  ·rw [hv];exact h2
  ·rw [hv];simp only [ne_eq,Option.some.injEq];omega
 refine⟨by simp [h.len],?_,?_,?_,Nat.le_trans h.size hg.size⟩
 ·intro i cs' x' h1 h2
  rcases Nat.lt_or_ge i css.length with hi|hi
  ·rw [List.getElem?_append_left hi] at h1
   rw [List.getElem?_append_left (by rw [←h.len];exact hi)] at h2
   exact hR.keep (h.rel i cs' x' h1 h2) (hk fun b hb _=>hb) (Nat.le_max_left _ _)
  ·rw [List.getElem?_append_right hi] at h1
   rw [List.getElem?_append_right (by rw [←h.len];exact hi),←h.len] at h2
   obtain⟨j,hj⟩:∃j,i-css.length=j:=⟨_,rfl⟩
   rw [hj] at h1 h2
   cases j with
   | zero=>cases h1;cases h2;exact hR.keep hn (hk hK) (Nat.le_max_right _ _)
   | succ j=>simp at h1
 ·intro c hc
  rcases List.mem_append.1 hc with hc|hc
  ·exact h.each c hc
  ·simp at hc;subst hc;exact hR.len hn
 ·rw [List.flatten_append,List.flatten_singleton,List.length_append]
  exact ho
theorem BRow.done (hR:RelOk k R)(h:BRow k T R m w0 wr v l css):∃A c,v=.slice A l.length c∧RowG (Fr w0) k (R (Fr w0) m wr) wr (.slice A l.length c) l:=by
 have hw:∀{cs:List Value} {x:α},R (fun b=>w0.heap.size≤b∧v.ownBlock≠some b) m wr cs x→R (Fr w0) m wr cs x:=fun h=>hR.keep h (Kp.id_ fun b hb _=>hb.1) (Nat.le_refl _)
 rcases h.own.2 with⟨hv,h0⟩|⟨g,cap,cur,hv,hb,hg,hle,hmx,_⟩
 ·exact⟨none,0,by rw [hv,h0],none,0,rfl,⟨by omega,by omega⟩,.inl (List.eq_nil_of_length_eq_zero h0)⟩
 ·refine⟨some ⟨g,0,none⟩,cap,hv,some ⟨g,0,none⟩,cap,rfl,⟨hle,by unfold maxLen at hmx;omega⟩,.inr ⟨g,0,rfl,hb,(Array.getElem?_eq_some_iff.1 hg).1,fun i x hx=>?_⟩⟩
  have hi:i<css.length:=by rw [h.len];exact(List.getElem?_eq_some_iff.1 hx).1
  have hcs:css[i]? = some css[i]:=List.getElem?_eq_getElem hi
  have hlen:=h.each css[i] (List.getElem_mem hi)
  refine⟨css[i],hlen,fun j u hu=>?_,hw (h.rel i _ x hcs hx)⟩
  have hj:j<k:=by rw [←hlen];exact(List.getElem?_eq_some_iff.1 hu).1
  have:=h.own.cells (g:=g) (by rw [hv];rfl) (i*k+j) u (by rw [flat_at css k h.each i j hj,hcs];exact hu)
  rw [add_lit] at this
  rw [show 0+i*k+j=0+(i*k+j) by omega];exact this
theorem BRow.blk (h:BRow k T R m w0 wr v l css){b:Nat}(hb:v.ownBlock=some b):w0.heap.size≤b∧b<wr.heap.size:=h.own.lt b hb
end
theorem RSel_one {K:Nat→Prop}{m:Nat}{w:World}{cs:List Value}{x:SelT}(h:RSel K m w cs x):∀u∈cs,u.oneCell'=true:=by
 obtain⟨pv,rfl,hp⟩:=h
 have hpv:pv.oneCell'=true:=by
  cases hf:x.f with
  | none=>rw [hf] at hp;rw [show pv=.pointer none from hp];rfl
  | some e=>rw [hf] at hp;obtain⟨b,off,cs,h1,_⟩:=hp;rw [h1];rfl
 intro u hu
 simp only [selL,List.mem_cons,List.not_mem_nil,or_false] at hu
 rcases hu with rfl|rfl|rfl|rfl|rfl|rfl|rfl|rfl|rfl <;> first|rfl|exact hpv
theorem RSeg_one {K:Nat→Prop}{m:Nat}{w:World}{cs:List Value}{x:SegT}(h:RSeg K m w cs x):∀u∈cs,u.oneCell'=true:=by
 obtain⟨sv,rfl,hp⟩:=h
 obtain⟨A,c,e⟩:=hp.slice
 intro u hu
 simp only [List.mem_cons,List.not_mem_nil,or_false] at hu
 rcases hu with rfl|rfl
 ·rfl
 ·rw [e];rfl
theorem REx_one {K:Nat→Prop}{m:Nat}{w:World}{cs:List Value}{x:ExprT}(h:REx K m w cs x):∀u∈cs,u.oneCell'=true:=by
 cases m with
 | zero=>exact h.elim
 | succ m =>
  obtain⟨kv,qv,lv,rv,rfl,h2,h3,h4,h5⟩:=h
  obtain⟨A1,c1,rfl⟩:=h2.slice
  obtain⟨A2,c2,rfl⟩:=RowG.slice h3
  obtain⟨A3,c3,rfl⟩:=RowG.slice h4
  obtain⟨A4,c4,rfl⟩:=RowG.slice h5
  intro u hu
  simp only [exL,List.mem_cons,List.not_mem_nil,or_false] at hu
  rcases hu with rfl|rfl|rfl|rfl|rfl|rfl|rfl|rfl|rfl|rfl|rfl|rfl|rfl|rfl|rfl|rfl|rfl <;> rfl
theorem info_sel :(Tryz.prog.info? 85).map (fun i=>(i.zero,i.size,i.bytes))=some (some (.agg #[.int .i64 0,.string ⟨#[]⟩,.int .i64 0,.int .i64 0,.int .i64 0,.int .i64 0,.bool false,.bool false,.pointer none]),9,72):=by kernel_rfl
theorem info_seg :(Tryz.prog.info? 79).map (fun i=>(i.zero,i.size,i.bytes))=some (some (.agg #[.bool false,.slice none 0 0]),2,32):=by kernel_rfl
theorem info_ex :(Tryz.prog.info? 92).map (fun i=>(i.zero,i.size,i.bytes))=some (some (.agg #[.int .i64 0,.slice none 0 0,.bool false,.slice none 0 0,.int .i64 0,.bool false,.int .i64 0,.int .i64 0,.string ⟨#[]⟩,.bool false,.slice none 0 0,.bool false,.int .i64 0,.int .i64 0,.string ⟨#[]⟩,.bool false,.slice none 0 0]),17,216):=by kernel_rfl
end

end Go.Proofs.YtjbdcjcfijjiiaaGreatDoor
