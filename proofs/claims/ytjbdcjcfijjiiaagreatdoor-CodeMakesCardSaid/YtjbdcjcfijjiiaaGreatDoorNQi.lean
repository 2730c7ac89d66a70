/- qtree: seg. -/
import Derived.Test.YtjbdcjcfijjiiaaGreatDoorNG37
namespace Go.Proofs.YtjbdcjcfijjiiaaGreatDoor
open Go.RowKit
set_option maxRecDepth 100000
set_option maxHeartbeats 2000000
theorem segP_of {g:Nat}{E:Int}{w wk W w':World}{r:SegT×PSt}{d m:Nat}{A:Option Addr}{c:Nat}{dp:Bool}{l:List SelT}{t':PSt}(h:r=(⟨dp,l⟩,t'))
  (hrow:RowG (Fr wk) 9 (RSel (Fr wk) m W) W (.slice A l.length c) l) (hk:Kp (Fr wk) (Fr w) W w') (h1:RdS g E w' t' d) (h2:Ex g w w'):SegP g E w r d (.returned (.agg #[.bool dp,.slice A l.length c])) w':=by
 subst h
 exact⟨m,A,c,rfl,⟨_,rfl,hrow.keep hk fun _ _ h=>RSel_ok.keep h hk (Nat.le_refl _)⟩,h1,h2⟩
theorem row_one {w:World}{x:SelT}(h:x.f=none)(T:TypeId):RowG (Fr w) 9 (RSel (Fr w) 0 (w.alloc (.cells (selL x (.pointer none)).toArray T))) (w.alloc (.cells (selL x (.pointer none)).toArray T)) (.slice (some ⟨w.heap.size,0,none⟩) 1 1) [x]:=by
 have h1:RSel (Fr w) 0 w (selL x (.pointer none)) x:=⟨_,rfl,by rw [h];rfl⟩
 obtain⟨A,c,e,hrow⟩:=(BRow.one RSel_ok (w0:=w) h1 (fun b hb _=>hb) (Nat.le_refl _) T).done RSel_ok
 rw [←e] at hrow
 exact hrow
theorem row_at {z:Nat}{w:World}{x:SelT}(hz:z=w.heap.size)(h:x.f=none)(T:TypeId):RowG (Fr w) 9 (RSel (Fr w) 0 (w.alloc (.cells (selL x (.pointer none)).toArray T))) (w.alloc (.cells (selL x (.pointer none)).toArray T)) (.slice (some ⟨z,0,none⟩) 1 1) [x]:=by
 subst hz;exact row_one h T
theorem Fr.al {w:World}{o:Obj}{b:Nat}(h:Fr (w.alloc o) b):w.heap.size+1≤b:=by unfold Fr at h;simpa using h
theorem dot_ne :((⟨#[46]⟩:ByteArray).toList==(⟨#[46,46]⟩:ByteArray).toList)=false:=str_f (by decide)
theorem dots_eq :((⟨#[46,46]⟩:ByteArray).toList==(⟨#[46,46]⟩:ByteArray).toList)=true:=str_t rfl
theorem seg_br (g:Nat)(E:Int)(P:Nat→PSt→ExprT×PSt)(hL:LeP P)(N:Nat)(hP:OrC g E P N)(t:PSt)(d:Nat)(w:World)(h:RdS g E w t d)(hN:N≤d+1)(hd:d≤33)(hf:d=33→t.fe≠0)(h91:isS [91] t=true) :
  Calls Tryz.prog 40 #[.pointer (some ⟨g,0,none⟩)] w (SegP g E w (segF E P d t) d):=by
 have hg:=h.lt
 have HR0:=hH (h.alloc (.cells #[.bool false,.slice none 0 0] 79))
 have HX0:=hH (show Ex g w (w.alloc (.cells #[.bool false,.slice none 0 0] 79)) from(Ex.refl g w).alloc _)
 have HB0:=hH (Blk.new w 79 #[.bool false,.slice none 0 0])
 have HI:=hH (is_at ⟨#[91]⟩ true _ HR0.out (hH h91))
 have HS:=hH (sels_any g E P hL N hP t d _ HR0.out hN hd hf)
 obtain⟨l,t1,hl⟩:∃l t1,selsF E P d t=(l,t1):=⟨_,_,rfl⟩
 have HE:=hH (show segF E P d t=(⟨false,l⟩,t1) by unfold segF;rw [ite_tt h91,hl])
 rw [hl] at HS
 unfold SelsP at HS
 simp only at HS
 clear h hf h91 hl hP
 go_enter Tryz.func40, Tryz.ntmps40
 generalize hQ:bodyPost Tryz.prog Tryz.f40 (SegP g E w (segF E P d t) d)=Q
 have HQ:=hH hQ;clear hQ
 go_wp2_with (first
  | (go_at_call 19;refine HI.out.mono ?_;rintro e w' ⟨rfl,rfl⟩)
  | (go_at_call 60;refine HS.out.mono ?_;rintro e w1 ⟨m,A,c,rfl,hrow,hr,hx⟩;have HW:=hH hrow;have HR1:=hH hr;have HX1:=hH (HX0.out.trans hx);have HB1:=hH (HB0.out.ex hx (by omega));clear hrow hr hx;obtain⟨z,⟨d0,d1⟩,⟨f0,f1⟩⟩:=HB1.out.c2))
 rw [←HQ.out]
 exact bodyPost_ret (v:=.agg #[.bool false,.slice A l.length c]) (by simp [results,Tryz.results40,go_sem,d0,d1]) rfl (segP_of HE.out HW.out (Kp.far2 (Kp.id_ (fun b hb _=>(show w.heap.size≤b by have:=hb.al;omega))) (fun b hb _=>by have:=hb.al;omega)) (HR1.out.far2 hg) (HX1.out.far2 (Nat.le_refl _)))
theorem seg_wild (dp:Bool)(g:Nat)(E:Int)(P:Nat→PSt→ExprT×PSt)(t:PSt)(d:Nat)(w:World)(h:RdS g E w t d)(h91:isS [91] t=false)(hdp:isS [46,46] t=dp)(hs:bs (hdT t).s=⟨if dp then #[46,46] else #[46]⟩)(t2:PSt)(ht2:closeS E (nextS E t)=t2)(h42:isS [42] t2=true)(hb:(dp && isS [91] t2)=false) :
  Calls Tryz.prog 40 #[.pointer (some ⟨g,0,none⟩)] w (SegP g E w (segF E P d t) d):=by
 have hg:=h.lt
 have HR0:=hH (h.alloc (.cells #[.bool false,.slice none 0 0] 79))
 have HX0:=hH (show Ex g w (w.alloc (.cells #[.bool false,.slice none 0 0] 79)) from(Ex.refl g w).alloc _)
 have HB0:=hH (Blk.new w 79 #[.bool false,.slice none 0 0])
 have HI:=hH (is_at ⟨#[91]⟩ false _ HR0.out (hH h91))
 have HN:=hH (next_any g E t d _ HR0.out)
 have HE0:=hH (show segF E P d t=dotF E P d dp t2 by unfold segF;rw [ite_ff h91,hdp,ht2])
 unfold tokA at HN
 rw [hs] at HN
 have hf0:=fun u=>tok_f1 (hdT t).kind (hdT t).n ((hdT t).at_:Nat) u (hdT t).gap
 have HCL:=hH (fun wx hr=>close_any g E (nextS E t) d wx hr)
 rw [ht2] at HCL
 clear h h91 hdp hs ht2
 have HE:=hH (show segF E P d t=(⟨dp,[⟨1,[],0,0,0,0,false,false,none⟩]⟩,nextS E t2) by rw [HE0.out];unfold dotF;rw [ite_ff hb,ite_tt h42])
 have HI2:=hH hb
 have HI3:=hH h42
 clear hb h42
 cases dp
 ·go_enter Tryz.func40, Tryz.ntmps40
  generalize hQ:bodyPost Tryz.prog Tryz.f40 (SegP g E w (segF E P d t) d)=Q
  have HQ:=hH hQ;clear hQ
  rw [if_neg Bool.false_ne_true] at HN
  have hdd:=dot_ne
  have hde:=dots_eq
  go_wp2_with (first
   | (go_at_call 19;(with_reducible refine HI.out.mono ?_);rintro e w' ⟨rfl,rfl⟩)
   | (go_at_call 39;(with_reducible refine HN.out.mono ?_);rintro e w1 ⟨rfl,hr,hx⟩;have HX1:=hH (HX0.out.trans hx);have HB1:=hH (HB0.out.ex hx (by omega));have hz1:=HX1.out.size;have HX1a:=hH (HX1.out.alloc (.cells #[.bool false,.slice none 0 0] 79));have HB1a:=hH (HB1.out.alloc (.cells #[.bool false,.slice none 0 0] 79));have HS1a:=hH (Blk.new w1 79 #[.bool false,.slice none 0 0]);have HC1:=hH (HCL.out _ (hr.alloc (.cells #[.bool false,.slice none 0 0] 79)));clear hr hx)
   | (go_at_call 61;(with_reducible refine HC1.out.mono ?_);rintro e w2 ⟨rfl,hr,hx⟩;have HR2:=hH hr;have HX2:=hH (HX1a.out.trans hx);have HB2:=hH (HB1a.out.ex hx (by omega));have HS2:=hH (HS1a.out.ex hx (by omega));clear hr hx;have HT:=hH (take_yes g E t2 d ⟨#[42]⟩ _ HR2.out HI3);  obtain⟨z,⟨d0,d1⟩,⟨f0,f1⟩⟩:=HB2.out.c2;obtain⟨y,⟨e0,e1⟩,⟨g0,g1⟩⟩:=HS2.out.c2;have hne:w.heap.size≠w1.heap.size:=by (have:=HB1.out.lt;omega))
   | (go_at_call 62;(with_reducible refine HT.out.mono ?_);rintro e w3 ⟨rfl,hr,hx⟩;have HX3:=hH (HX2.out.trans hx);have HB3:=hH (HB2.out.ex hx (by omega));have HS3:=hH (HS2.out.ex hx (by omega));have HR3:=hH hr;have hz3:=hx.size;clear hr hx;clear z d0 d1 f0 f1 y e0 e1 g0 g1;obtain⟨z,⟨d0,d1⟩,⟨f0,f1⟩⟩:=HB3.out.c2;obtain⟨y,⟨e0,e1⟩,⟨g0,g1⟩⟩:=HS3.out.c2))
  have hy:w1.heap.size<w3.heap.size:=y
  rw [←HQ.out]
  exact bodyPost_ret (v:=.agg #[.bool false,.slice (some ⟨w3.heap.size,0,none⟩) 1 1]) (by simp [results,Tryz.results40,go_sem,z,d0,d1]) rfl (segP_of HE.out (row_at (x:=⟨1,[],0,0,0,0,false,false,none⟩) (by simp) rfl 85) (Kp.id_ (fun b hb _=>(show w.heap.size≤b by unfold Fr at hb;simp at hb;omega))) (((HR3.out.far (p:=⟨w1.heap.size,1,none⟩) (by show g<w1.heap.size;omega) _).far2 hg).alloc _) (((HX3.out.set_ (p:=⟨w1.heap.size,1,none⟩) (.inr hz1) _).far2 (Nat.le_refl _)).alloc _))
 ·go_enter Tryz.func40, Tryz.ntmps40
  generalize hQ:bodyPost Tryz.prog Tryz.f40 (SegP g E w (segF E P d t) d)=Q
  have HQ:=hH hQ;clear hQ
  rw [if_pos rfl] at HN
  have hdd:=dot_ne
  have hde:=dots_eq
  go_wp2_with (first
   | (go_at_call 19;(with_reducible refine HI.out.mono ?_);rintro e w' ⟨rfl,rfl⟩)
   | (go_at_call 39;(with_reducible refine HN.out.mono ?_);rintro e w1 ⟨rfl,hr,hx⟩;have HX1:=hH (HX0.out.trans hx);have HB1:=hH (HB0.out.ex hx (by omega));have hz1:=HX1.out.size;have HX1a:=hH (HX1.out.alloc (.cells #[.bool true,.slice none 0 0] 79));have HB1a:=hH (HB1.out.alloc (.cells #[.bool true,.slice none 0 0] 79));have HS1a:=hH (Blk.new w1 79 #[.bool true,.slice none 0 0]);have HC1:=hH (HCL.out _ (hr.alloc (.cells #[.bool true,.slice none 0 0] 79)));clear hr hx)
   | (go_at_call 61;(with_reducible refine HC1.out.mono ?_);rintro e w2 ⟨rfl,hr,hx⟩;have HR2:=hH hr;have HX2:=hH (HX1a.out.trans hx);have HB2:=hH (HB1a.out.ex hx (by omega));have HS2:=hH (HS1a.out.ex hx (by omega));clear hr hx;have HJ:=hH (is_at ⟨#[91]⟩ false _ HR2.out (hH (by have:=HI2.out;simpa using this)));have HT:=hH (take_yes g E t2 d ⟨#[42]⟩ _ HR2.out HI3);  obtain⟨z,⟨d0,d1⟩,⟨f0,f1⟩⟩:=HB2.out.c2;obtain⟨y,⟨e0,e1⟩,⟨g0,g1⟩⟩:=HS2.out.c2;have hne:w.heap.size≠w1.heap.size:=by (have:=HB1.out.lt;omega))
   | (go_at_call 19;(with_reducible refine HJ.out.mono ?_);rintro e w' ⟨rfl,rfl⟩)
   | (go_at_call 62;(with_reducible refine HT.out.mono ?_);rintro e w3 ⟨rfl,hr,hx⟩;have HX3:=hH (HX2.out.trans hx);have HB3:=hH (HB2.out.ex hx (by omega));have HS3:=hH (HS2.out.ex hx (by omega));have HR3:=hH hr;have hz3:=hx.size;clear hr hx;clear z d0 d1 f0 f1 y e0 e1 g0 g1;obtain⟨z,⟨d0,d1⟩,⟨f0,f1⟩⟩:=HB3.out.c2;obtain⟨y,⟨e0,e1⟩,⟨g0,g1⟩⟩:=HS3.out.c2))
  have hy:w1.heap.size<w3.heap.size:=y
  rw [←HQ.out]
  exact bodyPost_ret (v:=.agg #[.bool true,.slice (some ⟨w3.heap.size,0,none⟩) 1 1]) (by simp [results,Tryz.results40,go_sem,z,d0,d1]) rfl (segP_of HE.out (row_at (x:=⟨1,[],0,0,0,0,false,false,none⟩) (by simp) rfl 85) (Kp.id_ (fun b hb _=>(show w.heap.size≤b by unfold Fr at hb;simp at hb;omega))) (((HR3.out.far (p:=⟨w1.heap.size,1,none⟩) (by show g<w1.heap.size;omega) _).far2 hg).alloc _) (((HX3.out.set_ (p:=⟨w1.heap.size,1,none⟩) (.inr hz1) _).far2 (Nat.le_refl _)).alloc _))
theorem seg_name (dp:Bool)(g:Nat)(E:Int)(P:Nat→PSt→ExprT×PSt)(t:PSt)(d:Nat)(w:World)(h:RdS g E w t d)(h91:isS [91] t=false)(hdp:isS [46,46] t=dp)(hs:bs (hdT t).s=⟨if dp then #[46,46] else #[46]⟩)(t2:PSt)(ht2:closeS E (nextS E t)=t2)(h42:isS [42] t2=false)(hb:(dp && isS [91] t2)=false)(hk:kindS t2=2) :
  Calls Tryz.prog 40 #[.pointer (some ⟨g,0,none⟩)] w (SegP g E w (segF E P d t) d):=by
 have hg:=h.lt
 have HR0:=hH (h.alloc (.cells #[.bool false,.slice none 0 0] 79))
 have HX0:=hH (show Ex g w (w.alloc (.cells #[.bool false,.slice none 0 0] 79)) from(Ex.refl g w).alloc _)
 have HB0:=hH (Blk.new w 79 #[.bool false,.slice none 0 0])
 have HI:=hH (is_at ⟨#[91]⟩ false _ HR0.out (hH h91))
 have HN:=hH (next_any g E t d _ HR0.out)
 have HE0:=hH (show segF E P d t=dotF E P d dp t2 by unfold segF;rw [ite_ff h91,hdp,ht2])
 unfold tokA at HN
 rw [hs] at HN
 have hf0:=fun u=>tok_f1 (hdT t).kind (hdT t).n ((hdT t).at_:Nat) u (hdT t).gap
 have HCL:=hH (fun wx hr=>close_any g E (nextS E t) d wx hr)
 rw [ht2] at HCL
 clear h h91 hdp hs ht2
 have HE:=hH (show segF E P d t=(⟨dp,[⟨0,(hdT t2).s,0,0,0,0,false,false,none⟩]⟩,nextS E t2) by rw [HE0.out];unfold dotF;rw [ite_ff hb,ite_ff h42,if_pos hk])
 have HI2:=hH hb
 have HI3:=hH h42
 have HK2:=hH hk
 have hf2:=tok_f1 (hdT t2).kind (hdT t2).n ((hdT t2).at_:Nat) (bs (hdT t2).s) (hdT t2).gap
 clear hb h42 hk
 cases dp
 ·go_enter Tryz.func40, Tryz.ntmps40
  generalize hQ:bodyPost Tryz.prog Tryz.f40 (SegP g E w (segF E P d t) d)=Q
  have HQ:=hH hQ;clear hQ
  rw [if_neg Bool.false_ne_true] at HN
  have hdd:=dot_ne
  have hde:=dots_eq
  go_wp2_with (first
   | (go_at_call 19;(with_reducible refine HI.out.mono ?_);rintro e w' ⟨rfl,rfl⟩)
   | (go_at_call 39;(with_reducible refine HN.out.mono ?_);rintro e w1 ⟨rfl,hr,hx⟩;have HX1:=hH (HX0.out.trans hx);have HB1:=hH (HB0.out.ex hx (by omega));have hz1:=HX1.out.size;have HX1a:=hH (HX1.out.alloc (.cells #[.bool false,.slice none 0 0] 79));have HB1a:=hH (HB1.out.alloc (.cells #[.bool false,.slice none 0 0] 79));have HS1a:=hH (Blk.new w1 79 #[.bool false,.slice none 0 0]);have HC1:=hH (HCL.out _ (hr.alloc (.cells #[.bool false,.slice none 0 0] 79)));clear hr hx)
   | (go_at_call 61;(with_reducible refine HC1.out.mono ?_);rintro e w2 ⟨rfl,hr,hx⟩;have HR2:=hH hr;have HX2:=hH (HX1a.out.trans hx);have HB2:=hH (HB1a.out.ex hx (by omega));have HS2:=hH (HS1a.out.ex hx (by omega));clear hr hx;have HT:=hH (take_no g E t2 d ⟨#[42]⟩ _ HR2.out HI3);have HK:=hH (kind_at 2 _ HR2.out HK2);have HN2:=hH (next_any g E t2 d _ HR2.out);unfold tokA at HN2;  obtain⟨z,⟨d0,d1⟩,⟨f0,f1⟩⟩:=HB2.out.c2;obtain⟨y,⟨e0,e1⟩,⟨g0,g1⟩⟩:=HS2.out.c2;have hne:w.heap.size≠w1.heap.size:=by (have:=HB1.out.lt;omega))
   | (go_at_call 62;(with_reducible refine HT.out.mono ?_);rintro e w' ⟨rfl,rfl⟩)
   | (go_at_call 36;(with_reducible refine HK.out.mono ?_);rintro e w' ⟨rfl,rfl⟩)
   | (go_at_call 39;(with_reducible refine HN2.out.mono ?_);rintro e w3 ⟨rfl,hr,hx⟩;have HX3:=hH (HX2.out.trans hx);have HB3:=hH (HB2.out.ex hx (by omega));have HS3:=hH (HS2.out.ex hx (by omega));have HR3:=hH hr;have hz3:=hx.size;clear hr hx;clear z d0 d1 f0 f1 y e0 e1 g0 g1;obtain⟨z,⟨d0,d1⟩,⟨f0,f1⟩⟩:=HB3.out.c2;obtain⟨y,⟨e0,e1⟩,⟨g0,g1⟩⟩:=HS3.out.c2))
  have hy:w1.heap.size<w3.heap.size:=y
  rw [←HQ.out]
  exact bodyPost_ret (v:=.agg #[.bool false,.slice (some ⟨w3.heap.size,0,none⟩) 1 1]) (by simp [results,Tryz.results40,go_sem,z,d0,d1]) rfl (segP_of HE.out (row_at (x:=⟨0,(hdT t2).s,0,0,0,0,false,false,none⟩) (by simp) rfl 85) (Kp.id_ (fun b hb _=>(show w.heap.size≤b by unfold Fr at hb;simp at hb;omega))) (((HR3.out.far (p:=⟨w1.heap.size,1,none⟩) (by show g<w1.heap.size;omega) _).far2 hg).alloc _) (((HX3.out.set_ (p:=⟨w1.heap.size,1,none⟩) (.inr hz1) _).far2 (Nat.le_refl _)).alloc _))
 ·go_enter Tryz.func40, Tryz.ntmps40
  generalize hQ:bodyPost Tryz.prog Tryz.f40 (SegP g E w (segF E P d t) d)=Q
  have HQ:=hH hQ;clear hQ
  rw [if_pos rfl] at HN
  have hdd:=dot_ne
  have hde:=dots_eq
  go_wp2_with (first
   | (go_at_call 19;(with_reducible refine HI.out.mono ?_);rintro e w' ⟨rfl,rfl⟩)
   | (go_at_call 39;(with_reducible refine HN.out.mono ?_);rintro e w1 ⟨rfl,hr,hx⟩;have HX1:=hH (HX0.out.trans hx);have HB1:=hH (HB0.out.ex hx (by omega));have hz1:=HX1.out.size;have HX1a:=hH (HX1.out.alloc (.cells #[.bool true,.slice none 0 0] 79));have HB1a:=hH (HB1.out.alloc (.cells #[.bool true,.slice none 0 0] 79));have HS1a:=hH (Blk.new w1 79 #[.bool true,.slice none 0 0]);have HC1:=hH (HCL.out _ (hr.alloc (.cells #[.bool true,.slice none 0 0] 79)));clear hr hx)
   | (go_at_call 61;(with_reducible refine HC1.out.mono ?_);rintro e w2 ⟨rfl,hr,hx⟩;have HR2:=hH hr;have HX2:=hH (HX1a.out.trans hx);have HB2:=hH (HB1a.out.ex hx (by omega));have HS2:=hH (HS1a.out.ex hx (by omega));clear hr hx;have HJ:=hH (is_at ⟨#[91]⟩ false _ HR2.out (hH (by have:=HI2.out;simpa using this)));have HT:=hH (take_no g E t2 d ⟨#[42]⟩ _ HR2.out HI3);have HK:=hH (kind_at 2 _ HR2.out HK2);have HN2:=hH (next_any g E t2 d _ HR2.out);unfold tokA at HN2;  obtain⟨z,⟨d0,d1⟩,⟨f0,f1⟩⟩:=HB2.out.c2;obtain⟨y,⟨e0,e1⟩,⟨g0,g1⟩⟩:=HS2.out.c2;have hne:w.heap.size≠w1.heap.size:=by (have:=HB1.out.lt;omega))
   | (go_at_call 19;(with_reducible refine HJ.out.mono ?_);rintro e w' ⟨rfl,rfl⟩)
   | (go_at_call 62;(with_reducible refine HT.out.mono ?_);rintro e w' ⟨rfl,rfl⟩)
   | (go_at_call 36;(with_reducible refine HK.out.mono ?_);rintro e w' ⟨rfl,rfl⟩)
   | (go_at_call 39;(with_reducible refine HN2.out.mono ?_);rintro e w3 ⟨rfl,hr,hx⟩;have HX3:=hH (HX2.out.trans hx);have HB3:=hH (HB2.out.ex hx (by omega));have HS3:=hH (HS2.out.ex hx (by omega));have HR3:=hH hr;have hz3:=hx.size;clear hr hx;clear z d0 d1 f0 f1 y e0 e1 g0 g1;obtain⟨z,⟨d0,d1⟩,⟨f0,f1⟩⟩:=HB3.out.c2;obtain⟨y,⟨e0,e1⟩,⟨g0,g1⟩⟩:=HS3.out.c2))
  have hy:w1.heap.size<w3.heap.size:=y
  rw [←HQ.out]
  exact bodyPost_ret (v:=.agg #[.bool true,.slice (some ⟨w3.heap.size,0,none⟩) 1 1]) (by simp [results,Tryz.results40,go_sem,z,d0,d1]) rfl (segP_of HE.out (row_at (x:=⟨0,(hdT t2).s,0,0,0,0,false,false,none⟩) (by simp) rfl 85) (Kp.id_ (fun b hb _=>(show w.heap.size≤b by unfold Fr at hb;simp at hb;omega))) (((HR3.out.far (p:=⟨w1.heap.size,1,none⟩) (by show g<w1.heap.size;omega) _).far2 hg).alloc _) (((HX3.out.set_ (p:=⟨w1.heap.size,1,none⟩) (.inr hz1) _).far2 (Nat.le_refl _)).alloc _))
theorem seg_form (dp:Bool)(g:Nat)(E:Int)(P:Nat→PSt→ExprT×PSt)(t:PSt)(d:Nat)(w:World)(h:RdS g E w t d)(h91:isS [91] t=false)(hdp:isS [46,46] t=dp)(hs:bs (hdT t).s=⟨if dp then #[46,46] else #[46]⟩)(t2:PSt)(ht2:closeS E (nextS E t)=t2)(h42:isS [42] t2=false)(hb:(dp && isS [91] t2)=false)(hk:kindS t2≠2) :
  Calls Tryz.prog 40 #[.pointer (some ⟨g,0,none⟩)] w (SegP g E w (segF E P d t) d):=by
 have hg:=h.lt
 have HR0:=hH (h.alloc (.cells #[.bool false,.slice none 0 0] 79))
 have HX0:=hH (show Ex g w (w.alloc (.cells #[.bool false,.slice none 0 0] 79)) from(Ex.refl g w).alloc _)
 have HB0:=hH (Blk.new w 79 #[.bool false,.slice none 0 0])
 have HI:=hH (is_at ⟨#[91]⟩ false _ HR0.out (hH h91))
 have HN:=hH (next_any g E t d _ HR0.out)
 have HE0:=hH (show segF E P d t=dotF E P d dp t2 by unfold segF;rw [ite_ff h91,hdp,ht2])
 unfold tokA at HN
 rw [hs] at HN
 have hf0:=fun u=>tok_f1 (hdT t).kind (hdT t).n ((hdT t).at_:Nat) u (hdT t).gap
 have HCL:=hH (fun wx hr=>close_any g E (nextS E t) d wx hr)
 rw [ht2] at HCL
 clear h h91 hdp hs ht2
 have HE:=hH (show segF E P d t=(⟨dp,[]⟩,formS E t2) by rw [HE0.out];unfold dotF;rw [ite_ff hb,ite_ff h42,if_neg hk])
 have HI2:=hH hb
 have HI3:=hH h42
 obtain⟨k,hk2⟩:∃k,kindS t2=k:=⟨_,rfl⟩
 have HK2:=hH hk2
 have hk3:(k==2)=false:=by rw [beq_eq_false_iff_ne,←hk2];exact hk
 clear hb h42 hk hk2
 cases dp
 ·go_enter Tryz.func40, Tryz.ntmps40
  generalize hQ:bodyPost Tryz.prog Tryz.f40 (SegP g E w (segF E P d t) d)=Q
  have HQ:=hH hQ;clear hQ
  rw [if_neg Bool.false_ne_true] at HN
  have hdd:=dot_ne
  have hde:=dots_eq
  go_wp2_with (first
   | (go_at_call 19;(with_reducible refine HI.out.mono ?_);rintro e w' ⟨rfl,rfl⟩)
   | (go_at_call 39;(with_reducible refine HN.out.mono ?_);rintro e w1 ⟨rfl,hr,hx⟩;have HX1:=hH (HX0.out.trans hx);have HB1:=hH (HB0.out.ex hx (by omega));have hz1:=HX1.out.size;have HX1a:=hH (HX1.out.alloc (.cells #[.bool false,.slice none 0 0] 79));have HB1a:=hH (HB1.out.alloc (.cells #[.bool false,.slice none 0 0] 79));have HS1a:=hH (Blk.new w1 79 #[.bool false,.slice none 0 0]);have HC1:=hH (HCL.out _ (hr.alloc (.cells #[.bool false,.slice none 0 0] 79)));clear hr hx)
   | (go_at_call 61;(with_reducible refine HC1.out.mono ?_);rintro e w2 ⟨rfl,hr,hx⟩;have HR2:=hH hr;have HX2:=hH (HX1a.out.trans hx);have HB2:=hH (HB1a.out.ex hx (by omega));have HS2:=hH (HS1a.out.ex hx (by omega));clear hr hx;have HT:=hH (take_no g E t2 d ⟨#[42]⟩ _ HR2.out HI3);have HK:=hH (kind_at k _ HR2.out HK2);have HN2:=hH (form_any g E t2 d _ HR2.out);  obtain⟨z,⟨d0,d1⟩,⟨f0,f1⟩⟩:=HB2.out.c2;obtain⟨y,⟨e0,e1⟩,⟨g0,g1⟩⟩:=HS2.out.c2;have hne:w.heap.size≠w1.heap.size:=by (have:=HB1.out.lt;omega))
   | (go_at_call 62;(with_reducible refine HT.out.mono ?_);rintro e w' ⟨rfl,rfl⟩)
   | (go_at_call 36;(with_reducible refine HK.out.mono ?_);rintro e w' ⟨rfl,rfl⟩)
   | (go_at_call 20;(with_reducible refine HN2.out.mono ?_);rintro e w3 ⟨rfl,hr,hx⟩;have HX3:=hH (HX2.out.trans hx);have HB3:=hH (HB2.out.ex hx (by omega));have HS3:=hH (HS2.out.ex hx (by omega));have HR3:=hH hr;have hz3:=hx.size;clear hr hx;clear z d0 d1 f0 f1 y e0 e1 g0 g1;obtain⟨z,⟨d0,d1⟩,⟨f0,f1⟩⟩:=HB3.out.c2;obtain⟨y,⟨e0,e1⟩,⟨g0,g1⟩⟩:=HS3.out.c2))
  rw [←HQ.out]
  exact bodyPost_ret (v:=.agg #[.bool false,.slice none 0 0]) (by simp [results,Tryz.results40,go_sem,d0,d1]) rfl (segP_of (wk:=w3) (W:=w3) (m:=0) HE.out ⟨none,0,rfl,⟨Nat.le_refl _,by omega⟩,.inl rfl⟩ (Kp.far2 (Kp.id_ (fun b hb _=>(show w.heap.size≤b by have hb':w3.heap.size≤b:=hb;omega))) (fun b hb _=>by have hb':w3.heap.size≤b:=hb;omega)) (HR3.out.far2 hg) (HX3.out.far2 (Nat.le_refl _)))
 ·go_enter Tryz.func40, Tryz.ntmps40
  generalize hQ:bodyPost Tryz.prog Tryz.f40 (SegP g E w (segF E P d t) d)=Q
  have HQ:=hH hQ;clear hQ
  rw [if_pos rfl] at HN
  have hdd:=dot_ne
  have hde:=dots_eq
  go_wp2_with (first
   | (go_at_call 19;(with_reducible refine HI.out.mono ?_);rintro e w' ⟨rfl,rfl⟩)
   | (go_at_call 39;(with_reducible refine HN.out.mono ?_);rintro e w1 ⟨rfl,hr,hx⟩;have HX1:=hH (HX0.out.trans hx);have HB1:=hH (HB0.out.ex hx (by omega));have hz1:=HX1.out.size;have HX1a:=hH (HX1.out.alloc (.cells #[.bool true,.slice none 0 0] 79));have HB1a:=hH (HB1.out.alloc (.cells #[.bool true,.slice none 0 0] 79));have HS1a:=hH (Blk.new w1 79 #[.bool true,.slice none 0 0]);have HC1:=hH (HCL.out _ (hr.alloc (.cells #[.bool true,.slice none 0 0] 79)));clear hr hx)
   | (go_at_call 61;(with_reducible refine HC1.out.mono ?_);rintro e w2 ⟨rfl,hr,hx⟩;have HR2:=hH hr;have HX2:=hH (HX1a.out.trans hx);have HB2:=hH (HB1a.out.ex hx (by omega));have HS2:=hH (HS1a.out.ex hx (by omega));clear hr hx;have HJ:=hH (is_at ⟨#[91]⟩ false _ HR2.out (hH (by have:=HI2.out;simpa using this)));have HT:=hH (take_no g E t2 d ⟨#[42]⟩ _ HR2.out HI3);have HK:=hH (kind_at k _ HR2.out HK2);have HN2:=hH (form_any g E t2 d _ HR2.out);  obtain⟨z,⟨d0,d1⟩,⟨f0,f1⟩⟩:=HB2.out.c2;obtain⟨y,⟨e0,e1⟩,⟨g0,g1⟩⟩:=HS2.out.c2;have hne:w.heap.size≠w1.heap.size:=by (have:=HB1.out.lt;omega))
   | (go_at_call 19;(with_reducible refine HJ.out.mono ?_);rintro e w' ⟨rfl,rfl⟩)
   | (go_at_call 62;(with_reducible refine HT.out.mono ?_);rintro e w' ⟨rfl,rfl⟩)
   | (go_at_call 36;(with_reducible refine HK.out.mono ?_);rintro e w' ⟨rfl,rfl⟩)
   | (go_at_call 20;(with_reducible refine HN2.out.mono ?_);rintro e w3 ⟨rfl,hr,hx⟩;have HX3:=hH (HX2.out.trans hx);have HB3:=hH (HB2.out.ex hx (by omega));have HS3:=hH (HS2.out.ex hx (by omega));have HR3:=hH hr;have hz3:=hx.size;clear hr hx;clear z d0 d1 f0 f1 y e0 e1 g0 g1;obtain⟨z,⟨d0,d1⟩,⟨f0,f1⟩⟩:=HB3.out.c2;obtain⟨y,⟨e0,e1⟩,⟨g0,g1⟩⟩:=HS3.out.c2))
  rw [←HQ.out]
  exact bodyPost_ret (v:=.agg #[.bool true,.slice none 0 0]) (by simp [results,Tryz.results40,go_sem,d0,d1]) rfl (segP_of (wk:=w3) (W:=w3) (m:=0) HE.out ⟨none,0,rfl,⟨Nat.le_refl _,by omega⟩,.inl rfl⟩ (Kp.far2 (Kp.id_ (fun b hb _=>(show w.heap.size≤b by have hb':w3.heap.size≤b:=hb;omega))) (fun b hb _=>by have hb':w3.heap.size≤b:=hb;omega)) (HR3.out.far2 hg) (HX3.out.far2 (Nat.le_refl _)))
theorem seg_sels (g:Nat)(E:Int)(P:Nat→PSt→ExprT×PSt)(hL:LeP P)(N:Nat)(hP:OrC g E P N)(t:PSt)(d:Nat)(w:World)(h:RdS g E w t d)(hN:N≤d+1)(hd:d≤32)(h91:isS [91] t=false)(hdp:isS [46,46] t=true)(hs:bs (hdT t).s=⟨#[46,46]⟩)(t2:PSt)(ht2:closeS E (nextS E t)=t2)(hb:isS [91] t2=true) :
  Calls Tryz.prog 40 #[.pointer (some ⟨g,0,none⟩)] w (SegP g E w (segF E P d t) d):=by
 have hg:=h.lt
 have HR0:=hH (h.alloc (.cells #[.bool false,.slice none 0 0] 79))
 have HX0:=hH (show Ex g w (w.alloc (.cells #[.bool false,.slice none 0 0] 79)) from(Ex.refl g w).alloc _)
 have HB0:=hH (Blk.new w 79 #[.bool false,.slice none 0 0])
 have HI:=hH (is_at ⟨#[91]⟩ false _ HR0.out (hH h91))
 have HN:=hH (next_any g E t d _ HR0.out)
 have HE0:=hH (show segF E P d t=dotF E P d true t2 by unfold segF;rw [ite_ff h91,hdp,ht2])
 unfold tokA at HN
 rw [hs] at HN
 have hf0:=fun u=>tok_f1 (hdT t).kind (hdT t).n ((hdT t).at_:Nat) u (hdT t).gap
 have HCL:=hH (fun wx hr=>close_any g E (nextS E t) d wx hr)
 rw [ht2] at HCL
 clear h h91 hdp hs ht2
 have HS:=hH (fun w hr=>sels_any g E P hL N hP t2 d w hr hN (by omega) (fun e=>absurd e (by omega)))
 obtain⟨l,t3,hl⟩:∃l t3,selsF E P d t2=(l,t3):=⟨_,_,rfl⟩
 have HE:=hH (show segF E P d t=(⟨true,l⟩,t3) by rw [HE0.out];unfold dotF;rw [ite_tt (by rw [hb];rfl),hl])
 rw [hl] at HS
 unfold SelsP at HS
 simp only at HS
 have HI2:=hH hb
 clear hb hl hP
 go_enter Tryz.func40, Tryz.ntmps40
 generalize hQ:bodyPost Tryz.prog Tryz.f40 (SegP g E w (segF E P d t) d)=Q
 have HQ:=hH hQ;clear hQ
 have hdd:=dot_ne
 have hde:=dots_eq
 go_wp2_with (first
  | (go_at_call 19;(with_reducible refine HI.out.mono ?_);rintro e w' ⟨rfl,rfl⟩)
  | (go_at_call 39;(with_reducible refine HN.out.mono ?_);rintro e w1 ⟨rfl,hr,hx⟩;have HX1:=hH (HX0.out.trans hx);have HB1:=hH (HB0.out.ex hx (by omega));have hz1:=HX1.out.size;have HX1a:=hH (HX1.out.alloc (.cells #[.bool true,.slice none 0 0] 79));have HB1a:=hH (HB1.out.alloc (.cells #[.bool true,.slice none 0 0] 79));have HS1a:=hH (Blk.new w1 79 #[.bool true,.slice none 0 0]);have HC1:=hH (HCL.out _ (hr.alloc (.cells #[.bool true,.slice none 0 0] 79)));clear hr hx)
  | (go_at_call 61;(with_reducible refine HC1.out.mono ?_);rintro e w2 ⟨rfl,hr,hx⟩;have HR2:=hH hr;have HX2:=hH (HX1a.out.trans hx);have HB2:=hH (HB1a.out.ex hx (by omega));have HS2:=hH (HS1a.out.ex hx (by omega));clear hr hx;have HJ:=hH (is_at ⟨#[91]⟩ true _ HR2.out HI2);have HZ:=hH (HS.out _ HR2.out);  obtain⟨z,⟨d0,d1⟩,⟨f0,f1⟩⟩:=HB2.out.c2;obtain⟨y,⟨e0,e1⟩,⟨g0,g1⟩⟩:=HS2.out.c2;have hne:w.heap.size≠w1.heap.size:=by (have:=HB1.out.lt;omega))
  | (go_at_call 19;(with_reducible refine HJ.out.mono ?_);rintro e w' ⟨rfl,rfl⟩)
  | (go_at_call 60;(with_reducible refine HZ.out.mono ?_);rintro e w3 ⟨m,A,c,rfl,hrow,hr,hx⟩;have HX3:=hH (HX2.out.trans hx);have HB3:=hH (HB2.out.ex hx (by omega));have HS3:=hH (HS2.out.ex hx (by omega));have HR3:=hH hr;have hz3:=hx.size;have HW:=hH hrow;clear hrow;clear hr hx;clear z d0 d1 f0 f1 y e0 e1 g0 g1;obtain⟨z,⟨d0,d1⟩,⟨f0,f1⟩⟩:=HB3.out.c2;obtain⟨y,⟨e0,e1⟩,⟨g0,g1⟩⟩:=HS3.out.c2))
 have hy:w1.heap.size<w2.heap.size:=HS2.out.lt
 rw [←HQ.out]
 exact bodyPost_ret (v:=.agg #[.bool true,.slice A l.length c]) (by simp [results,Tryz.results40,go_sem,d0,d1]) rfl (segP_of HE.out HW.out (Kp.far2 (Kp.set_ (Kp.id_ (fun b hb _=>(show w.heap.size≤b by have hb':w2.heap.size≤b:=hb;omega))) (p:=⟨w1.heap.size,1,none⟩) (fun b hb _=>(show b≠w1.heap.size by have hb':w2.heap.size≤b:=hb;omega)) _) (fun b hb _=>by have hb':w2.heap.size≤b:=hb;omega)) ((HR3.out.far (p:=⟨w1.heap.size,1,none⟩) (by show g<w1.heap.size;omega) _).far2 hg) ((HX3.out.set_ (p:=⟨w1.heap.size,1,none⟩) (.inr hz1) _).far2 (Nat.le_refl _)))
theorem seg_any (g:Nat)(E:Int)(P:Nat→PSt→ExprT×PSt)(hL:LeP P)(N:Nat)(hP:OrC g E P N)(d:Nat)(hN:N≤d+1)(hd:d≤33)(t:PSt)(w:World)(h:RdS g E w t d)(hf:d=33→t.fe≠0)(hs:isSeg t=true) :
  Calls Tryz.prog 40 #[.pointer (some ⟨g,0,none⟩)] w (SegP g E w (segF E P d t) d):=by
 cases h91:isS [91] t with
 | true=>exact seg_br g E P hL N hP t d w h hN hd hf h91
 | false =>
  have hfe:=(isSeg_fe hs).1
  have hd32:d≤32:=by
   rcases Nat.lt_or_ge d 33 with h1|h1
   ·omega
   ·exact absurd hfe (hf (by omega))
  have hg:∃dp,isS [46,46] t=dp∧bs (hdT t).s=⟨if dp then #[46,46] else #[46]⟩:=by
   have hh:∀l,isS l t=true→(hdT t).s=l:=fun l hl=>by
    unfold isS at hl;rw [Bool.and_eq_true] at hl;exact beq_iff_eq.1 hl.2
   cases h2:isS [46,46] t with
   | true=>exact⟨true,rfl,by rw [hh _ h2];rfl⟩
   | false =>
    refine⟨false,rfl,?_⟩
    unfold isSeg at hs
    rw [h91,h2,Bool.false_or,Bool.or_false] at hs
    rw [hh _ hs];rfl
  obtain⟨dp,hdp,hsb⟩:=hg
  obtain⟨t2,ht2⟩:∃t2,closeS E (nextS E t)=t2:=⟨_,rfl⟩
  cases hb:(dp && isS [91] t2) with
  | true =>
   rw [Bool.and_eq_true] at hb
   obtain⟨rfl,hb⟩:=hb
   exact seg_sels g E P hL N hP t d w h hN hd32 h91 hdp hsb t2 ht2 hb
  | false =>
   cases h42:isS [42] t2 with
   | true=>exact seg_wild dp g E P t d w h h91 hdp hsb t2 ht2 h42 hb
   | false =>
    by_cases hk:kindS t2=2
    ·exact seg_name dp g E P t d w h h91 hdp hsb t2 ht2 h42 hb hk
    ·exact seg_form dp g E P t d w h h91 hdp hsb t2 ht2 h42 hb hk
theorem path_any (g:Nat)(E:Int)(P:Nat→PSt→ExprT×PSt)(hL:LeP P)(N:Nat)(hP:OrC g E P N)(t:PSt)(d:Nat)(w:World)(h:RdS g E w t d)(hN:N≤d+1)(hd:d≤33)(hf:d=33→t.fe≠0) :
  Calls Tryz.prog 21 #[.pointer (some ⟨g,0,none⟩)] w (PathP g E w (pathF E P d t) d) :=
 path_of g E P hL t d w h hd hf fun t w hr hf hs=>seg_any g E P hL N hP d hN hd t w hr hf hs
end Go.Proofs.YtjbdcjcfijjiiaaGreatDoor
