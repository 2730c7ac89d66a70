/- qtree: one (printed by gen_one.py). -/
import Derived.Test.YtjbdcjcfijjiiaaGreatDoorNG39
import Derived.Test.YtjbdcjcfijjiiaaGreatDoorNQn
namespace Go.Proofs.YtjbdcjcfijjiiaaGreatDoor
open Go.RowKit
set_option maxRecDepth 100000
set_option maxHeartbeats 4000000
theorem row_ex {K:Nat→Prop}{m z:Nat}{W:World}{cs:List Value}{x:ExprT}(T:TypeId)(hz:z=W.heap.size)(hex:REx K m (W.alloc (.cells cs.toArray T)) cs x)(hK:K z) :
  RowG K 17 (REx K m (W.alloc (.cells cs.toArray T))) (W.alloc (.cells cs.toArray T)) (.slice (some ⟨z,0,none⟩) 1 1) [x]:=by
 have hb:=Blk.new W T cs.toArray
 rw [←hz] at hb
 refine⟨_,_,rfl,⟨Nat.le_refl _,by omega⟩,.inr ⟨z,0,rfl,hK,hb.lt,fun i y hy=>?_⟩⟩
 match i,hy with
 | 0,hy =>
  cases hy
  exact⟨cs,REx_ok.len hex,fun j u hu=>by rw [show 0+0*17+j=j by omega,hb.cell j];simpa using hu,hex⟩
 | n+1,hy=>simp at hy
theorem load_in {w:World}{k:Nat}{T:TypeId}{x:ExprT}{kv qv lv rv:Value}(h:Blk w k T (exL x kv qv lv rv).toArray) :
  ∀(j:Nat) u,(exL x kv qv lv rv)[j]? = some u→w.cell? ⟨k,0+0*17+j,none⟩=some u:=fun j u hu=>by
 rw [show 0+0*17+j=j by omega]
 exact(h.cell j).trans (by simpa using hu)
theorem one_round (g:Nat)(E:Int)(t:PSt)(d:Nat)(w:World)(h:RdS g E w t d)(r:ExprT×PSt)
  (hc:∀w,RdS g E w t d→Calls Tryz.prog 116 #[.pointer (some ⟨g,0,none⟩)] w (ExP g E w r d)) (h33:isS [33] t=false) (h40:isS [40] t=true) :
  Calls Tryz.prog 113 #[.pointer (some ⟨g,0,none⟩)] w (ExP g E w r d):=by
 have hg:=h.lt
 have HR0:=hH (h.alloc (.cells E0 92))
 have HX0:=hH (show Ex g w (w.alloc (.cells E0 92)) from(Ex.refl g w).alloc _)
 have HB0:=hH (Blk.new w 92 E0)
 have HI1:=hH (is_at ⟨#[33]⟩ false _ HR0.out (hH h33))
 have HI2:=hH (is_at ⟨#[40]⟩ true _ HR0.out (hH h40))
 have HC:=hH (hc _ HR0.out)
 obtain⟨x,t1⟩:=r
 unfold ExP at HC
 unfold E0 at HR0 HX0 HB0 HI1 HI2 HC
 simp only at HC
 clear h h33 h40 hc
 go_enter Tryz.func113, Tryz.ntmps113
 generalize hQ:bodyPost Tryz.prog Tryz.f113 (ExP g E w (x,t1) d)=Q
 have HQ:=hH hQ;clear hQ
 go_wp2_with (first|(go_at_call 19;(with_reducible refine HI1.out.mono ?_);rintro e w' ⟨rfl,rfl⟩)|(go_at_call 19;(with_reducible refine HI2.out.mono ?_);rintro e w' ⟨rfl,rfl⟩))
 refine HC.out.mono ?_
 rintro e w1 ⟨m,kv,qv,lv,rv,rfl,hex,hr,hx⟩
 obtain⟨A1,q1,A2,q2,A3,q3,A4,q4,rfl,rfl,rfl,rfl⟩:=hex.slices
 have HE1:=hH hex
 have HR1:=hH hr
 have HX1:=hH (HX0.out.trans hx)
 have HB1:=HB0.out.ex hx (by omega)
 obtain⟨z,⟨d0,d1,d2,d3,d4,d5,d6,d7,d8,d9,d10,d11,d12,d13,d14,d15,d16⟩,⟨f0,f1,f2,f3,f4,f5,f6,f7,f8,f9,f10,f11,f12,f13,f14,f15,f16⟩⟩:=HB1.c17
 unfold exV
 clear hex hr hx HC HB0 HX0 HR0
 go_wp2
 rw [←HQ.out]
 exact bodyPost_ret (v:=exV x (.slice A1 x.kids.length q1) (.slice A2 x.q.segs.length q2) (.slice A3 x.left.p.segs.length q3) (.slice A4 x.right.p.segs.length q4)) (results_cell_row (by rfl) _ _ w.heap.size _ _ _ _ (by rfl) (show Blk _ w.heap.size 92 _ from HB1.put17) Tryz.underlying92 (by rfl) (by kernel_rfl)) rfl ⟨_,_,_,_,_,rfl,REx_ok.keep HE1.out (Kp.al.far17 (fun b hb _=>by have:=hb.al;omega)) (Nat.le_refl _),HR1.out.far17 hg,HX1.out.far17 (Nat.le_refl _)⟩
theorem one_cmp (g:Nat)(E:Int)(t:PSt)(d:Nat)(w:World)(h:RdS g E w t d)(r:ExprT×PSt)
  (hc:∀w,RdS g E w t d→Calls Tryz.prog 117 #[.pointer (some ⟨g,0,none⟩)] w (ExP g E w r d)) (h33:isS [33] t=false) (h40:isS [40] t=false) :
  Calls Tryz.prog 113 #[.pointer (some ⟨g,0,none⟩)] w (ExP g E w r d):=by
 have hg:=h.lt
 have HR0:=hH (h.alloc (.cells E0 92))
 have HX0:=hH (show Ex g w (w.alloc (.cells E0 92)) from(Ex.refl g w).alloc _)
 have HB0:=hH (Blk.new w 92 E0)
 have HI1:=hH (is_at ⟨#[33]⟩ false _ HR0.out (hH h33))
 have HI2:=hH (is_at ⟨#[40]⟩ false _ HR0.out (hH h40))
 have HC:=hH (hc _ HR0.out)
 obtain⟨x,t1⟩:=r
 unfold ExP at HC
 unfold E0 at HR0 HX0 HB0 HI1 HI2 HC
 simp only at HC
 clear h h33 h40 hc
 go_enter Tryz.func113, Tryz.ntmps113
 generalize hQ:bodyPost Tryz.prog Tryz.f113 (ExP g E w (x,t1) d)=Q
 have HQ:=hH hQ;clear hQ
 go_wp2_with (first|(go_at_call 19;(with_reducible refine HI1.out.mono ?_);rintro e w' ⟨rfl,rfl⟩)|(go_at_call 19;(with_reducible refine HI2.out.mono ?_);rintro e w' ⟨rfl,rfl⟩))
 refine HC.out.mono ?_
 rintro e w1 ⟨m,kv,qv,lv,rv,rfl,hex,hr,hx⟩
 obtain⟨A1,q1,A2,q2,A3,q3,A4,q4,rfl,rfl,rfl,rfl⟩:=hex.slices
 have HE1:=hH hex
 have HR1:=hH hr
 have HX1:=hH (HX0.out.trans hx)
 have HB1:=HB0.out.ex hx (by omega)
 obtain⟨z,⟨d0,d1,d2,d3,d4,d5,d6,d7,d8,d9,d10,d11,d12,d13,d14,d15,d16⟩,⟨f0,f1,f2,f3,f4,f5,f6,f7,f8,f9,f10,f11,f12,f13,f14,f15,f16⟩⟩:=HB1.c17
 unfold exV
 clear hex hr hx HC HB0 HX0 HR0
 go_wp2
 rw [←HQ.out]
 exact bodyPost_ret (v:=exV x (.slice A1 x.kids.length q1) (.slice A2 x.q.segs.length q2) (.slice A3 x.left.p.segs.length q3) (.slice A4 x.right.p.segs.length q4)) (results_cell_row (by rfl) _ _ w.heap.size _ _ _ _ (by rfl) (show Blk _ w.heap.size 92 _ from HB1.put17) Tryz.underlying92 (by rfl) (by kernel_rfl)) rfl ⟨_,_,_,_,_,rfl,REx_ok.keep HE1.out (Kp.al.far17 (fun b hb _=>by have:=hb.al;omega)) (Nat.le_refl _),HR1.out.far17 hg,HX1.out.far17 (Nat.le_refl _)⟩
theorem not_a (g:Nat)(E:Int)(t:PSt)(d:Nat)(w:World)(h:RdS g E w t d)(hd:d≤32)(x:ExprT)(t2:PSt)
  (hc:∀w,RdS g E w (openS E d t) (d+1)→Calls Tryz.prog 116 #[.pointer (some ⟨g,0,none⟩)] w (ExP g E w (x,t2) (d+1))) (h33:isS [33] t=true) (h40:isS [40] (openS E d t)=true) :
  Calls Tryz.prog 113 #[.pointer (some ⟨g,0,none⟩)] w (ExP g E w (mkE 2 [x],t2) d):=by
 have hg:=h.lt
 have HR0:=hH (h.alloc (.cells E0 92))
 have HX0:=hH (show Ex g w (w.alloc (.cells E0 92)) from(Ex.refl g w).alloc _)
 have HB0:=hH (Blk.new w 92 E0)
 have HI1:=hH (is_at ⟨#[33]⟩ true _ HR0.out (hH h33))
 have HO:=hH (open_any g E t d _ HR0.out (by omega))
 have HI40:=hH h40
 have HC:=hH hc
 unfold ExP at HC
 unfold E0 at HR0 HX0 HB0 HI1 HO
 simp only at HC
 clear h h33 h40 hc
 go_enter Tryz.func113, Tryz.ntmps113
 generalize hQ:bodyPost Tryz.prog Tryz.f113 (ExP g E w (mkE 2 [x],t2) d)=Q
 have HQ:=hH hQ;clear hQ
 go_wp2_with (first|(go_at_call 19;(with_reducible refine HI1.out.mono ?_);rintro e w' ⟨rfl,rfl⟩)|(go_at_call 97;refine HO.out.mono ?_;rintro e w1 ⟨rfl,hr,hx⟩;have hz1:=HX0.out.size;have hR1:=hr.alloc (.cells E0 92);have HX1:=hH ((HX0.out.trans hx).alloc (.cells E0 92));have HB1:=hH ((HB0.out.ex hx (by omega)).alloc (.cells E0 92));have HY1:=hH (Blk.new w1 92 E0);have HI2:=hH (is_at ⟨#[40]⟩ true _ hR1 HI40);have HC1:=hH (HC.out _ hR1);have hw1:=hx.size;unfold E0 at HX1 HB1 HY1 HI2 HC1;clear hr hx hR1)|(go_at_call 19;(with_reducible refine HI2.out.mono ?_);rintro e w' ⟨rfl,rfl⟩))
 refine HC1.out.mono ?_
 rintro e w2 ⟨m,kv,qv,lv,rv,rfl,hex,hr,hx⟩
 obtain⟨A1,q1,A2,q2,A3,q3,A4,q4,rfl,rfl,rfl,rfl⟩:=hex.slices
 have hlt1:w.heap.size<w1.heap.size:=by have:=(HB0.out).lt;simp at hw1 this;omega
 have hs2:=hx.size
 have HE2:=hH hex
 have HR2:=hH hr
 have HX2:=hH (HX1.out.trans hx)
 have HB2:=hH (HB1.out.ex hx (by omega))
 have HY2:=hH (HY1.out.ex hx (by omega))
 obtain⟨A,c,n,hn,hnc,hcc,hd1,hg2,⟨c0,c1,c2,c3,c4⟩,⟨p0,p2,p3,p4⟩,hT⟩:=hr.cells
 obtain⟨y,⟨y0,y1,y2,y3,y4,y5,y6,y7,y8,y9,y10,y11,y12,y13,y14,y15,y16⟩,⟨yf0,yf1,yf2,yf3,yf4,yf5,yf6,yf7,yf8,yf9,yf10,yf11,yf12,yf13,yf14,yf15,yf16⟩⟩:=HY2.out.c17
 have hne:w.heap.size≠w1.heap.size:=by omega
 have hs3:w1.heap.size<w2.heap.size:=by simp at hs2;omega
 have hkp:Kp (Fr (w1.alloc (.cells E0 92))) (Fr w) w2 w2:=Kp.id_ fun b hb _=>(show w.heap.size≤b by have:=hb.al;omega)
 obtain⟨W,hW⟩:∃W,W=(((((((((((((((((w2.setCell ⟨w1.heap.size,0,none⟩ (.int .i64 x.kind)).setCell ⟨w1.heap.size,1,none⟩ (.slice A1 x.kids.length q1)).setCell ⟨w1.heap.size,2,none⟩ (.bool x.q.abs)).setCell ⟨w1.heap.size,3,none⟩ (.slice A2 x.q.segs.length q2)).setCell ⟨w1.heap.size,4,none⟩ (.int .i64 x.op)).setCell ⟨w1.heap.size,5,none⟩ (.bool x.left.lit)).setCell ⟨w1.heap.size,6,none⟩ (.int .i64 x.left.kind)).setCell ⟨w1.heap.size,7,none⟩ (.int .i64 x.left.n)).setCell ⟨w1.heap.size,8,none⟩ (.string (bs x.left.s))).setCell ⟨w1.heap.size,9,none⟩ (.bool x.left.p.abs)).setCell ⟨w1.heap.size,10,none⟩ (.slice A3 x.left.p.segs.length q3)).setCell ⟨w1.heap.size,11,none⟩ (.bool x.right.lit)).setCell ⟨w1.heap.size,12,none⟩ (.int .i64 x.right.kind)).setCell ⟨w1.heap.size,13,none⟩ (.int .i64 x.right.n)).setCell ⟨w1.heap.size,14,none⟩ (.string (bs x.right.s))).setCell ⟨w1.heap.size,15,none⟩ (.bool x.right.p.abs)).setCell ⟨w1.heap.size,16,none⟩ (.slice A4 x.right.p.segs.length q4)).setCell ⟨g,4,none⟩ (.int .i64 (d:Int)):=⟨_,rfl⟩
 have HKW:=hH (show Kp (Fr (w1.alloc (.cells E0 92))) (Fr w) w2 W by rw [hW];exact(hkp.far17 (fun b hb _=>by have:=hb.al;omega)).set_ (p:=⟨g,4,none⟩) (fun b hb _=>by show b≠g;have:=hb.al;omega) _)
 have HRW:=hH (show RdS g E W t2 d by rw [hW];exact(HR2.out.far17 (by omega)).deep (d':=d) (by omega) (by omega))
 have HXW:=hH (show Ex g w W by rw [hW];exact(HX2.out.far17 (by omega)).self1 4 _)
 have HBW:=hH (show Blk W w.heap.size 92 E0 by rw [hW];exact(HB2.out.far17 hne).far (p:=⟨g,4,none⟩) (by show w.heap.size≠g;omega) _)
 have HCE:=hH (load_in (show Blk W w1.heap.size 92 (exL x (.slice A1 x.kids.length q1) (.slice A2 x.q.segs.length q2) (.slice A3 x.left.p.segs.length q3) (.slice A4 x.right.p.segs.length q4)).toArray by rw [hW];exact HY2.out.put17.far (p:=⟨g,4,none⟩) (by show w1.heap.size≠g;omega) _))
 have HW:=hH hW
 have hsW:=HKW.out.size
 unfold E0 at HBW
 clear hW hn hT hnc hcc c0 c1 c2 c3 p0 p2 p3 hex hr hx HC HC1 HB0 HX0 HR0 HB1 HX1 HY1 HI1 HI2 HO
 unfold exV
 go_upto_region 11 with fail
 rw [←HW.out]
 clear c4 p4 y y0 y1 y2 y3 y4 y5 y6 y7 y8 y9 y10 y11 y12 y13 y14 y15 y16 yf0 yf1 yf2 yf3 yf4 yf5 yf6 yf7 yf8 yf9 yf10 yf11 yf12 yf13 yf14 yf15 yf16 HW hkp
 obtain⟨z,⟨d0,d1,d2,d3,d4,d5,d6,d7,d8,d9,d10,d11,d12,d13,d14,d15,d16⟩,⟨f0,f1,f2,f3,f4,f5,f6,f7,f8,f9,f10,f11,f12,f13,f14,f15,f16⟩⟩:=HBW.out.c17
 go_wp2_with (refine wpList_load_ex rfl (.tmp 3) rfl w1.heap.size 0 rfl HCE.out ?_;unfold exV)
 rw [←HQ.out]
 refine bodyPost_ret (v:=exV (mkE 2 [x]) (.slice (some ⟨W.heap.size,0,none⟩) 1 1) (.slice none 0 0) (.slice none 0 0) (.slice none 0 0)) (results_cell_row (by rfl) _ _ w.heap.size _ _ _ _ (by rfl) (show Blk _ w.heap.size 92 _ from(HBW.out.put17.alloc _)) Tryz.underlying92 (by rfl) (by kernel_rfl)) rfl ⟨m+1,_,_,_,_,rfl,ExR.mk (row_ex 92 (by simp) (REx_ok.keep HE2.out ((HKW.out.far17 (fun b hb _=>by have:=hb.al;omega)).alloc _) (Nat.le_refl _)) (show w.heap.size≤W.heap.size by omega)) 2,((HRW.out.far17 hg).alloc _),((HXW.out.far17 (Nat.le_refl _)).alloc _)⟩
theorem not_b (g:Nat)(E:Int)(t:PSt)(d:Nat)(w:World)(h:RdS g E w t d)(hd:d≤32)(x:ExprT)(t2:PSt)
  (hc:∀w,RdS g E w (openS E d t) (d+1)→Calls Tryz.prog 118 #[.pointer (some ⟨g,0,none⟩)] w (ExP g E w (x,t2) (d+1))) (h33:isS [33] t=true) (h40:isS [40] (openS E d t)=false) :
  Calls Tryz.prog 113 #[.pointer (some ⟨g,0,none⟩)] w (ExP g E w (mkE 2 [x],t2) d):=by
 have hg:=h.lt
 have HR0:=hH (h.alloc (.cells E0 92))
 have HX0:=hH (show Ex g w (w.alloc (.cells E0 92)) from(Ex.refl g w).alloc _)
 have HB0:=hH (Blk.new w 92 E0)
 have HI1:=hH (is_at ⟨#[33]⟩ true _ HR0.out (hH h33))
 have HO:=hH (open_any g E t d _ HR0.out (by omega))
 have HI40:=hH h40
 have HC:=hH hc
 unfold ExP at HC
 unfold E0 at HR0 HX0 HB0 HI1 HO
 simp only at HC
 clear h h33 h40 hc
 go_enter Tryz.func113, Tryz.ntmps113
 generalize hQ:bodyPost Tryz.prog Tryz.f113 (ExP g E w (mkE 2 [x],t2) d)=Q
 have HQ:=hH hQ;clear hQ
 go_wp2_with (first|(go_at_call 19;(with_reducible refine HI1.out.mono ?_);rintro e w' ⟨rfl,rfl⟩)|(go_at_call 97;refine HO.out.mono ?_;rintro e w1 ⟨rfl,hr,hx⟩;have hz1:=HX0.out.size;have hR1:=hr.alloc (.cells E0 92);have HX1:=hH ((HX0.out.trans hx).alloc (.cells E0 92));have HB1:=hH ((HB0.out.ex hx (by omega)).alloc (.cells E0 92));have HY1:=hH (Blk.new w1 92 E0);have HI2:=hH (is_at ⟨#[40]⟩ false _ hR1 HI40);have HC1:=hH (HC.out _ hR1);have hw1:=hx.size;unfold E0 at HX1 HB1 HY1 HI2 HC1;clear hr hx hR1)|(go_at_call 19;(with_reducible refine HI2.out.mono ?_);rintro e w' ⟨rfl,rfl⟩))
 refine HC1.out.mono ?_
 rintro e w2 ⟨m,kv,qv,lv,rv,rfl,hex,hr,hx⟩
 obtain⟨A1,q1,A2,q2,A3,q3,A4,q4,rfl,rfl,rfl,rfl⟩:=hex.slices
 have hlt1:w.heap.size<w1.heap.size:=by have:=(HB0.out).lt;simp at hw1 this;omega
 have hs2:=hx.size
 have HE2:=hH hex
 have HR2:=hH hr
 have HX2:=hH (HX1.out.trans hx)
 have HB2:=hH (HB1.out.ex hx (by omega))
 have HY2:=hH (HY1.out.ex hx (by omega))
 obtain⟨A,c,n,hn,hnc,hcc,hd1,hg2,⟨c0,c1,c2,c3,c4⟩,⟨p0,p2,p3,p4⟩,hT⟩:=hr.cells
 obtain⟨y,⟨y0,y1,y2,y3,y4,y5,y6,y7,y8,y9,y10,y11,y12,y13,y14,y15,y16⟩,⟨yf0,yf1,yf2,yf3,yf4,yf5,yf6,yf7,yf8,yf9,yf10,yf11,yf12,yf13,yf14,yf15,yf16⟩⟩:=HY2.out.c17
 have hne:w.heap.size≠w1.heap.size:=by omega
 have hs3:w1.heap.size<w2.heap.size:=by simp at hs2;omega
 have hkp:Kp (Fr (w1.alloc (.cells E0 92))) (Fr w) w2 w2:=Kp.id_ fun b hb _=>(show w.heap.size≤b by have:=hb.al;omega)
 obtain⟨W,hW⟩:∃W,W=(((((((((((((((((w2.setCell ⟨w1.heap.size,0,none⟩ (.int .i64 x.kind)).setCell ⟨w1.heap.size,1,none⟩ (.slice A1 x.kids.length q1)).setCell ⟨w1.heap.size,2,none⟩ (.bool x.q.abs)).setCell ⟨w1.heap.size,3,none⟩ (.slice A2 x.q.segs.length q2)).setCell ⟨w1.heap.size,4,none⟩ (.int .i64 x.op)).setCell ⟨w1.heap.size,5,none⟩ (.bool x.left.lit)).setCell ⟨w1.heap.size,6,none⟩ (.int .i64 x.left.kind)).setCell ⟨w1.heap.size,7,none⟩ (.int .i64 x.left.n)).setCell ⟨w1.heap.size,8,none⟩ (.string (bs x.left.s))).setCell ⟨w1.heap.size,9,none⟩ (.bool x.left.p.abs)).setCell ⟨w1.heap.size,10,none⟩ (.slice A3 x.left.p.segs.length q3)).setCell ⟨w1.heap.size,11,none⟩ (.bool x.right.lit)).setCell ⟨w1.heap.size,12,none⟩ (.int .i64 x.right.kind)).setCell ⟨w1.heap.size,13,none⟩ (.int .i64 x.right.n)).setCell ⟨w1.heap.size,14,none⟩ (.string (bs x.right.s))).setCell ⟨w1.heap.size,15,none⟩ (.bool x.right.p.abs)).setCell ⟨w1.heap.size,16,none⟩ (.slice A4 x.right.p.segs.length q4)).setCell ⟨g,4,none⟩ (.int .i64 (d:Int)):=⟨_,rfl⟩
 have HKW:=hH (show Kp (Fr (w1.alloc (.cells E0 92))) (Fr w) w2 W by rw [hW];exact(hkp.far17 (fun b hb _=>by have:=hb.al;omega)).set_ (p:=⟨g,4,none⟩) (fun b hb _=>by show b≠g;have:=hb.al;omega) _)
 have HRW:=hH (show RdS g E W t2 d by rw [hW];exact(HR2.out.far17 (by omega)).deep (d':=d) (by omega) (by omega))
 have HXW:=hH (show Ex g w W by rw [hW];exact(HX2.out.far17 (by omega)).self1 4 _)
 have HBW:=hH (show Blk W w.heap.size 92 E0 by rw [hW];exact(HB2.out.far17 hne).far (p:=⟨g,4,none⟩) (by show w.heap.size≠g;omega) _)
 have HCE:=hH (load_in (show Blk W w1.heap.size 92 (exL x (.slice A1 x.kids.length q1) (.slice A2 x.q.segs.length q2) (.slice A3 x.left.p.segs.length q3) (.slice A4 x.right.p.segs.length q4)).toArray by rw [hW];exact HY2.out.put17.far (p:=⟨g,4,none⟩) (by show w1.heap.size≠g;omega) _))
 have HW:=hH hW
 have hsW:=HKW.out.size
 unfold E0 at HBW
 clear hW hn hT hnc hcc c0 c1 c2 c3 p0 p2 p3 hex hr hx HC HC1 HB0 HX0 HR0 HB1 HX1 HY1 HI1 HI2 HO
 unfold exV
 go_upto_region 11 with fail
 rw [←HW.out]
 clear c4 p4 y y0 y1 y2 y3 y4 y5 y6 y7 y8 y9 y10 y11 y12 y13 y14 y15 y16 yf0 yf1 yf2 yf3 yf4 yf5 yf6 yf7 yf8 yf9 yf10 yf11 yf12 yf13 yf14 yf15 yf16 HW hkp
 obtain⟨z,⟨d0,d1,d2,d3,d4,d5,d6,d7,d8,d9,d10,d11,d12,d13,d14,d15,d16⟩,⟨f0,f1,f2,f3,f4,f5,f6,f7,f8,f9,f10,f11,f12,f13,f14,f15,f16⟩⟩:=HBW.out.c17
 go_wp2_with (refine wpList_load_ex rfl (.tmp 3) rfl w1.heap.size 0 rfl HCE.out ?_;unfold exV)
 rw [←HQ.out]
 refine bodyPost_ret (v:=exV (mkE 2 [x]) (.slice (some ⟨W.heap.size,0,none⟩) 1 1) (.slice none 0 0) (.slice none 0 0) (.slice none 0 0)) (results_cell_row (by rfl) _ _ w.heap.size _ _ _ _ (by rfl) (show Blk _ w.heap.size 92 _ from(HBW.out.put17.alloc _)) Tryz.underlying92 (by rfl) (by kernel_rfl)) rfl ⟨m+1,_,_,_,_,rfl,ExR.mk (row_ex 92 (by simp) (REx_ok.keep HE2.out ((HKW.out.far17 (fun b hb _=>by have:=hb.al;omega)).alloc _) (Nat.le_refl _)) (show w.heap.size≤W.heap.size by omega)) 2,((HRW.out.far17 hg).alloc _),((HXW.out.far17 (Nat.le_refl _)).alloc _)⟩
end Go.Proofs.YtjbdcjcfijjiiaaGreatDoor
