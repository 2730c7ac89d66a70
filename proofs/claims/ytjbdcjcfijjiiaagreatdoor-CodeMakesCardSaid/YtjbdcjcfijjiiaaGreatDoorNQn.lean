/- qtree: test, side (printed by gen_side.py). -/
import Derived.Test.YtjbdcjcfijjiiaaGreatDoorNG39
import Derived.Test.YtjbdcjcfijjiiaaGreatDoorNG04
namespace Go.Proofs.YtjbdcjcfijjiiaaGreatDoor
open Go.RowKit
set_option maxRecDepth 100000
set_option maxHeartbeats 2000000
theorem ExR.tst {K:Nat→Prop}{m:Nat}{w:World}{p:PathT}{qv:Value}(h:SegsG K (ExR K m w) w qv p.segs):ExR K (m+1) w (exL (tstE p) (.slice none 0 0) qv (.slice none 0 0) (.slice none 0 0)) (tstE p) :=
 ⟨_,_,_,_,rfl,RowG.nil _ _ _ _,h,RowG.nil _ _ _ _,RowG.nil _ _ _ _⟩
theorem ExR.nil (K:Nat→Prop)(w:World):ExR K 1 w (exL expr0 (.slice none 0 0) (.slice none 0 0) (.slice none 0 0) (.slice none 0 0)) expr0 :=
 ⟨_,_,_,_,rfl,RowG.nil _ _ _ _,RowG.nil _ _ _ _,RowG.nil _ _ _ _,RowG.nil _ _ _ _⟩
def testF (E:Int)(P:Nat→PSt→ExprT×PSt)(d:Nat)(t:PSt):ExprT×PSt:=if isPath t then (tstE (pathF E P d t).1,(pathF E P d t).2) else (expr0,formS E t)
def sideV (x:SideT)(pv:Value):Value:=.agg #[.bool x.lit,.int .i64 x.kind,.int .i64 x.n,.string (bs x.s),.bool x.p.abs,pv]
def SideP (g:Nat)(E:Int)(w:World)(r:SideT×PSt)(d:Nat)(e:Ending)(w':World):Prop :=
 ∃m A c,e=.returned (sideV r.1 (.slice A r.1.p.segs.length c))∧SegsG (Fr w) (ExR (Fr w) m w') w' (.slice A r.1.p.segs.length c) r.1.p.segs∧RdS g E w' r.2 d∧Ex g w w'
theorem SideP.lit {g:Nat}{E:Int}{w w':World}{r:SideT×PSt}{d:Nat}{x:SideT}{t':PSt}(h:r=(x,t'))(hf:x.p=path0)(h1:RdS g E w' t' d)(h2:Ex g w w'):SideP g E w r d (.returned (sideV x (.slice none 0 0))) w':=by
 subst h
 obtain⟨a,b,c,s,p⟩:=x
 simp only at hf
 subst hf
 exact⟨0,none,0,rfl,RowG.nil _ _ _ _,h1,h2⟩
theorem bs_tl (l:List UInt8):(bs l).toList=l:=by simp [bs]
theorem Kp.al {w w':World}{o:Obj}:Kp (Fr (w.alloc o)) (Fr w) w' w':=Kp.id_ fun b hb _=>(show w.heap.size≤b by have:=hb.al;omega)
theorem test_a (g:Nat)(E:Int)(P:Nat→PSt→ExprT×PSt)(t:PSt)(d:Nat)(w:World)(h:RdS g E w t d)(hpc:∀w,RdS g E w t d→Calls Tryz.prog 21 #[.pointer (some ⟨g,0,none⟩)] w (PathP g E w (pathF E P d t) d))(h64:isS [64] t=true) :
  Calls Tryz.prog 118 #[.pointer (some ⟨g,0,none⟩)] w (ExP g E w (testF E P d t) d):=by
 have hg:=h.lt
 have HR0:=hH (h.alloc (.cells E0 92))
 have HX0:=hH (show Ex g w (w.alloc (.cells E0 92)) from(Ex.refl g w).alloc _)
 have HB0:=hH (Blk.new w 92 E0)
 have HI1:=hH (is_at ⟨#[64]⟩ true _ HR0.out (hH h64))
 have HP:=hH (hpc _ HR0.out)
 have hip:isPath t=true:=by unfold isPath;rw [h64];rfl
 unfold testF
 rw [ite_tt hip]
 obtain⟨p,t1,hp1⟩:∃p t1,pathF E P d t=(p,t1):=⟨_,_,rfl⟩
 rw [hp1] at HP ⊢
 unfold PathP at HP
 simp only at HP ⊢
 unfold E0 at HR0 HX0 HB0 HI1 HP
 clear h hp1 hip hpc h64
 go_enter Tryz.func118, Tryz.ntmps118
 generalize hQ:bodyPost Tryz.prog Tryz.f118 (ExP g E w (tstE p,t1) d)=Q
 have HQ:=hH hQ;clear hQ
 go_wp2_with (first|(go_at_call 19;(with_reducible refine HI1.out.mono ?_);rintro e w' ⟨rfl,rfl⟩)  | (go_at_call 21;refine HP.out.mono ?_;rintro e w1 ⟨m,A,c,rfl,hs,hr,hx⟩;have HS1:=hH hs;have HR1:=hH hr;have HX1:=hH (HX0.out.trans hx);have HB1:=HB0.out.ex hx (by omega);clear hs hr hx;obtain⟨z,⟨d0,d1,d2,d3,d4,d5,d6,d7,d8,d9,d10,d11,d12,d13,d14,d15,d16⟩,⟨f0,f1,f2,f3,f4,f5,f6,f7,f8,f9,f10,f11,f12,f13,f14,f15,f16⟩⟩:=HB1.c17))
 rw [←HQ.out]
 refine bodyPost_ret (v:=exV (tstE p) (.slice none 0 0) (.slice A p.segs.length c) (.slice none 0 0) (.slice none 0 0)) (results_cell_row (by rfl) _ _ w.heap.size _ _ _ _ (by rfl) (show Blk _ w.heap.size 92 _ from HB1.put17) Tryz.underlying92 (by rfl) (by kernel_rfl)) rfl ⟨m+1,_,_,_,_,rfl,ExR.tst (HS1.out.keep (Kp.al.far17 (fun b hb _=>by have:=hb.al;omega)) (fun cs x hx=>ExR.keep (Kp.al.far17 (fun b hb _=>by have:=hb.al;omega)) _ _ (Nat.le_refl _) _ _ hx)),HR1.out.far17 hg,HX1.out.far17 (Nat.le_refl _)⟩
theorem test_b (g:Nat)(E:Int)(P:Nat→PSt→ExprT×PSt)(t:PSt)(d:Nat)(w:World)(h:RdS g E w t d)(hpc:∀w,RdS g E w t d→Calls Tryz.prog 21 #[.pointer (some ⟨g,0,none⟩)] w (PathP g E w (pathF E P d t) d))(h64:isS [64] t=false)(h36:isS [36] t=true) :
  Calls Tryz.prog 118 #[.pointer (some ⟨g,0,none⟩)] w (ExP g E w (testF E P d t) d):=by
 have hg:=h.lt
 have HR0:=hH (h.alloc (.cells E0 92))
 have HX0:=hH (show Ex g w (w.alloc (.cells E0 92)) from(Ex.refl g w).alloc _)
 have HB0:=hH (Blk.new w 92 E0)
 have HI1:=hH (is_at ⟨#[64]⟩ false _ HR0.out (hH h64))
 have HI2:=hH (is_at ⟨#[36]⟩ true _ HR0.out (hH h36))
 have HP:=hH (hpc _ HR0.out)
 have hip:isPath t=true:=by unfold isPath;rw [h64,h36];rfl
 unfold testF
 rw [ite_tt hip]
 obtain⟨p,t1,hp1⟩:∃p t1,pathF E P d t=(p,t1):=⟨_,_,rfl⟩
 rw [hp1] at HP ⊢
 unfold PathP at HP
 simp only at HP ⊢
 unfold E0 at HR0 HX0 HB0 HI1 HI2 HP
 clear h hp1 hip hpc h64 h36
 go_enter Tryz.func118, Tryz.ntmps118
 generalize hQ:bodyPost Tryz.prog Tryz.f118 (ExP g E w (tstE p,t1) d)=Q
 have HQ:=hH hQ;clear hQ
 go_wp2_with (first|(go_at_call 19;(with_reducible refine HI1.out.mono ?_);rintro e w' ⟨rfl,rfl⟩)|(go_at_call 19;(with_reducible refine HI2.out.mono ?_);rintro e w' ⟨rfl,rfl⟩)|(go_at_call 21;refine HP.out.mono ?_;rintro e w1 ⟨m,A,c,rfl,hs,hr,hx⟩;have HS1:=hH hs;have HR1:=hH hr;have HX1:=hH (HX0.out.trans hx);have HB1:=HB0.out.ex hx (by omega);clear hs hr hx;obtain⟨z,⟨d0,d1,d2,d3,d4,d5,d6,d7,d8,d9,d10,d11,d12,d13,d14,d15,d16⟩,⟨f0,f1,f2,f3,f4,f5,f6,f7,f8,f9,f10,f11,f12,f13,f14,f15,f16⟩⟩:=HB1.c17))
 rw [←HQ.out]
 refine bodyPost_ret (v:=exV (tstE p) (.slice none 0 0) (.slice A p.segs.length c) (.slice none 0 0) (.slice none 0 0)) (results_cell_row (by rfl) _ _ w.heap.size _ _ _ _ (by rfl) (show Blk _ w.heap.size 92 _ from HB1.put17) Tryz.underlying92 (by rfl) (by kernel_rfl)) rfl ⟨m+1,_,_,_,_,rfl,ExR.tst (HS1.out.keep (Kp.al.far17 (fun b hb _=>by have:=hb.al;omega)) (fun cs x hx=>ExR.keep (Kp.al.far17 (fun b hb _=>by have:=hb.al;omega)) _ _ (Nat.le_refl _) _ _ hx)),HR1.out.far17 hg,HX1.out.far17 (Nat.le_refl _)⟩
theorem test_c (g:Nat)(E:Int)(P:Nat→PSt→ExprT×PSt)(t:PSt)(d:Nat)(w:World)(h:RdS g E w t d)(h64:isS [64] t=false)(h36:isS [36] t=false) :
  Calls Tryz.prog 118 #[.pointer (some ⟨g,0,none⟩)] w (ExP g E w (testF E P d t) d):=by
 have hg:=h.lt
 have HR0:=hH (h.alloc (.cells E0 92))
 have HX0:=hH (show Ex g w (w.alloc (.cells E0 92)) from(Ex.refl g w).alloc _)
 have HB0:=hH (Blk.new w 92 E0)
 have HI1:=hH (is_at ⟨#[64]⟩ false _ HR0.out (hH h64))
 have HI2:=hH (is_at ⟨#[36]⟩ false _ HR0.out (hH h36))
 have HF:=hH (form_any g E t d _ HR0.out)
 have hip:isPath t=false:=by unfold isPath;rw [h64,h36];rfl
 unfold testF
 rw [ite_ff hip]
 unfold E0 at HR0 HX0 HB0 HI1 HI2 HF
 clear h hip h64 h36
 go_enter Tryz.func118, Tryz.ntmps118
 generalize hQ:bodyPost Tryz.prog Tryz.f118 (ExP g E w (expr0,formS E t) d)=Q
 have HQ:=hH hQ;clear hQ
 go_wp2_with (first|(go_at_call 19;(with_reducible refine HI1.out.mono ?_);rintro e w' ⟨rfl,rfl⟩)|(go_at_call 19;(with_reducible refine HI2.out.mono ?_);rintro e w' ⟨rfl,rfl⟩)|(go_at_call 20;refine HF.out.mono ?_;rintro e w1 ⟨rfl,hr,hx⟩;have HR1:=hH hr;have HX1:=hH (HX0.out.trans hx);have HB1:=HB0.out.ex hx (by omega);clear hr hx;obtain⟨z,⟨d0,d1,d2,d3,d4,d5,d6,d7,d8,d9,d10,d11,d12,d13,d14,d15,d16⟩,⟨f0,f1,f2,f3,f4,f5,f6,f7,f8,f9,f10,f11,f12,f13,f14,f15,f16⟩⟩:=HB1.c17))
 rw [←HQ.out]
 refine bodyPost_ret (v:=exV expr0 (.slice none 0 0) (.slice none 0 0) (.slice none 0 0) (.slice none 0 0)) (results_cell_row (by rfl) _ _ w.heap.size _ _ _ _ (by rfl) (show Blk _ w.heap.size 92 _ from HB1.put17) Tryz.underlying92 (by rfl) (by kernel_rfl)) rfl ⟨1,_,_,_,_,rfl,ExR.nil _ _,HR1.out.far17 hg,HX1.out.far17 (Nat.le_refl _)⟩
theorem test_any (g:Nat)(E:Int)(P:Nat→PSt→ExprT×PSt)(t:PSt)(d:Nat)(w:World)(h:RdS g E w t d)(hpc:∀w,RdS g E w t d→Calls Tryz.prog 21 #[.pointer (some ⟨g,0,none⟩)] w (PathP g E w (pathF E P d t) d)) :
  Calls Tryz.prog 118 #[.pointer (some ⟨g,0,none⟩)] w (ExP g E w (testF E P d t) d):=by
 cases h64:isS [64] t with
 | true=>exact test_a g E P t d w h hpc h64
 | false =>
  cases h36:isS [36] t with
  | true=>exact test_b g E P t d w h hpc h64 h36
  | false=>exact test_c g E P t d w h h64 h36
theorem side_a (g:Nat)(E:Int)(P:Nat→PSt→ExprT×PSt)(t:PSt)(d:Nat)(w:World)(h:RdS g E w t d)(hpc:∀w,RdS g E w t d→Calls Tryz.prog 21 #[.pointer (some ⟨g,0,none⟩)] w (PathP g E w (pathF E P d t) d))(h64:isS [64] t=true) :
  Calls Tryz.prog 121 #[.pointer (some ⟨g,0,none⟩)] w (SideP g E w (sideF E P d t) d):=by
 have hg:=h.lt
 have HR0:=hH (h.alloc (.cells #[.bool false,.int .i64 0,.int .i64 0,.string ⟨#[]⟩,.bool false,.slice none 0 0] 90))
 have HX0:=hH (show Ex g w (w.alloc (.cells #[.bool false,.int .i64 0,.int .i64 0,.string ⟨#[]⟩,.bool false,.slice none 0 0] 90)) from(Ex.refl g w).alloc _)
 have HB0:=hH (Blk.new w 90 #[.bool false,.int .i64 0,.int .i64 0,.string ⟨#[]⟩,.bool false,.slice none 0 0])
 have HI1:=hH (is_at ⟨#[64]⟩ true _ HR0.out (hH h64))
 have HP:=hH (hpc _ HR0.out)
 have hip:isPath t=true:=by unfold isPath;rw [h64];rfl
 unfold sideF
 rw [ite_tt hip]
 obtain⟨p,t1,hp1⟩:∃p t1,pathF E P d t=(p,t1):=⟨_,_,rfl⟩
 rw [hp1] at HP ⊢
 unfold PathP at HP
 simp only at HP ⊢
 clear h hp1 hip hpc h64
 go_enter Tryz.func121, Tryz.ntmps121
 generalize hQ:bodyPost Tryz.prog Tryz.f121 (SideP g E w (⟨false,0,0,[],p⟩,t1) d)=Q
 have HQ:=hH hQ;clear hQ
 go_wp2_with (first|(go_at_call 19;(with_reducible refine HI1.out.mono ?_);rintro e w' ⟨rfl,rfl⟩)  | (go_at_call 21;refine HP.out.mono ?_;rintro e w1 ⟨m,A,c,rfl,hs,hr,hx⟩;have HS1:=hH hs;have HR1:=hH hr;have HX1:=hH (HX0.out.trans hx);have HB1:=HB0.out.ex hx (by omega);clear hs hr hx;obtain⟨z,⟨d0,d1,d2,d3,d4,d5⟩,⟨f0,f1,f2,f3,f4,f5⟩⟩:=HB1.c6))
 rw [←HQ.out]
 refine bodyPost_ret (v:=sideV ⟨false,0,0,[],p⟩ (.slice A p.segs.length c)) (results_cell_row (by rfl) _ _ w.heap.size _ _ _ _ (by rfl) (show Blk _ w.heap.size 90 _ from HB1.put6) Tryz.underlying90 (by rfl) (by kernel_rfl)) rfl ⟨m,_,_,rfl,HS1.out.keep (Kp.al.far6 (fun b hb _=>by have:=hb.al;omega)) (fun cs x hx=>ExR.keep (Kp.al.far6 (fun b hb _=>by have:=hb.al;omega)) _ _ (Nat.le_refl _) _ _ hx),HR1.out.far6 hg,HX1.out.far6 (Nat.le_refl _)⟩
theorem side_b (g:Nat)(E:Int)(P:Nat→PSt→ExprT×PSt)(t:PSt)(d:Nat)(w:World)(h:RdS g E w t d)(hpc:∀w,RdS g E w t d→Calls Tryz.prog 21 #[.pointer (some ⟨g,0,none⟩)] w (PathP g E w (pathF E P d t) d))(h64:isS [64] t=false)(h36:isS [36] t=true) :
  Calls Tryz.prog 121 #[.pointer (some ⟨g,0,none⟩)] w (SideP g E w (sideF E P d t) d):=by
 have hg:=h.lt
 have HR0:=hH (h.alloc (.cells #[.bool false,.int .i64 0,.int .i64 0,.string ⟨#[]⟩,.bool false,.slice none 0 0] 90))
 have HX0:=hH (show Ex g w (w.alloc (.cells #[.bool false,.int .i64 0,.int .i64 0,.string ⟨#[]⟩,.bool false,.slice none 0 0] 90)) from(Ex.refl g w).alloc _)
 have HB0:=hH (Blk.new w 90 #[.bool false,.int .i64 0,.int .i64 0,.string ⟨#[]⟩,.bool false,.slice none 0 0])
 have HI1:=hH (is_at ⟨#[64]⟩ false _ HR0.out (hH h64))
 have HI2:=hH (is_at ⟨#[36]⟩ true _ HR0.out (hH h36))
 have HP:=hH (hpc _ HR0.out)
 have hip:isPath t=true:=by unfold isPath;rw [h64,h36];rfl
 unfold sideF
 rw [ite_tt hip]
 obtain⟨p,t1,hp1⟩:∃p t1,pathF E P d t=(p,t1):=⟨_,_,rfl⟩
 rw [hp1] at HP ⊢
 unfold PathP at HP
 simp only at HP ⊢
 clear h hp1 hip hpc h64 h36
 go_enter Tryz.func121, Tryz.ntmps121
 generalize hQ:bodyPost Tryz.prog Tryz.f121 (SideP g E w (⟨false,0,0,[],p⟩,t1) d)=Q
 have HQ:=hH hQ;clear hQ
 go_wp2_with (first|(go_at_call 19;(with_reducible refine HI1.out.mono ?_);rintro e w' ⟨rfl,rfl⟩)|(go_at_call 19;(with_reducible refine HI2.out.mono ?_);rintro e w' ⟨rfl,rfl⟩)|(go_at_call 21;refine HP.out.mono ?_;rintro e w1 ⟨m,A,c,rfl,hs,hr,hx⟩;have HS1:=hH hs;have HR1:=hH hr;have HX1:=hH (HX0.out.trans hx);have HB1:=HB0.out.ex hx (by omega);clear hs hr hx;obtain⟨z,⟨d0,d1,d2,d3,d4,d5⟩,⟨f0,f1,f2,f3,f4,f5⟩⟩:=HB1.c6))
 rw [←HQ.out]
 refine bodyPost_ret (v:=sideV ⟨false,0,0,[],p⟩ (.slice A p.segs.length c)) (results_cell_row (by rfl) _ _ w.heap.size _ _ _ _ (by rfl) (show Blk _ w.heap.size 90 _ from HB1.put6) Tryz.underlying90 (by rfl) (by kernel_rfl)) rfl ⟨m,_,_,rfl,HS1.out.keep (Kp.al.far6 (fun b hb _=>by have:=hb.al;omega)) (fun cs x hx=>ExR.keep (Kp.al.far6 (fun b hb _=>by have:=hb.al;omega)) _ _ (Nat.le_refl _) _ _ hx),HR1.out.far6 hg,HX1.out.far6 (Nat.le_refl _)⟩
theorem side_num (g:Nat)(E:Int)(P:Nat→PSt→ExprT×PSt)(t:PSt)(d:Nat)(w:World)(h:RdS g E w t d)(h64:isS [64] t=false)(h36:isS [36] t=false)(hk:kindS t=3) :
  Calls Tryz.prog 121 #[.pointer (some ⟨g,0,none⟩)] w (SideP g E w (sideF E P d t) d):=by
 have hg:=h.lt
 have HR0:=hH (h.alloc (.cells #[.bool false,.int .i64 0,.int .i64 0,.string ⟨#[]⟩,.bool false,.slice none 0 0] 90))
 have HX0:=hH (show Ex g w (w.alloc (.cells #[.bool false,.int .i64 0,.int .i64 0,.string ⟨#[]⟩,.bool false,.slice none 0 0] 90)) from(Ex.refl g w).alloc _)
 have HB0:=hH (Blk.new w 90 #[.bool false,.int .i64 0,.int .i64 0,.string ⟨#[]⟩,.bool false,.slice none 0 0])
 have HI1:=hH (is_at ⟨#[64]⟩ false _ HR0.out (hH h64))
 have HI2:=hH (is_at ⟨#[36]⟩ false _ HR0.out (hH h36))
 have hip:isPath t=false:=by unfold isPath;rw [h64,h36];rfl
 have hl:litS t=some ⟨true,2,(hdT t).n,[],path0⟩:=by unfold litS;rw [if_pos hk]
 have HE:=hH (show sideF E P d t=(⟨true,2,(hdT t).n,[],path0⟩,nextS E t) by unfold sideF;rw [ite_ff hip,hl])
 obtain⟨k,hkk⟩:∃k,kindS t=k:=⟨_,rfl⟩
 have HK:=hH (kind_at k _ HR0.out (hH hkk))
 have hk3:(k==3)=true:=by rw [←hkk,hk];rfl
 have HN:=hH (next_any g E t d _ HR0.out)
 unfold tokA at HN
 have hf:=tok_f2 (hdT t).kind (hdT t).n ((hdT t).at_:Nat) (bs (hdT t).s) (hdT t).gap
 clear h hip hl hkk h64 h36 hk
 go_enter Tryz.func121, Tryz.ntmps121
 generalize hQ:bodyPost Tryz.prog Tryz.f121 (SideP g E w (sideF E P d t) d)=Q
 have HQ:=hH hQ;clear hQ
 go_wp2_with (first|(go_at_call 19;(with_reducible refine HI1.out.mono ?_);rintro e w' ⟨rfl,rfl⟩)|(go_at_call 19;(with_reducible refine HI2.out.mono ?_);rintro e w' ⟨rfl,rfl⟩)|(go_at_call 36;(with_reducible refine HK.out.mono ?_);rintro e w' ⟨rfl,rfl⟩)|(go_at_call 39;refine HN.out.mono ?_;rintro e w1 ⟨rfl,hr,hx⟩;have HR1:=hH hr;have HX1:=hH (HX0.out.trans hx);have HB1:=HB0.out.ex hx (by omega);clear hr hx;obtain⟨z,⟨d0,d1,d2,d3,d4,d5⟩,⟨f0,f1,f2,f3,f4,f5⟩⟩:=HB1.c6))
 rw [←HQ.out]
 exact bodyPost_ret (v:=sideV ⟨true,2,(hdT t).n,[],path0⟩ (.slice none 0 0)) (results_cell_row (by rfl) _ _ w.heap.size _ _ _ _ (by rfl) (show Blk _ w.heap.size 90 _ from HB1.put6) Tryz.underlying90 (by rfl) (by kernel_rfl)) rfl (SideP.lit HE.out rfl (HR1.out.far6 hg) (HX1.out.far6 (Nat.le_refl _)))
theorem side_str (g:Nat)(E:Int)(P:Nat→PSt→ExprT×PSt)(t:PSt)(d:Nat)(w:World)(h:RdS g E w t d)(h64:isS [64] t=false)(h36:isS [36] t=false)(hk:kindS t=4) :
  Calls Tryz.prog 121 #[.pointer (some ⟨g,0,none⟩)] w (SideP g E w (sideF E P d t) d):=by
 have hg:=h.lt
 have HR0:=hH (h.alloc (.cells #[.bool false,.int .i64 0,.int .i64 0,.string ⟨#[]⟩,.bool false,.slice none 0 0] 90))
 have HX0:=hH (show Ex g w (w.alloc (.cells #[.bool false,.int .i64 0,.int .i64 0,.string ⟨#[]⟩,.bool false,.slice none 0 0] 90)) from(Ex.refl g w).alloc _)
 have HB0:=hH (Blk.new w 90 #[.bool false,.int .i64 0,.int .i64 0,.string ⟨#[]⟩,.bool false,.slice none 0 0])
 have HI1:=hH (is_at ⟨#[64]⟩ false _ HR0.out (hH h64))
 have HI2:=hH (is_at ⟨#[36]⟩ false _ HR0.out (hH h36))
 have hip:isPath t=false:=by unfold isPath;rw [h64,h36];rfl
 have hl:litS t=some ⟨true,3,0,(hdT t).s,path0⟩:=by unfold litS;rw [if_neg (by rw [hk];decide),if_pos hk]
 have HE:=hH (show sideF E P d t=(⟨true,3,0,(hdT t).s,path0⟩,nextS E t) by unfold sideF;rw [ite_ff hip,hl])
 obtain⟨k,hkk⟩:∃k,kindS t=k:=⟨_,rfl⟩
 have HK:=hH (kind_at k _ HR0.out (hH hkk))
 have hk3:(k==3)=false:=by rw [←hkk,hk];rfl
 have hk4:(k==4)=true:=by rw [←hkk,hk];rfl
 have HN:=hH (next_any g E t d _ HR0.out)
 unfold tokA at HN
 have hf:=tok_f1 (hdT t).kind (hdT t).n ((hdT t).at_:Nat) (bs (hdT t).s) (hdT t).gap
 clear h hip hl hkk h64 h36 hk
 go_enter Tryz.func121, Tryz.ntmps121
 generalize hQ:bodyPost Tryz.prog Tryz.f121 (SideP g E w (sideF E P d t) d)=Q
 have HQ:=hH hQ;clear hQ
 go_wp2_with (first|(go_at_call 19;(with_reducible refine HI1.out.mono ?_);rintro e w' ⟨rfl,rfl⟩)|(go_at_call 19;(with_reducible refine HI2.out.mono ?_);rintro e w' ⟨rfl,rfl⟩)|(go_at_call 36;(with_reducible refine HK.out.mono ?_);rintro e w' ⟨rfl,rfl⟩)|(go_at_call 39;refine HN.out.mono ?_;rintro e w1 ⟨rfl,hr,hx⟩;have HR1:=hH hr;have HX1:=hH (HX0.out.trans hx);have HB1:=HB0.out.ex hx (by omega);clear hr hx;obtain⟨z,⟨d0,d1,d2,d3,d4,d5⟩,⟨f0,f1,f2,f3,f4,f5⟩⟩:=HB1.c6))
 rw [←HQ.out]
 exact bodyPost_ret (v:=sideV ⟨true,3,0,(hdT t).s,path0⟩ (.slice none 0 0)) (results_cell_row (by rfl) _ _ w.heap.size _ _ _ _ (by rfl) (show Blk _ w.heap.size 90 _ from HB1.put6) Tryz.underlying90 (by rfl) (by kernel_rfl)) rfl (SideP.lit HE.out rfl (HR1.out.far6 hg) (HX1.out.far6 (Nat.le_refl _)))
theorem side_true (g:Nat)(E:Int)(P:Nat→PSt→ExprT×PSt)(t:PSt)(d:Nat)(w:World)(h:RdS g E w t d)(h64:isS [64] t=false)(h36:isS [36] t=false)(hk:kindS t=2)(hs:(hdT t).s=[116,114,117,101]) :
  Calls Tryz.prog 121 #[.pointer (some ⟨g,0,none⟩)] w (SideP g E w (sideF E P d t) d):=by
 have hg:=h.lt
 have HR0:=hH (h.alloc (.cells #[.bool false,.int .i64 0,.int .i64 0,.string ⟨#[]⟩,.bool false,.slice none 0 0] 90))
 have HX0:=hH (show Ex g w (w.alloc (.cells #[.bool false,.int .i64 0,.int .i64 0,.string ⟨#[]⟩,.bool false,.slice none 0 0] 90)) from(Ex.refl g w).alloc _)
 have HB0:=hH (Blk.new w 90 #[.bool false,.int .i64 0,.int .i64 0,.string ⟨#[]⟩,.bool false,.slice none 0 0])
 have HI1:=hH (is_at ⟨#[64]⟩ false _ HR0.out (hH h64))
 have HI2:=hH (is_at ⟨#[36]⟩ false _ HR0.out (hH h36))
 have hip:isPath t=false:=by unfold isPath;rw [h64,h36];rfl
 have hl:litS t=some ⟨true,1,1,[],path0⟩:=by unfold litS;rw [if_neg (by rw [hk];decide),if_neg (by rw [hk];decide),if_pos hk,if_pos hs]
 have HE:=hH (show sideF E P d t=(⟨true,1,1,[],path0⟩,nextS E t) by unfold sideF;rw [ite_ff hip,hl])
 obtain⟨k,hkk⟩:∃k,kindS t=k:=⟨_,rfl⟩
 have HK:=hH (kind_at k _ HR0.out (hH hkk))
 have hk3:(k==3)=false:=by rw [←hkk,hk];rfl
 have hk4:(k==4)=false:=by rw [←hkk,hk];rfl
 have hk2:(k==2)=true:=by rw [←hkk,hk];rfl
 obtain⟨A,c,n,hn,hnc,hc,hdd,hgg,⟨c0,c1,c2,c3,c4⟩,_,hT⟩:=HR0.out.cells
 have hov:ovS t=false:=by
  cases h9:ovS t with
  | false=>rfl
  | true=>have:=(nextS_ov (E:=E) h9).2;unfold kindS at hk;rw [this] at hk;simp [tok0] at hk
 obtain⟨x,r,hx⟩:=ov_no hov
 rw [hx] at hn hT
 obtain⟨b,off,rfl,hb,y0,y1,y2,y3,y4⟩:=hT.head
 have hn0:0<n:=by rw [hn];simp
 have hx1:(hdT t).s=x.s:=by rw [hx];rfl
 rw [←hx1,hs,show bs [116,114,117,101]=⟨#[116,114,117,101]⟩ from rfl] at y1
 have HN:=hH (next_any g E t d _ HR0.out)
 unfold tokA at HN
 clear h hip hl hkk h64 h36 hk hT hn hov hx hx1 hs
 go_enter Tryz.func121, Tryz.ntmps121
 generalize hQ:bodyPost Tryz.prog Tryz.f121 (SideP g E w (sideF E P d t) d)=Q
 have HQ:=hH hQ;clear hQ
 go_wp2_with (first|(go_at_call 19;(with_reducible refine HI1.out.mono ?_);rintro e w' ⟨rfl,rfl⟩)|(go_at_call 19;(with_reducible refine HI2.out.mono ?_);rintro e w' ⟨rfl,rfl⟩)|(go_at_call 36;(with_reducible refine HK.out.mono ?_);rintro e w' ⟨rfl,rfl⟩)|(go_at_call 39;refine HN.out.mono ?_;rintro e w1 ⟨rfl,hr,hx⟩;have HR1:=hH hr;have HX1:=hH (HX0.out.trans hx);have HB1:=HB0.out.ex hx (by omega);clear hr hx;obtain⟨z,⟨d0,d1,d2,d3,d4,d5⟩,⟨f0,f1,f2,f3,f4,f5⟩⟩:=HB1.c6))
 rw [←HQ.out]
 exact bodyPost_ret (v:=sideV ⟨true,1,1,[],path0⟩ (.slice none 0 0)) (results_cell_row (by rfl) _ _ w.heap.size _ _ _ _ (by rfl) (show Blk _ w.heap.size 90 _ from HB1.put6) Tryz.underlying90 (by rfl) (by kernel_rfl)) rfl (SideP.lit HE.out rfl (HR1.out.far6 hg) (HX1.out.far6 (Nat.le_refl _)))
theorem side_false (g:Nat)(E:Int)(P:Nat→PSt→ExprT×PSt)(t:PSt)(d:Nat)(w:World)(h:RdS g E w t d)(h64:isS [64] t=false)(h36:isS [36] t=false)(hk:kindS t=2)(hs:(hdT t).s=[102,97,108,115,101]) :
  Calls Tryz.prog 121 #[.pointer (some ⟨g,0,none⟩)] w (SideP g E w (sideF E P d t) d):=by
 have hg:=h.lt
 have HR0:=hH (h.alloc (.cells #[.bool false,.int .i64 0,.int .i64 0,.string ⟨#[]⟩,.bool false,.slice none 0 0] 90))
 have HX0:=hH (show Ex g w (w.alloc (.cells #[.bool false,.int .i64 0,.int .i64 0,.string ⟨#[]⟩,.bool false,.slice none 0 0] 90)) from(Ex.refl g w).alloc _)
 have HB0:=hH (Blk.new w 90 #[.bool false,.int .i64 0,.int .i64 0,.string ⟨#[]⟩,.bool false,.slice none 0 0])
 have HI1:=hH (is_at ⟨#[64]⟩ false _ HR0.out (hH h64))
 have HI2:=hH (is_at ⟨#[36]⟩ false _ HR0.out (hH h36))
 have hip:isPath t=false:=by unfold isPath;rw [h64,h36];rfl
 have hl:litS t=some ⟨true,1,0,[],path0⟩:=by unfold litS;rw [if_neg (by rw [hk];decide),if_neg (by rw [hk];decide),if_pos hk,if_neg (by rw [hs];decide),if_pos hs]
 have HE:=hH (show sideF E P d t=(⟨true,1,0,[],path0⟩,nextS E t) by unfold sideF;rw [ite_ff hip,hl])
 obtain⟨k,hkk⟩:∃k,kindS t=k:=⟨_,rfl⟩
 have HK:=hH (kind_at k _ HR0.out (hH hkk))
 have hk3:(k==3)=false:=by rw [←hkk,hk];rfl
 have hk4:(k==4)=false:=by rw [←hkk,hk];rfl
 have hk2:(k==2)=true:=by rw [←hkk,hk];rfl
 obtain⟨A,c,n,hn,hnc,hc,hdd,hgg,⟨c0,c1,c2,c3,c4⟩,_,hT⟩:=HR0.out.cells
 have hov:ovS t=false:=by
  cases h9:ovS t with
  | false=>rfl
  | true=>have:=(nextS_ov (E:=E) h9).2;unfold kindS at hk;rw [this] at hk;simp [tok0] at hk
 obtain⟨x,r,hx⟩:=ov_no hov
 rw [hx] at hn hT
 obtain⟨b,off,rfl,hb,y0,y1,y2,y3,y4⟩:=hT.head
 have hn0:0<n:=by rw [hn];simp
 have hx1:(hdT t).s=x.s:=by rw [hx];rfl
 rw [←hx1,hs,show bs [102,97,108,115,101]=⟨#[102,97,108,115,101]⟩ from rfl] at y1
 have HN:=hH (next_any g E t d _ HR0.out)
 unfold tokA at HN
 clear h hip hl hkk h64 h36 hk hT hn hov hx hx1 hs
 go_enter Tryz.func121, Tryz.ntmps121
 generalize hQ:bodyPost Tryz.prog Tryz.f121 (SideP g E w (sideF E P d t) d)=Q
 have HQ:=hH hQ;clear hQ
 go_wp2_with (first|(go_at_call 19;(with_reducible refine HI1.out.mono ?_);rintro e w' ⟨rfl,rfl⟩)|(go_at_call 19;(with_reducible refine HI2.out.mono ?_);rintro e w' ⟨rfl,rfl⟩)|(go_at_call 36;(with_reducible refine HK.out.mono ?_);rintro e w' ⟨rfl,rfl⟩)|(go_at_call 39;refine HN.out.mono ?_;rintro e w1 ⟨rfl,hr,hx⟩;have HR1:=hH hr;have HX1:=hH (HX0.out.trans hx);have HB1:=HB0.out.ex hx (by omega);clear hr hx;obtain⟨z,⟨d0,d1,d2,d3,d4,d5⟩,⟨f0,f1,f2,f3,f4,f5⟩⟩:=HB1.c6))
 rw [←HQ.out]
 exact bodyPost_ret (v:=sideV ⟨true,1,0,[],path0⟩ (.slice none 0 0)) (results_cell_row (by rfl) _ _ w.heap.size _ _ _ _ (by rfl) (show Blk _ w.heap.size 90 _ from HB1.put6) Tryz.underlying90 (by rfl) (by kernel_rfl)) rfl (SideP.lit HE.out rfl (HR1.out.far6 hg) (HX1.out.far6 (Nat.le_refl _)))
theorem side_null (g:Nat)(E:Int)(P:Nat→PSt→ExprT×PSt)(t:PSt)(d:Nat)(w:World)(h:RdS g E w t d)(h64:isS [64] t=false)(h36:isS [36] t=false)(hk:kindS t=2)(hs:(hdT t).s=[110,117,108,108]) :
  Calls Tryz.prog 121 #[.pointer (some ⟨g,0,none⟩)] w (SideP g E w (sideF E P d t) d):=by
 have hg:=h.lt
 have HR0:=hH (h.alloc (.cells #[.bool false,.int .i64 0,.int .i64 0,.string ⟨#[]⟩,.bool false,.slice none 0 0] 90))
 have HX0:=hH (show Ex g w (w.alloc (.cells #[.bool false,.int .i64 0,.int .i64 0,.string ⟨#[]⟩,.bool false,.slice none 0 0] 90)) from(Ex.refl g w).alloc _)
 have HB0:=hH (Blk.new w 90 #[.bool false,.int .i64 0,.int .i64 0,.string ⟨#[]⟩,.bool false,.slice none 0 0])
 have HI1:=hH (is_at ⟨#[64]⟩ false _ HR0.out (hH h64))
 have HI2:=hH (is_at ⟨#[36]⟩ false _ HR0.out (hH h36))
 have hip:isPath t=false:=by unfold isPath;rw [h64,h36];rfl
 have hl:litS t=some ⟨true,0,0,[],path0⟩:=by unfold litS;rw [if_neg (by rw [hk];decide),if_neg (by rw [hk];decide),if_pos hk,if_neg (by rw [hs];decide),if_neg (by rw [hs];decide),if_pos hs]
 have HE:=hH (show sideF E P d t=(⟨true,0,0,[],path0⟩,nextS E t) by unfold sideF;rw [ite_ff hip,hl])
 obtain⟨k,hkk⟩:∃k,kindS t=k:=⟨_,rfl⟩
 have HK:=hH (kind_at k _ HR0.out (hH hkk))
 have hk3:(k==3)=false:=by rw [←hkk,hk];rfl
 have hk4:(k==4)=false:=by rw [←hkk,hk];rfl
 have hk2:(k==2)=true:=by rw [←hkk,hk];rfl
 obtain⟨A,c,n,hn,hnc,hc,hdd,hgg,⟨c0,c1,c2,c3,c4⟩,_,hT⟩:=HR0.out.cells
 have hov:ovS t=false:=by
  cases h9:ovS t with
  | false=>rfl
  | true=>have:=(nextS_ov (E:=E) h9).2;unfold kindS at hk;rw [this] at hk;simp [tok0] at hk
 obtain⟨x,r,hx⟩:=ov_no hov
 rw [hx] at hn hT
 obtain⟨b,off,rfl,hb,y0,y1,y2,y3,y4⟩:=hT.head
 have hn0:0<n:=by rw [hn];simp
 have hx1:(hdT t).s=x.s:=by rw [hx];rfl
 rw [←hx1,hs,show bs [110,117,108,108]=⟨#[110,117,108,108]⟩ from rfl] at y1
 have HN:=hH (next_any g E t d _ HR0.out)
 unfold tokA at HN
 clear h hip hl hkk h64 h36 hk hT hn hov hx hx1 hs
 go_enter Tryz.func121, Tryz.ntmps121
 generalize hQ:bodyPost Tryz.prog Tryz.f121 (SideP g E w (sideF E P d t) d)=Q
 have HQ:=hH hQ;clear hQ
 go_wp2_with (first|(go_at_call 19;(with_reducible refine HI1.out.mono ?_);rintro e w' ⟨rfl,rfl⟩)|(go_at_call 19;(with_reducible refine HI2.out.mono ?_);rintro e w' ⟨rfl,rfl⟩)|(go_at_call 36;(with_reducible refine HK.out.mono ?_);rintro e w' ⟨rfl,rfl⟩)|(go_at_call 39;refine HN.out.mono ?_;rintro e w1 ⟨rfl,hr,hx⟩;have HR1:=hH hr;have HX1:=hH (HX0.out.trans hx);have HB1:=HB0.out.ex hx (by omega);clear hr hx;obtain⟨z,⟨d0,d1,d2,d3,d4,d5⟩,⟨f0,f1,f2,f3,f4,f5⟩⟩:=HB1.c6))
 rw [←HQ.out]
 exact bodyPost_ret (v:=sideV ⟨true,0,0,[],path0⟩ (.slice none 0 0)) (results_cell_row (by rfl) _ _ w.heap.size _ _ _ _ (by rfl) (show Blk _ w.heap.size 90 _ from HB1.put6) Tryz.underlying90 (by rfl) (by kernel_rfl)) rfl (SideP.lit HE.out rfl (HR1.out.far6 hg) (HX1.out.far6 (Nat.le_refl _)))
theorem side_word (g:Nat)(E:Int)(P:Nat→PSt→ExprT×PSt)(t:PSt)(d:Nat)(w:World)(h:RdS g E w t d)(h64:isS [64] t=false)(h36:isS [36] t=false)(hk:kindS t=2)(s1:(hdT t).s≠[116,114,117,101])(s2:(hdT t).s≠[102,97,108,115,101])(s3:(hdT t).s≠[110,117,108,108]) :
  Calls Tryz.prog 121 #[.pointer (some ⟨g,0,none⟩)] w (SideP g E w (sideF E P d t) d):=by
 have hg:=h.lt
 have HR0:=hH (h.alloc (.cells #[.bool false,.int .i64 0,.int .i64 0,.string ⟨#[]⟩,.bool false,.slice none 0 0] 90))
 have HX0:=hH (show Ex g w (w.alloc (.cells #[.bool false,.int .i64 0,.int .i64 0,.string ⟨#[]⟩,.bool false,.slice none 0 0] 90)) from(Ex.refl g w).alloc _)
 have HB0:=hH (Blk.new w 90 #[.bool false,.int .i64 0,.int .i64 0,.string ⟨#[]⟩,.bool false,.slice none 0 0])
 have HI1:=hH (is_at ⟨#[64]⟩ false _ HR0.out (hH h64))
 have HI2:=hH (is_at ⟨#[36]⟩ false _ HR0.out (hH h36))
 have hip:isPath t=false:=by unfold isPath;rw [h64,h36];rfl
 have hl:litS t=none:=by unfold litS;rw [if_neg (by rw [hk];decide),if_neg (by rw [hk];decide),if_pos hk,if_neg s1,if_neg s2,if_neg s3]
 have HE:=hH (show sideF E P d t=(side0,formS E t) by unfold sideF;rw [ite_ff hip,hl])
 obtain⟨k,hkk⟩:∃k,kindS t=k:=⟨_,rfl⟩
 have HK:=hH (kind_at k _ HR0.out (hH hkk))
 have hk3:(k==3)=false:=by rw [←hkk,hk];rfl
 have hk4:(k==4)=false:=by rw [←hkk,hk];rfl
 have hk2:(k==2)=true:=by rw [←hkk,hk];rfl
 obtain⟨A,c,n,hn,hnc,hc,hdd,hgg,⟨c0,c1,c2,c3,c4⟩,_,hT⟩:=HR0.out.cells
 have hov:ovS t=false:=by
  cases h9:ovS t with
  | false=>rfl
  | true=>have:=(nextS_ov (E:=E) h9).2;unfold kindS at hk;rw [this] at hk;simp [tok0] at hk
 obtain⟨x,r,hx⟩:=ov_no hov
 rw [hx] at hn hT
 obtain⟨b,off,rfl,hb,y0,y1,y2,y3,y4⟩:=hT.head
 have hn0:0<n:=by rw [hn];simp
 have hx1:(hdT t).s=x.s:=by rw [hx];rfl
 have hs1:((bs x.s).toList==[116,114,117,101])=false:=by rw [beq_eq_false_iff_ne,bs_tl,←hx1];exact s1
 have hs2:((bs x.s).toList==[102,97,108,115,101])=false:=by rw [beq_eq_false_iff_ne,bs_tl,←hx1];exact s2
 have hs3:((bs x.s).toList==[110,117,108,108])=false:=by rw [beq_eq_false_iff_ne,bs_tl,←hx1];exact s3
 have HF:=hH (form_any g E t d _ HR0.out)
 clear h hip hl hkk h64 h36 hk hT hn hov hx hx1 s1 s2 s3
 go_enter Tryz.func121, Tryz.ntmps121
 generalize hQ:bodyPost Tryz.prog Tryz.f121 (SideP g E w (sideF E P d t) d)=Q
 have HQ:=hH hQ;clear hQ
 go_wp2_with (first|(go_at_call 19;(with_reducible refine HI1.out.mono ?_);rintro e w' ⟨rfl,rfl⟩)|(go_at_call 19;(with_reducible refine HI2.out.mono ?_);rintro e w' ⟨rfl,rfl⟩)|(go_at_call 36;(with_reducible refine HK.out.mono ?_);rintro e w' ⟨rfl,rfl⟩)|(go_at_call 20;refine HF.out.mono ?_;rintro e w1 ⟨rfl,hr,hx⟩;have HR1:=hH hr;have HX1:=hH (HX0.out.trans hx);have HB1:=HB0.out.ex hx (by omega);clear hr hx;obtain⟨z,⟨d0,d1,d2,d3,d4,d5⟩,⟨f0,f1,f2,f3,f4,f5⟩⟩:=HB1.c6))
 rw [←HQ.out]
 exact bodyPost_ret (v:=sideV side0 (.slice none 0 0)) (results_cell_row (by rfl) _ _ w.heap.size _ _ _ _ (by rfl) (show Blk _ w.heap.size 90 _ from HB1.put6) Tryz.underlying90 (by rfl) (by kernel_rfl)) rfl (SideP.lit HE.out rfl (HR1.out.far6 hg) (HX1.out.far6 (Nat.le_refl _)))
theorem side_none (g:Nat)(E:Int)(P:Nat→PSt→ExprT×PSt)(t:PSt)(d:Nat)(w:World)(h:RdS g E w t d)(h64:isS [64] t=false)(h36:isS [36] t=false)(k2:kindS t≠2)(k3:kindS t≠3)(k4:kindS t≠4) :
  Calls Tryz.prog 121 #[.pointer (some ⟨g,0,none⟩)] w (SideP g E w (sideF E P d t) d):=by
 have hg:=h.lt
 have HR0:=hH (h.alloc (.cells #[.bool false,.int .i64 0,.int .i64 0,.string ⟨#[]⟩,.bool false,.slice none 0 0] 90))
 have HX0:=hH (show Ex g w (w.alloc (.cells #[.bool false,.int .i64 0,.int .i64 0,.string ⟨#[]⟩,.bool false,.slice none 0 0] 90)) from(Ex.refl g w).alloc _)
 have HB0:=hH (Blk.new w 90 #[.bool false,.int .i64 0,.int .i64 0,.string ⟨#[]⟩,.bool false,.slice none 0 0])
 have HI1:=hH (is_at ⟨#[64]⟩ false _ HR0.out (hH h64))
 have HI2:=hH (is_at ⟨#[36]⟩ false _ HR0.out (hH h36))
 have hip:isPath t=false:=by unfold isPath;rw [h64,h36];rfl
 have hl:litS t=none:=by unfold litS;rw [if_neg k3,if_neg k4,if_neg k2]
 have HE:=hH (show sideF E P d t=(side0,formS E t) by unfold sideF;rw [ite_ff hip,hl])
 obtain⟨k,hkk⟩:∃k,kindS t=k:=⟨_,rfl⟩
 have HK:=hH (kind_at k _ HR0.out (hH hkk))
 have hk3:(k==3)=false:=by rw [beq_eq_false_iff_ne,←hkk];exact k3
 have hk4:(k==4)=false:=by rw [beq_eq_false_iff_ne,←hkk];exact k4
 have hk2:(k==2)=false:=by rw [beq_eq_false_iff_ne,←hkk];exact k2
 have HF:=hH (form_any g E t d _ HR0.out)
 clear h hip hl hkk h64 h36 k2 k3 k4
 go_enter Tryz.func121, Tryz.ntmps121
 generalize hQ:bodyPost Tryz.prog Tryz.f121 (SideP g E w (sideF E P d t) d)=Q
 have HQ:=hH hQ;clear hQ
 go_wp2_with (first|(go_at_call 19;(with_reducible refine HI1.out.mono ?_);rintro e w' ⟨rfl,rfl⟩)|(go_at_call 19;(with_reducible refine HI2.out.mono ?_);rintro e w' ⟨rfl,rfl⟩)|(go_at_call 36;(with_reducible refine HK.out.mono ?_);rintro e w' ⟨rfl,rfl⟩)|(go_at_call 20;refine HF.out.mono ?_;rintro e w1 ⟨rfl,hr,hx⟩;have HR1:=hH hr;have HX1:=hH (HX0.out.trans hx);have HB1:=HB0.out.ex hx (by omega);clear hr hx;obtain⟨z,⟨d0,d1,d2,d3,d4,d5⟩,⟨f0,f1,f2,f3,f4,f5⟩⟩:=HB1.c6))
 rw [←HQ.out]
 exact bodyPost_ret (v:=sideV side0 (.slice none 0 0)) (results_cell_row (by rfl) _ _ w.heap.size _ _ _ _ (by rfl) (show Blk _ w.heap.size 90 _ from HB1.put6) Tryz.underlying90 (by rfl) (by kernel_rfl)) rfl (SideP.lit HE.out rfl (HR1.out.far6 hg) (HX1.out.far6 (Nat.le_refl _)))
theorem side_any (g:Nat)(E:Int)(P:Nat→PSt→ExprT×PSt)(t:PSt)(d:Nat)(w:World)(h:RdS g E w t d)(hpc:∀w,RdS g E w t d→Calls Tryz.prog 21 #[.pointer (some ⟨g,0,none⟩)] w (PathP g E w (pathF E P d t) d)) :
  Calls Tryz.prog 121 #[.pointer (some ⟨g,0,none⟩)] w (SideP g E w (sideF E P d t) d):=by
 cases h64:isS [64] t with
 | true=>exact side_a g E P t d w h hpc h64
 | false =>
  cases h36:isS [36] t with
  | true=>exact side_b g E P t d w h hpc h64 h36
  | false =>
   by_cases k3:kindS t=3
   ·exact side_num g E P t d w h h64 h36 k3
   by_cases k4:kindS t=4
   ·exact side_str g E P t d w h h64 h36 k4
   by_cases k2:kindS t=2
   ·by_cases s1:(hdT t).s=[116,114,117,101]
    ·exact side_true g E P t d w h h64 h36 k2 s1
    by_cases s2:(hdT t).s=[102,97,108,115,101]
    ·exact side_false g E P t d w h h64 h36 k2 s2
    by_cases s3:(hdT t).s=[110,117,108,108]
    ·exact side_null g E P t d w h h64 h36 k2 s3
    ·exact side_word g E P t d w h h64 h36 k2 s1 s2 s3
   ·exact side_none g E P t d w h h64 h36 k2 k3 k4
end Go.Proofs.YtjbdcjcfijjiiaaGreatDoor
