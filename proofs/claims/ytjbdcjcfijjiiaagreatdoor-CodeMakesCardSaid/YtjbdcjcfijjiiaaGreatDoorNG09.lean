/- NG09: Qe, Qf joined. -/
import Derived.Test.YtjbdcjcfijjiiaaGreatDoorNG07
namespace Go.Proofs.YtjbdcjcfijjiiaaGreatDoor
open Go.RowKit
/- qtree: numbers, sel. -/
section
open Go.RowKit
set_option maxRecDepth 100000
set_option maxHeartbeats 2000000
theorem take_yes (g:Nat)(E:Int)(t:PSt)(d:Nat)(s:ByteArray)(w:World)(h:RdS g E w t d)(hb:Hid (isS s.data.toList t=true)) :
  Calls Tryz.prog 62 #[.pointer (some ⟨g,0,none⟩),.string s] w fun e w'=>e=.returned (.bool true)∧RdS g E w' (nextS E t) d∧Ex g w w':=take_any g E t d s true w h hb
theorem take_no (g:Nat)(E:Int)(t:PSt)(d:Nat)(s:ByteArray)(w:World)(h:RdS g E w t d)(hb:Hid (isS s.data.toList t=false)) :
  Calls Tryz.prog 62 #[.pointer (some ⟨g,0,none⟩),.string s] w fun e w'=>e=.returned (.bool false)∧w=w':=by
 have HI:=hH (is_at s false w h hb)
 clear hb h
 go_enter Tryz.func62, Tryz.ntmps62
 go_wp2_with (go_at_call 19;refine HI.out.mono ?_;rintro e w' ⟨rfl,rfl⟩)
 go_ret
 exact⟨rfl,rfl⟩
def Fr (w:World)(b:Nat):Prop:=w.heap.size≤b
def selV (x:SelT)(pv:Value):Value:=.agg #[.int .i64 x.kind,.string (bs x.name),.int .i64 x.index,.int .i64 x.fr,.int .i64 x.tt,.int .i64 x.step,.bool x.hf,.bool x.ht,pv]
def SelP (g:Nat)(E:Int)(w:World)(r:SelT×PSt)(d:Nat)(e:Ending)(w':World):Prop :=
 ∃m pv,e=.returned (selV r.1 pv)∧SelC (Fr w) (ExR (Fr w) m w') w' (selL r.1 pv) r.1∧RdS g E w' r.2 d∧Ex g w w'
theorem SelP.plain {g:Nat}{E:Int}{w w':World}{r:SelT×PSt}{d:Nat}{x:SelT}{t':PSt}(h:r=(x,t'))(hf:x.f=none)(h1:RdS g E w' t' d)(h2:Ex g w w'):SelP g E w r d (.returned (selV x (.pointer none))) w':=by
 subst h
 exact⟨0,_,rfl,⟨_,rfl,by rw [hf];rfl⟩,h1,h2⟩
def S0 :Array Value:=#[.int .i64 0,.string ⟨#[]⟩,.int .i64 0,.int .i64 0,.int .i64 0,.int .i64 0,.bool false,.bool false,.pointer none]
theorem numbers_any (g:Nat)(E:Int)(t:PSt)(d:Nat)(w:World)(h:RdS g E w t d) :
  Calls Tryz.prog 99 #[.pointer (some ⟨g,0,none⟩)] w fun e w'=>e=.returned (selV (numbersS E t).1 (.pointer none))∧(numbersS E t).1.f=none∧RdS g E w' (numbersS E t).2 d∧Ex g w w':=by
 have hg:=h.lt
 have HN1:=hH (number_any g E t d _ (h.alloc (.cells #[.int .i64 0,.string ⟨#[]⟩,.int .i64 0,.int .i64 0,.int .i64 0,.int .i64 0,.bool false,.bool false,.pointer none] 85)))
 have HX0:=hH (show Ex g w (w.alloc (.cells #[.int .i64 0,.string ⟨#[]⟩,.int .i64 0,.int .i64 0,.int .i64 0,.int .i64 0,.bool false,.bool false,.pointer none] 85)) from(Ex.refl g w).alloc _)
 have HB0:=hH (Blk.new w 85 #[.int .i64 0,.string ⟨#[]⟩,.int .i64 0,.int .i64 0,.int .i64 0,.int .i64 0,.bool false,.bool false,.pointer none])
 obtain⟨n,ok,t1,ht1⟩:∃n ok t1,numS E t=(n,ok,t1):=⟨_,_,_,rfl⟩
 rw [ht1] at HN1
 simp only at HN1
 cases hb:isS [58] t1 with
 | false =>
  have HE:=hH (show numbersS E t=(⟨2,[],n,0,0,0,false,false,none⟩,t1) by unfold numbersS;rw [ht1];simp only;rw [if_neg (by rw [hb];decide)])
  clear ht1 h
  go_enter Tryz.func99, Tryz.ntmps99
  go_wp2_with (first
   | (go_at_call 110;refine HN1.out.mono ?_;rintro e w1 ⟨rfl,hr,hx⟩;have HR1:=hH hr;have HX1:=hH (HX0.out.trans hx);have HB1:=hH (HB0.out.ex hx (by omega));have HT:=hH (take_no g E t1 d ⟨#[58]⟩ w1 hr (hH hb));clear hr hx;obtain⟨z,⟨d0,d1,d2,d3,d4,d5,d6,d7,d8⟩,⟨f0,f1,f2,f3,f4,f5,f6,f7,f8⟩⟩:=HB1.out.c9)
   | (go_at_call 62;refine HT.out.mono ?_;rintro e w' ⟨rfl,rfl⟩))
  rw [HE.out]
  exact bodyPost_ret (v:=selV ⟨2,[],n,0,0,0,false,false,none⟩ (.pointer none)) (by simp [results,Tryz.results99,go_sem,selV,bs,d0,d1,d2,d3,d4,d5,d6,d7,d8]) rfl ⟨rfl,rfl,HR1.out.far9 hg,HX1.out.far9 (Nat.le_refl _)⟩
 | true =>
  obtain⟨m,has,t3,ht2⟩:∃m has t3,numS E (nextS E t1)=(m,has,t3):=⟨_,_,_,rfl⟩
  cases hb3:isS [58] t3 with
  | false =>
   have HE:=hH (show numbersS E t=(⟨3,[],0,n,m,1,ok,has,none⟩,t3) by unfold numbersS num2S;rw [ht1];simp only;rw [if_pos hb,ht2];simp only;rw [if_neg (by rw [hb3];decide)])
   have HI3:=hH hb3
   clear ht1 h hb3
   go_enter Tryz.func99, Tryz.ntmps99
   go_wp2_with (first
    | (go_at_call 110;(with_reducible refine HN1.out.mono ?_);rintro e w1 ⟨rfl,hr,hx⟩;have HX1:=hH (HX0.out.trans hx);have HB1:=hH (HB0.out.ex hx (by omega));have HT1:=hH (take_yes g E t1 d ⟨#[58]⟩ w1 hr (hH hb));clear hr hx)
    | (go_at_call 62;(with_reducible refine HT1.out.mono ?_);rintro e w2 ⟨rfl,hr,hx⟩;have HX2:=hH (HX1.out.trans hx);have HB2:=hH (HB1.out.ex hx (by omega));have hz2:=HX2.out.size;have HX2a:=hH (HX2.out.alloc (.cells #[.int .i64 3,.string ⟨#[]⟩,.int .i64 0,.int .i64 n,.int .i64 0,.int .i64 1,.bool ok,.bool false,.pointer none] 85));have HB2a:=hH (HB2.out.alloc (.cells #[.int .i64 3,.string ⟨#[]⟩,.int .i64 0,.int .i64 n,.int .i64 0,.int .i64 1,.bool ok,.bool false,.pointer none] 85));have HS2a:=hH (Blk.new w2 85 #[.int .i64 3,.string ⟨#[]⟩,.int .i64 0,.int .i64 n,.int .i64 0,.int .i64 1,.bool ok,.bool false,.pointer none]);have HN2:=hH (number_any g E (nextS E t1) d _ (hr.alloc (.cells #[.int .i64 3,.string ⟨#[]⟩,.int .i64 0,.int .i64 n,.int .i64 0,.int .i64 1,.bool ok,.bool false,.pointer none] 85)));rw [ht2] at HN2;simp only at HN2;clear hr hx)
    | (go_at_call 110;(with_reducible refine HN2.out.mono ?_);rintro e w3 ⟨rfl,hr,hx⟩;have HR3:=hH hr;have HX3:=hH (HX2a.out.trans hx);have HB3:=hH (HB2a.out.ex hx (by omega));have HS3:=hH (HS2a.out.ex hx (by omega));have HR4:=hH ((hr.far (p:=⟨w2.heap.size,4,none⟩) (by show g<w2.heap.size;omega) (.int .i64 m)).far (p:=⟨w2.heap.size,7,none⟩) (by show g<w2.heap.size;omega) (.bool has));have HX4:=hH (((HX2a.out.trans hx).set_ (p:=⟨w2.heap.size,4,none⟩) (.inr hz2) (.int .i64 m)).set_ (p:=⟨w2.heap.size,7,none⟩) (.inr hz2) (.bool has));clear hr hx;obtain⟨zd,⟨d0,d1,d2,d3,d4,d5,d6,d7,d8⟩,⟨fd0,fd1,fd2,fd3,fd4,fd5,fd6,fd7,fd8⟩⟩:=HB3.out.c9;obtain⟨ze,⟨e0,e1,e2,e3,e4,e5,e6,e7,e8⟩,⟨fe0,fe1,fe2,fe3,fe4,fe5,fe6,fe7,fe8⟩⟩:=HS3.out.c9;have hne:w.heap.size≠w2.heap.size:=by have:=HB2.out.lt;omega)
    | (go_at_call 62;refine(take_no g E t3 d ⟨#[58]⟩ _ HR4.out HI3).mono ?_;rintro e w' ⟨rfl,rfl⟩))
   rw [HE.out]
   exact bodyPost_ret (v:=selV ⟨3,[],0,n,m,1,ok,has,none⟩ (.pointer none)) (by simp [results,Tryz.results99,go_sem,selV,bs,d0,d1,d2,d3,d4,d5,d6,d7,d8]) rfl ⟨rfl,rfl,HR4.out.far9 hg,HX4.out.far9 (Nat.le_refl _)⟩
  | true =>
   obtain⟨k,is,t5,ht4⟩:∃k is t5,numS E (nextS E t3)=(k,is,t5):=⟨_,_,_,rfl⟩
   have HE:=hH (show numbersS E t=(⟨3,[],0,n,m,if is then k else 1,ok,has,none⟩,t5) by unfold numbersS num2S;rw [ht1];simp only;rw [if_pos hb,ht2];simp only;rw [if_pos hb3,ht4])
   have HI3:=hH hb3
   clear ht1 h hb3
   cases is with
   | true =>
    go_enter Tryz.func99, Tryz.ntmps99
    go_wp2_with (first
     | (go_at_call 110;(with_reducible refine HN1.out.mono ?_);rintro e w1 ⟨rfl,hr,hx⟩;have HX1:=hH (HX0.out.trans hx);have HB1:=hH (HB0.out.ex hx (by omega));have HT1:=hH (take_yes g E t1 d ⟨#[58]⟩ w1 hr (hH hb));clear hr hx)
     | (go_at_call 62;(with_reducible refine HT1.out.mono ?_);rintro e w2 ⟨rfl,hr,hx⟩;have HX2:=hH (HX1.out.trans hx);have HB2:=hH (HB1.out.ex hx (by omega));have hz2:=HX2.out.size;have HX2a:=hH (HX2.out.alloc (.cells #[.int .i64 3,.string ⟨#[]⟩,.int .i64 0,.int .i64 n,.int .i64 0,.int .i64 1,.bool ok,.bool false,.pointer none] 85));have HB2a:=hH (HB2.out.alloc (.cells #[.int .i64 3,.string ⟨#[]⟩,.int .i64 0,.int .i64 n,.int .i64 0,.int .i64 1,.bool ok,.bool false,.pointer none] 85));have HS2a:=hH (Blk.new w2 85 #[.int .i64 3,.string ⟨#[]⟩,.int .i64 0,.int .i64 n,.int .i64 0,.int .i64 1,.bool ok,.bool false,.pointer none]);have HN2:=hH (number_any g E (nextS E t1) d _ (hr.alloc (.cells #[.int .i64 3,.string ⟨#[]⟩,.int .i64 0,.int .i64 n,.int .i64 0,.int .i64 1,.bool ok,.bool false,.pointer none] 85)));rw [ht2] at HN2;simp only at HN2;clear hr hx))
    (with_reducible refine HN2.out.mono ?_)
    rintro e w3 ⟨rfl,hr,hx⟩
    have HR3:=hH hr
    have HX3:=hH (HX2a.out.trans hx)
    have HB3:=hH (HB2a.out.ex hx (by omega))
    have HS3:=hH (HS2a.out.ex hx (by omega))
    have HR4:=hH ((hr.far (p:=⟨w2.heap.size,4,none⟩) (by show g<w2.heap.size;omega) (.int .i64 m)).far (p:=⟨w2.heap.size,7,none⟩) (by show g<w2.heap.size;omega) (.bool has))
    have HX4:=hH (((HX2a.out.trans hx).set_ (p:=⟨w2.heap.size,4,none⟩) (.inr hz2) (.int .i64 m)).set_ (p:=⟨w2.heap.size,7,none⟩) (.inr hz2) (.bool has))
    clear hr hx
    have hne:w.heap.size≠w2.heap.size:=by (have:=HB2.out.lt;omega)
    obtain⟨zd,⟨d0,d1,d2,d3,d4,d5,d6,d7,d8⟩,⟨fd0,fd1,fd2,fd3,fd4,fd5,fd6,fd7,fd8⟩⟩:=HB3.out.c9
    obtain⟨ze,⟨e0,e1,e2,e3,e4,e5,e6,e7,e8⟩,⟨fe0,fe1,fe2,fe3,fe4,fe5,fe6,fe7,fe8⟩⟩:=HS3.out.c9
    have HB4:=hH ((HB3.out.far (p:=⟨w2.heap.size,4,none⟩) hne (.int .i64 m)).far (p:=⟨w2.heap.size,7,none⟩) hne (.bool has))
    have HS4:=hH (show Blk ((w3.setCell ⟨w2.heap.size,4,none⟩ (.int .i64 m)).setCell ⟨w2.heap.size,7,none⟩ (.bool has)) w2.heap.size 85 #[.int .i64 3,.string ⟨#[]⟩,.int .i64 0,.int .i64 n,.int .i64 m,.int .i64 1,.bool ok,.bool has,.pointer none] from(HS3.out.set_ 4 _).set_ 7 _)
    have hz4:=HX4.out.size
    go_wp2_with (first
     | (go_at_call 62;(with_reducible refine(take_yes g E t3 d ⟨#[58]⟩ _ HR4.out HI3).mono ?_);rintro e w5 ⟨rfl,hr,hx⟩;have HX5:=hH (HX4.out.trans hx);have HB5:=hH (HB4.out.ex hx (by omega));have HS5:=hH (HS4.out.ex hx (by omega));have HN5:=hH (number_any g E (nextS E t3) d w5 hr);rw [ht4] at HN5;simp only at HN5;clear hr hx)
     | (go_at_call 110;(with_reducible refine HN5.out.mono ?_);rintro e w6 ⟨rfl,hr,hx⟩;have HR6:=hH hr;have HX6:=hH (HX5.out.trans hx);have HB6:=hH (HB5.out.ex hx (by omega));have HS6:=hH (HS5.out.ex hx (by omega));clear hr hx;clear zd d0 d1 d2 d3 d4 d5 d6 d7 d8 fd0 fd1 fd2 fd3 fd4 fd5 fd6 fd7 fd8 ze e0 e1 e2 e3 e4 e5 e6 e7 e8 fe0 fe1 fe2 fe3 fe4 fe5 fe6 fe7 fe8;obtain⟨zd,⟨d0,d1,d2,d3,d4,d5,d6,d7,d8⟩,⟨fd0,fd1,fd2,fd3,fd4,fd5,fd6,fd7,fd8⟩⟩:=HB6.out.c9;obtain⟨ze,⟨e0,e1,e2,e3,e4,e5,e6,e7,e8⟩,⟨fe0,fe1,fe2,fe3,fe4,fe5,fe6,fe7,fe8⟩⟩:=HS6.out.c9))
    rw [HE.out]
    exact bodyPost_ret (v:=selV ⟨3,[],0,n,m,k,ok,has,none⟩ (.pointer none)) (by simp [results,Tryz.results99,go_sem,selV,bs,d0,d1,d2,d3,d4,d5,d6,d7,d8]) rfl ⟨rfl,rfl,(HR6.out.far (p:=⟨w2.heap.size,5,none⟩) (by show g<w2.heap.size;omega) _).far9 hg,(HX6.out.set_ (p:=⟨w2.heap.size,5,none⟩) (.inr hz2) _).far9 (Nat.le_refl _)⟩
   | false =>
    go_enter Tryz.func99, Tryz.ntmps99
    go_wp2_with (first
     | (go_at_call 110;(with_reducible refine HN1.out.mono ?_);rintro e w1 ⟨rfl,hr,hx⟩;have HX1:=hH (HX0.out.trans hx);have HB1:=hH (HB0.out.ex hx (by omega));have HT1:=hH (take_yes g E t1 d ⟨#[58]⟩ w1 hr (hH hb));clear hr hx)
     | (go_at_call 62;(with_reducible refine HT1.out.mono ?_);rintro e w2 ⟨rfl,hr,hx⟩;have HX2:=hH (HX1.out.trans hx);have HB2:=hH (HB1.out.ex hx (by omega));have hz2:=HX2.out.size;have HX2a:=hH (HX2.out.alloc (.cells #[.int .i64 3,.string ⟨#[]⟩,.int .i64 0,.int .i64 n,.int .i64 0,.int .i64 1,.bool ok,.bool false,.pointer none] 85));have HB2a:=hH (HB2.out.alloc (.cells #[.int .i64 3,.string ⟨#[]⟩,.int .i64 0,.int .i64 n,.int .i64 0,.int .i64 1,.bool ok,.bool false,.pointer none] 85));have HS2a:=hH (Blk.new w2 85 #[.int .i64 3,.string ⟨#[]⟩,.int .i64 0,.int .i64 n,.int .i64 0,.int .i64 1,.bool ok,.bool false,.pointer none]);have HN2:=hH (number_any g E (nextS E t1) d _ (hr.alloc (.cells #[.int .i64 3,.string ⟨#[]⟩,.int .i64 0,.int .i64 n,.int .i64 0,.int .i64 1,.bool ok,.bool false,.pointer none] 85)));rw [ht2] at HN2;simp only at HN2;clear hr hx))
    (with_reducible refine HN2.out.mono ?_)
    rintro e w3 ⟨rfl,hr,hx⟩
    have HR3:=hH hr
    have HX3:=hH (HX2a.out.trans hx)
    have HB3:=hH (HB2a.out.ex hx (by omega))
    have HS3:=hH (HS2a.out.ex hx (by omega))
    have HR4:=hH ((hr.far (p:=⟨w2.heap.size,4,none⟩) (by show g<w2.heap.size;omega) (.int .i64 m)).far (p:=⟨w2.heap.size,7,none⟩) (by show g<w2.heap.size;omega) (.bool has))
    have HX4:=hH (((HX2a.out.trans hx).set_ (p:=⟨w2.heap.size,4,none⟩) (.inr hz2) (.int .i64 m)).set_ (p:=⟨w2.heap.size,7,none⟩) (.inr hz2) (.bool has))
    clear hr hx
    have hne:w.heap.size≠w2.heap.size:=by (have:=HB2.out.lt;omega)
    obtain⟨zd,⟨d0,d1,d2,d3,d4,d5,d6,d7,d8⟩,⟨fd0,fd1,fd2,fd3,fd4,fd5,fd6,fd7,fd8⟩⟩:=HB3.out.c9
    obtain⟨ze,⟨e0,e1,e2,e3,e4,e5,e6,e7,e8⟩,⟨fe0,fe1,fe2,fe3,fe4,fe5,fe6,fe7,fe8⟩⟩:=HS3.out.c9
    have HB4:=hH ((HB3.out.far (p:=⟨w2.heap.size,4,none⟩) hne (.int .i64 m)).far (p:=⟨w2.heap.size,7,none⟩) hne (.bool has))
    have HS4:=hH (show Blk ((w3.setCell ⟨w2.heap.size,4,none⟩ (.int .i64 m)).setCell ⟨w2.heap.size,7,none⟩ (.bool has)) w2.heap.size 85 #[.int .i64 3,.string ⟨#[]⟩,.int .i64 0,.int .i64 n,.int .i64 m,.int .i64 1,.bool ok,.bool has,.pointer none] from(HS3.out.set_ 4 _).set_ 7 _)
    have hz4:=HX4.out.size
    go_wp2_with (first
     | (go_at_call 62;(with_reducible refine(take_yes g E t3 d ⟨#[58]⟩ _ HR4.out HI3).mono ?_);rintro e w5 ⟨rfl,hr,hx⟩;have HX5:=hH (HX4.out.trans hx);have HB5:=hH (HB4.out.ex hx (by omega));have HS5:=hH (HS4.out.ex hx (by omega));have HN5:=hH (number_any g E (nextS E t3) d w5 hr);rw [ht4] at HN5;simp only at HN5;clear hr hx)
     | (go_at_call 110;(with_reducible refine HN5.out.mono ?_);rintro e w6 ⟨rfl,hr,hx⟩;have HR6:=hH hr;have HX6:=hH (HX5.out.trans hx);have HB6:=hH (HB5.out.ex hx (by omega));have HS6:=hH (HS5.out.ex hx (by omega));clear hr hx;clear zd d0 d1 d2 d3 d4 d5 d6 d7 d8 fd0 fd1 fd2 fd3 fd4 fd5 fd6 fd7 fd8 ze e0 e1 e2 e3 e4 e5 e6 e7 e8 fe0 fe1 fe2 fe3 fe4 fe5 fe6 fe7 fe8;obtain⟨zd,⟨d0,d1,d2,d3,d4,d5,d6,d7,d8⟩,⟨fd0,fd1,fd2,fd3,fd4,fd5,fd6,fd7,fd8⟩⟩:=HB6.out.c9;obtain⟨ze,⟨e0,e1,e2,e3,e4,e5,e6,e7,e8⟩,⟨fe0,fe1,fe2,fe3,fe4,fe5,fe6,fe7,fe8⟩⟩:=HS6.out.c9))
    rw [HE.out]
    exact bodyPost_ret (v:=selV ⟨3,[],0,n,m,1,ok,has,none⟩ (.pointer none)) (by simp [results,Tryz.results99,go_sem,selV,bs,d0,d1,d2,d3,d4,d5,d6,d7,d8]) rfl ⟨rfl,rfl,HR6.out.far9 hg,HX6.out.far9 (Nat.le_refl _)⟩
end
/- qtree: sel. -/
section
open Go.RowKit
set_option maxRecDepth 100000
set_option maxHeartbeats 2000000
def exV (x:ExprT)(kv qv lv rv:Value):Value:=.agg #[.int .i64 x.kind,kv,.bool x.q.abs,qv,.int .i64 x.op,.bool x.left.lit,.int .i64 x.left.kind,.int .i64 x.left.n,.string (bs x.left.s),.bool x.left.p.abs,lv,.bool x.right.lit,.int .i64 x.right.kind,.int .i64 x.right.n,.string (bs x.right.s),.bool x.right.p.abs,rv]
def ExP (g:Nat)(E:Int)(w:World)(r:ExprT×PSt)(d:Nat)(e:Ending)(w':World):Prop :=
 ∃m kv qv lv rv,e=.returned (exV r.1 kv qv lv rv)∧ExR (Fr w) m w' (exL r.1 kv qv lv rv) r.1∧RdS g E w' r.2 d∧Ex g w w'
theorem RowG.slice {α:Type}{K:Nat→Prop}{k:Nat}{R:List Value→α→Prop}{w:World}{v:Value}{l:List α}(h:RowG K k R w v l):∃A c,v=.slice A l.length c:=by
 obtain⟨A,c,h1,_⟩:=h;exact⟨A,c,h1⟩
theorem ExR.slices {K:Nat→Prop}{m:Nat}{w:World}{x:ExprT}{kv qv lv rv:Value}(h:ExR K m w (exL x kv qv lv rv) x) :
  ∃A1 c1 A2 c2 A3 c3 A4 c4,kv=.slice A1 x.kids.length c1∧qv=.slice A2 x.q.segs.length c2∧lv=.slice A3 x.left.p.segs.length c3∧rv=.slice A4 x.right.p.segs.length c4:=by
 cases m with
 | zero=>exact h.elim
 | succ m =>
  obtain⟨kv',qv',lv',rv',h1,h2,h3,h4,h5⟩:=h
  unfold exL at h1
  simp only [List.cons.injEq,true_and,and_true] at h1
  obtain⟨rfl,rfl,rfl,rfl⟩:=h1
  obtain⟨A1,c1,e1⟩:=h2.slice
  obtain⟨A2,c2,e2⟩:=RowG.slice h3
  obtain⟨A3,c3,e3⟩:=RowG.slice h4
  obtain⟨A4,c4,e4⟩:=RowG.slice h5
  exact⟨A1,c1,A2,c2,A3,c3,A4,c4,e1,e2,e3,e4⟩
def OrC (g:Nat)(E:Int)(P:Nat→PSt→ExprT×PSt)(N:Nat):Prop :=
 ∀(d:Nat) (t:PSt) (w:World),RdS g E w t d→d≤33→(d=33→t.fe≠0)→N≤d→Calls Tryz.prog 98 #[.pointer (some ⟨g,0,none⟩)] w (ExP g E w (P d t) d)
theorem openS_33 {E:Int}{d:Nat}{t:PSt}(h:d=32):(openS E d t).fe≠0:=by
 unfold openS
 rw [if_pos (by omega)]
 have h1:(failS (atS E t) 5 t).fe≠0:=by
  unfold failS;split
  ·simp
  ·assumption
 rw [nextS_bad h1];exact h1
theorem is_deep {l:List UInt8}{t:PSt}{d:Nat}(h:isS l t=true)(hd:d≤33)(hf:d=33→t.fe≠0):d≤32:=by
 rcases Nat.lt_or_ge d 33 with h1|h1
 ·omega
 ·exact absurd (isS_ok h).1 (hf (by omega))
theorem SelC.filter {w w1 w2 W:World}{m:Nat}{x:ExprT}{kv qv lv rv:Value}(hex:ExR (Fr w1) m w2 (exL x kv qv lv rv) x)(hk:Kp (Fr w1) (Fr w) w2 W)(hs:W.heap.size=w2.heap.size)(hwl:w.heap.size≤w2.heap.size)(T:TypeId) :
  SelC (Fr w) (ExR (Fr w) m (W.alloc (.cells (exL x kv qv lv rv).toArray T))) (W.alloc (.cells (exL x kv qv lv rv).toArray T)) (selL ⟨4,[],0,0,0,0,false,false,some x⟩ (.pointer (some ⟨w2.heap.size,0,none⟩))) ⟨4,[],0,0,0,0,false,false,some x⟩:=by
 have hb:=Blk.new W T (exL x kv qv lv rv).toArray
 rw [hs] at hb
 refine⟨_,rfl,w2.heap.size,0,exL x kv qv lv rv,rfl,hwl,hb.lt,rfl,fun j u hu=>?_,?_⟩
 ·rw [Nat.zero_add,hb.cell j];simpa using hu
 ·exact ExR.keep (hk.trans ((Kp.id_ (fun b hb _=>hb)).alloc _)) m m (Nat.le_refl _) _ _ hex
theorem bs_nil :bs []=⟨#[]⟩:=rfl
theorem ite_tt {α:Type}{c:Bool}{a b:α}(h:c=true):(if c=true then a else b)=a:=if_pos h
theorem ite_ff {α:Type}{c:Bool}{a b:α}(h:c=false):(if c=true then a else b)=b:=if_neg (by rw [h];decide)
theorem sel_filter (g:Nat)(E:Int)(P:Nat→PSt→ExprT×PSt)(N:Nat)(hP:OrC g E P N)(t:PSt)(d:Nat)(w:World)(h:RdS g E w t d)(hN:N≤d+1)(hd:d≤33)(hf:d=33→t.fe≠0)
  (k4:kindS t≠4) (h42:isS [42] t=false) (h63:isS [63] t=true) :
  Calls Tryz.prog 83 #[.pointer (some ⟨g,0,none⟩)] w (SelP g E w (selF E P d t) d):=by
 have hg:=h.lt
 have hd32:=is_deep h63 hd hf
 have hsel:selF E P d t=(⟨4,[],0,0,0,0,false,false,some (P (d+1) (openS E d t)).1⟩,(P (d+1) (openS E d t)).2):=by
  unfold selF;rw [if_neg k4,ite_ff h42,ite_tt h63]
 rw [hsel]
 obtain⟨k,hk⟩:∃k,kindS t=k:=⟨_,rfl⟩
 have hk4:(k==4)=false:=by rw [beq_eq_false_iff_ne,←hk];exact k4
 have HR0:=hH (h.alloc (.cells S0 85))
 have HX0:=hH (show Ex g w (w.alloc (.cells S0 85)) from(Ex.refl g w).alloc _)
 have HB0:=hH (Blk.new w 85 S0)
 unfold S0 at HR0 HX0 HB0
 have HK:=hH (kind_at k _ HR0.out (hH hk))
 have HT:=hH (take_no g E t d ⟨#[42]⟩ _ HR0.out (hH h42))
 have HI:=hH (is_at ⟨#[63]⟩ true _ HR0.out (hH h63))
 have HO:=hH (open_any g E t d _ HR0.out (by omega))
 have HP:=hH (fun w hr=>hP (d+1) (openS E d t) w hr (by omega) (fun e=>openS_33 (by omega)) hN)
 obtain⟨x,t2,hx2⟩:∃x t2,P (d+1) (openS E d t)=(x,t2):=⟨_,_,rfl⟩
 rw [hx2] at HP ⊢
 unfold ExP at HP
 simp only at HP ⊢
 clear h hk k4 h42 h63 hsel hx2 hf hP
 go_enter Tryz.func83, Tryz.ntmps83
 generalize hQ:bodyPost Tryz.prog Tryz.f83 (SelP g E w (⟨4,[],0,0,0,0,false,false,some x⟩,t2) d)=Q
 have HQ:=hH hQ;clear hQ
 go_wp2_with (first
  | (go_at_call 36;refine HK.out.mono ?_;rintro e w' ⟨rfl,rfl⟩)
  | (go_at_call 62;refine HT.out.mono ?_;rintro e w' ⟨rfl,rfl⟩)
  | (go_at_call 19;refine HI.out.mono ?_;rintro e w' ⟨rfl,rfl⟩)
  | (go_at_call 97;refine HO.out.mono ?_;rintro e w1 ⟨rfl,hr,hx⟩;have HP1:=hH (HP.out w1 hr);have HX1:=hH (HX0.out.trans hx);have HB1:=hH (HB0.out.ex hx (by omega));clear hr hx))
 refine HP1.out.mono ?_
 rintro e w2 ⟨m,kv,qv,lv,rv,rfl,hex,hr,hx⟩
 obtain⟨A1,q1,A2,q2,A3,q3,A4,q4,rfl,rfl,rfl,rfl⟩:=hex.slices
 unfold exV
 have HR2:=hH hr
 have HX2:=hH (HX1.out.trans hx)
 have HB2:=hH (HB1.out.ex hx (by omega))
 have HE2:=hH hex
 have hz1:=HX1.out.size
 have hz2:=hx.size
 obtain⟨z,⟨d0,d1,d2,d3,d4,d5,d6,d7,d8⟩,⟨f0,f1,f2,f3,f4,f5,f6,f7,f8⟩⟩:=HB2.out.c9
 obtain⟨A,c,n,hn,hnc,hc,hd1,hg2,⟨c0,c1,c2,c3,c4⟩,⟨p0,p2,p3,p4⟩,hT⟩:=hr.cells
 clear hn hT hr hx hex
 go_wp2
 have hw1:w.heap.size<w1.heap.size:=HB1.out.lt
 rw [←HQ.out]
 refine bodyPost_ret (v:=selV ⟨4,[],0,0,0,0,false,false,some x⟩ (.pointer (some ⟨w2.heap.size,0,none⟩))) (by simp [results,Tryz.results83,go_sem,selV,bs_nil,z,d0,d1,d2,d3,d4,d5,d6,d7,d8]) rfl ⟨m,_,rfl,?_,?_,?_⟩
 ·refine SelC.filter HE2.out ?_ (by simp) (by omega) _
  refine Kp.far9 (Kp.set_ (Kp.id_ (fun b (hb:w1.heap.size≤b) _=>(show w.heap.size≤b by omega))) (p:=⟨g,4,none⟩) (fun b (hb:w1.heap.size≤b) _=>(show b≠g by omega)) _) (fun b (hb:w1.heap.size≤b) _=>(show b≠w.heap.size by omega))
 ·exact((HR2.out.deep rfl (by omega)).far9 hg).alloc _
 ·exact((HX2.out.self1 4 _).far9 (Nat.le_refl _)).alloc _
theorem sel_name (g:Nat)(E:Int)(P:Nat→PSt→ExprT×PSt)(t:PSt)(d:Nat)(w:World)(h:RdS g E w t d)
  (k4:kindS t=4) :
  Calls Tryz.prog 83 #[.pointer (some ⟨g,0,none⟩)] w (SelP g E w (selF E P d t) d):=by
 have hg:=h.lt
 have HR0:=hH (h.alloc (.cells S0 85))
 have HX0:=hH (show Ex g w (w.alloc (.cells S0 85)) from(Ex.refl g w).alloc _)
 have HB0:=hH (Blk.new w 85 S0)
 unfold S0 at HR0 HX0 HB0
 obtain⟨k,hk⟩:∃k,kindS t=k:=⟨_,rfl⟩
 have HK:=hH (kind_at k _ HR0.out (hH hk))
 have HE:=hH (show selF E P d t=(⟨0,(hdT t).s,0,0,0,0,false,false,none⟩,nextS E t) by unfold selF;rw [if_pos k4])
 have hk4:(k==4)=true:=by rw [←hk,k4];rfl
 have HN:=hH (next_any g E t d _ HR0.out)
 unfold tokA at HN
 have hf1:=tok_f1 (hdT t).kind (hdT t).n ((hdT t).at_:Nat) (bs (hdT t).s) (hdT t).gap
 clear h hk k4
 go_enter Tryz.func83, Tryz.ntmps83
 generalize hQ:bodyPost Tryz.prog Tryz.f83 (SelP g E w (selF E P d t) d)=Q
 have HQ:=hH hQ;clear hQ
 go_wp2_with (first|(go_at_call 36;refine HK.out.mono ?_;rintro e w' ⟨rfl,rfl⟩)|(go_at_call 39;refine HN.out.mono ?_;rintro e w1 ⟨rfl,hr,hx⟩;have HR1:=hH hr;have HX1:=hH (HX0.out.trans hx);have HB1:=hH (HB0.out.ex hx (by omega));clear hr hx;obtain⟨z,⟨d0,d1,d2,d3,d4,d5,d6,d7,d8⟩,⟨f0,f1,f2,f3,f4,f5,f6,f7,f8⟩⟩:=HB1.out.c9))
 rw [←HQ.out]
 exact bodyPost_ret (v:=selV ⟨0,(hdT t).s,0,0,0,0,false,false,none⟩ (.pointer none)) (by simp [results,Tryz.results83,go_sem,selV,bs,d0,d1,d2,d3,d4,d5,d6,d7,d8]) rfl (SelP.plain HE.out rfl (HR1.out.far9 hg) (HX1.out.far9 (Nat.le_refl _)))
theorem sel_wild (g:Nat)(E:Int)(P:Nat→PSt→ExprT×PSt)(t:PSt)(d:Nat)(w:World)(h:RdS g E w t d)
  (k4:kindS t≠4) (h42:isS [42] t=true) :
  Calls Tryz.prog 83 #[.pointer (some ⟨g,0,none⟩)] w (SelP g E w (selF E P d t) d):=by
 have hg:=h.lt
 have HR0:=hH (h.alloc (.cells S0 85))
 have HX0:=hH (show Ex g w (w.alloc (.cells S0 85)) from(Ex.refl g w).alloc _)
 have HB0:=hH (Blk.new w 85 S0)
 unfold S0 at HR0 HX0 HB0
 obtain⟨k,hk⟩:∃k,kindS t=k:=⟨_,rfl⟩
 have HK:=hH (kind_at k _ HR0.out (hH hk))
 have HE:=hH (show selF E P d t=(⟨1,[],0,0,0,0,false,false,none⟩,nextS E t) by unfold selF;rw [if_neg k4,ite_tt h42])
 have hk4:(k==4)=false:=by rw [beq_eq_false_iff_ne,←hk];exact k4
 have HT:=hH (take_yes g E t d ⟨#[42]⟩ _ HR0.out (hH h42))
 clear h hk k4 h42
 go_enter Tryz.func83, Tryz.ntmps83
 generalize hQ:bodyPost Tryz.prog Tryz.f83 (SelP g E w (selF E P d t) d)=Q
 have HQ:=hH hQ;clear hQ
 go_wp2_with (first|(go_at_call 36;refine HK.out.mono ?_;rintro e w' ⟨rfl,rfl⟩)|(go_at_call 62;refine HT.out.mono ?_;rintro e w1 ⟨rfl,hr,hx⟩;have HR1:=hH hr;have HX1:=hH (HX0.out.trans hx);have HB1:=hH (HB0.out.ex hx (by omega));clear hr hx;obtain⟨z,⟨d0,d1,d2,d3,d4,d5,d6,d7,d8⟩,⟨f0,f1,f2,f3,f4,f5,f6,f7,f8⟩⟩:=HB1.out.c9))
 rw [←HQ.out]
 exact bodyPost_ret (v:=selV ⟨1,[],0,0,0,0,false,false,none⟩ (.pointer none)) (by simp [results,Tryz.results83,go_sem,selV,bs,d0,d1,d2,d3,d4,d5,d6,d7,d8]) rfl (SelP.plain HE.out rfl (HR1.out.far9 hg) (HX1.out.far9 (Nat.le_refl _)))
theorem sel_num (g:Nat)(E:Int)(P:Nat→PSt→ExprT×PSt)(t:PSt)(d:Nat)(w:World)(h:RdS g E w t d)
  (k4:kindS t≠4) (h42:isS [42] t=false) (h63:isS [63] t=false) (h3:(decide (kindS t=3) || isS [58] t)=true) :
  Calls Tryz.prog 83 #[.pointer (some ⟨g,0,none⟩)] w (SelP g E w (selF E P d t) d):=by
 have hg:=h.lt
 have HR0:=hH (h.alloc (.cells S0 85))
 have HX0:=hH (show Ex g w (w.alloc (.cells S0 85)) from(Ex.refl g w).alloc _)
 have HB0:=hH (Blk.new w 85 S0)
 unfold S0 at HR0 HX0 HB0
 obtain⟨k,hk⟩:∃k,kindS t=k:=⟨_,rfl⟩
 have HK:=hH (kind_at k _ HR0.out (hH hk))
 have HE:=hH (show selF E P d t=numbersS E t by unfold selF;rw [if_neg k4,ite_ff h42,ite_ff h63,ite_tt h3])
 have hk4:(k==4)=false:=by rw [beq_eq_false_iff_ne,←hk];exact k4
 have HT:=hH (take_no g E t d ⟨#[42]⟩ _ HR0.out (hH h42))
 have HI:=hH (is_at ⟨#[63]⟩ false _ HR0.out (hH h63))
 have HM:=hH (numbers_any g E t d _ HR0.out)
 obtain⟨x,t1,hx1⟩:∃x t1,numbersS E t=(x,t1):=⟨_,_,rfl⟩
 rw [hx1] at HM HE
 simp only at HM
 unfold selV at HM
 have hor:((k==3)=true)∨((k==3)=false∧isS [58] t=true):=by
  rw [hk] at h3
  cases hk3:(k==3) with
  | true=>exact .inl rfl
  | false =>
   rw [beq_eq_false_iff_ne] at hk3
   rw [decide_eq_false hk3,Bool.false_or] at h3
   exact .inr ⟨rfl,h3⟩
 clear hk k4 h42 h63 h3 hx1
 rcases hor with hk3|⟨hk3,h58⟩
 ·clear h
  go_enter Tryz.func83, Tryz.ntmps83
  generalize hQ:bodyPost Tryz.prog Tryz.f83 (SelP g E w (selF E P d t) d)=Q
  have HQ:=hH hQ;clear hQ
  go_wp2_with (first|(go_at_call 36;refine HK.out.mono ?_;rintro e w' ⟨rfl,rfl⟩)|(go_at_call 62;refine HT.out.mono ?_;rintro e w' ⟨rfl,rfl⟩)|(go_at_call 19;refine HI.out.mono ?_;rintro e w' ⟨rfl,rfl⟩)|(go_at_call 99;refine HM.out.mono ?_;rintro e w1 ⟨rfl,hfn,hr,hx⟩;have HR1:=hH hr;have HX1:=hH (HX0.out.trans hx);have HB1:=hH (HB0.out.ex hx (by omega));clear hr hx;obtain⟨z,⟨d0,d1,d2,d3,d4,d5,d6,d7,d8⟩,⟨f0,f1,f2,f3,f4,f5,f6,f7,f8⟩⟩:=HB1.out.c9))
  rw [←HQ.out]
  exact bodyPost_ret (v:=selV x (.pointer none)) (by simp [results,Tryz.results83,go_sem,selV,d0,d1,d2,d3,d4,d5,d6,d7,d8]) rfl (SelP.plain HE.out hfn (HR1.out.far9 hg) (HX1.out.far9 (Nat.le_refl _)))
 ·have HI2:=hH (is_at ⟨#[58]⟩ true _ HR0.out (hH h58))
  clear h h58
  go_enter Tryz.func83, Tryz.ntmps83
  generalize hQ:bodyPost Tryz.prog Tryz.f83 (SelP g E w (selF E P d t) d)=Q
  have HQ:=hH hQ;clear hQ
  go_wp2_with (first|(go_at_call 36;refine HK.out.mono ?_;rintro e w' ⟨rfl,rfl⟩)|(go_at_call 62;refine HT.out.mono ?_;rintro e w' ⟨rfl,rfl⟩)|(go_at_call 19;(with_reducible refine HI.out.mono ?_);rintro e w' ⟨rfl,rfl⟩)|(go_at_call 19;(with_reducible refine HI2.out.mono ?_);rintro e w' ⟨rfl,rfl⟩)|(go_at_call 99;refine HM.out.mono ?_;rintro e w1 ⟨rfl,hfn,hr,hx⟩;have HR1:=hH hr;have HX1:=hH (HX0.out.trans hx);have HB1:=hH (HB0.out.ex hx (by omega));clear hr hx;obtain⟨z,⟨d0,d1,d2,d3,d4,d5,d6,d7,d8⟩,⟨f0,f1,f2,f3,f4,f5,f6,f7,f8⟩⟩:=HB1.out.c9))
  rw [←HQ.out]
  exact bodyPost_ret (v:=selV x (.pointer none)) (by simp [results,Tryz.results83,go_sem,selV,d0,d1,d2,d3,d4,d5,d6,d7,d8]) rfl (SelP.plain HE.out hfn (HR1.out.far9 hg) (HX1.out.far9 (Nat.le_refl _)))
theorem sel_form (g:Nat)(E:Int)(P:Nat→PSt→ExprT×PSt)(t:PSt)(d:Nat)(w:World)(h:RdS g E w t d)
  (k4:kindS t≠4) (h42:isS [42] t=false) (h63:isS [63] t=false) (h3:(decide (kindS t=3) || isS [58] t)=false) :
  Calls Tryz.prog 83 #[.pointer (some ⟨g,0,none⟩)] w (SelP g E w (selF E P d t) d):=by
 have hg:=h.lt
 have HR0:=hH (h.alloc (.cells S0 85))
 have HX0:=hH (show Ex g w (w.alloc (.cells S0 85)) from(Ex.refl g w).alloc _)
 have HB0:=hH (Blk.new w 85 S0)
 unfold S0 at HR0 HX0 HB0
 obtain⟨k,hk⟩:∃k,kindS t=k:=⟨_,rfl⟩
 have HK:=hH (kind_at k _ HR0.out (hH hk))
 have HE:=hH (show selF E P d t=(sel0,formS E t) by unfold selF;rw [if_neg k4,ite_ff h42,ite_ff h63,ite_ff h3])
 have hk4:(k==4)=false:=by rw [beq_eq_false_iff_ne,←hk];exact k4
 have HT:=hH (take_no g E t d ⟨#[42]⟩ _ HR0.out (hH h42))
 have HI:=hH (is_at ⟨#[63]⟩ false _ HR0.out (hH h63))
 have HF:=hH (form_any g E t d _ HR0.out)
 rw [Bool.or_eq_false_iff] at h3
 have hk3:(k==3)=false:=by rw [beq_eq_false_iff_ne,←hk];exact of_decide_eq_false h3.1
 have HI2:=hH (is_at ⟨#[58]⟩ false _ HR0.out (hH h3.2))
 clear h hk k4 h42 h63 h3
 go_enter Tryz.func83, Tryz.ntmps83
 generalize hQ:bodyPost Tryz.prog Tryz.f83 (SelP g E w (selF E P d t) d)=Q
 have HQ:=hH hQ;clear hQ
 go_wp2_with (first|(go_at_call 36;refine HK.out.mono ?_;rintro e w' ⟨rfl,rfl⟩)|(go_at_call 62;refine HT.out.mono ?_;rintro e w' ⟨rfl,rfl⟩)|(go_at_call 19;(with_reducible refine HI.out.mono ?_);rintro e w' ⟨rfl,rfl⟩)|(go_at_call 19;(with_reducible refine HI2.out.mono ?_);rintro e w' ⟨rfl,rfl⟩)|(go_at_call 20;refine HF.out.mono ?_;rintro e w1 ⟨rfl,hr,hx⟩;have HR1:=hH hr;have HX1:=hH (HX0.out.trans hx);have HB1:=hH (HB0.out.ex hx (by omega));clear hr hx;obtain⟨z,⟨d0,d1,d2,d3,d4,d5,d6,d7,d8⟩,⟨f0,f1,f2,f3,f4,f5,f6,f7,f8⟩⟩:=HB1.out.c9))
 rw [←HQ.out]
 exact bodyPost_ret (v:=selV sel0 (.pointer none)) (by simp [results,Tryz.results83,go_sem,selV,sel0,bs,d0,d1,d2,d3,d4,d5,d6,d7,d8]) rfl (SelP.plain HE.out rfl (HR1.out.far9 hg) (HX1.out.far9 (Nat.le_refl _)))
theorem sel_any (g:Nat)(E:Int)(P:Nat→PSt→ExprT×PSt)(N:Nat)(hP:OrC g E P N)(t:PSt)(d:Nat)(w:World)(h:RdS g E w t d)(hN:N≤d+1)(hd:d≤33)(hf:d=33→t.fe≠0) :
  Calls Tryz.prog 83 #[.pointer (some ⟨g,0,none⟩)] w (SelP g E w (selF E P d t) d):=by
 by_cases k4:kindS t=4
 ·exact sel_name g E P t d w h k4
 cases h42:isS [42] t with
 | true=>exact sel_wild g E P t d w h k4 h42
 | false =>
  cases h63:isS [63] t with
  | true=>exact sel_filter g E P N hP t d w h hN hd hf k4 h42 h63
  | false =>
   cases h3:(decide (kindS t=3) || isS [58] t) with
   | true=>exact sel_num g E P t d w h k4 h42 h63 h3
   | false=>exact sel_form g E P t d w h k4 h42 h63 h3
end

end Go.Proofs.YtjbdcjcfijjiiaaGreatDoor
