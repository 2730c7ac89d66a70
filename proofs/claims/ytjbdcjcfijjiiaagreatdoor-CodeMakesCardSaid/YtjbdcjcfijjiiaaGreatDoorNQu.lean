/- qtree: cmp, a comparison (printed by gen_cmp2.py). -/
import Derived.Test.YtjbdcjcfijjiiaaGreatDoorNG42
namespace Go.Proofs.YtjbdcjcfijjiiaaGreatDoor
open Go.RowKit
set_option maxRecDepth 100000
set_option maxHeartbeats 4000000
theorem Ex.belx {g:Nat}{a w w':World}(h:Ex g a w)(hb:Bel w.heap.size w w'):Ex g a w':=h.trans (Ex.of_bel g hb)
theorem Kp.belx {K K':Nat→Prop}{a w w':World}(h:Kp K K' a w)(hb:Bel w.heap.size w w'):Kp K K' a w' :=
 ⟨Nat.le_trans h.size hb.size,fun b hK hl=>⟨(h.block b hK hl).1,(hb.block b (Nat.lt_of_lt_of_le hl h.size)).trans (h.block b hK hl).2⟩⟩
theorem Blk.belx {w w':World}{k:Nat}{T:TypeId}{cs:Array Value}(h:Blk w k T cs)(hb:Bel w.heap.size w w'):Blk w' k T cs:=h.bel hb h.lt
theorem cmp_pos_true_true (g:Nat)(E:Int)(P:Nat→PSt→ExprT×PSt)(t:PSt)(d:Nat)(w:World)(h:RdS g E w t d)
  (hside:∀t w,RdS g E w t d→(d=33→t.fe≠0)→Calls Tryz.prog 121 #[.pointer (some ⟨g,0,none⟩)] w (SideP g E w (sideF E P d t) d)) (hf:d=33→t.fe≠0)
  (ka na:Int) (sa:List UInt8) (pa:Bool) (ga:List SegT) (t1:PSt) (hst:sideF E P d t=(⟨true,ka,na,sa,⟨pa,ga⟩⟩,t1)) (o:Int) (ho:opS t1=o) (hpos:¬o<0)
  (kb nb:Int) (sb:List UInt8) (pb:Bool) (gb:List SegT) (t4:PSt) (hst4:sideF E P d (nextS E t1)=(⟨true,kb,nb,sb,⟨pb,gb⟩⟩,t4)) (hf3:d=33→(nextS E t1).fe≠0)  :
  Calls Tryz.prog 117 #[.pointer (some ⟨g,0,none⟩)] w (ExP g E w (cmpF E P d t) d):=by
 have hg:=h.lt
 have HR0:=hH (h.alloc (.cells E0 92))
 have HX0:=hH (show Ex g w (w.alloc (.cells E0 92)) from(Ex.refl g w).alloc _)
 have HB0:=hH (Blk.new w 92 E0)
 have HS0:=hH (hside t _ HR0.out hf)
 have hln:=sideF_len (E:=E) (P:=P) (d:=d) t
 have htb:=h.bound
 rw [hst] at HS0 hln
 unfold SideP at HS0
 unfold E0 at HR0 HX0 HB0 HS0
 simp only at HS0 hln
 have HE:=hH (show cmpF E P d t=(⟨4,[],path0,o,⟨true,ka,na,sa,⟨pa,ga⟩⟩,⟨true,kb,nb,sb,⟨pb,gb⟩⟩⟩,failS (atS E t1) 8 t4) by
  unfold cmpF
  rw [hst]
  unfold cmp2
  simp only
  rw [if_neg (by rw [ho];exact hpos),hst4,ho]
  simp only
  rfl)
 have HST4:=hH hst4
 have HSD:=hH hside
 have HF3:=hH hf3
 have hlna:ga.length≤1000000:=by omega
 clear h hst hside hf hst4 hf3 hln htb
 go_enter Tryz.func117, Tryz.ntmps117
 generalize hQ:bodyPost Tryz.prog Tryz.f117 (ExP g E w (cmpF E P d t) d)=Q
 have HQ:=hH hQ;clear hQ
 go_wp2_with fail
 refine HS0.out.mono ?_
 rintro e w1 ⟨m,A,c,rfl,hs,hr,hx⟩
 simp only at hs ⊢
 unfold sideV
 have HS1:=hH hs
 have hR1:=hr.alloc (.cells #[.bool true,.int .i64 ka,.int .i64 na,.string (bs sa),.bool pa,.slice A ga.length c] 90)
 have HR1:=hH hR1
 have HX1:=hH ((HX0.out.trans hx).alloc (.cells #[.bool true,.int .i64 ka,.int .i64 na,.string (bs sa),.bool pa,.slice A ga.length c] 90))
 have HB1:=hH ((HB0.out.ex hx (by omega)).alloc (.cells #[.bool true,.int .i64 ka,.int .i64 na,.string (bs sa),.bool pa,.slice A ga.length c] 90))
 have HA1:=hH (Blk.new w1 90 #[.bool true,.int .i64 ka,.int .i64 na,.string (bs sa),.bool pa,.slice A ga.length c])
 have HK1:=hH ((Kp.al (w:=w) (w':=w1) (o:=.cells E0 92)).alloc (.cells #[.bool true,.int .i64 ka,.int .i64 na,.string (bs sa),.bool pa,.slice A ga.length c] 90))
 have hw1:w.heap.size<w1.heap.size:=by have:=hx.size;simp at this;omega
 have HAT:=hH (at_any g E t1 d _ hR1)
 have HOP:=hH (op_any g E t1 d _ hR1)
 rw [ho] at HOP
 clear ho
 clear hs hR1 hr hx HS0 HB0 HX0 HR0
 go_wp2_with (first|(go_at_call 38;refine HAT.out.mono ?_;rintro e w' ⟨rfl,rfl⟩)|(go_at_call 122;refine HOP.out.mono ?_;rintro e w2 ⟨rfl,hr,hx⟩;have hR2:=hr;have HX2:=hH (HX1.out.trans hx);have HB2:=hH (HB1.out.ex hx (by omega));have HA2:=hH (HA1.out.ex hx (by omega));have HK2:=hH (HK1.out.ex hx (fun b hb _=>by have:=hb.al;omega));have HNX:=hH (next_any g E t1 d w2 hr);clear hr hx hR2)|(go_at_call 39;refine HNX.out.mono ?_;rintro e w3 ⟨rfl,hr,hx⟩;have HX3:=hH (HX2.out.trans hx);have HB3:=hH (HB2.out.ex hx (by omega));have HA3:=hH (HA2.out.ex hx (by omega));have HK3:=hH (HK2.out.ex hx (fun b hb _=>by have:=hb.al;omega));have HSB:=hH (HSD.out (nextS E t1) w3 hr HF3.out);clear hr hx))
 have HSC:=HSB.out
 rw [HST4.out] at HSC
 unfold SideP at HSC
 refine HSC.mono ?_
 rintro e w4 ⟨m4,A4,c4,rfl,hs,hr,hx⟩
 simp only at hs hr ⊢
 unfold sideV
 have hw3:w1.heap.size<w3.heap.size:=HA3.out.lt
 have hw4:=hx.size
 have hsz:(w4.alloc (.cells #[.bool true,.int .i64 kb,.int .i64 nb,.string (bs sb),.bool pb,.slice A4 gb.length c4] 90)).heap.size=w4.heap.size+1:=by simp
 have HS4:=hH hs
 have HR5:=hH ((hr.alloc (.cells #[.bool true,.int .i64 kb,.int .i64 nb,.string (bs sb),.bool pb,.slice A4 gb.length c4] 90)).alloc (.cells #[.bool pb,.slice A4 gb.length c4] 37))
 have HX5:=hH (((HX3.out.trans hx).alloc (.cells #[.bool true,.int .i64 kb,.int .i64 nb,.string (bs sb),.bool pb,.slice A4 gb.length c4] 90)).alloc (.cells #[.bool pb,.slice A4 gb.length c4] 37))
 have HB5:=hH (((HB3.out.ex hx (by omega)).alloc (.cells #[.bool true,.int .i64 kb,.int .i64 nb,.string (bs sb),.bool pb,.slice A4 gb.length c4] 90)).alloc (.cells #[.bool pb,.slice A4 gb.length c4] 37))
 have HA4:=HA3.out.ex hx (by omega)
 have HA5:=hH ((HA4.alloc (.cells #[.bool true,.int .i64 kb,.int .i64 nb,.string (bs sb),.bool pb,.slice A4 gb.length c4] 90)).alloc (.cells #[.bool pb,.slice A4 gb.length c4] 37))
 have HY5:=hH ((Blk.new w4 90 #[.bool true,.int .i64 kb,.int .i64 nb,.string (bs sb),.bool pb,.slice A4 gb.length c4]).alloc (.cells #[.bool pb,.slice A4 gb.length c4] 37))
 have HP5:=hH (Blk.new1 w4 (.cells #[.bool true,.int .i64 kb,.int .i64 nb,.string (bs sb),.bool pb,.slice A4 gb.length c4] 90) 37 #[.bool pb,.slice A4 gb.length c4])
 have HK5:=hH (((HK3.out.ex hx (fun b hb _=>by have:=hb.al;omega)).alloc (.cells #[.bool true,.int .i64 kb,.int .i64 nb,.string (bs sb),.bool pb,.slice A4 gb.length c4] 90)).alloc (.cells #[.bool pb,.slice A4 gb.length c4] 37))
 have HJ5:=hH (((Kp.id_ fun b (hb:w3.heap.size≤b) _=>(show w.heap.size≤b by omega):Kp (Fr w3) (Fr w) w4 w4).alloc (.cells #[.bool true,.int .i64 kb,.int .i64 nb,.string (bs sb),.bool pb,.slice A4 gb.length c4] 90)).alloc (.cells #[.bool pb,.slice A4 gb.length c4] 37))
 obtain⟨xz,⟨x0,x1,x2,x3,x4,x5⟩,⟨xf0,xf1,xf2,xf3,xf4,xf5⟩⟩:=HA4.c6
 clear hs hr hx HA4 HSC HSB HK3 HX3 HB3 HA3 HK2 HX2 HB2 HA2 HK1 HX1 HB1 HA1 HAT HOP HNX HSD HST4
 have HFL:=hH (fail_any g E t4 d (atS E t1) 8 _ HR5.out)
 have h1ge:w.heap.size<w4.heap.size:=by omega
 go_wp2_with (first|(go_at_call 37;refine HFL.out.mono ?_;rintro e w8 ⟨rfl,hr,hx⟩;have HR8:=hH hr;have HX8:=hH (HX5.out.trans hx);have HB8:=hH (HB5.out.ex hx (by omega));have HA8:=hH (HA5.out.ex hx (by omega));have HY8:=hH (HY5.out.ex hx (by omega));have HK8:=hH (HK5.out.ex hx (fun b hb _=>by have:=hb.al;omega));have HJ8:=hH (HJ5.out.ex hx (fun b (hb:w3.heap.size≤b) _=>by omega));clear hr hx;clear xz x0 x1 x2 x3 x4 x5 xf0 xf1 xf2 xf3 xf4 xf5;obtain⟨xz,⟨x0,x1,x2,x3,x4,x5⟩,⟨xf0,xf1,xf2,xf3,xf4,xf5⟩⟩:=HA8.out.c6;obtain⟨yz,⟨y0,y1,y2,y3,y4,y5⟩,⟨yf0,yf1,yf2,yf3,yf4,yf5⟩⟩:=HY8.out.c6;obtain⟨z,⟨d0,d1,d2,d3,d4,d5,d6,d7,d8,d9,d10,d11,d12,d13,d14,d15,d16⟩,⟨f0,f1,f2,f3,f4,f5,f6,f7,f8,f9,f10,f11,f12,f13,f14,f15,f16⟩⟩:=HB8.out.c17))
 rw [←HQ.out,HE.out]
 refine bodyPost_ret (v:=exV ⟨4,[],path0,o,⟨true,ka,na,sa,⟨pa,ga⟩⟩,⟨true,kb,nb,sb,⟨pb,gb⟩⟩⟩ (.slice none 0 0) (.slice none 0 0) (.slice A ga.length c) (.slice A4 gb.length c4)) (results_cell_row (by rfl) _ _ w.heap.size _ _ _ _ (by rfl) (show Blk _ w.heap.size 92 _ from HB8.out.put17) Tryz.underlying92 (by rfl) (by kernel_rfl)) rfl ⟨max m m4+1,_,_,_,_,rfl,ExR.cmp (HS1.out.kp (HK8.out.far17 (fun b hb _=>by have:=hb.al;omega)) (Nat.le_max_left _ _)) (HS4.out.kp (HJ8.out.far17 (fun b (hb:w3.heap.size≤b) _=>by omega)) (Nat.le_max_right _ _)),HR8.out.far17 hg,HX8.out.far17 (Nat.le_refl _)⟩
theorem cmp_pos_true_false_true (g:Nat)(E:Int)(P:Nat→PSt→ExprT×PSt)(t:PSt)(d:Nat)(w:World)(h:RdS g E w t d)
  (hside:∀t w,RdS g E w t d→(d=33→t.fe≠0)→Calls Tryz.prog 121 #[.pointer (some ⟨g,0,none⟩)] w (SideP g E w (sideF E P d t) d)) (hf:d=33→t.fe≠0)
  (ka na:Int) (sa:List UInt8) (pa:Bool) (ga:List SegT) (t1:PSt) (hst:sideF E P d t=(⟨true,ka,na,sa,⟨pa,ga⟩⟩,t1)) (o:Int) (ho:opS t1=o) (hpos:¬o<0)
  (kb nb:Int) (sb:List UInt8) (pb:Bool) (gb:List SegT) (t4:PSt) (hst4:sideF E P d (nextS E t1)=(⟨false,kb,nb,sb,⟨pb,gb⟩⟩,t4)) (hsg:singB ⟨pb,gb⟩=true) (hf3:d=33→(nextS E t1).fe≠0) (hln4:gb.length≤1000000) :
  Calls Tryz.prog 117 #[.pointer (some ⟨g,0,none⟩)] w (ExP g E w (cmpF E P d t) d):=by
 have hg:=h.lt
 have HR0:=hH (h.alloc (.cells E0 92))
 have HX0:=hH (show Ex g w (w.alloc (.cells E0 92)) from(Ex.refl g w).alloc _)
 have HB0:=hH (Blk.new w 92 E0)
 have HS0:=hH (hside t _ HR0.out hf)
 have hln:=sideF_len (E:=E) (P:=P) (d:=d) t
 have htb:=h.bound
 rw [hst] at HS0 hln
 unfold SideP at HS0
 unfold E0 at HR0 HX0 HB0 HS0
 simp only at HS0 hln
 have HE:=hH (show cmpF E P d t=(⟨4,[],path0,o,⟨true,ka,na,sa,⟨pa,ga⟩⟩,⟨false,kb,nb,sb,⟨pb,gb⟩⟩⟩,t4) by
  unfold cmpF
  rw [hst]
  unfold cmp2
  simp only
  rw [if_neg (by rw [ho];exact hpos),hst4,ho]
  exact Prod.ext rfl (ite_ff (show ((true:Bool)==false || !singB (if (true:Bool)=true then (⟨pb,gb⟩:PathT) else ⟨pa,ga⟩))=false by rw [if_pos rfl,hsg];rfl)))
 have HST4:=hH hst4
 have HSD:=hH hside
 have HF3:=hH hf3
 have HSG:=hH hsg
 have hlna:ga.length≤1000000:=by omega
 clear h hst hside hf hst4 hf3 hln htb hsg
 go_enter Tryz.func117, Tryz.ntmps117
 generalize hQ:bodyPost Tryz.prog Tryz.f117 (ExP g E w (cmpF E P d t) d)=Q
 have HQ:=hH hQ;clear hQ
 go_wp2_with fail
 refine HS0.out.mono ?_
 rintro e w1 ⟨m,A,c,rfl,hs,hr,hx⟩
 simp only at hs ⊢
 unfold sideV
 have HS1:=hH hs
 have hR1:=hr.alloc (.cells #[.bool true,.int .i64 ka,.int .i64 na,.string (bs sa),.bool pa,.slice A ga.length c] 90)
 have HR1:=hH hR1
 have HX1:=hH ((HX0.out.trans hx).alloc (.cells #[.bool true,.int .i64 ka,.int .i64 na,.string (bs sa),.bool pa,.slice A ga.length c] 90))
 have HB1:=hH ((HB0.out.ex hx (by omega)).alloc (.cells #[.bool true,.int .i64 ka,.int .i64 na,.string (bs sa),.bool pa,.slice A ga.length c] 90))
 have HA1:=hH (Blk.new w1 90 #[.bool true,.int .i64 ka,.int .i64 na,.string (bs sa),.bool pa,.slice A ga.length c])
 have HK1:=hH ((Kp.al (w:=w) (w':=w1) (o:=.cells E0 92)).alloc (.cells #[.bool true,.int .i64 ka,.int .i64 na,.string (bs sa),.bool pa,.slice A ga.length c] 90))
 have hw1:w.heap.size<w1.heap.size:=by have:=hx.size;simp at this;omega
 have HAT:=hH (at_any g E t1 d _ hR1)
 have HOP:=hH (op_any g E t1 d _ hR1)
 rw [ho] at HOP
 clear ho
 clear hs hR1 hr hx HS0 HB0 HX0 HR0
 go_wp2_with (first|(go_at_call 38;refine HAT.out.mono ?_;rintro e w' ⟨rfl,rfl⟩)|(go_at_call 122;refine HOP.out.mono ?_;rintro e w2 ⟨rfl,hr,hx⟩;have hR2:=hr;have HX2:=hH (HX1.out.trans hx);have HB2:=hH (HB1.out.ex hx (by omega));have HA2:=hH (HA1.out.ex hx (by omega));have HK2:=hH (HK1.out.ex hx (fun b hb _=>by have:=hb.al;omega));have HNX:=hH (next_any g E t1 d w2 hr);clear hr hx hR2)|(go_at_call 39;refine HNX.out.mono ?_;rintro e w3 ⟨rfl,hr,hx⟩;have HX3:=hH (HX2.out.trans hx);have HB3:=hH (HB2.out.ex hx (by omega));have HA3:=hH (HA2.out.ex hx (by omega));have HK3:=hH (HK2.out.ex hx (fun b hb _=>by have:=hb.al;omega));have HSB:=hH (HSD.out (nextS E t1) w3 hr HF3.out);clear hr hx))
 have HSC:=HSB.out
 rw [HST4.out] at HSC
 unfold SideP at HSC
 refine HSC.mono ?_
 rintro e w4 ⟨m4,A4,c4,rfl,hs,hr,hx⟩
 simp only at hs hr ⊢
 unfold sideV
 have hw3:w1.heap.size<w3.heap.size:=HA3.out.lt
 have hw4:=hx.size
 have hsz:(w4.alloc (.cells #[.bool false,.int .i64 kb,.int .i64 nb,.string (bs sb),.bool pb,.slice A4 gb.length c4] 90)).heap.size=w4.heap.size+1:=by simp
 have HS4:=hH hs
 have HR5:=hH ((hr.alloc (.cells #[.bool false,.int .i64 kb,.int .i64 nb,.string (bs sb),.bool pb,.slice A4 gb.length c4] 90)).alloc (.cells #[.bool pb,.slice A4 gb.length c4] 37))
 have HX5:=hH (((HX3.out.trans hx).alloc (.cells #[.bool false,.int .i64 kb,.int .i64 nb,.string (bs sb),.bool pb,.slice A4 gb.length c4] 90)).alloc (.cells #[.bool pb,.slice A4 gb.length c4] 37))
 have HB5:=hH (((HB3.out.ex hx (by omega)).alloc (.cells #[.bool false,.int .i64 kb,.int .i64 nb,.string (bs sb),.bool pb,.slice A4 gb.length c4] 90)).alloc (.cells #[.bool pb,.slice A4 gb.length c4] 37))
 have HA4:=HA3.out.ex hx (by omega)
 have HA5:=hH ((HA4.alloc (.cells #[.bool false,.int .i64 kb,.int .i64 nb,.string (bs sb),.bool pb,.slice A4 gb.length c4] 90)).alloc (.cells #[.bool pb,.slice A4 gb.length c4] 37))
 have HY5:=hH ((Blk.new w4 90 #[.bool false,.int .i64 kb,.int .i64 nb,.string (bs sb),.bool pb,.slice A4 gb.length c4]).alloc (.cells #[.bool pb,.slice A4 gb.length c4] 37))
 have HP5:=hH (Blk.new1 w4 (.cells #[.bool false,.int .i64 kb,.int .i64 nb,.string (bs sb),.bool pb,.slice A4 gb.length c4] 90) 37 #[.bool pb,.slice A4 gb.length c4])
 have HK5:=hH (((HK3.out.ex hx (fun b hb _=>by have:=hb.al;omega)).alloc (.cells #[.bool false,.int .i64 kb,.int .i64 nb,.string (bs sb),.bool pb,.slice A4 gb.length c4] 90)).alloc (.cells #[.bool pb,.slice A4 gb.length c4] 37))
 have HJ5:=hH (((Kp.id_ fun b (hb:w3.heap.size≤b) _=>(show w.heap.size≤b by omega):Kp (Fr w3) (Fr w) w4 w4).alloc (.cells #[.bool false,.int .i64 kb,.int .i64 nb,.string (bs sb),.bool pb,.slice A4 gb.length c4] 90)).alloc (.cells #[.bool pb,.slice A4 gb.length c4] 37))
 obtain⟨xz,⟨x0,x1,x2,x3,x4,x5⟩,⟨xf0,xf1,xf2,xf3,xf4,xf5⟩⟩:=HA4.c6
 clear hs hr hx HA4 HSC HSB HK3 HX3 HB3 HA3 HK2 HX2 HB2 HA2 HK1 HX1 HB1 HA1 HAT HOP HNX HSD HST4
 have HSS:=hH (singular_any ⟨pb,gb⟩ A4 c4 _ (by simp only;omega) (HS4.out.kp HJ5.out (Nat.le_refl _)))
 rw [HSG.out] at HSS
 have h1ge:w.heap.size<w4.heap.size:=by omega
 go_wp2_with (first|(go_at_call 123;refine HSS.out.mono ?_;rintro e w7 ⟨rfl,hb⟩;have HR7:=hH (HR5.out.bel hb);have HX7:=hH (HX5.out.belx hb);have HB7:=hH (HB5.out.belx hb);have HA7:=hH (HA5.out.belx hb);have HY7:=hH (HY5.out.belx hb);have HK7:=hH (HK5.out.belx hb);have HJ7:=hH (HJ5.out.belx hb);clear hb;clear xz x0 x1 x2 x3 x4 x5 xf0 xf1 xf2 xf3 xf4 xf5;obtain⟨xz,⟨x0,x1,x2,x3,x4,x5⟩,⟨xf0,xf1,xf2,xf3,xf4,xf5⟩⟩:=HA7.out.c6;obtain⟨yz,⟨y0,y1,y2,y3,y4,y5⟩,⟨yf0,yf1,yf2,yf3,yf4,yf5⟩⟩:=HY7.out.c6;obtain⟨z,⟨d0,d1,d2,d3,d4,d5,d6,d7,d8,d9,d10,d11,d12,d13,d14,d15,d16⟩,⟨f0,f1,f2,f3,f4,f5,f6,f7,f8,f9,f10,f11,f12,f13,f14,f15,f16⟩⟩:=HB7.out.c17))
 rw [←HQ.out,HE.out]
 refine bodyPost_ret (v:=exV ⟨4,[],path0,o,⟨true,ka,na,sa,⟨pa,ga⟩⟩,⟨false,kb,nb,sb,⟨pb,gb⟩⟩⟩ (.slice none 0 0) (.slice none 0 0) (.slice A ga.length c) (.slice A4 gb.length c4)) (results_cell_row (by rfl) _ _ w.heap.size _ _ _ _ (by rfl) (show Blk _ w.heap.size 92 _ from HB7.out.put17) Tryz.underlying92 (by rfl) (by kernel_rfl)) rfl ⟨max m m4+1,_,_,_,_,rfl,ExR.cmp (HS1.out.kp (HK7.out.far17 (fun b hb _=>by have:=hb.al;omega)) (Nat.le_max_left _ _)) (HS4.out.kp (HJ7.out.far17 (fun b (hb:w3.heap.size≤b) _=>by omega)) (Nat.le_max_right _ _)),HR7.out.far17 hg,HX7.out.far17 (Nat.le_refl _)⟩
theorem cmp_pos_true_false_false (g:Nat)(E:Int)(P:Nat→PSt→ExprT×PSt)(t:PSt)(d:Nat)(w:World)(h:RdS g E w t d)
  (hside:∀t w,RdS g E w t d→(d=33→t.fe≠0)→Calls Tryz.prog 121 #[.pointer (some ⟨g,0,none⟩)] w (SideP g E w (sideF E P d t) d)) (hf:d=33→t.fe≠0)
  (ka na:Int) (sa:List UInt8) (pa:Bool) (ga:List SegT) (t1:PSt) (hst:sideF E P d t=(⟨true,ka,na,sa,⟨pa,ga⟩⟩,t1)) (o:Int) (ho:opS t1=o) (hpos:¬o<0)
  (kb nb:Int) (sb:List UInt8) (pb:Bool) (gb:List SegT) (t4:PSt) (hst4:sideF E P d (nextS E t1)=(⟨false,kb,nb,sb,⟨pb,gb⟩⟩,t4)) (hsg:singB ⟨pb,gb⟩=false) (hf3:d=33→(nextS E t1).fe≠0) (hln4:gb.length≤1000000) :
  Calls Tryz.prog 117 #[.pointer (some ⟨g,0,none⟩)] w (ExP g E w (cmpF E P d t) d):=by
 have hg:=h.lt
 have HR0:=hH (h.alloc (.cells E0 92))
 have HX0:=hH (show Ex g w (w.alloc (.cells E0 92)) from(Ex.refl g w).alloc _)
 have HB0:=hH (Blk.new w 92 E0)
 have HS0:=hH (hside t _ HR0.out hf)
 have hln:=sideF_len (E:=E) (P:=P) (d:=d) t
 have htb:=h.bound
 rw [hst] at HS0 hln
 unfold SideP at HS0
 unfold E0 at HR0 HX0 HB0 HS0
 simp only at HS0 hln
 have HE:=hH (show cmpF E P d t=(⟨4,[],path0,o,⟨true,ka,na,sa,⟨pa,ga⟩⟩,⟨false,kb,nb,sb,⟨pb,gb⟩⟩⟩,failS (atS E t1) 8 t4) by
  unfold cmpF
  rw [hst]
  unfold cmp2
  simp only
  rw [if_neg (by rw [ho];exact hpos),hst4,ho]
  exact Prod.ext rfl (ite_tt (show ((true:Bool)==false || !singB (if (true:Bool)=true then (⟨pb,gb⟩:PathT) else ⟨pa,ga⟩))=true by rw [if_pos rfl,hsg];rfl)))
 have HST4:=hH hst4
 have HSD:=hH hside
 have HF3:=hH hf3
 have HSG:=hH hsg
 have hlna:ga.length≤1000000:=by omega
 clear h hst hside hf hst4 hf3 hln htb hsg
 go_enter Tryz.func117, Tryz.ntmps117
 generalize hQ:bodyPost Tryz.prog Tryz.f117 (ExP g E w (cmpF E P d t) d)=Q
 have HQ:=hH hQ;clear hQ
 go_wp2_with fail
 refine HS0.out.mono ?_
 rintro e w1 ⟨m,A,c,rfl,hs,hr,hx⟩
 simp only at hs ⊢
 unfold sideV
 have HS1:=hH hs
 have hR1:=hr.alloc (.cells #[.bool true,.int .i64 ka,.int .i64 na,.string (bs sa),.bool pa,.slice A ga.length c] 90)
 have HR1:=hH hR1
 have HX1:=hH ((HX0.out.trans hx).alloc (.cells #[.bool true,.int .i64 ka,.int .i64 na,.string (bs sa),.bool pa,.slice A ga.length c] 90))
 have HB1:=hH ((HB0.out.ex hx (by omega)).alloc (.cells #[.bool true,.int .i64 ka,.int .i64 na,.string (bs sa),.bool pa,.slice A ga.length c] 90))
 have HA1:=hH (Blk.new w1 90 #[.bool true,.int .i64 ka,.int .i64 na,.string (bs sa),.bool pa,.slice A ga.length c])
 have HK1:=hH ((Kp.al (w:=w) (w':=w1) (o:=.cells E0 92)).alloc (.cells #[.bool true,.int .i64 ka,.int .i64 na,.string (bs sa),.bool pa,.slice A ga.length c] 90))
 have hw1:w.heap.size<w1.heap.size:=by have:=hx.size;simp at this;omega
 have HAT:=hH (at_any g E t1 d _ hR1)
 have HOP:=hH (op_any g E t1 d _ hR1)
 rw [ho] at HOP
 clear ho
 clear hs hR1 hr hx HS0 HB0 HX0 HR0
 go_wp2_with (first|(go_at_call 38;refine HAT.out.mono ?_;rintro e w' ⟨rfl,rfl⟩)|(go_at_call 122;refine HOP.out.mono ?_;rintro e w2 ⟨rfl,hr,hx⟩;have hR2:=hr;have HX2:=hH (HX1.out.trans hx);have HB2:=hH (HB1.out.ex hx (by omega));have HA2:=hH (HA1.out.ex hx (by omega));have HK2:=hH (HK1.out.ex hx (fun b hb _=>by have:=hb.al;omega));have HNX:=hH (next_any g E t1 d w2 hr);clear hr hx hR2)|(go_at_call 39;refine HNX.out.mono ?_;rintro e w3 ⟨rfl,hr,hx⟩;have HX3:=hH (HX2.out.trans hx);have HB3:=hH (HB2.out.ex hx (by omega));have HA3:=hH (HA2.out.ex hx (by omega));have HK3:=hH (HK2.out.ex hx (fun b hb _=>by have:=hb.al;omega));have HSB:=hH (HSD.out (nextS E t1) w3 hr HF3.out);clear hr hx))
 have HSC:=HSB.out
 rw [HST4.out] at HSC
 unfold SideP at HSC
 refine HSC.mono ?_
 rintro e w4 ⟨m4,A4,c4,rfl,hs,hr,hx⟩
 simp only at hs hr ⊢
 unfold sideV
 have hw3:w1.heap.size<w3.heap.size:=HA3.out.lt
 have hw4:=hx.size
 have hsz:(w4.alloc (.cells #[.bool false,.int .i64 kb,.int .i64 nb,.string (bs sb),.bool pb,.slice A4 gb.length c4] 90)).heap.size=w4.heap.size+1:=by simp
 have HS4:=hH hs
 have HR5:=hH ((hr.alloc (.cells #[.bool false,.int .i64 kb,.int .i64 nb,.string (bs sb),.bool pb,.slice A4 gb.length c4] 90)).alloc (.cells #[.bool pb,.slice A4 gb.length c4] 37))
 have HX5:=hH (((HX3.out.trans hx).alloc (.cells #[.bool false,.int .i64 kb,.int .i64 nb,.string (bs sb),.bool pb,.slice A4 gb.length c4] 90)).alloc (.cells #[.bool pb,.slice A4 gb.length c4] 37))
 have HB5:=hH (((HB3.out.ex hx (by omega)).alloc (.cells #[.bool false,.int .i64 kb,.int .i64 nb,.string (bs sb),.bool pb,.slice A4 gb.length c4] 90)).alloc (.cells #[.bool pb,.slice A4 gb.length c4] 37))
 have HA4:=HA3.out.ex hx (by omega)
 have HA5:=hH ((HA4.alloc (.cells #[.bool false,.int .i64 kb,.int .i64 nb,.string (bs sb),.bool pb,.slice A4 gb.length c4] 90)).alloc (.cells #[.bool pb,.slice A4 gb.length c4] 37))
 have HY5:=hH ((Blk.new w4 90 #[.bool false,.int .i64 kb,.int .i64 nb,.string (bs sb),.bool pb,.slice A4 gb.length c4]).alloc (.cells #[.bool pb,.slice A4 gb.length c4] 37))
 have HP5:=hH (Blk.new1 w4 (.cells #[.bool false,.int .i64 kb,.int .i64 nb,.string (bs sb),.bool pb,.slice A4 gb.length c4] 90) 37 #[.bool pb,.slice A4 gb.length c4])
 have HK5:=hH (((HK3.out.ex hx (fun b hb _=>by have:=hb.al;omega)).alloc (.cells #[.bool false,.int .i64 kb,.int .i64 nb,.string (bs sb),.bool pb,.slice A4 gb.length c4] 90)).alloc (.cells #[.bool pb,.slice A4 gb.length c4] 37))
 have HJ5:=hH (((Kp.id_ fun b (hb:w3.heap.size≤b) _=>(show w.heap.size≤b by omega):Kp (Fr w3) (Fr w) w4 w4).alloc (.cells #[.bool false,.int .i64 kb,.int .i64 nb,.string (bs sb),.bool pb,.slice A4 gb.length c4] 90)).alloc (.cells #[.bool pb,.slice A4 gb.length c4] 37))
 obtain⟨xz,⟨x0,x1,x2,x3,x4,x5⟩,⟨xf0,xf1,xf2,xf3,xf4,xf5⟩⟩:=HA4.c6
 clear hs hr hx HA4 HSC HSB HK3 HX3 HB3 HA3 HK2 HX2 HB2 HA2 HK1 HX1 HB1 HA1 HAT HOP HNX HSD HST4
 have HSS:=hH (singular_any ⟨pb,gb⟩ A4 c4 _ (by simp only;omega) (HS4.out.kp HJ5.out (Nat.le_refl _)))
 rw [HSG.out] at HSS
 have h1ge:w.heap.size<w4.heap.size:=by omega
 go_wp2_with (first|(go_at_call 123;refine HSS.out.mono ?_;rintro e w7 ⟨rfl,hb⟩;have HR7:=hH (HR5.out.bel hb);have HX7:=hH (HX5.out.belx hb);have HB7:=hH (HB5.out.belx hb);have HA7:=hH (HA5.out.belx hb);have HY7:=hH (HY5.out.belx hb);have HK7:=hH (HK5.out.belx hb);have HJ7:=hH (HJ5.out.belx hb);clear hb;have HFL:=hH (fail_any g E t4 d (atS E t1) 8 w7 HR7.out))|(go_at_call 37;refine HFL.out.mono ?_;rintro e w8 ⟨rfl,hr,hx⟩;have HR8:=hH hr;have HX8:=hH (HX7.out.trans hx);have HB8:=hH (HB7.out.ex hx (by omega));have HA8:=hH (HA7.out.ex hx (by omega));have HY8:=hH (HY7.out.ex hx (by omega));have HK8:=hH (HK7.out.ex hx (fun b hb _=>by have:=hb.al;omega));have HJ8:=hH (HJ7.out.ex hx (fun b (hb:w3.heap.size≤b) _=>by omega));clear hr hx;clear xz x0 x1 x2 x3 x4 x5 xf0 xf1 xf2 xf3 xf4 xf5;obtain⟨xz,⟨x0,x1,x2,x3,x4,x5⟩,⟨xf0,xf1,xf2,xf3,xf4,xf5⟩⟩:=HA8.out.c6;obtain⟨yz,⟨y0,y1,y2,y3,y4,y5⟩,⟨yf0,yf1,yf2,yf3,yf4,yf5⟩⟩:=HY8.out.c6;obtain⟨z,⟨d0,d1,d2,d3,d4,d5,d6,d7,d8,d9,d10,d11,d12,d13,d14,d15,d16⟩,⟨f0,f1,f2,f3,f4,f5,f6,f7,f8,f9,f10,f11,f12,f13,f14,f15,f16⟩⟩:=HB8.out.c17))
 rw [←HQ.out,HE.out]
 refine bodyPost_ret (v:=exV ⟨4,[],path0,o,⟨true,ka,na,sa,⟨pa,ga⟩⟩,⟨false,kb,nb,sb,⟨pb,gb⟩⟩⟩ (.slice none 0 0) (.slice none 0 0) (.slice A ga.length c) (.slice A4 gb.length c4)) (results_cell_row (by rfl) _ _ w.heap.size _ _ _ _ (by rfl) (show Blk _ w.heap.size 92 _ from HB8.out.put17) Tryz.underlying92 (by rfl) (by kernel_rfl)) rfl ⟨max m m4+1,_,_,_,_,rfl,ExR.cmp (HS1.out.kp (HK8.out.far17 (fun b hb _=>by have:=hb.al;omega)) (Nat.le_max_left _ _)) (HS4.out.kp (HJ8.out.far17 (fun b (hb:w3.heap.size≤b) _=>by omega)) (Nat.le_max_right _ _)),HR8.out.far17 hg,HX8.out.far17 (Nat.le_refl _)⟩
theorem cmp_pos_false_true_true (g:Nat)(E:Int)(P:Nat→PSt→ExprT×PSt)(t:PSt)(d:Nat)(w:World)(h:RdS g E w t d)
  (hside:∀t w,RdS g E w t d→(d=33→t.fe≠0)→Calls Tryz.prog 121 #[.pointer (some ⟨g,0,none⟩)] w (SideP g E w (sideF E P d t) d)) (hf:d=33→t.fe≠0)
  (ka na:Int) (sa:List UInt8) (pa:Bool) (ga:List SegT) (t1:PSt) (hst:sideF E P d t=(⟨false,ka,na,sa,⟨pa,ga⟩⟩,t1)) (o:Int) (ho:opS t1=o) (hpos:¬o<0)
  (kb nb:Int) (sb:List UInt8) (pb:Bool) (gb:List SegT) (t4:PSt) (hst4:sideF E P d (nextS E t1)=(⟨true,kb,nb,sb,⟨pb,gb⟩⟩,t4)) (hsg:singB ⟨pa,ga⟩=true) (hf3:d=33→(nextS E t1).fe≠0)  :
  Calls Tryz.prog 117 #[.pointer (some ⟨g,0,none⟩)] w (ExP g E w (cmpF E P d t) d):=by
 have hg:=h.lt
 have HR0:=hH (h.alloc (.cells E0 92))
 have HX0:=hH (show Ex g w (w.alloc (.cells E0 92)) from(Ex.refl g w).alloc _)
 have HB0:=hH (Blk.new w 92 E0)
 have HS0:=hH (hside t _ HR0.out hf)
 have hln:=sideF_len (E:=E) (P:=P) (d:=d) t
 have htb:=h.bound
 rw [hst] at HS0 hln
 unfold SideP at HS0
 unfold E0 at HR0 HX0 HB0 HS0
 simp only at HS0 hln
 have HE:=hH (show cmpF E P d t=(⟨4,[],path0,o,⟨false,ka,na,sa,⟨pa,ga⟩⟩,⟨true,kb,nb,sb,⟨pb,gb⟩⟩⟩,t4) by
  unfold cmpF
  rw [hst]
  unfold cmp2
  simp only
  rw [if_neg (by rw [ho];exact hpos),hst4,ho]
  exact Prod.ext rfl (ite_ff (show ((false:Bool)==true || !singB (if (false:Bool)=true then (⟨pb,gb⟩:PathT) else ⟨pa,ga⟩))=false by rw [if_neg Bool.false_ne_true,hsg];rfl)))
 have HST4:=hH hst4
 have HSD:=hH hside
 have HF3:=hH hf3
 have HSG:=hH hsg
 have hlna:ga.length≤1000000:=by omega
 clear h hst hside hf hst4 hf3 hln htb hsg
 go_enter Tryz.func117, Tryz.ntmps117
 generalize hQ:bodyPost Tryz.prog Tryz.f117 (ExP g E w (cmpF E P d t) d)=Q
 have HQ:=hH hQ;clear hQ
 go_wp2_with fail
 refine HS0.out.mono ?_
 rintro e w1 ⟨m,A,c,rfl,hs,hr,hx⟩
 simp only at hs ⊢
 unfold sideV
 have HS1:=hH hs
 have hR1:=hr.alloc (.cells #[.bool false,.int .i64 ka,.int .i64 na,.string (bs sa),.bool pa,.slice A ga.length c] 90)
 have HR1:=hH hR1
 have HX1:=hH ((HX0.out.trans hx).alloc (.cells #[.bool false,.int .i64 ka,.int .i64 na,.string (bs sa),.bool pa,.slice A ga.length c] 90))
 have HB1:=hH ((HB0.out.ex hx (by omega)).alloc (.cells #[.bool false,.int .i64 ka,.int .i64 na,.string (bs sa),.bool pa,.slice A ga.length c] 90))
 have HA1:=hH (Blk.new w1 90 #[.bool false,.int .i64 ka,.int .i64 na,.string (bs sa),.bool pa,.slice A ga.length c])
 have HK1:=hH ((Kp.al (w:=w) (w':=w1) (o:=.cells E0 92)).alloc (.cells #[.bool false,.int .i64 ka,.int .i64 na,.string (bs sa),.bool pa,.slice A ga.length c] 90))
 have hw1:w.heap.size<w1.heap.size:=by have:=hx.size;simp at this;omega
 have HAT:=hH (at_any g E t1 d _ hR1)
 have HOP:=hH (op_any g E t1 d _ hR1)
 rw [ho] at HOP
 clear ho
 clear hs hR1 hr hx HS0 HB0 HX0 HR0
 go_wp2_with (first|(go_at_call 38;refine HAT.out.mono ?_;rintro e w' ⟨rfl,rfl⟩)|(go_at_call 122;refine HOP.out.mono ?_;rintro e w2 ⟨rfl,hr,hx⟩;have hR2:=hr;have HX2:=hH (HX1.out.trans hx);have HB2:=hH (HB1.out.ex hx (by omega));have HA2:=hH (HA1.out.ex hx (by omega));have HK2:=hH (HK1.out.ex hx (fun b hb _=>by have:=hb.al;omega));have HNX:=hH (next_any g E t1 d w2 hr);clear hr hx hR2)|(go_at_call 39;refine HNX.out.mono ?_;rintro e w3 ⟨rfl,hr,hx⟩;have HX3:=hH (HX2.out.trans hx);have HB3:=hH (HB2.out.ex hx (by omega));have HA3:=hH (HA2.out.ex hx (by omega));have HK3:=hH (HK2.out.ex hx (fun b hb _=>by have:=hb.al;omega));have HSB:=hH (HSD.out (nextS E t1) w3 hr HF3.out);clear hr hx))
 have HSC:=HSB.out
 rw [HST4.out] at HSC
 unfold SideP at HSC
 refine HSC.mono ?_
 rintro e w4 ⟨m4,A4,c4,rfl,hs,hr,hx⟩
 simp only at hs hr ⊢
 unfold sideV
 have hw3:w1.heap.size<w3.heap.size:=HA3.out.lt
 have hw4:=hx.size
 have hsz:(w4.alloc (.cells #[.bool true,.int .i64 kb,.int .i64 nb,.string (bs sb),.bool pb,.slice A4 gb.length c4] 90)).heap.size=w4.heap.size+1:=by simp
 have HS4:=hH hs
 have HR5:=hH ((hr.alloc (.cells #[.bool true,.int .i64 kb,.int .i64 nb,.string (bs sb),.bool pb,.slice A4 gb.length c4] 90)).alloc (.cells #[.bool pa,.slice A ga.length c] 37))
 have HX5:=hH (((HX3.out.trans hx).alloc (.cells #[.bool true,.int .i64 kb,.int .i64 nb,.string (bs sb),.bool pb,.slice A4 gb.length c4] 90)).alloc (.cells #[.bool pa,.slice A ga.length c] 37))
 have HB5:=hH (((HB3.out.ex hx (by omega)).alloc (.cells #[.bool true,.int .i64 kb,.int .i64 nb,.string (bs sb),.bool pb,.slice A4 gb.length c4] 90)).alloc (.cells #[.bool pa,.slice A ga.length c] 37))
 have HA4:=HA3.out.ex hx (by omega)
 have HA5:=hH ((HA4.alloc (.cells #[.bool true,.int .i64 kb,.int .i64 nb,.string (bs sb),.bool pb,.slice A4 gb.length c4] 90)).alloc (.cells #[.bool pa,.slice A ga.length c] 37))
 have HY5:=hH ((Blk.new w4 90 #[.bool true,.int .i64 kb,.int .i64 nb,.string (bs sb),.bool pb,.slice A4 gb.length c4]).alloc (.cells #[.bool pa,.slice A ga.length c] 37))
 have HP5:=hH (Blk.new1 w4 (.cells #[.bool true,.int .i64 kb,.int .i64 nb,.string (bs sb),.bool pb,.slice A4 gb.length c4] 90) 37 #[.bool pa,.slice A ga.length c])
 have HK5:=hH (((HK3.out.ex hx (fun b hb _=>by have:=hb.al;omega)).alloc (.cells #[.bool true,.int .i64 kb,.int .i64 nb,.string (bs sb),.bool pb,.slice A4 gb.length c4] 90)).alloc (.cells #[.bool pa,.slice A ga.length c] 37))
 have HJ5:=hH (((Kp.id_ fun b (hb:w3.heap.size≤b) _=>(show w.heap.size≤b by omega):Kp (Fr w3) (Fr w) w4 w4).alloc (.cells #[.bool true,.int .i64 kb,.int .i64 nb,.string (bs sb),.bool pb,.slice A4 gb.length c4] 90)).alloc (.cells #[.bool pa,.slice A ga.length c] 37))
 obtain⟨xz,⟨x0,x1,x2,x3,x4,x5⟩,⟨xf0,xf1,xf2,xf3,xf4,xf5⟩⟩:=HA4.c6
 clear hs hr hx HA4 HSC HSB HK3 HX3 HB3 HA3 HK2 HX2 HB2 HA2 HK1 HX1 HB1 HA1 HAT HOP HNX HSD HST4
 have HSS:=hH (singular_any ⟨pa,ga⟩ A c _ (by simp only;omega) (HS1.out.kp HK5.out (Nat.le_refl _)))
 rw [HSG.out] at HSS
 have h1ge:w.heap.size<w4.heap.size:=by omega
 go_wp2_with (first|(go_at_call 123;refine HSS.out.mono ?_;rintro e w7 ⟨rfl,hb⟩;have HR7:=hH (HR5.out.bel hb);have HX7:=hH (HX5.out.belx hb);have HB7:=hH (HB5.out.belx hb);have HA7:=hH (HA5.out.belx hb);have HY7:=hH (HY5.out.belx hb);have HK7:=hH (HK5.out.belx hb);have HJ7:=hH (HJ5.out.belx hb);clear hb;clear xz x0 x1 x2 x3 x4 x5 xf0 xf1 xf2 xf3 xf4 xf5;obtain⟨xz,⟨x0,x1,x2,x3,x4,x5⟩,⟨xf0,xf1,xf2,xf3,xf4,xf5⟩⟩:=HA7.out.c6;obtain⟨yz,⟨y0,y1,y2,y3,y4,y5⟩,⟨yf0,yf1,yf2,yf3,yf4,yf5⟩⟩:=HY7.out.c6;obtain⟨z,⟨d0,d1,d2,d3,d4,d5,d6,d7,d8,d9,d10,d11,d12,d13,d14,d15,d16⟩,⟨f0,f1,f2,f3,f4,f5,f6,f7,f8,f9,f10,f11,f12,f13,f14,f15,f16⟩⟩:=HB7.out.c17))
 rw [←HQ.out,HE.out]
 refine bodyPost_ret (v:=exV ⟨4,[],path0,o,⟨false,ka,na,sa,⟨pa,ga⟩⟩,⟨true,kb,nb,sb,⟨pb,gb⟩⟩⟩ (.slice none 0 0) (.slice none 0 0) (.slice A ga.length c) (.slice A4 gb.length c4)) (results_cell_row (by rfl) _ _ w.heap.size _ _ _ _ (by rfl) (show Blk _ w.heap.size 92 _ from HB7.out.put17) Tryz.underlying92 (by rfl) (by kernel_rfl)) rfl ⟨max m m4+1,_,_,_,_,rfl,ExR.cmp (HS1.out.kp (HK7.out.far17 (fun b hb _=>by have:=hb.al;omega)) (Nat.le_max_left _ _)) (HS4.out.kp (HJ7.out.far17 (fun b (hb:w3.heap.size≤b) _=>by omega)) (Nat.le_max_right _ _)),HR7.out.far17 hg,HX7.out.far17 (Nat.le_refl _)⟩
theorem cmp_pos_false_true_false (g:Nat)(E:Int)(P:Nat→PSt→ExprT×PSt)(t:PSt)(d:Nat)(w:World)(h:RdS g E w t d)
  (hside:∀t w,RdS g E w t d→(d=33→t.fe≠0)→Calls Tryz.prog 121 #[.pointer (some ⟨g,0,none⟩)] w (SideP g E w (sideF E P d t) d)) (hf:d=33→t.fe≠0)
  (ka na:Int) (sa:List UInt8) (pa:Bool) (ga:List SegT) (t1:PSt) (hst:sideF E P d t=(⟨false,ka,na,sa,⟨pa,ga⟩⟩,t1)) (o:Int) (ho:opS t1=o) (hpos:¬o<0)
  (kb nb:Int) (sb:List UInt8) (pb:Bool) (gb:List SegT) (t4:PSt) (hst4:sideF E P d (nextS E t1)=(⟨true,kb,nb,sb,⟨pb,gb⟩⟩,t4)) (hsg:singB ⟨pa,ga⟩=false) (hf3:d=33→(nextS E t1).fe≠0)  :
  Calls Tryz.prog 117 #[.pointer (some ⟨g,0,none⟩)] w (ExP g E w (cmpF E P d t) d):=by
 have hg:=h.lt
 have HR0:=hH (h.alloc (.cells E0 92))
 have HX0:=hH (show Ex g w (w.alloc (.cells E0 92)) from(Ex.refl g w).alloc _)
 have HB0:=hH (Blk.new w 92 E0)
 have HS0:=hH (hside t _ HR0.out hf)
 have hln:=sideF_len (E:=E) (P:=P) (d:=d) t
 have htb:=h.bound
 rw [hst] at HS0 hln
 unfold SideP at HS0
 unfold E0 at HR0 HX0 HB0 HS0
 simp only at HS0 hln
 have HE:=hH (show cmpF E P d t=(⟨4,[],path0,o,⟨false,ka,na,sa,⟨pa,ga⟩⟩,⟨true,kb,nb,sb,⟨pb,gb⟩⟩⟩,failS (atS E t1) 8 t4) by
  unfold cmpF
  rw [hst]
  unfold cmp2
  simp only
  rw [if_neg (by rw [ho];exact hpos),hst4,ho]
  exact Prod.ext rfl (ite_tt (show ((false:Bool)==true || !singB (if (false:Bool)=true then (⟨pb,gb⟩:PathT) else ⟨pa,ga⟩))=true by rw [if_neg Bool.false_ne_true,hsg];rfl)))
 have HST4:=hH hst4
 have HSD:=hH hside
 have HF3:=hH hf3
 have HSG:=hH hsg
 have hlna:ga.length≤1000000:=by omega
 clear h hst hside hf hst4 hf3 hln htb hsg
 go_enter Tryz.func117, Tryz.ntmps117
 generalize hQ:bodyPost Tryz.prog Tryz.f117 (ExP g E w (cmpF E P d t) d)=Q
 have HQ:=hH hQ;clear hQ
 go_wp2_with fail
 refine HS0.out.mono ?_
 rintro e w1 ⟨m,A,c,rfl,hs,hr,hx⟩
 simp only at hs ⊢
 unfold sideV
 have HS1:=hH hs
 have hR1:=hr.alloc (.cells #[.bool false,.int .i64 ka,.int .i64 na,.string (bs sa),.bool pa,.slice A ga.length c] 90)
 have HR1:=hH hR1
 have HX1:=hH ((HX0.out.trans hx).alloc (.cells #[.bool false,.int .i64 ka,.int .i64 na,.string (bs sa),.bool pa,.slice A ga.length c] 90))
 have HB1:=hH ((HB0.out.ex hx (by omega)).alloc (.cells #[.bool false,.int .i64 ka,.int .i64 na,.string (bs sa),.bool pa,.slice A ga.length c] 90))
 have HA1:=hH (Blk.new w1 90 #[.bool false,.int .i64 ka,.int .i64 na,.string (bs sa),.bool pa,.slice A ga.length c])
 have HK1:=hH ((Kp.al (w:=w) (w':=w1) (o:=.cells E0 92)).alloc (.cells #[.bool false,.int .i64 ka,.int .i64 na,.string (bs sa),.bool pa,.slice A ga.length c] 90))
 have hw1:w.heap.size<w1.heap.size:=by have:=hx.size;simp at this;omega
 have HAT:=hH (at_any g E t1 d _ hR1)
 have HOP:=hH (op_any g E t1 d _ hR1)
 rw [ho] at HOP
 clear ho
 clear hs hR1 hr hx HS0 HB0 HX0 HR0
 go_wp2_with (first|(go_at_call 38;refine HAT.out.mono ?_;rintro e w' ⟨rfl,rfl⟩)|(go_at_call 122;refine HOP.out.mono ?_;rintro e w2 ⟨rfl,hr,hx⟩;have hR2:=hr;have HX2:=hH (HX1.out.trans hx);have HB2:=hH (HB1.out.ex hx (by omega));have HA2:=hH (HA1.out.ex hx (by omega));have HK2:=hH (HK1.out.ex hx (fun b hb _=>by have:=hb.al;omega));have HNX:=hH (next_any g E t1 d w2 hr);clear hr hx hR2)|(go_at_call 39;refine HNX.out.mono ?_;rintro e w3 ⟨rfl,hr,hx⟩;have HX3:=hH (HX2.out.trans hx);have HB3:=hH (HB2.out.ex hx (by omega));have HA3:=hH (HA2.out.ex hx (by omega));have HK3:=hH (HK2.out.ex hx (fun b hb _=>by have:=hb.al;omega));have HSB:=hH (HSD.out (nextS E t1) w3 hr HF3.out);clear hr hx))
 have HSC:=HSB.out
 rw [HST4.out] at HSC
 unfold SideP at HSC
 refine HSC.mono ?_
 rintro e w4 ⟨m4,A4,c4,rfl,hs,hr,hx⟩
 simp only at hs hr ⊢
 unfold sideV
 have hw3:w1.heap.size<w3.heap.size:=HA3.out.lt
 have hw4:=hx.size
 have hsz:(w4.alloc (.cells #[.bool true,.int .i64 kb,.int .i64 nb,.string (bs sb),.bool pb,.slice A4 gb.length c4] 90)).heap.size=w4.heap.size+1:=by simp
 have HS4:=hH hs
 have HR5:=hH ((hr.alloc (.cells #[.bool true,.int .i64 kb,.int .i64 nb,.string (bs sb),.bool pb,.slice A4 gb.length c4] 90)).alloc (.cells #[.bool pa,.slice A ga.length c] 37))
 have HX5:=hH (((HX3.out.trans hx).alloc (.cells #[.bool true,.int .i64 kb,.int .i64 nb,.string (bs sb),.bool pb,.slice A4 gb.length c4] 90)).alloc (.cells #[.bool pa,.slice A ga.length c] 37))
 have HB5:=hH (((HB3.out.ex hx (by omega)).alloc (.cells #[.bool true,.int .i64 kb,.int .i64 nb,.string (bs sb),.bool pb,.slice A4 gb.length c4] 90)).alloc (.cells #[.bool pa,.slice A ga.length c] 37))
 have HA4:=HA3.out.ex hx (by omega)
 have HA5:=hH ((HA4.alloc (.cells #[.bool true,.int .i64 kb,.int .i64 nb,.string (bs sb),.bool pb,.slice A4 gb.length c4] 90)).alloc (.cells #[.bool pa,.slice A ga.length c] 37))
 have HY5:=hH ((Blk.new w4 90 #[.bool true,.int .i64 kb,.int .i64 nb,.string (bs sb),.bool pb,.slice A4 gb.length c4]).alloc (.cells #[.bool pa,.slice A ga.length c] 37))
 have HP5:=hH (Blk.new1 w4 (.cells #[.bool true,.int .i64 kb,.int .i64 nb,.string (bs sb),.bool pb,.slice A4 gb.length c4] 90) 37 #[.bool pa,.slice A ga.length c])
 have HK5:=hH (((HK3.out.ex hx (fun b hb _=>by have:=hb.al;omega)).alloc (.cells #[.bool true,.int .i64 kb,.int .i64 nb,.string (bs sb),.bool pb,.slice A4 gb.length c4] 90)).alloc (.cells #[.bool pa,.slice A ga.length c] 37))
 have HJ5:=hH (((Kp.id_ fun b (hb:w3.heap.size≤b) _=>(show w.heap.size≤b by omega):Kp (Fr w3) (Fr w) w4 w4).alloc (.cells #[.bool true,.int .i64 kb,.int .i64 nb,.string (bs sb),.bool pb,.slice A4 gb.length c4] 90)).alloc (.cells #[.bool pa,.slice A ga.length c] 37))
 obtain⟨xz,⟨x0,x1,x2,x3,x4,x5⟩,⟨xf0,xf1,xf2,xf3,xf4,xf5⟩⟩:=HA4.c6
 clear hs hr hx HA4 HSC HSB HK3 HX3 HB3 HA3 HK2 HX2 HB2 HA2 HK1 HX1 HB1 HA1 HAT HOP HNX HSD HST4
 have HSS:=hH (singular_any ⟨pa,ga⟩ A c _ (by simp only;omega) (HS1.out.kp HK5.out (Nat.le_refl _)))
 rw [HSG.out] at HSS
 have h1ge:w.heap.size<w4.heap.size:=by omega
 go_wp2_with (first|(go_at_call 123;refine HSS.out.mono ?_;rintro e w7 ⟨rfl,hb⟩;have HR7:=hH (HR5.out.bel hb);have HX7:=hH (HX5.out.belx hb);have HB7:=hH (HB5.out.belx hb);have HA7:=hH (HA5.out.belx hb);have HY7:=hH (HY5.out.belx hb);have HK7:=hH (HK5.out.belx hb);have HJ7:=hH (HJ5.out.belx hb);clear hb;have HFL:=hH (fail_any g E t4 d (atS E t1) 8 w7 HR7.out))|(go_at_call 37;refine HFL.out.mono ?_;rintro e w8 ⟨rfl,hr,hx⟩;have HR8:=hH hr;have HX8:=hH (HX7.out.trans hx);have HB8:=hH (HB7.out.ex hx (by omega));have HA8:=hH (HA7.out.ex hx (by omega));have HY8:=hH (HY7.out.ex hx (by omega));have HK8:=hH (HK7.out.ex hx (fun b hb _=>by have:=hb.al;omega));have HJ8:=hH (HJ7.out.ex hx (fun b (hb:w3.heap.size≤b) _=>by omega));clear hr hx;clear xz x0 x1 x2 x3 x4 x5 xf0 xf1 xf2 xf3 xf4 xf5;obtain⟨xz,⟨x0,x1,x2,x3,x4,x5⟩,⟨xf0,xf1,xf2,xf3,xf4,xf5⟩⟩:=HA8.out.c6;obtain⟨yz,⟨y0,y1,y2,y3,y4,y5⟩,⟨yf0,yf1,yf2,yf3,yf4,yf5⟩⟩:=HY8.out.c6;obtain⟨z,⟨d0,d1,d2,d3,d4,d5,d6,d7,d8,d9,d10,d11,d12,d13,d14,d15,d16⟩,⟨f0,f1,f2,f3,f4,f5,f6,f7,f8,f9,f10,f11,f12,f13,f14,f15,f16⟩⟩:=HB8.out.c17))
 rw [←HQ.out,HE.out]
 refine bodyPost_ret (v:=exV ⟨4,[],path0,o,⟨false,ka,na,sa,⟨pa,ga⟩⟩,⟨true,kb,nb,sb,⟨pb,gb⟩⟩⟩ (.slice none 0 0) (.slice none 0 0) (.slice A ga.length c) (.slice A4 gb.length c4)) (results_cell_row (by rfl) _ _ w.heap.size _ _ _ _ (by rfl) (show Blk _ w.heap.size 92 _ from HB8.out.put17) Tryz.underlying92 (by rfl) (by kernel_rfl)) rfl ⟨max m m4+1,_,_,_,_,rfl,ExR.cmp (HS1.out.kp (HK8.out.far17 (fun b hb _=>by have:=hb.al;omega)) (Nat.le_max_left _ _)) (HS4.out.kp (HJ8.out.far17 (fun b (hb:w3.heap.size≤b) _=>by omega)) (Nat.le_max_right _ _)),HR8.out.far17 hg,HX8.out.far17 (Nat.le_refl _)⟩
theorem cmp_pos_false_false (g:Nat)(E:Int)(P:Nat→PSt→ExprT×PSt)(t:PSt)(d:Nat)(w:World)(h:RdS g E w t d)
  (hside:∀t w,RdS g E w t d→(d=33→t.fe≠0)→Calls Tryz.prog 121 #[.pointer (some ⟨g,0,none⟩)] w (SideP g E w (sideF E P d t) d)) (hf:d=33→t.fe≠0)
  (ka na:Int) (sa:List UInt8) (pa:Bool) (ga:List SegT) (t1:PSt) (hst:sideF E P d t=(⟨false,ka,na,sa,⟨pa,ga⟩⟩,t1)) (o:Int) (ho:opS t1=o) (hpos:¬o<0)
  (kb nb:Int) (sb:List UInt8) (pb:Bool) (gb:List SegT) (t4:PSt) (hst4:sideF E P d (nextS E t1)=(⟨false,kb,nb,sb,⟨pb,gb⟩⟩,t4)) (hf3:d=33→(nextS E t1).fe≠0)  :
  Calls Tryz.prog 117 #[.pointer (some ⟨g,0,none⟩)] w (ExP g E w (cmpF E P d t) d):=by
 have hg:=h.lt
 have HR0:=hH (h.alloc (.cells E0 92))
 have HX0:=hH (show Ex g w (w.alloc (.cells E0 92)) from(Ex.refl g w).alloc _)
 have HB0:=hH (Blk.new w 92 E0)
 have HS0:=hH (hside t _ HR0.out hf)
 have hln:=sideF_len (E:=E) (P:=P) (d:=d) t
 have htb:=h.bound
 rw [hst] at HS0 hln
 unfold SideP at HS0
 unfold E0 at HR0 HX0 HB0 HS0
 simp only at HS0 hln
 have HE:=hH (show cmpF E P d t=(⟨4,[],path0,o,⟨false,ka,na,sa,⟨pa,ga⟩⟩,⟨false,kb,nb,sb,⟨pb,gb⟩⟩⟩,failS (atS E t1) 8 t4) by
  unfold cmpF
  rw [hst]
  unfold cmp2
  simp only
  rw [if_neg (by rw [ho];exact hpos),hst4,ho]
  simp only
  rfl)
 have HST4:=hH hst4
 have HSD:=hH hside
 have HF3:=hH hf3
 have hlna:ga.length≤1000000:=by omega
 clear h hst hside hf hst4 hf3 hln htb
 go_enter Tryz.func117, Tryz.ntmps117
 generalize hQ:bodyPost Tryz.prog Tryz.f117 (ExP g E w (cmpF E P d t) d)=Q
 have HQ:=hH hQ;clear hQ
 go_wp2_with fail
 refine HS0.out.mono ?_
 rintro e w1 ⟨m,A,c,rfl,hs,hr,hx⟩
 simp only at hs ⊢
 unfold sideV
 have HS1:=hH hs
 have hR1:=hr.alloc (.cells #[.bool false,.int .i64 ka,.int .i64 na,.string (bs sa),.bool pa,.slice A ga.length c] 90)
 have HR1:=hH hR1
 have HX1:=hH ((HX0.out.trans hx).alloc (.cells #[.bool false,.int .i64 ka,.int .i64 na,.string (bs sa),.bool pa,.slice A ga.length c] 90))
 have HB1:=hH ((HB0.out.ex hx (by omega)).alloc (.cells #[.bool false,.int .i64 ka,.int .i64 na,.string (bs sa),.bool pa,.slice A ga.length c] 90))
 have HA1:=hH (Blk.new w1 90 #[.bool false,.int .i64 ka,.int .i64 na,.string (bs sa),.bool pa,.slice A ga.length c])
 have HK1:=hH ((Kp.al (w:=w) (w':=w1) (o:=.cells E0 92)).alloc (.cells #[.bool false,.int .i64 ka,.int .i64 na,.string (bs sa),.bool pa,.slice A ga.length c] 90))
 have hw1:w.heap.size<w1.heap.size:=by have:=hx.size;simp at this;omega
 have HAT:=hH (at_any g E t1 d _ hR1)
 have HOP:=hH (op_any g E t1 d _ hR1)
 rw [ho] at HOP
 clear ho
 clear hs hR1 hr hx HS0 HB0 HX0 HR0
 go_wp2_with (first|(go_at_call 38;refine HAT.out.mono ?_;rintro e w' ⟨rfl,rfl⟩)|(go_at_call 122;refine HOP.out.mono ?_;rintro e w2 ⟨rfl,hr,hx⟩;have hR2:=hr;have HX2:=hH (HX1.out.trans hx);have HB2:=hH (HB1.out.ex hx (by omega));have HA2:=hH (HA1.out.ex hx (by omega));have HK2:=hH (HK1.out.ex hx (fun b hb _=>by have:=hb.al;omega));have HNX:=hH (next_any g E t1 d w2 hr);clear hr hx hR2)|(go_at_call 39;refine HNX.out.mono ?_;rintro e w3 ⟨rfl,hr,hx⟩;have HX3:=hH (HX2.out.trans hx);have HB3:=hH (HB2.out.ex hx (by omega));have HA3:=hH (HA2.out.ex hx (by omega));have HK3:=hH (HK2.out.ex hx (fun b hb _=>by have:=hb.al;omega));have HSB:=hH (HSD.out (nextS E t1) w3 hr HF3.out);clear hr hx))
 have HSC:=HSB.out
 rw [HST4.out] at HSC
 unfold SideP at HSC
 refine HSC.mono ?_
 rintro e w4 ⟨m4,A4,c4,rfl,hs,hr,hx⟩
 simp only at hs hr ⊢
 unfold sideV
 have hw3:w1.heap.size<w3.heap.size:=HA3.out.lt
 have hw4:=hx.size
 have hsz:(w4.alloc (.cells #[.bool false,.int .i64 kb,.int .i64 nb,.string (bs sb),.bool pb,.slice A4 gb.length c4] 90)).heap.size=w4.heap.size+1:=by simp
 have HS4:=hH hs
 have HR5:=hH ((hr.alloc (.cells #[.bool false,.int .i64 kb,.int .i64 nb,.string (bs sb),.bool pb,.slice A4 gb.length c4] 90)).alloc (.cells #[.bool pa,.slice A ga.length c] 37))
 have HX5:=hH (((HX3.out.trans hx).alloc (.cells #[.bool false,.int .i64 kb,.int .i64 nb,.string (bs sb),.bool pb,.slice A4 gb.length c4] 90)).alloc (.cells #[.bool pa,.slice A ga.length c] 37))
 have HB5:=hH (((HB3.out.ex hx (by omega)).alloc (.cells #[.bool false,.int .i64 kb,.int .i64 nb,.string (bs sb),.bool pb,.slice A4 gb.length c4] 90)).alloc (.cells #[.bool pa,.slice A ga.length c] 37))
 have HA4:=HA3.out.ex hx (by omega)
 have HA5:=hH ((HA4.alloc (.cells #[.bool false,.int .i64 kb,.int .i64 nb,.string (bs sb),.bool pb,.slice A4 gb.length c4] 90)).alloc (.cells #[.bool pa,.slice A ga.length c] 37))
 have HY5:=hH ((Blk.new w4 90 #[.bool false,.int .i64 kb,.int .i64 nb,.string (bs sb),.bool pb,.slice A4 gb.length c4]).alloc (.cells #[.bool pa,.slice A ga.length c] 37))
 have HP5:=hH (Blk.new1 w4 (.cells #[.bool false,.int .i64 kb,.int .i64 nb,.string (bs sb),.bool pb,.slice A4 gb.length c4] 90) 37 #[.bool pa,.slice A ga.length c])
 have HK5:=hH (((HK3.out.ex hx (fun b hb _=>by have:=hb.al;omega)).alloc (.cells #[.bool false,.int .i64 kb,.int .i64 nb,.string (bs sb),.bool pb,.slice A4 gb.length c4] 90)).alloc (.cells #[.bool pa,.slice A ga.length c] 37))
 have HJ5:=hH (((Kp.id_ fun b (hb:w3.heap.size≤b) _=>(show w.heap.size≤b by omega):Kp (Fr w3) (Fr w) w4 w4).alloc (.cells #[.bool false,.int .i64 kb,.int .i64 nb,.string (bs sb),.bool pb,.slice A4 gb.length c4] 90)).alloc (.cells #[.bool pa,.slice A ga.length c] 37))
 obtain⟨xz,⟨x0,x1,x2,x3,x4,x5⟩,⟨xf0,xf1,xf2,xf3,xf4,xf5⟩⟩:=HA4.c6
 clear hs hr hx HA4 HSC HSB HK3 HX3 HB3 HA3 HK2 HX2 HB2 HA2 HK1 HX1 HB1 HA1 HAT HOP HNX HSD HST4
 have HFL:=hH (fail_any g E t4 d (atS E t1) 8 _ HR5.out)
 have h1ge:w.heap.size<w4.heap.size:=by omega
 go_wp2_with (first|(go_at_call 37;refine HFL.out.mono ?_;rintro e w8 ⟨rfl,hr,hx⟩;have HR8:=hH hr;have HX8:=hH (HX5.out.trans hx);have HB8:=hH (HB5.out.ex hx (by omega));have HA8:=hH (HA5.out.ex hx (by omega));have HY8:=hH (HY5.out.ex hx (by omega));have HK8:=hH (HK5.out.ex hx (fun b hb _=>by have:=hb.al;omega));have HJ8:=hH (HJ5.out.ex hx (fun b (hb:w3.heap.size≤b) _=>by omega));clear hr hx;clear xz x0 x1 x2 x3 x4 x5 xf0 xf1 xf2 xf3 xf4 xf5;obtain⟨xz,⟨x0,x1,x2,x3,x4,x5⟩,⟨xf0,xf1,xf2,xf3,xf4,xf5⟩⟩:=HA8.out.c6;obtain⟨yz,⟨y0,y1,y2,y3,y4,y5⟩,⟨yf0,yf1,yf2,yf3,yf4,yf5⟩⟩:=HY8.out.c6;obtain⟨z,⟨d0,d1,d2,d3,d4,d5,d6,d7,d8,d9,d10,d11,d12,d13,d14,d15,d16⟩,⟨f0,f1,f2,f3,f4,f5,f6,f7,f8,f9,f10,f11,f12,f13,f14,f15,f16⟩⟩:=HB8.out.c17))
 rw [←HQ.out,HE.out]
 refine bodyPost_ret (v:=exV ⟨4,[],path0,o,⟨false,ka,na,sa,⟨pa,ga⟩⟩,⟨false,kb,nb,sb,⟨pb,gb⟩⟩⟩ (.slice none 0 0) (.slice none 0 0) (.slice A ga.length c) (.slice A4 gb.length c4)) (results_cell_row (by rfl) _ _ w.heap.size _ _ _ _ (by rfl) (show Blk _ w.heap.size 92 _ from HB8.out.put17) Tryz.underlying92 (by rfl) (by kernel_rfl)) rfl ⟨max m m4+1,_,_,_,_,rfl,ExR.cmp (HS1.out.kp (HK8.out.far17 (fun b hb _=>by have:=hb.al;omega)) (Nat.le_max_left _ _)) (HS4.out.kp (HJ8.out.far17 (fun b (hb:w3.heap.size≤b) _=>by omega)) (Nat.le_max_right _ _)),HR8.out.far17 hg,HX8.out.far17 (Nat.le_refl _)⟩
end Go.Proofs.YtjbdcjcfijjiiaaGreatDoor
