/- NG07: Qd, Qe0 joined. -/
import Derived.Test.YtjbdcjcfijjiiaaGreatDoorNG06
namespace Go.Proofs.YtjbdcjcfijjiiaaGreatDoor
open Go.RowKit
/- qtree: the reader: next, take, must, open, close, number. -/
section
open Go.RowKit
set_option maxRecDepth 100000
set_option maxHeartbeats 1000000
theorem nextS_ov {E:Int}{t:PSt}(h:ovS t=true):nextS E t=formS E t∧hdT t=tok0:=by
 unfold ovS at h
 by_cases hf:t.fe=0
 ·have:t.toks=[]:=by
   rw [hf] at h
   cases ht:t.toks with
   | nil=>rfl
   | cons x r=>rw [ht] at h;simp at h
  unfold nextS hdT
  rw [if_pos hf,if_pos hf,this]
  exact⟨rfl,rfl⟩
 ·exact⟨by rw [nextS_bad hf,formS_bad hf],hdT_bad hf⟩
theorem ov_no {t:PSt}(h:ovS t=false):∃x r,t=⟨x::r,0,t.fa⟩:=by
 obtain⟨toks,fe,fa⟩:=t
 unfold ovS at h
 simp only [Bool.or_eq_false_iff,bne_eq_false_iff_eq] at h
 obtain⟨rfl,ht⟩:=h
 cases toks with
 | nil=>simp at ht
 | cons x r=>exact⟨x,r,rfl⟩
theorem RdS.moved {g:Nat}{E:Int}{w:World}{x:TokD}{r:List TokD}{fe fa:Int}{d:Nat}(h:RdS g E w ⟨x::r,fe,fa⟩ d){A:Option Addr}{n c:Nat}(hn:n=r.length)(hc:n≤c)(hc2:c≤9223372036854775807)(hT:TkB g w A r) :
  RdS g E (w.setCell ⟨g,0,none⟩ (.slice A n c)) ⟨r,fe,fa⟩ d:=by
 obtain⟨A0,c0,h1,h2,h3,h4,h5⟩:=h
 subst hn
 exact⟨A,c,h1.set_ 0 _,hc,⟨hc2,by have:=h3.2;simp only [List.length_cons] at this ⊢;omega⟩,h4,hT.keep fun k hk=>Below.heap_setCell w ⟨g,0,none⟩ _ k (by show k≠g;omega)⟩
theorem TkB.bel {g:Nat}{w w':World}{A:Option Addr}{toks:List TokD}(h:TkB g w A toks)(hb:Bel g w w'):TkB g w' A toks:=h.keep hb.block
theorem tok_f1 (a n m:Int)(s:ByteArray)(q:Bool)(w:World):(Instr.field 72 (.agg #[.int .i64 a,.string s,.int .i64 n,.int .i64 m,.bool q]) 1).run Tryz.prog w=.ok (.string s) w:=by kernel_rfl
theorem tok_f2 (a n m:Int)(s:ByteArray)(q:Bool)(w:World):(Instr.field 72 (.agg #[.int .i64 a,.string s,.int .i64 n,.int .i64 m,.bool q]) 2).run Tryz.prog w=.ok (.int .i64 n) w:=by kernel_rfl
def tokA (x:TokD):Value:=.agg #[.int .i64 x.kind,.string (bs x.s),.int .i64 x.n,.int .i64 (x.at_:Nat),.bool x.gap]
theorem next_any (g:Nat)(E:Int)(t:PSt)(d:Nat)(w:World)(h:RdS g E w t d) :
  Calls Tryz.prog 39 #[.pointer (some ⟨g,0,none⟩)] w fun e w'=>e=.returned (tokA (hdT t))∧RdS g E w' (nextS E t) d∧Ex g w w':=by
 have hg:=h.lt
 have HR:=hH (h.alloc (.cells #[.int .i64 0,.string ⟨#[]⟩,.int .i64 0,.int .i64 0,.bool false] 72))
 cases hb:ovS t with
 | true =>
  obtain⟨hn,ht⟩:=nextS_ov (E:=E) hb
  rw [hn,ht]
  have HO:=hH (over_at true _ HR.out (hH hb))
  have HF:=hH (form_any g E t d _ HR.out)
  clear hb hn ht h
  go_enter Tryz.func39, Tryz.ntmps39
  go_wp2_with (first|(go_at_call 22;refine HO.out.mono ?_;rintro e w' ⟨rfl,rfl⟩)|(go_at_call 20;refine HF.out.mono ?_;rintro e w1 ⟨rfl,hr,hx⟩;have HB:=hH ((Blk.new w 72 #[.int .i64 0,.string ⟨#[]⟩,.int .i64 0,.int .i64 0,.bool false]).ex hx (by omega));have HR1:=hH hr;have HX:=hH hx;clear hr hx;have z:=HB.out.lt;have d0:=HB.out.cell 0;have d1:=HB.out.cell 1;have d2:=HB.out.cell 2;have d3:=HB.out.cell 3;have d4:=HB.out.cell 4;have f0:=HB.out.frozen 0;have f1:=HB.out.frozen 1;have f2:=HB.out.frozen 2;have f3:=HB.out.frozen 3;have f4:=HB.out.frozen 4;simp only [List.getElem?_toArray,List.getElem?_cons_zero,List.getElem?_cons_succ] at d0 d1 d2 d3 d4))
  refine bodyPost_ret (v:=tokA tok0) (by simp [results,Tryz.results39,go_sem,tokA,tok0,bs,d0,d1,d2,d3,d4]) rfl ⟨rfl,?_,?_⟩
  ·exact((((HR1.out.far (by simpa using hg) _).far (by simpa using hg) _).far (by simpa using hg) _).far (by simpa using hg) _).far (by simpa using hg) _
  ·exact(((((((Ex.refl g w).alloc _).trans HX.out).set_ (.inr (Nat.le_refl _)) _).set_ (.inr (Nat.le_refl _)) _).set_ (.inr (Nat.le_refl _)) _).set_ (.inr (Nat.le_refl _)) _).set_ (.inr (Nat.le_refl _)) _
 | false =>
  obtain⟨x,r,ht⟩:=ov_no hb
  obtain⟨fa,hfa⟩:∃fa,t.fa=fa:=⟨_,rfl⟩
  rw [hfa] at ht
  have HO:=hH (over_at false _ HR.out (hH hb))
  subst ht
  obtain⟨A,c,n,hn,hnc,hc,hd,hg,⟨c0,c1,c2,c3,c4⟩,⟨f0,f2,f3,f4⟩,hT⟩:=h.cells
  obtain⟨b,off,rfl,hb,d0,d1,d2,d3,d4⟩:=hT.head
  have HT:=hH hT.tail
  have hbw:b<w.heap.size:=by omega
  simp only [List.length_cons] at hn
  have hn0:0<n:=by omega
  have HH:=hH (show hdT ⟨x::r,0,fa⟩=x from rfl)
  have HN:=hH (show nextS E ⟨x::r,0,fa⟩=⟨r,0,fa⟩ from rfl)
  have HNN:=hH hn
  clear hn hT
  by_cases hc1:c=1
  ·have hr:r=[]:=List.eq_nil_of_length_eq_zero (by have:=HNN.out;omega)
   subst hc1
   obtain rfl:n=1:=by omega
   have HRN:=hH hr
   clear hr
   go_enter Tryz.func39, Tryz.ntmps39
   go_wp2_with (go_at_call 22;refine HO.out.mono ?_;rintro e w' ⟨rfl,rfl⟩)
   refine bodyPost_ret (v:=tokA x) (by simp [results,Tryz.results39,go_sem,tokA]) rfl ⟨rfl,?_,?_⟩
   ·exact((h.moved (by rw [HRN.out];rfl) (by omega) (by omega) (.inl HRN.out)).alloc _).alloc _
   ·exact(((Ex.refl g w).self1 0 _).alloc _).alloc _
  ·go_enter Tryz.func39, Tryz.ntmps39
   go_wp2_with (go_at_call 22;refine HO.out.mono ?_;rintro e w' ⟨rfl,rfl⟩)
   refine bodyPost_ret (v:=tokA x) (by simp [results,Tryz.results39,go_sem,tokA]) rfl ⟨rfl,?_,?_⟩
   ·exact((h.moved (by have:=HNN.out;omega) (by omega) (by omega) HT.out).alloc _).alloc _
   ·exact(((Ex.refl g w).self1 0 _).alloc _).alloc _
theorem take_any (g:Nat)(E:Int)(t:PSt)(d:Nat)(s:ByteArray)(b:Bool)(w:World)(h:RdS g E w t d)(hb:Hid (isS s.data.toList t=b)) :
  Calls Tryz.prog 62 #[.pointer (some ⟨g,0,none⟩),.string s] w fun e w'=>e=.returned (.bool b)∧RdS g E w' (if b then nextS E t else t) d∧Ex g w w':=by
 have HI:=hH (is_at s b w h hb)
 have HN:=hH (next_any g E t d w h)
 have HR:=hH h
 clear hb h
 unfold tokA at HN
 cases b with
 | true =>
  go_enter Tryz.func62, Tryz.ntmps62
  go_wp2_with (first|(go_at_call 19;refine HI.out.mono ?_;rintro e w' ⟨rfl,rfl⟩)|(go_at_call 39;refine HN.out.mono ?_;rintro e w' ⟨rfl,hr,hx⟩))
  go_ret
  exact⟨rfl,hr,hx⟩
 | false =>
  go_enter Tryz.func62, Tryz.ntmps62
  go_wp2_with (go_at_call 19;refine HI.out.mono ?_;rintro e w' ⟨rfl,rfl⟩)
  go_ret
  exact⟨rfl,HR.out,Ex.refl g w⟩
theorem must_any (g:Nat)(E:Int)(t:PSt)(d:Nat)(s:ByteArray)(w:World)(h:RdS g E w t d) :
  Calls Tryz.prog 82 #[.pointer (some ⟨g,0,none⟩),.string s] w fun e w'=>e=.returned (.tuple #[])∧RdS g E w' (mustS E s.data.toList t) d∧Ex g w w':=by
 unfold mustS
 cases hb:isS s.data.toList t with
 | true =>
  have HT:=hH (take_any g E t d s true w h (hH hb))
  clear hb h
  go_enter Tryz.func82, Tryz.ntmps82
  go_wp2_with (go_at_call 62;refine HT.out.mono ?_;rintro e w' ⟨rfl,hr,hx⟩)
  go_end0
  exact⟨rfl,hr,hx⟩
 | false =>
  have HT:=hH (take_any g E t d s false w h (hH hb))
  clear hb h
  go_enter Tryz.func82, Tryz.ntmps82
  go_wp2_with (first|(go_at_call 62;refine HT.out.mono ?_;rintro e w1 ⟨rfl,hr,hx⟩;have HF:=hH (form_any g E t d w1 hr);have HX:=hH hx;clear hr hx)|(go_at_call 20;refine HF.out.mono ?_;rintro e w2 ⟨rfl,hr,hx⟩))
  go_end0
  exact⟨rfl,hr,HX.out.trans hx⟩
theorem close_any (g:Nat)(E:Int)(t:PSt)(d:Nat)(w:World)(h:RdS g E w t d) :
  Calls Tryz.prog 61 #[.pointer (some ⟨g,0,none⟩)] w fun e w'=>e=.returned (.tuple #[])∧RdS g E w' (closeS E t) d∧Ex g w w':=by
 cases hb:ovS t with
 | true =>
  have HO:=hH (over_at true w h (hH hb))
  have HR:=hH (show RdS g E w (closeS E t) d by unfold closeS;rw [hb];exact h)
  clear hb h
  go_enter Tryz.func61, Tryz.ntmps61
  go_wp2_with (go_at_call 22;refine HO.out.mono ?_;rintro e w' ⟨rfl,rfl⟩)
  go_end0
  exact⟨rfl,HR.out,Ex.refl g w⟩
 | false =>
  have HO:=hH (over_at false w h (hH hb))
  have HF:=hH (form_any g E t d w h)
  obtain⟨A,c,n,hn,hnc,hc,hd,hg,⟨c0,c1,c2,c3,c4⟩,_,hT⟩:=h.cells
  obtain⟨x,r,ht⟩:=ov_no hb
  rw [ht] at hn hT
  simp only [List.length_cons] at hn
  obtain⟨b,off,rfl,hbg,d0,d1,d2,d3,d4⟩:=hT.head
  have hn0:0<n:=by omega
  have hcl:closeS E t=if x.gap then formS E t else t:=by
   unfold closeS;rw [hb]
   have:hdT t=x:=by rw [ht];rfl
   rw [this];rfl
  rw [hcl]
  have HR:=hH h
  clear hn hT hb ht hcl h
  obtain⟨q,hq⟩:∃q,x.gap=q:=⟨_,rfl⟩
  rw [hq] at d4 ⊢
  clear hq
  cases q with
  | true =>
   go_enter Tryz.func61, Tryz.ntmps61
   go_wp2_with (first|(go_at_call 22;refine HO.out.mono ?_;rintro e w' ⟨rfl,rfl⟩)|(go_at_call 20;refine HF.out.mono ?_;rintro e w2 ⟨rfl,hr,hx⟩))
   go_end0
   exact⟨rfl,hr,hx⟩
  | false =>
   go_enter Tryz.func61, Tryz.ntmps61
   go_wp2_with (go_at_call 22;refine HO.out.mono ?_;rintro e w' ⟨rfl,rfl⟩)
   go_end0
   exact⟨rfl,HR.out,Ex.refl g w⟩
theorem open_any (g:Nat)(E:Int)(t:PSt)(d:Nat)(w:World)(h:RdS g E w t d)(hd9:d≤90) :
  Calls Tryz.prog 97 #[.pointer (some ⟨g,0,none⟩)] w fun e w'=>e=.returned (.tuple #[])∧RdS g E w' (openS E d t) (d+1)∧Ex g w w':=by
 obtain⟨A,c,n,hn,hnc,hc,hd,hg,⟨c0,c1,c2,c3,c4⟩,⟨f0,f2,f3,f4⟩,hT⟩:=h.cells
 have HR:=hH (show RdS g E (w.setCell ⟨g,4,none⟩ (.int .i64 ((d:Int)+1))) t (d+1) from h.deep (by omega) (by omega))
 have HX:=hH (show Ex g w (w.setCell ⟨g,4,none⟩ (.int .i64 ((d:Int)+1))) from(Ex.refl g w).self1 4 _)
 unfold openS
 clear hn hT h
 by_cases h32:32<d+1
 ·rw [if_pos h32]
  have h32':(32:Int)<(d:Int)+1:=by omega
  clear h32
  go_enter Tryz.func97, Tryz.ntmps97
  go_wp2_with (first
   | (go_at_call 38;refine(at_any g E t (d+1) _ HR.out).mono ?_;rintro e w' ⟨rfl,rfl⟩)
   | (go_at_call 37;refine(fail_any g E t (d+1) _ 5 _ HR.out).mono ?_;rintro e w1 ⟨rfl,hr,hx⟩;have HR1:=hH hr;have HX1:=hH (HX.out.trans hx);clear hr hx)
   | (go_at_call 39;refine(next_any g E _ (d+1) _ HR1.out).mono ?_;rintro e w2 ⟨rfl,hr,hx⟩;unfold tokA))
  go_end0
  exact⟨rfl,hr,HX1.out.trans hx⟩
 ·rw [if_neg h32]
  have h32':¬(32:Int)<(d:Int)+1:=by omega
  clear h32
  go_enter Tryz.func97, Tryz.ntmps97
  go_wp2_with (go_at_call 39;refine(next_any g E _ (d+1) _ HR.out).mono ?_;rintro e w2 ⟨rfl,hr,hx⟩;unfold tokA)
  go_end0
  exact⟨rfl,hr,HX.out.trans hx⟩
theorem number_any (g:Nat)(E:Int)(t:PSt)(d:Nat)(w:World)(h:RdS g E w t d) :
  Calls Tryz.prog 110 #[.pointer (some ⟨g,0,none⟩)] w fun e w'=>e=.returned (.tuple #[.int .i64 (numS E t).1,.bool (numS E t).2.1])∧RdS g E w' (numS E t).2.2 d∧Ex g w w':=by
 obtain⟨k,hk⟩:∃k,kindS t=k:=⟨_,rfl⟩
 have HK:=hH (kind_at k w h (hH hk))
 have HN:=hH (next_any g E t d w h)
 have HR:=hH h
 unfold tokA at HN
 unfold numS
 rw [hk]
 clear h hk
 by_cases h3:k=3
 ·rw [if_pos h3]
  have h3':(k != 3)=false:=by rw [h3];rfl
  have hf:=tok_f2 (hdT t).kind (hdT t).n ((hdT t).at_:Nat) (bs (hdT t).s) (hdT t).gap
  clear h3
  go_enter Tryz.func110, Tryz.ntmps110
  go_wp2_with (first|(go_at_call 36;refine HK.out.mono ?_;rintro e w' ⟨rfl,rfl⟩)|(go_at_call 39;refine HN.out.mono ?_;rintro e w' ⟨rfl,hr,hx⟩))
  go_ret2
  exact⟨rfl,hr,hx⟩
 ·rw [if_neg h3]
  have h3':(k != 3)=true:=bne_iff_ne.2 h3
  clear h3
  go_enter Tryz.func110, Tryz.ntmps110
  go_wp2_with (go_at_call 36;refine HK.out.mono ?_;rintro e w' ⟨rfl,rfl⟩)
  go_ret2
  exact⟨rfl,HR.out,Ex.refl g w⟩
end
/- Blocks of N cells: opened, and stored into (printed by gen_cells.py). -/
section
open Go.RowKit
theorem Kp.set_ {K K':Nat→Prop}{a w:World}(h:Kp K K' a w){p:Addr}(hp:∀b,K b→b<a.heap.size→b≠p.block)(u:Value):Kp K K' a (w.setCell p u) :=
 ⟨by have:=h.size;simpa using this,fun b hb hl=>⟨(h.block b hb hl).1,(Below.heap_setCell w p u b (hp b hb hl)).trans (h.block b hb hl).2⟩⟩
theorem Kp.alloc {K K':Nat→Prop}{a w:World}(h:Kp K K' a w)(o:Obj):Kp K K' a (w.alloc o) :=
 ⟨by have:=h.size;simp;omega,fun b hb hl=>⟨(h.block b hb hl).1,(Below.heap_alloc w o b (Nat.lt_of_lt_of_le hl h.size)).trans (h.block b hb hl).2⟩⟩
theorem Kp.ex {K K':Nat→Prop}{g:Nat}{a w w':World}(h:Kp K K' a w)(hx:Ex g w w')(hg:∀b,K b→b<a.heap.size→b≠g):Kp K K' a w' :=
 ⟨Nat.le_trans h.size hx.size,fun b hb hl=>⟨(h.block b hb hl).1,(hx.block b (Nat.lt_of_lt_of_le hl h.size) (hg b hb hl)).trans (h.block b hb hl).2⟩⟩
theorem Kp.id_ {K K':Nat→Prop}{w:World}(h:∀b,K b→b<w.heap.size→K' b):Kp K K' w w:=⟨Nat.le_refl _,fun b hb hl=>⟨h b hb hl,rfl⟩⟩
theorem Blk.c2 {w:World}{k:Nat}{t:TypeId}{u0 u1:Value}(h:Blk w k t #[u0,u1]):k<w.heap.size∧(w.cell? ⟨k,0,none⟩=some u0∧w.cell? ⟨k,1,none⟩=some u1)∧(w.frozen? ⟨k,0,none⟩=false∧w.frozen? ⟨k,1,none⟩=false) :=
 ⟨h.lt,⟨h.cell 0,h.cell 1⟩,⟨h.frozen 0,h.frozen 1⟩⟩
theorem RdS.far2 {g:Nat}{E:Int}{w:World}{t:PSt}{d k:Nat}{u0 u1:Value}(h:RdS g E w t d)(hk:g<k):RdS g E ((w.setCell ⟨k,0,none⟩ u0).setCell ⟨k,1,none⟩ u1) t d:=((h.far hk u0).far hk u1)
theorem Ex.far2 {g:Nat}{a w:World}{k:Nat}{u0 u1:Value}(h:Ex g a w)(hk:a.heap.size≤k):Ex g a ((w.setCell ⟨k,0,none⟩ u0).setCell ⟨k,1,none⟩ u1):=((h.set_ (.inr hk) u0).set_ (.inr hk) u1)
theorem Kp.far2 {K K':Nat→Prop}{a w:World}{k:Nat}{u0 u1:Value}(h:Kp K K' a w)(hk:∀b,K b→b<a.heap.size→b≠k):Kp K K' a ((w.setCell ⟨k,0,none⟩ u0).setCell ⟨k,1,none⟩ u1):=((h.set_ hk u0).set_ hk u1)
theorem Blk.put2 {w:World}{k:Nat}{t:TypeId}{v0 v1 u0 u1:Value}(h:Blk w k t #[v0,v1]):Blk ((w.setCell ⟨k,0,none⟩ u0).setCell ⟨k,1,none⟩ u1) k t #[u0,u1]:=((h.set_ 0 u0).set_ 1 u1)
theorem Blk.far2 {w:World}{k l:Nat}{t:TypeId}{cs:Array Value}{u0 u1:Value}(h:Blk w l t cs)(hk:l≠k):Blk ((w.setCell ⟨k,0,none⟩ u0).setCell ⟨k,1,none⟩ u1) l t cs:=((h.far hk u0).far hk u1)
theorem Blk.c5 {w:World}{k:Nat}{t:TypeId}{u0 u1 u2 u3 u4:Value}(h:Blk w k t #[u0,u1,u2,u3,u4]):k<w.heap.size∧(w.cell? ⟨k,0,none⟩=some u0∧w.cell? ⟨k,1,none⟩=some u1∧w.cell? ⟨k,2,none⟩=some u2∧w.cell? ⟨k,3,none⟩=some u3∧w.cell? ⟨k,4,none⟩=some u4)∧(w.frozen? ⟨k,0,none⟩=false∧w.frozen? ⟨k,1,none⟩=false∧w.frozen? ⟨k,2,none⟩=false∧w.frozen? ⟨k,3,none⟩=false∧w.frozen? ⟨k,4,none⟩=false) :=
 ⟨h.lt,⟨h.cell 0,h.cell 1,h.cell 2,h.cell 3,h.cell 4⟩,⟨h.frozen 0,h.frozen 1,h.frozen 2,h.frozen 3,h.frozen 4⟩⟩
theorem Blk.c6 {w:World}{k:Nat}{t:TypeId}{u0 u1 u2 u3 u4 u5:Value}(h:Blk w k t #[u0,u1,u2,u3,u4,u5]):k<w.heap.size∧(w.cell? ⟨k,0,none⟩=some u0∧w.cell? ⟨k,1,none⟩=some u1∧w.cell? ⟨k,2,none⟩=some u2∧w.cell? ⟨k,3,none⟩=some u3∧w.cell? ⟨k,4,none⟩=some u4∧w.cell? ⟨k,5,none⟩=some u5)∧(w.frozen? ⟨k,0,none⟩=false∧w.frozen? ⟨k,1,none⟩=false∧w.frozen? ⟨k,2,none⟩=false∧w.frozen? ⟨k,3,none⟩=false∧w.frozen? ⟨k,4,none⟩=false∧w.frozen? ⟨k,5,none⟩=false) :=
 ⟨h.lt,⟨h.cell 0,h.cell 1,h.cell 2,h.cell 3,h.cell 4,h.cell 5⟩,⟨h.frozen 0,h.frozen 1,h.frozen 2,h.frozen 3,h.frozen 4,h.frozen 5⟩⟩
theorem RdS.far6 {g:Nat}{E:Int}{w:World}{t:PSt}{d k:Nat}{u0 u1 u2 u3 u4 u5:Value}(h:RdS g E w t d)(hk:g<k):RdS g E ((((((w.setCell ⟨k,0,none⟩ u0).setCell ⟨k,1,none⟩ u1).setCell ⟨k,2,none⟩ u2).setCell ⟨k,3,none⟩ u3).setCell ⟨k,4,none⟩ u4).setCell ⟨k,5,none⟩ u5) t d:=((((((h.far hk u0).far hk u1).far hk u2).far hk u3).far hk u4).far hk u5)
theorem Ex.far6 {g:Nat}{a w:World}{k:Nat}{u0 u1 u2 u3 u4 u5:Value}(h:Ex g a w)(hk:a.heap.size≤k):Ex g a ((((((w.setCell ⟨k,0,none⟩ u0).setCell ⟨k,1,none⟩ u1).setCell ⟨k,2,none⟩ u2).setCell ⟨k,3,none⟩ u3).setCell ⟨k,4,none⟩ u4).setCell ⟨k,5,none⟩ u5):=((((((h.set_ (.inr hk) u0).set_ (.inr hk) u1).set_ (.inr hk) u2).set_ (.inr hk) u3).set_ (.inr hk) u4).set_ (.inr hk) u5)
theorem Kp.far6 {K K':Nat→Prop}{a w:World}{k:Nat}{u0 u1 u2 u3 u4 u5:Value}(h:Kp K K' a w)(hk:∀b,K b→b<a.heap.size→b≠k):Kp K K' a ((((((w.setCell ⟨k,0,none⟩ u0).setCell ⟨k,1,none⟩ u1).setCell ⟨k,2,none⟩ u2).setCell ⟨k,3,none⟩ u3).setCell ⟨k,4,none⟩ u4).setCell ⟨k,5,none⟩ u5):=((((((h.set_ hk u0).set_ hk u1).set_ hk u2).set_ hk u3).set_ hk u4).set_ hk u5)
theorem Blk.put6 {w:World}{k:Nat}{t:TypeId}{v0 v1 v2 v3 v4 v5 u0 u1 u2 u3 u4 u5:Value}(h:Blk w k t #[v0,v1,v2,v3,v4,v5]):Blk ((((((w.setCell ⟨k,0,none⟩ u0).setCell ⟨k,1,none⟩ u1).setCell ⟨k,2,none⟩ u2).setCell ⟨k,3,none⟩ u3).setCell ⟨k,4,none⟩ u4).setCell ⟨k,5,none⟩ u5) k t #[u0,u1,u2,u3,u4,u5]:=((((((h.set_ 0 u0).set_ 1 u1).set_ 2 u2).set_ 3 u3).set_ 4 u4).set_ 5 u5)
theorem Blk.far6 {w:World}{k l:Nat}{t:TypeId}{cs:Array Value}{u0 u1 u2 u3 u4 u5:Value}(h:Blk w l t cs)(hk:l≠k):Blk ((((((w.setCell ⟨k,0,none⟩ u0).setCell ⟨k,1,none⟩ u1).setCell ⟨k,2,none⟩ u2).setCell ⟨k,3,none⟩ u3).setCell ⟨k,4,none⟩ u4).setCell ⟨k,5,none⟩ u5) l t cs:=((((((h.far hk u0).far hk u1).far hk u2).far hk u3).far hk u4).far hk u5)
theorem Blk.c9 {w:World}{k:Nat}{t:TypeId}{u0 u1 u2 u3 u4 u5 u6 u7 u8:Value}(h:Blk w k t #[u0,u1,u2,u3,u4,u5,u6,u7,u8]):k<w.heap.size∧(w.cell? ⟨k,0,none⟩=some u0∧w.cell? ⟨k,1,none⟩=some u1∧w.cell? ⟨k,2,none⟩=some u2∧w.cell? ⟨k,3,none⟩=some u3∧w.cell? ⟨k,4,none⟩=some u4∧w.cell? ⟨k,5,none⟩=some u5∧w.cell? ⟨k,6,none⟩=some u6∧w.cell? ⟨k,7,none⟩=some u7∧w.cell? ⟨k,8,none⟩=some u8)∧(w.frozen? ⟨k,0,none⟩=false∧w.frozen? ⟨k,1,none⟩=false∧w.frozen? ⟨k,2,none⟩=false∧w.frozen? ⟨k,3,none⟩=false∧w.frozen? ⟨k,4,none⟩=false∧w.frozen? ⟨k,5,none⟩=false∧w.frozen? ⟨k,6,none⟩=false∧w.frozen? ⟨k,7,none⟩=false∧w.frozen? ⟨k,8,none⟩=false) :=
 ⟨h.lt,⟨h.cell 0,h.cell 1,h.cell 2,h.cell 3,h.cell 4,h.cell 5,h.cell 6,h.cell 7,h.cell 8⟩,⟨h.frozen 0,h.frozen 1,h.frozen 2,h.frozen 3,h.frozen 4,h.frozen 5,h.frozen 6,h.frozen 7,h.frozen 8⟩⟩
theorem RdS.far9 {g:Nat}{E:Int}{w:World}{t:PSt}{d k:Nat}{u0 u1 u2 u3 u4 u5 u6 u7 u8:Value}(h:RdS g E w t d)(hk:g<k):RdS g E (((((((((w.setCell ⟨k,0,none⟩ u0).setCell ⟨k,1,none⟩ u1).setCell ⟨k,2,none⟩ u2).setCell ⟨k,3,none⟩ u3).setCell ⟨k,4,none⟩ u4).setCell ⟨k,5,none⟩ u5).setCell ⟨k,6,none⟩ u6).setCell ⟨k,7,none⟩ u7).setCell ⟨k,8,none⟩ u8) t d:=(((((((((h.far hk u0).far hk u1).far hk u2).far hk u3).far hk u4).far hk u5).far hk u6).far hk u7).far hk u8)
theorem Ex.far9 {g:Nat}{a w:World}{k:Nat}{u0 u1 u2 u3 u4 u5 u6 u7 u8:Value}(h:Ex g a w)(hk:a.heap.size≤k):Ex g a (((((((((w.setCell ⟨k,0,none⟩ u0).setCell ⟨k,1,none⟩ u1).setCell ⟨k,2,none⟩ u2).setCell ⟨k,3,none⟩ u3).setCell ⟨k,4,none⟩ u4).setCell ⟨k,5,none⟩ u5).setCell ⟨k,6,none⟩ u6).setCell ⟨k,7,none⟩ u7).setCell ⟨k,8,none⟩ u8):=(((((((((h.set_ (.inr hk) u0).set_ (.inr hk) u1).set_ (.inr hk) u2).set_ (.inr hk) u3).set_ (.inr hk) u4).set_ (.inr hk) u5).set_ (.inr hk) u6).set_ (.inr hk) u7).set_ (.inr hk) u8)
theorem Kp.far9 {K K':Nat→Prop}{a w:World}{k:Nat}{u0 u1 u2 u3 u4 u5 u6 u7 u8:Value}(h:Kp K K' a w)(hk:∀b,K b→b<a.heap.size→b≠k):Kp K K' a (((((((((w.setCell ⟨k,0,none⟩ u0).setCell ⟨k,1,none⟩ u1).setCell ⟨k,2,none⟩ u2).setCell ⟨k,3,none⟩ u3).setCell ⟨k,4,none⟩ u4).setCell ⟨k,5,none⟩ u5).setCell ⟨k,6,none⟩ u6).setCell ⟨k,7,none⟩ u7).setCell ⟨k,8,none⟩ u8):=(((((((((h.set_ hk u0).set_ hk u1).set_ hk u2).set_ hk u3).set_ hk u4).set_ hk u5).set_ hk u6).set_ hk u7).set_ hk u8)
theorem Blk.far9 {w:World}{k l:Nat}{t:TypeId}{cs:Array Value}{u0 u1 u2 u3 u4 u5 u6 u7 u8:Value}(h:Blk w l t cs)(hk:l≠k):Blk (((((((((w.setCell ⟨k,0,none⟩ u0).setCell ⟨k,1,none⟩ u1).setCell ⟨k,2,none⟩ u2).setCell ⟨k,3,none⟩ u3).setCell ⟨k,4,none⟩ u4).setCell ⟨k,5,none⟩ u5).setCell ⟨k,6,none⟩ u6).setCell ⟨k,7,none⟩ u7).setCell ⟨k,8,none⟩ u8) l t cs:=(((((((((h.far hk u0).far hk u1).far hk u2).far hk u3).far hk u4).far hk u5).far hk u6).far hk u7).far hk u8)
theorem Blk.c17 {w:World}{k:Nat}{t:TypeId}{u0 u1 u2 u3 u4 u5 u6 u7 u8 u9 u10 u11 u12 u13 u14 u15 u16:Value}(h:Blk w k t #[u0,u1,u2,u3,u4,u5,u6,u7,u8,u9,u10,u11,u12,u13,u14,u15,u16]):k<w.heap.size∧(w.cell? ⟨k,0,none⟩=some u0∧w.cell? ⟨k,1,none⟩=some u1∧w.cell? ⟨k,2,none⟩=some u2∧w.cell? ⟨k,3,none⟩=some u3∧w.cell? ⟨k,4,none⟩=some u4∧w.cell? ⟨k,5,none⟩=some u5∧w.cell? ⟨k,6,none⟩=some u6∧w.cell? ⟨k,7,none⟩=some u7∧w.cell? ⟨k,8,none⟩=some u8∧w.cell? ⟨k,9,none⟩=some u9∧w.cell? ⟨k,10,none⟩=some u10∧w.cell? ⟨k,11,none⟩=some u11∧w.cell? ⟨k,12,none⟩=some u12∧w.cell? ⟨k,13,none⟩=some u13∧w.cell? ⟨k,14,none⟩=some u14∧w.cell? ⟨k,15,none⟩=some u15∧w.cell? ⟨k,16,none⟩=some u16)∧(w.frozen? ⟨k,0,none⟩=false∧w.frozen? ⟨k,1,none⟩=false∧w.frozen? ⟨k,2,none⟩=false∧w.frozen? ⟨k,3,none⟩=false∧w.frozen? ⟨k,4,none⟩=false∧w.frozen? ⟨k,5,none⟩=false∧w.frozen? ⟨k,6,none⟩=false∧w.frozen? ⟨k,7,none⟩=false∧w.frozen? ⟨k,8,none⟩=false∧w.frozen? ⟨k,9,none⟩=false∧w.frozen? ⟨k,10,none⟩=false∧w.frozen? ⟨k,11,none⟩=false∧w.frozen? ⟨k,12,none⟩=false∧w.frozen? ⟨k,13,none⟩=false∧w.frozen? ⟨k,14,none⟩=false∧w.frozen? ⟨k,15,none⟩=false∧w.frozen? ⟨k,16,none⟩=false) :=
 ⟨h.lt,⟨h.cell 0,h.cell 1,h.cell 2,h.cell 3,h.cell 4,h.cell 5,h.cell 6,h.cell 7,h.cell 8,h.cell 9,h.cell 10,h.cell 11,h.cell 12,h.cell 13,h.cell 14,h.cell 15,h.cell 16⟩,⟨h.frozen 0,h.frozen 1,h.frozen 2,h.frozen 3,h.frozen 4,h.frozen 5,h.frozen 6,h.frozen 7,h.frozen 8,h.frozen 9,h.frozen 10,h.frozen 11,h.frozen 12,h.frozen 13,h.frozen 14,h.frozen 15,h.frozen 16⟩⟩
theorem RdS.far17 {g:Nat}{E:Int}{w:World}{t:PSt}{d k:Nat}{u0 u1 u2 u3 u4 u5 u6 u7 u8 u9 u10 u11 u12 u13 u14 u15 u16:Value}(h:RdS g E w t d)(hk:g<k):RdS g E (((((((((((((((((w.setCell ⟨k,0,none⟩ u0).setCell ⟨k,1,none⟩ u1).setCell ⟨k,2,none⟩ u2).setCell ⟨k,3,none⟩ u3).setCell ⟨k,4,none⟩ u4).setCell ⟨k,5,none⟩ u5).setCell ⟨k,6,none⟩ u6).setCell ⟨k,7,none⟩ u7).setCell ⟨k,8,none⟩ u8).setCell ⟨k,9,none⟩ u9).setCell ⟨k,10,none⟩ u10).setCell ⟨k,11,none⟩ u11).setCell ⟨k,12,none⟩ u12).setCell ⟨k,13,none⟩ u13).setCell ⟨k,14,none⟩ u14).setCell ⟨k,15,none⟩ u15).setCell ⟨k,16,none⟩ u16) t d:=(((((((((((((((((h.far hk u0).far hk u1).far hk u2).far hk u3).far hk u4).far hk u5).far hk u6).far hk u7).far hk u8).far hk u9).far hk u10).far hk u11).far hk u12).far hk u13).far hk u14).far hk u15).far hk u16)
theorem Ex.far17 {g:Nat}{a w:World}{k:Nat}{u0 u1 u2 u3 u4 u5 u6 u7 u8 u9 u10 u11 u12 u13 u14 u15 u16:Value}(h:Ex g a w)(hk:a.heap.size≤k):Ex g a (((((((((((((((((w.setCell ⟨k,0,none⟩ u0).setCell ⟨k,1,none⟩ u1).setCell ⟨k,2,none⟩ u2).setCell ⟨k,3,none⟩ u3).setCell ⟨k,4,none⟩ u4).setCell ⟨k,5,none⟩ u5).setCell ⟨k,6,none⟩ u6).setCell ⟨k,7,none⟩ u7).setCell ⟨k,8,none⟩ u8).setCell ⟨k,9,none⟩ u9).setCell ⟨k,10,none⟩ u10).setCell ⟨k,11,none⟩ u11).setCell ⟨k,12,none⟩ u12).setCell ⟨k,13,none⟩ u13).setCell ⟨k,14,none⟩ u14).setCell ⟨k,15,none⟩ u15).setCell ⟨k,16,none⟩ u16):=(((((((((((((((((h.set_ (.inr hk) u0).set_ (.inr hk) u1).set_ (.inr hk) u2).set_ (.inr hk) u3).set_ (.inr hk) u4).set_ (.inr hk) u5).set_ (.inr hk) u6).set_ (.inr hk) u7).set_ (.inr hk) u8).set_ (.inr hk) u9).set_ (.inr hk) u10).set_ (.inr hk) u11).set_ (.inr hk) u12).set_ (.inr hk) u13).set_ (.inr hk) u14).set_ (.inr hk) u15).set_ (.inr hk) u16)
theorem Kp.far17 {K K':Nat→Prop}{a w:World}{k:Nat}{u0 u1 u2 u3 u4 u5 u6 u7 u8 u9 u10 u11 u12 u13 u14 u15 u16:Value}(h:Kp K K' a w)(hk:∀b,K b→b<a.heap.size→b≠k):Kp K K' a (((((((((((((((((w.setCell ⟨k,0,none⟩ u0).setCell ⟨k,1,none⟩ u1).setCell ⟨k,2,none⟩ u2).setCell ⟨k,3,none⟩ u3).setCell ⟨k,4,none⟩ u4).setCell ⟨k,5,none⟩ u5).setCell ⟨k,6,none⟩ u6).setCell ⟨k,7,none⟩ u7).setCell ⟨k,8,none⟩ u8).setCell ⟨k,9,none⟩ u9).setCell ⟨k,10,none⟩ u10).setCell ⟨k,11,none⟩ u11).setCell ⟨k,12,none⟩ u12).setCell ⟨k,13,none⟩ u13).setCell ⟨k,14,none⟩ u14).setCell ⟨k,15,none⟩ u15).setCell ⟨k,16,none⟩ u16):=(((((((((((((((((h.set_ hk u0).set_ hk u1).set_ hk u2).set_ hk u3).set_ hk u4).set_ hk u5).set_ hk u6).set_ hk u7).set_ hk u8).set_ hk u9).set_ hk u10).set_ hk u11).set_ hk u12).set_ hk u13).set_ hk u14).set_ hk u15).set_ hk u16)
theorem Blk.far17 {w:World}{k l:Nat}{t:TypeId}{cs:Array Value}{u0 u1 u2 u3 u4 u5 u6 u7 u8 u9 u10 u11 u12 u13 u14 u15 u16:Value}(h:Blk w l t cs)(hk:l≠k):Blk (((((((((((((((((w.setCell ⟨k,0,none⟩ u0).setCell ⟨k,1,none⟩ u1).setCell ⟨k,2,none⟩ u2).setCell ⟨k,3,none⟩ u3).setCell ⟨k,4,none⟩ u4).setCell ⟨k,5,none⟩ u5).setCell ⟨k,6,none⟩ u6).setCell ⟨k,7,none⟩ u7).setCell ⟨k,8,none⟩ u8).setCell ⟨k,9,none⟩ u9).setCell ⟨k,10,none⟩ u10).setCell ⟨k,11,none⟩ u11).setCell ⟨k,12,none⟩ u12).setCell ⟨k,13,none⟩ u13).setCell ⟨k,14,none⟩ u14).setCell ⟨k,15,none⟩ u15).setCell ⟨k,16,none⟩ u16) l t cs:=(((((((((((((((((h.far hk u0).far hk u1).far hk u2).far hk u3).far hk u4).far hk u5).far hk u6).far hk u7).far hk u8).far hk u9).far hk u10).far hk u11).far hk u12).far hk u13).far hk u14).far hk u15).far hk u16)
end

end Go.Proofs.YtjbdcjcfijjiiaaGreatDoor
