/- NG37: Qg, Qh joined. -/
import Derived.Deep.LoopGhost
import Derived.Deep.RegionLaw
import Derived.Deep.DrawnRows
import Derived.Test.YtjbdcjcfijjiiaaGreatDoorNG10
namespace Go.Proofs.YtjbdcjcfijjiiaaGreatDoor
open Go.RowKit
/- qtree: sels. -/
section
open Go.RowKit
set_option maxRecDepth 100000
set_option maxHeartbeats 4000000
theorem RdS.low {g:Nat}{E:Int}{w w':World}{t:PSt}{d:Nat}(h:RdS g E w t d)(hb:∀k,k≤g→w'.heap[k]? = w.heap[k]?):RdS g E w' t d:=by
 obtain⟨A,c,h1,h2,h3,h4,h5⟩:=h
 exact⟨A,c,(hb g (Nat.le_refl _)).trans h1,h2,h3,h4,h5.keep fun k hk=>hb k (by omega)⟩
theorem RdS.grown {g:Nat}{E:Int}{w w':World}{t:PSt}{d:Nat}{row:Option Nat}(h:RdS g E w t d)(hg:w.grownBy w' row)(hr:∀k,row=some k→g<k):RdS g E w' t d :=
 h.low fun k hk=>hg.block k (Nat.lt_of_le_of_lt hk h.lt) (fun e=>by have:=hr k e.symm;omega)
theorem Ex.grown {g:Nat}{a w w':World}{row:Option Nat}(h:Ex g a w)(hg:w.grownBy w' row)(hr:∀k,row=some k→a.heap.size≤k):Ex g a w' :=
 ⟨hg.os.trans h.os,hg.output.trans h.output,Nat.le_trans h.size hg.size,fun k hk hkg=>(hg.block k (Nat.lt_of_lt_of_le hk h.size) (fun e=>by have:=hr k e.symm;omega)).trans (h.block k hk hkg)⟩
theorem RdS.bound {g:Nat}{E:Int}{w:World}{t:PSt}{d:Nat}(h:RdS g E w t d):t.toks.length≤1000000:=by
 obtain⟨A,c,_,h2,h3,_⟩:=h;omega
theorem SelC.ptr {K:Nat→Prop}{R:List Value→ExprT→Prop}{w:World}{x:SelT}{pv:Value}(h:SelC K R w (selL x pv) x):∃p,pv=.pointer p:=by
 obtain⟨pv',h1,h2⟩:=h
 unfold selL at h1
 simp only [List.cons.injEq,true_and,and_true] at h1
 subst h1
 cases hf:x.f with
 | none=>rw [hf] at h2;exact⟨none,h2⟩
 | some e=>rw [hf] at h2;obtain⟨b,off,cs,h1,_⟩:=h2;exact⟨_,h1⟩
theorem kindS_bad {t:PSt}(h:t.fe≠0):kindS t=0:=by unfold kindS;rw [hdT_bad h];rfl
theorem mustS_bad {E:Int}{l:List UInt8}{t:PSt}(h:t.fe≠0):mustS E l t=t:=by unfold mustS;rw [isS_bad l h];exact formS_bad h
theorem selF_bad {E:Int}{P:Nat→PSt→ExprT×PSt}{d:Nat}{t:PSt}(h:t.fe≠0):(selF E P d t).2=t:=by
 unfold selF
 rw [if_neg (by rw [kindS_bad h];decide),ite_ff (isS_bad _ h),ite_ff (isS_bad _ h),ite_ff (by rw [kindS_bad h,isS_bad _ h];rfl)]
 exact formS_bad h
def SelsP (g:Nat)(E:Int)(w:World)(r:List SelT×PSt)(d:Nat)(e:Ending)(w':World):Prop :=
 ∃m A c,e=.returned (.slice A r.1.length c)∧RowG (Fr w) 9 (RSel (Fr w) m w') w' (.slice A r.1.length c) r.1∧RdS g E w' r.2 d∧Ex g w w'
theorem selsL_yes {E:Int}{P:Nat→PSt→ExprT×PSt}{d f:Nat}{t:PSt}(h:isS [44] t=true):selsL E P d (f+1) t=((selF E P d (nextS E t)).1::(selsL E P d f (selF E P d (nextS E t)).2).1,(selsL E P d f (selF E P d (nextS E t)).2).2):=by rw [selsL,ite_tt h]
theorem selsL_no {E:Int}{P:Nat→PSt→ExprT×PSt}{d f:Nat}{t:PSt}(h:isS [44] t=false):selsL E P d f t=([],t):=by
 cases f with
 | zero=>rfl
 | succ f=>rw [selsL,ite_ff h]
theorem sels_any (g:Nat)(E:Int)(P:Nat→PSt→ExprT×PSt)(hL:LeP P)(N:Nat)(hP:OrC g E P N)(t:PSt)(d:Nat)(w:World)(h:RdS g E w t d)(hN:N≤d+1)(hd:d≤33)(hf:d=33→t.fe≠0) :
  Calls Tryz.prog 60 #[.pointer (some ⟨g,0,none⟩)] w (SelsP g E w (selsF E P d t) d):=by
 have hg:=h.lt
 have HM:=hH (must_any g E t d ⟨#[91]⟩ w h)
 have HS:=hH (fun t w hr hf=>sel_any g E P N hP t d w hr hN hd hf)
 have HMB:=hH (mustS_le E [91] t)
 have HTB:=hH h.bound
 have HF1:=hH (show d=33→(mustS E [91] t).fe≠0 from fun e=>by rw [mustS_bad (hf e)];exact hf e)
 have HF2:=hH (show d=33→(selF E P d (mustS E [91] t)).2.fe≠0 from fun e=>by rw [selF_bad (HF1.out e)];exact HF1.out e)
 have HLE:=hH (fun t=>selF_le hL d (E:=E) t)
 unfold selsF
 obtain⟨t1,ht1⟩:∃t1,mustS E [91] t=t1:=⟨_,rfl⟩
 have HM:=hH (show Calls Tryz.prog 82 #[.pointer (some ⟨g,0,none⟩),.string ⟨#[91]⟩] w fun e w'=>e=.returned (.tuple #[])∧RdS g E w' t1 d∧Ex g w w' by rw [←ht1];exact HM.out)
 rw [ht1] at HF1 HF2 HMB ⊢
 obtain⟨x0,t2,hx0⟩:∃x0 t2,selF E P d t1=(x0,t2):=⟨_,_,rfl⟩
 have HX0:=hH hx0
 have HLE1:=hH (HLE.out t1)
 rw [hx0] at HF2 HLE1 ⊢
 simp only at HF2 HLE1 ⊢
 obtain⟨i0,hi,hz0,hz1,hz2⟩:=info_parts info_sel
 clear h hf hx0 ht1 hP
 go_enter Tryz.func60, Tryz.ntmps60
 go_wp2_with (go_at_call 82;refine HM.out.mono ?_;rintro e w1 ⟨rfl,hr,hx⟩;have HS1:=hH (HS.out t1 w1 hr HF1.out);have HX1:=hH hx;clear hr hx)
 refine HS1.out.mono ?_
 rintro e w2 ⟨m,pv,rfl,hsc,hr,hx⟩
 rw [HX0.out] at hsc hr ⊢
 simp only at hsc hr ⊢
 obtain⟨p,rfl⟩:=hsc.ptr
 have hs1:=HX1.out.size
 have hs2:=hx.size
 have HBR:=hH (BRow.one RSel_ok (w0:=w) (show RSel (Fr w1) m w2 (selL x0 (.pointer p)) x0 from hsc) (fun b (hb:w1.heap.size≤b) _=>by omega) (by omega) 85)
 have HRD:=hH (hr.alloc (.cells (selL x0 (.pointer p)).toArray 85))
 have HEX:=hH ((HX1.out.trans hx).alloc (.cells (selL x0 (.pointer p)).toArray 85))
 unfold selV
 clear hsc hr hx HS1
 go_wp2
 unfold selL at HBR HRD HEX
 go_loopg [3] t2.toks.length (fun k v wr=>∃(t':PSt) (l:List SelT) (css:List (List Value)) (m f:Nat),k=t'.toks.length∧t'.toks.length≤f∧l.length+t'.toks.length≤1000001∧Hid (BRow 9 85 RSel m w wr v l css)∧Hid (RdS g E wr t' d)∧Hid (Ex g w wr)∧Hid (d=33→t'.fe≠0)∧Hid (((x0::(selsL E P d t2.toks.length t2).1,mustS E [93] (selsL E P d t2.toks.length t2).2):List SelT×PSt)=(l++(selsL E P d f t').1,mustS E [93] (selsL E P d f t').2)))
 case atStart=>exact⟨t2,[x0],[_],m,t2.toks.length,rfl,Nat.le_refl _,by have:=HMB.out;have:=HTB.out;have:=HLE1.out;simp;omega,HBR,HRD,HEX,HF2,hH rfl⟩
 case round =>
  clear HBR HRD HEX HF2 HF1 HMB HTB HLE1 HM HX1 hs1 hs2
  obtain⟨t',l,css,m',f,hgk,hfl,hll,HBR,HRD,HEX,HFE,HEQ⟩:=hrel
  have HGK:=hH hgk;clear hgk
  cases hb:isS [44] t' with
  | true =>
   have hd32:=is_deep hb hd HFE.out
   have hlt:=is_lt (E:=E) hb
   obtain⟨f',rfl⟩:∃f',f=f'+1:=⟨f-1,by omega⟩
   have HEQ:=hH (HEQ.out.trans (by rw [selsL_yes hb]))
   have HT:=hH (take_yes g E t' d ⟨#[44]⟩ wr HRD.out (hH hb))
   have HLE2:=hH (HLE.out (nextS E t'))
   obtain⟨x,t3,hx3⟩:∃x t3,selF E P d (nextS E t')=(x,t3):=⟨_,_,rfl⟩
   have HX3:=hH hx3
   rw [hx3] at HEQ HLE2
   simp only at HEQ HLE2
   have HLT:=hH hlt
   clear hb hx3 hlt HLE
   go_wp2_with (go_at_call 62;refine HT.out.mono ?_;rintro e w4 ⟨rfl,hr,hx⟩;have HS4:=hH (HS.out (nextS E t') w4 hr (fun e=>absurd e (by omega)));have HX4:=hH (HEX.out.trans hx);have HB4:=hH (HBR.out.ex RSel_ok hx hg);have hz4:=hx.size;clear hr hx)
   refine HS4.out.mono ?_
   rintro e w5 ⟨mn,pv,rfl,hsc,hr,hx⟩
   rw [HX3.out] at hsc hr ⊢
   simp only at hsc hr ⊢
   obtain⟨p5,rfl⟩:=hsc.ptr
   have hz5:=hx.size
   have HX5:=hH (HX4.out.trans hx)
   have HB5:=hH ((HB4.out.ex RSel_ok hx hg).bel RSel_ok (bel_lit (o:=.cells (selL x (.pointer p5)).toArray 85)))
   have HR5:=hH (hr.alloc (.cells (selL x (.pointer p5)).toArray 85))
   have HN5:=hH (show RSel (Fr w4) mn (w5.alloc (.cells (selL x (.pointer p5)).toArray 85)) (selL x (.pointer p5)) x from RSel_ok.keep (show RSel (Fr w4) mn w5 (selL x (.pointer p5)) x from hsc) ((Kp.id_ fun b hb _=>hb).alloc _) (Nat.le_refl _))
   have HK5:=hH (show ∀b,Fr w4 b→b<(w5.alloc (.cells (selL x (.pointer p5)).toArray 85)).heap.size→w.heap.size≤b∧u3.ownBlock≠some b from fun b (hb:w4.heap.size≤b) _=>⟨by have:=HBR.out.size;omega,fun e=>by have:=(HBR.out.blk e).2;omega⟩)
   have hwz:=HB5.out.size
   unfold selV
   clear hsc hr hx HS4 HB4
   go_wp2_with (at_builtin;refine wpList_append_any _ rfl (.tmp 11) (.tmp 14) 77 rfl w.heap.size 85 i0 _ 9 72 Tryz.underlying77 hi hz0 hz1 hz2 rfl (by decide) u3 l.length css.flatten rfl HB5.out.own (w5.heap.size+1) (some ⟨w5.heap.size,0,none⟩) 1 1 (selL x (.pointer p5)) rfl (reads_new w5 85 9 1 (selL x (.pointer p5)) rfl) (RSel_one HN5.out) (by unfold maxLen;omega) (by omega) hwz ?_;intro v' w7 hown7 hg7 hat7;have HB7:=hH (HB5.out.snoc RSel_ok HN5.out HK5.out hown7 hg7 hat7);have HR7:=hH (HR5.out.grown hg7 (fun k hk=>by have:=(HBR.out.blk hk).1;omega));have HX7:=hH ((HX5.out.alloc (.cells (selL x (.pointer p5)).toArray 85)).grown hg7 (fun k hk=>(HBR.out.blk hk).1));clear hown7 hg7 hat7)
   go_roundg t3.toks.length
   case measure=>have:=HGK.out;have:=HLT.out;have:=HLE2.out;simp;omega
   case rel=>exact⟨t3,l++[x],_,_,f',rfl,by have:=HLT.out;have:=HLE2.out;omega,by have:=HLT.out;have:=HLE2.out;simp;omega,HB7,HR7,HX7,hH (fun e=>absurd e (by omega)),hH (by rw [HEQ.out,List.append_assoc];rfl)⟩
  | false =>
   have HT:=hH (take_no g E t' d ⟨#[44]⟩ wr HRD.out (hH hb))
   have HE:=hH (HEQ.out.trans (by rw [selsL_no hb,List.append_nil]))
   have HM2:=hH (must_any g E t' d ⟨#[93]⟩ wr HRD.out)
   obtain⟨A,c,hv,_⟩:=HBR.out.done RSel_ok
   subst hv
   clear hb
   go_wp2_with (first|(go_at_call 62;refine HT.out.mono ?_;rintro e w' ⟨rfl,rfl⟩)|(go_at_call 82;refine HM2.out.mono ?_;rintro e w8 ⟨rfl,hr,hx⟩;have HB8:=hH (HBR.out.ex RSel_ok hx hg);have HR8:=hH hr;have HX8:=hH (HEX.out.trans hx);clear hr hx))
   go_ret
   obtain⟨A',c',hv,hrow⟩:=HB8.out.done RSel_ok
   cases hv
   rw [HE.out]
   exact⟨m',A,c,rfl,hrow,HR8.out,HX8.out⟩
end
/- qtree: path (over seg's contract). -/
section
open Go.RowKit
set_option maxRecDepth 100000
set_option maxHeartbeats 4000000
theorem BRow.drew {α:Type}{k:Nat}{T:TypeId}{R:Rel α}{m:Nat}{w0 wr:World}{v:Value}{l:List α}{css:List (List Value)}(hR:RelOk k R)(h:BRow k T R m w0 wr v l css):BRow k T R m w0 wr.drew v l css :=
 h.keepB hR (fun _ _ _=>rfl) (Nat.le_refl _)
theorem RdS.drew {g:Nat}{E:Int}{w:World}{t:PSt}{d:Nat}(h:RdS g E w t d):RdS g E w.drew t d:=h.bel ⟨rfl,rfl,Nat.le_refl _,fun _ _=>rfl⟩
theorem Blk.grown {w w':World}{k:Nat}{t:TypeId}{cs:Array Value}{row:Option Nat}(h:Blk w k t cs)(hg:w.grownBy w' row)(hr:∀b,row=some b→b≠k):Blk w' k t cs :=
 (hg.block k h.lt (fun e=>hr k e.symm rfl)).trans h
theorem BRow.set_ {α:Type}{k:Nat}{T:TypeId}{R:Rel α}{m:Nat}{w0 wr:World}{v:Value}{l:List α}{css:List (List Value)}(hR:RelOk k R)(h:BRow k T R m w0 wr v l css){p:Addr}(hp:p.block<w0.heap.size)(u:Value):BRow k T R m w0 (wr.setCell p u) v l css :=
 h.keepB hR (fun b hb _=>Below.heap_setCell wr p u b (by omega)) (by simp)
theorem Ex.undrew {g:Nat}{w w':World}(h:Ex g w.drew w'):Ex g w w':=⟨h.os,h.output,h.size,h.block⟩
theorem Ex.drew {g:Nat}{a w:World}(h:Ex g a w):Ex g a w.drew:=⟨h.os,h.output,h.size,h.block⟩
def SegP (g:Nat)(E:Int)(w:World)(r:SegT×PSt)(d:Nat)(e:Ending)(w':World):Prop :=
 ∃m A c,e=.returned (.agg #[.bool r.1.deep,.slice A r.1.sels.length c])∧RSeg (Fr w) m w' [.bool r.1.deep,.slice A r.1.sels.length c] r.1∧RdS g E w' r.2 d∧Ex g w w'
def PathP (g:Nat)(E:Int)(w:World)(r:PathT×PSt)(d:Nat)(e:Ending)(w':World):Prop :=
 ∃m A c,e=.returned (.agg #[.bool r.1.abs,.slice A r.1.segs.length c])∧SegsG (Fr w) (ExR (Fr w) m w') w' (.slice A r.1.segs.length c) r.1.segs∧RdS g E w' r.2 d∧Ex g w w'
theorem segsL_yes {E:Int}{P:Nat→PSt→ExprT×PSt}{d f:Nat}{t:PSt}(h:isSeg t=true):segsL E P d (f+1) t=((segF E P d t).1::(segsL E P d f (segF E P d t).2).1,(segsL E P d f (segF E P d t).2).2):=by rw [segsL,ite_tt h]
theorem segsL_no {E:Int}{P:Nat→PSt→ExprT×PSt}{d f:Nat}{t:PSt}(h:isSeg t=false):segsL E P d f t=([],t):=by
 cases f with
 | zero=>rfl
 | succ f=>rw [segsL,ite_ff h]
theorem isSeg_fe {t:PSt}(h:isSeg t=true):t.fe=0∧t.toks≠[]:=by
 unfold isSeg at h
 rw [Bool.or_eq_true,Bool.or_eq_true] at h
 have k:∀l,isS l t=true→t.fe=0∧t.toks≠[]:=fun l hl=>by
  obtain⟨h1,x,r,h2,_⟩:=isS_ok hl
  exact⟨h1,by rw [h2];simp⟩
 rcases h with(h|h)|h <;> exact k _ h
theorem path_of (g:Nat)(E:Int)(P:Nat→PSt→ExprT×PSt)(hL:LeP P)(t:PSt)(d:Nat)(w:World)(h:RdS g E w t d)(hd:d≤33)(hf:d=33→t.fe≠0)
  (hseg:∀t w,RdS g E w t d→(d=33→t.fe≠0)→isSeg t=true→Calls Tryz.prog 40 #[.pointer (some ⟨g,0,none⟩)] w (SegP g E w (segF E P d t) d)) :
  Calls Tryz.prog 21 #[.pointer (some ⟨g,0,none⟩)] w (PathP g E w (pathF E P d t) d):=by
 have hg:=h.lt
 obtain⟨w0,hw0⟩:∃w0:World,w0.heap.size=w.heap.size+2:=⟨(w.alloc (.cells #[] 0)).alloc (.cells #[] 0),by simp⟩
 have hwa:w.heap.size+2≤w0.heap.size:=by omega
 have hwb:w0.heap.size≤w.heap.size+2:=by omega
 have hg0:g<w0.heap.size:=by omega
 clear hw0
 have HR0:=hH (h.alloc (.cells #[.bool false,.slice none 0 0] 37))
 have HX0:=hH (show Ex g w (w.alloc (.cells #[.bool false,.slice none 0 0] 37)) from(Ex.refl g w).alloc _)
 have HB0:=hH (Blk.new w 37 #[.bool false,.slice none 0 0])
 obtain⟨ab,hab⟩:∃ab,isS [36] t=ab:=⟨_,rfl⟩
 have HI:=hH (is_at ⟨#[36]⟩ ab _ HR0.out (hH hab))
 have HN:=hH (next_any g E t d _ (HR0.out.alloc (.cells #[.bool ab,.slice none 0 0] 37)))
 have HF2:=hH (show d=33→(nextS E t).fe≠0 from fun e=>by rw [nextS_bad (hf e)];exact hf e)
 have HSEG:=hH hseg
 have HTB:=hH h.bound
 have HNB:=hH (nextS_le E t)
 have HLT:=hH (fun t h=>segF_lt hL d (E:=E) (t:=t) h)
 unfold tokA at HN
 unfold pathF
 rw [hab]
 obtain⟨t1,ht1⟩:∃t1,nextS E t=t1:=⟨_,rfl⟩
 rw [ht1] at HN HF2 HNB ⊢
 obtain⟨i0,hi,hz0,hz1,hz2⟩:=info_parts info_seg
 clear h hf hab ht1 hseg
 go_enter Tryz.func21, Tryz.ntmps21
 generalize hQ:bodyPost Tryz.prog Tryz.f21 (PathP g E w (⟨ab,(segsL E P d t1.toks.length t1).1⟩,(segsL E P d t1.toks.length t1).2) d)=Q
 have HQ:=hH hQ;clear hQ
 let qd:=bodyPost Tryz.prog Tryz.f21 (PathP g E w (⟨ab,(segsL E P d t1.toks.length t1).1⟩,(segsL E P d t1.toks.length t1).2) d)
 go_wp2_with (first
  | (go_at_call 19;refine HI.out.mono ?_;rintro e w' ⟨rfl,rfl⟩)
  | (go_at_call 39;refine HN.out.mono ?_;rintro e w2 ⟨rfl,hr,hx⟩;have HR2:=hH hr;have HX2:=hH ((HX0.out.alloc _).trans hx);have HB2:=hH ((HB0.out.alloc (.cells #[.bool ab,.slice none 0 0] 37)).ex hx (by omega));have HP2:=hH (Blk.ex (Blk.new1 w (.cells #[.bool false,.slice none 0 0] 37) 37 #[.bool ab,.slice none 0 0]) hx (by omega));clear hr hx))
 go_loopg [] t1.toks.length (fun k wr=>∃(t':PSt) (l:List SegT) (css:List (List Value)) (v:Value) (m f:Nat),k=t'.toks.length∧t'.toks.length≤f∧l.length+t'.toks.length≤1000001∧Hid (BRow 2 79 RSeg m w0 wr v l css)∧Hid (RdS g E wr t' d)∧Hid (Ex g w wr)∧Hid (Blk wr w.heap.size 37 #[.bool false,.slice none 0 0])∧Hid (Blk wr (w.heap.size+1) 37 #[.bool ab,v])∧Hid (d=33→t'.fe≠0)∧Hid (((segsL E P d t1.toks.length t1):List SegT×PSt)=(l++(segsL E P d f t').1,(segsL E P d f t').2)))
 case atStart=>exact⟨t1,[],[],.slice none 0 0,0,t1.toks.length,rfl,Nat.le_refl _,by have:=HNB.out;have:=HTB.out;simp;omega,hH (BRow.nil _ _ _ _ (by have:=HP2.out.lt;omega)),HR2,HX2,HB2,HP2,HF2,hH (by rw [List.nil_append])⟩
 case round =>
  clear HR2 HX2 HB2 HP2 HF2 HNB HTB HN HI HR0 HX0 HB0
  obtain⟨t',l,css,v,m,f,hgk,hfl,hll,HBR,HRD,HEX,HRS,HPB,HFE,HEQ⟩:=hrel
  have HGK:=hH hgk;clear hgk
  obtain⟨b1,hb1⟩:∃b1,isS [91] t'=b1:=⟨_,rfl⟩
  obtain⟨b2,hb2⟩:∃b2,isS [46] t'=b2:=⟨_,rfl⟩
  obtain⟨b3,hb3⟩:∃b3,isS [46,46] t'=b3:=⟨_,rfl⟩
  have HI1:=hH (is_at ⟨#[91]⟩ b1 wr HRD.out (hH hb1))
  have HI2:=hH (is_at ⟨#[46]⟩ b2 wr HRD.out (hH hb2))
  have HI3:=hH (is_at ⟨#[46,46]⟩ b3 wr HRD.out (hH hb3))
  have HSG:=hH (show isSeg t'=(b1 || b2 || b3) by unfold isSeg;rw [hb1,hb2,hb3])
  clear hb1 hb2 hb3
  go_upto_region 3 with fail
  go_cut [18] (fun u wx=>u=.bool (isSeg t')∧wr=wx)
  case first =>
   cases b1 <;> cases b2 <;> cases b3
   all_goals
    go_wp2_with (first|(go_at_call 19;(with_reducible refine HI1.out.mono ?_);rintro e w' ⟨rfl,rfl⟩)|(go_at_call 19;(with_reducible refine HI2.out.mono ?_);rintro e w' ⟨rfl,rfl⟩)|(go_at_call 19;(with_reducible refine HI3.out.mono ?_);rintro e w' ⟨rfl,rfl⟩))
    go_meet
    case rel=>exact⟨by rw [HSG.out];rfl,rfl⟩
  case rest =>
   obtain⟨rfl,rfl⟩:=hcut
   clear HI1 HI2 HI3 HSG
   cases hb:isSeg t' with
   | true =>
    obtain⟨hfe0,hne⟩:=isSeg_fe hb
    have hd32:d≤32:=by
     rcases Nat.lt_or_ge d 33 with h1|h1
     ·omega
     ·exact absurd hfe0 (HFE.out (by omega))
    have hlen:0<t'.toks.length:=List.length_pos_iff.2 hne
    obtain⟨f',rfl⟩:∃f',f=f'+1:=⟨f-1,by omega⟩
    have HEQ:=hH (HEQ.out.trans (by rw [segsL_yes hb]))
    have hlt:=HLT.out t' hb
    have hsc:=fun wz (hz:RdS g E wz t' d)=>HSEG.out t' wz hz HFE.out hb
    unfold SegP at hsc
    obtain⟨x,t3,hx3⟩:∃x t3,segF E P d t'=(x,t3):=⟨_,_,rfl⟩
    rw [hx3] at HEQ hlt hsc
    simp only at HEQ hlt hsc
    have HSC:=hH (hsc wr.drew HRD.out.drew)
    have HLT3:=hH hlt
    obtain⟨zz,⟨r0,r1⟩,y0,y1⟩:=HPB.out.c2
    obtain⟨Av,cv,hv,_⟩:=HBR.out.done RSeg_ok
    subst hv
    have hzr:=HBR.out.size
    have hrow:∀b,(Value.slice Av l.length cv).ownBlock=some b→w0.heap.size≤b∧b<wr.heap.size:=fun b hb=>HBR.out.blk hb
    have HRW:=hH (fun k hk=>show g<k by have:=(hrow k hk).1;omega)
    have HRW2:=hH (fun k hk=>show w.heap.size≤k by have:=(hrow k hk).1;omega)
    have HRW3:=hH (fun k hk=>show k≠w.heap.size+1 by have:=(hrow k hk).1;omega)
    have HRW4:=hH (fun k hk=>show k≠w.heap.size by have:=(hrow k hk).1;omega)
    have HKK:=hH (show ∀b,wr.heap.size≤b→w0.heap.size≤b∧(Value.slice Av l.length cv).ownBlock≠some b from fun b hb=>⟨by omega,fun e=>by have:=(hrow b e).2;omega⟩)
    clear hrow
    have hQ:=HQ.out
    subst hQ
    clear HQ hfe0 hne hx3 hlt hsc hb HSEG
    go_upto_region 4 with fail
    go_region_law (first
     | ((rw [if_pos (by simp [Region.wanted])];go_simp;refine HSC.out.mono ?_;rintro e w5 ⟨mn,A5,c5,rfl,hsg,hr,hx⟩;have hx5:=hx.undrew;have hz5:=hx5.size;have HB5:=hH ((HBR.out.ex RSeg_ok hx5 hg0).bel RSeg_ok (bel_lit (o:=.cells #[.bool x.deep,.slice A5 x.sels.length c5] 79)));have HR5:=hH (hr.alloc (.cells #[.bool x.deep,.slice A5 x.sels.length c5] 79));have HX5:=hH ((HEX.out.trans hx5).alloc (.cells #[.bool x.deep,.slice A5 x.sels.length c5] 79));have HN5:=hH (show RSeg (fun b=>wr.heap.size≤b) mn (w5.alloc (.cells #[.bool x.deep,.slice A5 x.sels.length c5] 79)) [.bool x.deep,.slice A5 x.sels.length c5] x from RSeg_ok.keep hsg ((Kp.id_ fun b hb _=>hb).alloc _) (Nat.le_refl _));have HK5:=hH (show ∀b,wr.heap.size≤b→b<(w5.alloc (.cells #[.bool x.deep,.slice A5 x.sels.length c5] 79)).heap.size→w0.heap.size≤b∧(Value.slice Av l.length cv).ownBlock≠some b from fun b hb _=>HKK.out b hb);have HP5:=hH ((HPB.out.ex hx5 (by omega)).alloc (.cells #[.bool x.deep,.slice A5 x.sels.length c5] 79));have HS5:=hH ((HRS.out.ex hx5 (by omega)).alloc (.cells #[.bool x.deep,.slice A5 x.sels.length c5] 79));have r5:w5.cell? ⟨w.heap.size+1,1,none⟩=some (.slice Av l.length cv):=(HPB.out.ex hx5 (by omega)).cell 1;have y5:w5.frozen? ⟨w.heap.size+1,1,none⟩=false:=(HPB.out.ex hx5 (by omega)).frozen 1;have zz5:w.heap.size+1<w5.heap.size:=(HPB.out.ex hx5 (by omega)).lt;clear hsg hr hx))
     | ((refine step_append_any _ (by rfl) _ _ _ (by rfl) w0.heap.size 79 i0 _ 2 32 Tryz.underlying35 hi hz0 hz1 hz2 (by rfl) (by decide) (.slice Av l.length cv) l.length css.flatten (by rfl) (by exact HB5.out.own) (w5.heap.size+1) (some ⟨w5.heap.size,0,none⟩) 1 1 [.bool x.deep,.slice A5 x.sels.length c5] (by rfl) (by exact reads_new w5 79 2 1 [.bool x.deep,.slice A5 x.sels.length c5] rfl) (RSeg_one HN5.out) (by unfold maxLen;omega) (by omega) (by exact HB5.out.size) ?_;intro v' w7 hown7 hg7 hat7;have HB7:=hH (HB5.out.snoc RSeg_ok HN5.out HK5.out hown7 hg7 hat7);have HR7:=hH (HR5.out.grown hg7 HRW.out);have HX7:=hH (HX5.out.grown hg7 HRW2.out);have HP7:=hH (HP5.out.grown hg7 HRW3.out);have HS7:=hH (HS5.out.grown hg7 HRW4.out);have r7:w7.cell? ⟨w.heap.size+1,1,none⟩=some (.slice Av l.length cv):=HP7.out.cell 1;have y7:w7.frozen? ⟨w.heap.size+1,1,none⟩=false:=HP7.out.frozen 1;have zz7:=HP7.out.lt;obtain⟨A7,c7,hv7,_⟩:=HB7.out.done RSeg_ok;rw [List.length_append,List.length_singleton] at hv7;subst hv7;clear hown7 hg7 hat7)))
    all_goals
     go_wp2
     go_roundg t3.toks.length
     case measure=>have:=HGK.out;have:=HLT3.out;simp;omega
     case rel=>exact⟨t3,l++[x],css++[[.bool x.deep,.slice A5 x.sels.length c5]],.slice A7 (l.length+1) c7,_,f',rfl,by have:=HLT3.out;omega,by have:=HLT3.out;simp;omega,hH (HB7.out.set_ RSeg_ok (by show w.heap.size+1<w0.heap.size;omega) _),hH (HR7.out.far (by show g<w.heap.size+1;omega) _),hH (HX7.out.set_ (.inr (by show w.heap.size≤w.heap.size+1;omega)) _),hH (HS7.out.far (by show w.heap.size≠w.heap.size+1;omega) _),hH (HP7.out.set_ 1 _),hH (fun e=>absurd e (by omega)),hH (by rw [HEQ.out,List.append_assoc];rfl)⟩
   | false =>
    have HE:=hH (HEQ.out.trans (by rw [segsL_no hb,List.append_nil]))
    obtain⟨A,c,hv,hrow⟩:=HBR.out.done RSeg_ok
    subst hv
    have HROW:=hH hrow
    obtain⟨zr,⟨p0,p1⟩,f0,f1⟩:=HRS.out.c2
    obtain⟨zz,⟨r0,r1⟩,y0,y1⟩:=HPB.out.c2
    clear hb hrow
    go_wp2
    rw [←HQ.out]
    refine bodyPost_ret (v:=.agg #[.bool ab,.slice A l.length c]) (by simp [results,Tryz.results21,go_sem,p0,p1]) rfl ?_
    rw [HE.out]
    exact⟨m,A,c,rfl,RowG.keep HROW.out ((Kp.id_ (K':=Fr w) fun b (hb:w0.heap.size≤b) _=>(show w.heap.size≤b by omega)).far2 (fun b (hb:w0.heap.size≤b) _=>by omega)) (fun cs x hx=>RSeg_ok.keep hx ((Kp.id_ (K':=Fr w) fun b (hb:w0.heap.size≤b) _=>(show w.heap.size≤b by omega)).far2 (fun b (hb:w0.heap.size≤b) _=>by omega)) (Nat.le_refl _)),HRD.out.far2 hg,HEX.out.far2 (Nat.le_refl _)⟩
end

end Go.Proofs.YtjbdcjcfijjiiaaGreatDoor
