/- NG44: Qw, Qk, Ql, Qy joined. -/
import Derived.Test.YtjbdcjcfijjiiaaGreatDoorNQu
import Derived.Test.YtjbdcjcfijjiiaaGreatDoorNG39
import Derived.Test.YtjbdcjcfijjiiaaGreatDoorNQx
namespace Go.Proofs.YtjbdcjcfijjiiaaGreatDoor
open Go.RowKit
/- qtree: cmp. -/
section
open Go.RowKit
theorem opS_fe {t:PSt}(h:¬opS t<0):t.fe=0:=Classical.byContradiction fun hf=>h (by rw [opS_bad hf];decide)
theorem cmp_pos (g:Nat)(E:Int)(P:Nat→PSt→ExprT×PSt)(t:PSt)(d:Nat)(w:World)(h:RdS g E w t d)(hL:LeP P)
  (hside:∀t w,RdS g E w t d→(d=33→t.fe≠0)→Calls Tryz.prog 121 #[.pointer (some ⟨g,0,none⟩)] w (SideP g E w (sideF E P d t) d)) (hf:d=33→t.fe≠0)
  (a:SideT) (t1:PSt) (hst:sideF E P d t=(a,t1)) (hpos:¬opS t1<0) :
  Calls Tryz.prog 117 #[.pointer (some ⟨g,0,none⟩)] w (ExP g E w (cmpF E P d t) d):=by
 obtain⟨b,t4,hst4⟩:∃b t4,sideF E P d (nextS E t1)=(b,t4):=⟨_,_,rfl⟩
 have hb:=h.bound
 have hf3:d=33→(nextS E t1).fe≠0:=fun e=>by
  have h1:=hf e
  have h2:=opS_fe hpos
  have h3:t1=t:=by have:=congrArg Prod.snd hst;rw [sideF_bad h1] at this;exact this.symm
  rw [h3] at h2
  exact absurd h2 h1
 have hlb:b.p.segs.length≤1000000:=by
  have h1:=sideF_len (E:=E) (P:=P) (d:=d) (nextS E t1)
  rw [hst4] at h1
  have h2:=nextS_le E t1
  have h3:=sideF_le hL d (E:=E) t
  rw [hst] at h3
  simp only at h1 h3
  omega
 obtain⟨al,ka,na,sa,pa,ga⟩:=a
 obtain⟨bl,kb,nb,sb,pb,gb⟩:=b
 simp only at hlb
 cases al <;> cases bl
 ·exact cmp_pos_false_false g E P t d w h hside hf ka na sa pa ga t1 hst _ rfl hpos kb nb sb pb gb t4 hst4 hf3
 ·cases hs:singB ⟨pa,ga⟩
  ·exact cmp_pos_false_true_false g E P t d w h hside hf ka na sa pa ga t1 hst _ rfl hpos kb nb sb pb gb t4 hst4 hs hf3
  ·exact cmp_pos_false_true_true g E P t d w h hside hf ka na sa pa ga t1 hst _ rfl hpos kb nb sb pb gb t4 hst4 hs hf3
 ·cases hs:singB ⟨pb,gb⟩
  ·exact cmp_pos_true_false_false g E P t d w h hside hf ka na sa pa ga t1 hst _ rfl hpos kb nb sb pb gb t4 hst4 hs hf3 hlb
  ·exact cmp_pos_true_false_true g E P t d w h hside hf ka na sa pa ga t1 hst _ rfl hpos kb nb sb pb gb t4 hst4 hs hf3 hlb
 ·exact cmp_pos_true_true g E P t d w h hside hf ka na sa pa ga t1 hst _ rfl hpos kb nb sb pb gb t4 hst4 hf3
theorem cmp_any (g:Nat)(E:Int)(P:Nat→PSt→ExprT×PSt)(t:PSt)(d:Nat)(w:World)(h:RdS g E w t d)(hL:LeP P)
  (hside:∀t w,RdS g E w t d→(d=33→t.fe≠0)→Calls Tryz.prog 121 #[.pointer (some ⟨g,0,none⟩)] w (SideP g E w (sideF E P d t) d)) (hf:d=33→t.fe≠0) :
  Calls Tryz.prog 117 #[.pointer (some ⟨g,0,none⟩)] w (ExP g E w (cmpF E P d t) d):=by
 obtain⟨a,t1,hst⟩:∃a t1,sideF E P d t=(a,t1):=⟨_,_,rfl⟩
 by_cases hn:opS t1<0
 ·exact cmp_neg g E P t d w h hside hf a t1 hst hn
 ·exact cmp_pos g E P t d w h hL hside hf a t1 hst hn
end
/- qtree: list at one (printed by gen_list.py). -/
section
open Go.RowKit
set_option maxRecDepth 100000
set_option maxHeartbeats 4000000
theorem list_one (g:Nat)(E:Int)(F:PSt→ExprT×PSt)(s:ByteArray)(k:Int)(d:Nat)(hd:d≤33)(hLF:∀t,(F t).2.toks.length≤t.toks.length)(hBF:∀t,t.fe≠0→(F t).2=t)
  (hF:∀t w,RdS g E w t d→(d=33→t.fe≠0)→Calls Tryz.prog 113 #[.pointer (some ⟨g,0,none⟩)] w (ExP g E w (F t) d)) (t:PSt) (w:World) (h:RdS g E w t d) (hf:d=33→t.fe≠0) :
  Calls Tryz.prog 108 #[.pointer (some ⟨g,0,none⟩),.string s,.int .i64 k,.func (.func 113) #[.pointer (some ⟨g,0,none⟩)] #[]] w (ExP g E w (listF E s.data.toList k F t) d):=by
 have hg:=h.lt
 obtain⟨w0,hw0⟩:∃w0:World,w0.heap.size=w.heap.size+1:=⟨w.alloc (.cells #[] 0),by simp⟩
 have hwa:w.heap.size+1≤w0.heap.size:=by omega
 have hwb:w0.heap.size≤w.heap.size+1:=by omega
 have hg0:g<w0.heap.size:=by omega
 clear hw0
 have HR0:=hH (h.alloc (.cells E0 92))
 have HX0:=hH (show Ex g w (w.alloc (.cells E0 92)) from(Ex.refl g w).alloc _)
 have HB0:=hH (Blk.new w 92 E0)
 have HTB:=hH h.bound
 have HF1:=hH (hF t _ HR0.out hf)
 have HF:=hH hF
 have HLE:=hH hLF
 have HLE1:=hH (hLF t)
 have HF2:=hH (show d=33→(F t).2.fe≠0 from fun e=>by rw [hBF t (hf e)];exact hf e)
 unfold listF
 obtain⟨x0,t1,hx0⟩:∃x0 t1,F t=(x0,t1):=⟨_,_,rfl⟩
 rw [hx0] at HF1 HF2 HLE1 ⊢
 unfold ExP at HF1
 simp only at HF1 HF2 HLE1 ⊢
 unfold E0 at HR0 HX0 HB0 HF1
 obtain⟨i0,hi,hz0,hz1,hz2⟩:=info_parts info_ex
 clear h hf hx0 hF hLF hBF
 go_enter Tryz.func108, Tryz.ntmps108
 generalize hQ:bodyPost Tryz.prog Tryz.f108 (ExP g E w (joinE k x0 (listL E s.data.toList F t1.toks.length t1).1,(listL E s.data.toList F t1.toks.length t1).2) d)=Q
 have HQ:=hH hQ;clear hQ
 go_wp2_with fail
 refine HF1.out.mono ?_
 rintro e w1 ⟨m,kv,qv,lv,rv,rfl,hex,hr,hx⟩
 obtain⟨A1,q1,A2,q2,A3,q3,A4,q4,rfl,rfl,rfl,rfl⟩:=hex.slices
 have hs1:=(HB0.out.ex hx (by omega)).lt
 have HBR:=hH (BRow.one REx_ok (w0:=w0) hex (fun b hb _=>by have:=hb.al;omega) (by omega) 92)
 have HRD:=hH (hr.alloc (.cells (exL x0 (.slice A1 x0.kids.length q1) (.slice A2 x0.q.segs.length q2) (.slice A3 x0.left.p.segs.length q3) (.slice A4 x0.right.p.segs.length q4)).toArray 92))
 have HEX:=hH ((HX0.out.trans hx).alloc (.cells (exL x0 (.slice A1 x0.kids.length q1) (.slice A2 x0.q.segs.length q2) (.slice A3 x0.left.p.segs.length q3) (.slice A4 x0.right.p.segs.length q4)).toArray 92))
 have HB1:=hH ((HB0.out.ex hx (by omega)).alloc (.cells (exL x0 (.slice A1 x0.kids.length q1) (.slice A2 x0.q.segs.length q2) (.slice A3 x0.left.p.segs.length q3) (.slice A4 x0.right.p.segs.length q4)).toArray 92))
 unfold exV
 clear hex hr hx HF1 HR0 HX0 HB0
 go_wp2
 unfold exL at HBR HRD HEX HB1
 go_loopg [9] t1.toks.length (fun kk v wr=>∃(t':PSt) (l:List ExprT) (css:List (List Value)) (m f:Nat),kk=t'.toks.length∧t'.toks.length≤f∧l.length+t'.toks.length≤1000001∧Hid (BRow 17 92 REx m w0 wr v l css)∧Hid (RdS g E wr t' d)∧Hid (Ex g w wr)∧Hid (Blk wr w.heap.size 92 E0)∧Hid (d=33→t'.fe≠0)∧Hid (((x0::(listL E s.data.toList F t1.toks.length t1).1,(listL E s.data.toList F t1.toks.length t1).2):List ExprT×PSt)=(l++(listL E s.data.toList F f t').1,(listL E s.data.toList F f t').2)))
 case atStart=>exact⟨t1,[x0],[_],m,t1.toks.length,rfl,Nat.le_refl _,by have:=HTB.out;have:=HLE1.out;simp;omega,HBR,HRD,HEX,HB1,HF2,hH rfl⟩
 case round =>
  clear HBR HRD HEX HF2 HTB HLE1 HB1 hs1
  obtain⟨t',l,css,m',f,hgk,hfl,hll,HBR,HRD,HEX,HBB,HFE,HEQ⟩:=hrel
  have HGK:=hH hgk;clear hgk
  cases hb:isS s.data.toList t' with
  | true =>
   have hd32:=is_deep hb hd HFE.out
   have hlt:=is_lt (E:=E) hb
   obtain⟨f',rfl⟩:∃f',f=f'+1:=⟨f-1,by omega⟩
   have HEQ:=hH (HEQ.out.trans (by rw [listL_yes hb]))
   have HT:=hH (take_yes g E t' d s wr HRD.out (hH hb))
   have HLE2:=hH (HLE.out (nextS E t'))
   obtain⟨x,t3,hx3⟩:∃x t3,F (nextS E t')=(x,t3):=⟨_,_,rfl⟩
   have HX3:=hH hx3
   rw [hx3] at HEQ HLE2
   simp only at HEQ HLE2
   have HLT:=hH hlt
   clear hb hx3 hlt HLE
   go_wp2_with (go_at_call 62;refine HT.out.mono ?_;rintro e w4 ⟨rfl,hr,hx⟩;have HS4:=hH (HF.out (nextS E t') w4 hr (fun e=>absurd e (by omega)));have HX4:=hH (HEX.out.trans hx);have HB4:=hH (HBR.out.ex REx_ok hx hg0);have HC4:=hH (HBB.out.ex hx (by omega));have hz4:=hx.size;clear hr hx)
   refine HS4.out.mono ?_
   rw [HX3.out]
   rintro e w5 ⟨mn,kv,qv,lv,rv,rfl,hex,hr,hx⟩
   simp only at hex hr ⊢
   obtain⟨A1,q1,A2,q2,A3,q3,A4,q4,rfl,rfl,rfl,rfl⟩:=hex.slices
   have hz5:=hx.size
   obtain⟨cs,hcs⟩:∃cs,cs=exL x (.slice A1 x.kids.length q1) (.slice A2 x.q.segs.length q2) (.slice A3 x.left.p.segs.length q3) (.slice A4 x.right.p.segs.length q4):=⟨_,rfl⟩
   rw [←hcs] at hex
   have HX5:=hH (HX4.out.trans hx)
   have HB5:=hH ((HB4.out.ex REx_ok hx hg0).bel REx_ok (bel_lit (o:=.cells cs.toArray 92)))
   have HC5:=hH ((HC4.out.ex hx (by omega)).alloc (.cells cs.toArray 92))
   have HR5:=hH (hr.alloc (.cells cs.toArray 92))
   have HN5:=hH (show REx (Fr w4) mn (w5.alloc (.cells cs.toArray 92)) cs x from REx_ok.keep (show REx (Fr w4) mn w5 cs x from hex) ((Kp.id_ fun b hb _=>hb).alloc _) (Nat.le_refl _))
   have HK5:=hH (show ∀b,Fr w4 b→b<(w5.alloc (.cells cs.toArray 92)).heap.size→w0.heap.size≤b∧u9.ownBlock≠some b from fun b (hb:w4.heap.size≤b) _=>⟨by have:=HBR.out.size;omega,fun e=>by have:=(HBR.out.blk e).2;omega⟩)
   have hwz:=HB5.out.size
   have hlen:cs.length=17:=REx_ok.len HN5.out
   unfold exV
   clear hex hr hx HS4 HB4 HC4
   subst hcs
   unfold exL at HB5 HC5 HR5 HN5 HK5 hwz
   go_wp2_with (at_builtin;refine wpList_append_any _ rfl (.tmp 16) (.tmp 19) 88 rfl w0.heap.size 92 i0 _ 17 216 Tryz.underlying88 hi hz0 hz1 hz2 rfl (by decide) u9 l.length css.flatten rfl HB5.out.own (w5.heap.size+1) (some ⟨w5.heap.size,0,none⟩) 1 1 (exL x (.slice A1 x.kids.length q1) (.slice A2 x.q.segs.length q2) (.slice A3 x.left.p.segs.length q3) (.slice A4 x.right.p.segs.length q4)) rfl (reads_new w5 92 17 1 (exL x (.slice A1 x.kids.length q1) (.slice A2 x.q.segs.length q2) (.slice A3 x.left.p.segs.length q3) (.slice A4 x.right.p.segs.length q4)) rfl) (REx_one HN5.out) (by unfold maxLen;omega) (by omega) hwz ?_;intro v' w7 hown7 hg7 hat7;have HB7:=hH (HB5.out.snoc REx_ok HN5.out HK5.out hown7 hg7 hat7);have HR7:=hH (HR5.out.grown hg7 (fun k hk=>by have:=(HBR.out.blk hk).1;omega));have HC7:=hH (HC5.out.grown hg7 (fun k hk=>by have:=(HBR.out.blk hk).1;omega));have HX7:=hH ((HX5.out.alloc (.cells (exL x (.slice A1 x.kids.length q1) (.slice A2 x.q.segs.length q2) (.slice A3 x.left.p.segs.length q3) (.slice A4 x.right.p.segs.length q4)).toArray 92)).grown hg7 (fun k hk=>by have:=(HBR.out.blk hk).1;omega));clear hown7 hg7 hat7)
   go_roundg t3.toks.length
   case measure=>have:=HGK.out;have:=HLT.out;have:=HLE2.out;simp;omega
   case rel=>exact⟨t3,l++[x],_,_,f',rfl,by have:=HLT.out;have:=HLE2.out;omega,by have:=HLT.out;have:=HLE2.out;simp;omega,HB7,HR7,HX7,HC7,hH (fun e=>absurd e (by omega)),hH (by rw [HEQ.out,List.append_assoc];rfl)⟩
  | false =>
   have HT:=hH (take_no g E t' d s wr HRD.out (hH hb))
   have hE:=HEQ.out.trans (by rw [listL_no hb,List.append_nil])
   have hE1:x0::(listL E s.data.toList F t1.toks.length t1).1=l:=congrArg Prod.fst hE
   have HE2:=hH (show (listL E s.data.toList F t1.toks.length t1).2=t' from congrArg Prod.snd hE)
   have hl0:0<l.length:=by rw [←hE1];simp
   obtain⟨A,c,hv,hrow⟩:=HBR.out.done REx_ok
   subst hv
   have HROW:=hH hrow
   have HB17:=HBB.out
   unfold E0 at HB17
   obtain⟨z,⟨d0,d1,d2,d3,d4,d5,d6,d7,d8,d9,d10,d11,d12,d13,d14,d15,d16⟩,⟨f0,f1,f2,f3,f4,f5,f6,f7,f8,f9,f10,f11,f12,f13,f14,f15,f16⟩⟩:=HB17.c17
   clear hb
   by_cases h1:l.length=1
   ·obtain⟨x,hlx⟩:∃x,l=[x]:=List.length_eq_one_iff.1 h1
    obtain⟨b,off,A1,q1,A2,q2,A3,q3,A4,q4,rfl,hR,hbl,hcells⟩:=RowG.first hrow hlx
    have HRx:=hH hR
    have HCE:=hH hcells
    have HE:=hH (show (joinE k x0 (listL E s.data.toList F t1.toks.length t1).1,(listL E s.data.toList F t1.toks.length t1).2)=(x,t') by
     rw [hlx] at hE1
     obtain⟨rfl,hnil⟩:=List.cons.inj hE1
     rw [hnil,HE2.out]
     rfl)
    clear hcells hR hrow HROW HEQ HBR hE hE1 hlx
    have hl1:((l.length:Int)==1)=true:=by rw [h1];rfl
    go_wp2_with (first|(go_at_call 62;refine HT.out.mono ?_;rintro e w' ⟨rfl,rfl⟩)|(refine wpList_load_ex rfl (.tmp 25) rfl b off rfl HCE.out ?_;unfold exV))
    rw [←HQ.out,HE.out]
    refine bodyPost_ret (v:=exV x (.slice A1 x.kids.length q1) (.slice A2 x.q.segs.length q2) (.slice A3 x.left.p.segs.length q3) (.slice A4 x.right.p.segs.length q4)) (results_cell_row (by rfl) _ _ w.heap.size _ _ _ _ (by rfl) (show Blk _ w.heap.size 92 _ from HB17.put17) Tryz.underlying92 (by rfl) (by kernel_rfl)) rfl ⟨_,_,_,_,_,rfl,ExR.keep ((Kp.id_ fun b (hb:w0.heap.size≤b) _=>(show w.heap.size≤b by omega)).far17 (fun b (hb:w0.heap.size≤b) _=>by omega)) _ _ (Nat.le_refl _) _ _ HRx.out,HRD.out.far17 hg,HEX.out.far17 (Nat.le_refl _)⟩
   ·have HE:=hH (show (joinE k x0 (listL E s.data.toList F t1.toks.length t1).1,(listL E s.data.toList F t1.toks.length t1).2)=(mkE k l,t') by
     rw [HE2.out]
     unfold joinE
     rw [if_neg (fun e=>by rw [e] at hE1;rw [←hE1] at h1;exact h1 rfl),hE1])
    have hl1:((l.length:Int)==1)=false:=by rw [beq_eq_false_iff_ne];omega
    clear hrow hE hE1 h1
    go_wp2_with (go_at_call 62;refine HT.out.mono ?_;rintro e w' ⟨rfl,rfl⟩)
    rw [←HQ.out,HE.out]
    have hkp:Kp (Fr w0) (Fr w) wr wr:=Kp.id_ fun b (hb:w0.heap.size≤b) _=>(show w.heap.size≤b by omega)
    refine bodyPost_ret (v:=exV (mkE k l) (.slice A l.length c) (.slice none 0 0) (.slice none 0 0) (.slice none 0 0)) (results_cell_row (by rfl) _ _ w.heap.size _ _ _ _ (by rfl) (show Blk _ w.heap.size 92 _ from HB17.put17) Tryz.underlying92 (by rfl) (by kernel_rfl)) rfl ⟨_,_,_,_,_,rfl,ExR.mk (HROW.out.keep (hkp.far17 (fun b (hb:w0.heap.size≤b) _=>by omega)) (fun cs x hx=>REx_ok.keep hx (hkp.far17 (fun b (hb:w0.heap.size≤b) _=>by omega)) (Nat.le_refl _))) k,HRD.out.far17 hg,HEX.out.far17 (Nat.le_refl _)⟩
end
/- qtree: and, or, over their list (printed by gen_list.py). -/
section
open Go.RowKit
set_option maxRecDepth 100000
set_option maxHeartbeats 4000000
theorem and_of (g:Nat)(E:Int)(F:PSt→ExprT×PSt)(d:Nat)(hd:d≤33)(hLF:∀t,(F t).2.toks.length≤t.toks.length)(hBF:∀t,t.fe≠0→(F t).2=t)
  (hF:∀t w,RdS g E w t d→(d=33→t.fe≠0)→Calls Tryz.prog 113 #[.pointer (some ⟨g,0,none⟩)] w (ExP g E w (F t) d)) (t:PSt) (w:World) (h:RdS g E w t d) (hf:d=33→t.fe≠0) :
  Calls Tryz.prog 109 #[.pointer (some ⟨g,0,none⟩)] w (ExP g E w (listF E [38,38] 1 F t) d):=by
 have hg:=h.lt
 have HR0:=hH (h.alloc (.cells E0 92))
 have HX0:=hH (show Ex g w (w.alloc (.cells E0 92)) from(Ex.refl g w).alloc _)
 have HB0:=hH (Blk.new w 92 E0)
 have HL:=hH (list_one g E F ⟨#[38,38]⟩ 1 d hd hLF hBF hF t _ HR0.out hf)
 unfold E0 at HR0 HX0 HB0 HL
 have hmf:∀(fn:Fn) (first cap:Array Value) (w:World),(Instr.makeFunc fn first cap).run Tryz.prog w=.ok (.func fn first cap) w:=fun _ _ _ _=>rfl
 obtain⟨x,t1,hx1⟩:∃x t1,listF E [38,38] 1 F t=(x,t1):=⟨_,_,rfl⟩
 have hx1':listF E (⟨#[38,38]⟩:ByteArray).data.toList 1 F t=(x,t1):=hx1
 rw [hx1'] at HL
 rw [hx1]
 unfold ExP at HL
 simp only at HL
 clear h hf hF hLF hBF hx1 hx1'
 go_enter Tryz.func109, Tryz.ntmps109
 generalize hQ:bodyPost Tryz.prog Tryz.f109 (ExP g E w (x,t1) d)=Q
 have HQ:=hH hQ;clear hQ
 go_wp2_with fail
 refine HL.out.mono ?_
 rintro e w1 ⟨m,kv,qv,lv,rv,rfl,hex,hr,hx⟩
 obtain⟨A1,q1,A2,q2,A3,q3,A4,q4,rfl,rfl,rfl,rfl⟩:=hex.slices
 have HE1:=hH hex
 have HR1:=hH hr
 have HX1:=hH (HX0.out.trans hx)
 have HB1:=HB0.out.ex hx (by omega)
 obtain⟨z,⟨d0,d1,d2,d3,d4,d5,d6,d7,d8,d9,d10,d11,d12,d13,d14,d15,d16⟩,⟨f0,f1,f2,f3,f4,f5,f6,f7,f8,f9,f10,f11,f12,f13,f14,f15,f16⟩⟩:=HB1.c17
 unfold exV
 clear hex hr hx HL HB0 HX0 HR0
 go_wp2
 rw [←HQ.out]
 have hkp:Kp (Fr (w.alloc (.cells E0 92))) (Fr w) w1 w1:=Kp.id_ fun b hb _=>(show w.heap.size≤b by have:=hb.al;omega)
 exact bodyPost_ret (v:=exV x (.slice A1 x.kids.length q1) (.slice A2 x.q.segs.length q2) (.slice A3 x.left.p.segs.length q3) (.slice A4 x.right.p.segs.length q4)) (results_cell_row (by rfl) _ _ w.heap.size _ _ _ _ (by rfl) (show Blk _ w.heap.size 92 _ from HB1.put17) Tryz.underlying92 (by rfl) (by kernel_rfl)) rfl ⟨_,_,_,_,_,rfl,REx_ok.keep HE1.out (hkp.far17 (fun b hb _=>by have:=hb.al;omega)) (Nat.le_refl _),HR1.out.far17 hg,HX1.out.far17 (Nat.le_refl _)⟩
theorem or_of (g:Nat)(E:Int)(F:PSt→ExprT×PSt)(d:Nat)(hd:d≤33)(hLF:∀t,(F t).2.toks.length≤t.toks.length)(hBF:∀t,t.fe≠0→(F t).2=t)
  (hF:∀t w,RdS g E w t d→(d=33→t.fe≠0)→Calls Tryz.prog 109 #[.pointer (some ⟨g,0,none⟩)] w (ExP g E w (F t) d)) (t:PSt) (w:World) (h:RdS g E w t d) (hf:d=33→t.fe≠0) :
  Calls Tryz.prog 98 #[.pointer (some ⟨g,0,none⟩)] w (ExP g E w (listF E [124,124] 0 F t) d):=by
 have hg:=h.lt
 have HR0:=hH (h.alloc (.cells E0 92))
 have HX0:=hH (show Ex g w (w.alloc (.cells E0 92)) from(Ex.refl g w).alloc _)
 have HB0:=hH (Blk.new w 92 E0)
 have HL:=hH (list_and g E F ⟨#[124,124]⟩ 0 d hd hLF hBF hF t _ HR0.out hf)
 unfold E0 at HR0 HX0 HB0 HL
 have hmf:∀(fn:Fn) (first cap:Array Value) (w:World),(Instr.makeFunc fn first cap).run Tryz.prog w=.ok (.func fn first cap) w:=fun _ _ _ _=>rfl
 obtain⟨x,t1,hx1⟩:∃x t1,listF E [124,124] 0 F t=(x,t1):=⟨_,_,rfl⟩
 have hx1':listF E (⟨#[124,124]⟩:ByteArray).data.toList 0 F t=(x,t1):=hx1
 rw [hx1'] at HL
 rw [hx1]
 unfold ExP at HL
 simp only at HL
 clear h hf hF hLF hBF hx1 hx1'
 go_enter Tryz.func98, Tryz.ntmps98
 generalize hQ:bodyPost Tryz.prog Tryz.f98 (ExP g E w (x,t1) d)=Q
 have HQ:=hH hQ;clear hQ
 go_wp2_with fail
 refine HL.out.mono ?_
 rintro e w1 ⟨m,kv,qv,lv,rv,rfl,hex,hr,hx⟩
 obtain⟨A1,q1,A2,q2,A3,q3,A4,q4,rfl,rfl,rfl,rfl⟩:=hex.slices
 have HE1:=hH hex
 have HR1:=hH hr
 have HX1:=hH (HX0.out.trans hx)
 have HB1:=HB0.out.ex hx (by omega)
 obtain⟨z,⟨d0,d1,d2,d3,d4,d5,d6,d7,d8,d9,d10,d11,d12,d13,d14,d15,d16⟩,⟨f0,f1,f2,f3,f4,f5,f6,f7,f8,f9,f10,f11,f12,f13,f14,f15,f16⟩⟩:=HB1.c17
 unfold exV
 clear hex hr hx HL HB0 HX0 HR0
 go_wp2
 rw [←HQ.out]
 have hkp:Kp (Fr (w.alloc (.cells E0 92))) (Fr w) w1 w1:=Kp.id_ fun b hb _=>(show w.heap.size≤b by have:=hb.al;omega)
 exact bodyPost_ret (v:=exV x (.slice A1 x.kids.length q1) (.slice A2 x.q.segs.length q2) (.slice A3 x.left.p.segs.length q3) (.slice A4 x.right.p.segs.length q4)) (results_cell_row (by rfl) _ _ w.heap.size _ _ _ _ (by rfl) (show Blk _ w.heap.size 92 _ from HB1.put17) Tryz.underlying92 (by rfl) (by kernel_rfl)) rfl ⟨_,_,_,_,_,rfl,REx_ok.keep HE1.out (hkp.far17 (fun b hb _=>by have:=hb.al;omega)) (Nat.le_refl _),HR1.out.far17 hg,HX1.out.far17 (Nat.le_refl _)⟩
end
/- qtree: expressions, all of them (or, by induction on the levels). -/
section
open Go.RowKit
theorem qone_any (g:Nat)(E:Int)(P:Nat→PSt→ExprT×PSt)(hL:LeP P)(N:Nat)(hP:OrC g E P N)(t:PSt)(d:Nat)(w:World)(h:RdS g E w t d)(hN:N≤d+1)(hd:d≤33)(hf:d=33→t.fe≠0) :
  Calls Tryz.prog 113 #[.pointer (some ⟨g,0,none⟩)] w (ExP g E w (oneF true E P d t) d):=by
 cases h33:isS [33] t with
 | true =>
  have hd32:=is_deep h33 hd hf
  have hne:d=32→(openS E d t).fe≠0:=fun e=>openS_33 e
  unfold oneF
  rw [ite_tt h33]
  cases h40:isS [40] (openS E d t) with
  | true =>
   have hd31:d+1≤32:=by
    rcases Nat.lt_or_ge d 32 with h1|h1
    ·omega
    ·exact absurd (isS_ok h40).1 (hne (by omega))
   unfold notF
   rw [ite_tt h40]
   exact not_a g E t d w h hd32 _ _ (fun w hr=>round_any g E P N hP (openS E d t) (d+1) w hr (by omega) hd31) h33 h40
  | false =>
   have hk:notF true E P (d+1) (openS E d t)=(mkE 2 [(testF E P (d+1) (openS E d t)).1],(testF E P (d+1) (openS E d t)).2):=by
    unfold notF testF
    rw [ite_ff h40]
    cases isPath (openS E d t) <;> rfl
   rw [hk]
   exact not_b g E t d w h hd32 _ _ (fun w hr=>test_any g E P (openS E d t) (d+1) w hr (fun w hr=>path_any g E P hL N hP (openS E d t) (d+1) w hr (by omega) (by omega) (fun e=>hne (by omega)))) h33 h40
 | false =>
  cases h40:isS [40] t with
  | true =>
   have hd32:=is_deep h40 hd hf
   have hk:oneF true E P d t=roundF E P d t:=by unfold oneF;rw [ite_ff h33,ite_tt h40]
   rw [hk]
   exact one_round g E t d w h _ (fun w hr=>round_any g E P N hP t d w hr hN hd32) h33 h40
  | false =>
   have hk:oneF true E P d t=cmpF E P d t:=by unfold oneF;rw [ite_ff h33,ite_ff h40]
   rw [hk]
   exact one_cmp g E t d w h _ (fun w hr=>cmp_any g E P t d w hr hL (fun t w hr hf=>side_any g E P t d w hr (fun w hr=>path_any g E P hL N hP t d w hr hN hd hf)) hf) h33 h40
theorem orC_succ (g:Nat)(E:Int)(P:Nat→PSt→ExprT×PSt)(hL:LeP P)(N:Nat)(hP:OrC g E P (N+1)):OrC g E (orF true E P) N:=by
 intro d t w h hd hf hN
 exact or_of g E (andF true E P d) d hd (fun t=>andF_le hL d t) (fun t h=>andF_bad true t h)
  (fun t w h hf=>and_of g E (oneF true E P d) d hd (fun t=>oneF_le hL d true t) (fun t h=>oneF_bad true h)
   (fun t w h hf=>qone_any g E P hL (N+1) hP t d w h (by omega) hd hf) t w h hf) t w h hf
theorem orC_all (g:Nat)(E:Int):∀n,n≤34→OrC g E (orS true E n) (34-n)
 | 0,_=>fun d _ _ _ hd _ hN=>absurd hN (by omega)
 | n+1,hn=>by
  have h:=orC_all g E n (by omega)
  rw [show 34-n=34-(n+1)+1 by omega] at h
  exact orC_succ g E (orS true E n) (orS_le true E n) (34-(n+1)) h
theorem path_all (g:Nat)(E:Int)(t:PSt)(w:World)(h:RdS g E w t 0) :
  Calls Tryz.prog 21 #[.pointer (some ⟨g,0,none⟩)] w (PathP g E w (pathF E (orS true E 34) 0 t) 0) :=
 path_any g E (orS true E 34) (orS_le true E 34) 0 (orC_all g E 34 (Nat.le_refl _)) t 0 w h (by omega) (by omega) (fun e=>absurd e (by omega))
end

end Go.Proofs.YtjbdcjcfijjiiaaGreatDoor
