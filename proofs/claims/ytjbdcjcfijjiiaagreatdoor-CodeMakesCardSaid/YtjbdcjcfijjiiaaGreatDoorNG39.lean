/- NG39: Qj, Qm joined. -/
import Derived.Test.YtjbdcjcfijjiiaaGreatDoorNQi
namespace Go.Proofs.YtjbdcjcfijjiiaaGreatDoor
open Go.RowKit
/- qtree: list, or, and (printed by gen_list.py). -/
section
open Go.RowKit
set_option maxRecDepth 100000
set_option maxHeartbeats 4000000
theorem REx.opened {K:Nat→Prop}{m:Nat}{w:World}{cs:List Value}{x:ExprT}(h:REx K m w cs x):∃A1 q1 A2 q2 A3 q3 A4 q4,cs=exL x (.slice A1 x.kids.length q1) (.slice A2 x.q.segs.length q2) (.slice A3 x.left.p.segs.length q3) (.slice A4 x.right.p.segs.length q4):=by
 have h0:ExR K m w cs x:=h
 cases m with
 | zero=>exact h0.elim
 | succ m =>
  obtain⟨kv,qv,lv,rv,rfl,_⟩:=h0
  obtain⟨A1,q1,A2,q2,A3,q3,A4,q4,rfl,rfl,rfl,rfl⟩:=ExR.slices (show ExR K (m+1) w (exL x kv qv lv rv) x from h)
  exact⟨A1,q1,A2,q2,A3,q3,A4,q4,rfl⟩
theorem RowG.first {K:Nat→Prop}{m:Nat}{w:World}{A:Option Addr}{c:Nat}{l:List ExprT}{x:ExprT}(h:RowG K 17 (REx K m w) w (.slice A l.length c) l)(hl:l=[x]):∃b off A1 q1 A2 q2 A3 q3 A4 q4,A=some ⟨b,off,none⟩∧REx K m w (exL x (.slice A1 x.kids.length q1) (.slice A2 x.q.segs.length q2) (.slice A3 x.left.p.segs.length q3) (.slice A4 x.right.p.segs.length q4)) x∧b<w.heap.size∧
  ∀(j:Nat) u,(exL x (.slice A1 x.kids.length q1) (.slice A2 x.q.segs.length q2) (.slice A3 x.left.p.segs.length q3) (.slice A4 x.right.p.segs.length q4))[j]? = some u→w.cell? ⟨b,off+0*17+j,none⟩=some u:=by
 obtain⟨A',c',e,-,h3⟩:=h
 obtain⟨b,off,rfl,-,hb,hc⟩:=h3.resolve_left (by rw [hl];simp)
 obtain⟨cs,-,h4,h5⟩:=hc 0 x (by rw [hl];rfl)
 obtain⟨A1,q1,A2,q2,A3,q3,A4,q4,rfl⟩:=REx.opened h5
 simp only [Value.slice.injEq] at e
 exact⟨b,off,A1,q1,A2,q2,A3,q3,A4,q4,e.1,h5,hb,h4⟩
theorem load_ex {w:World}{b off:Nat}{x:ExprT}{kv qv lv rv:Value}(h:∀(j:Nat) u,(exL x kv qv lv rv)[j]? = some u→w.cell? ⟨b,off+0*17+j,none⟩=some u):(loadVar 92 ⟨b,off,none⟩).run Tryz.prog w=.ok (exV x kv qv lv rv) w:=by
 obtain⟨i0,hi,hz0,hz1,hz2⟩:=info_parts info_ex
 have hl:(loadCells ⟨b,off,none⟩ 17).run Tryz.prog w=.ok (exL x kv qv lv rv).toArray w :=
  run_loadCells_list (P:=Tryz.prog) w ⟨b,off,none⟩ (exL x kv qv lv rv) (fun j v hv=>by
   rw [add_lit]
   have:=h j v hv
   rw [Nat.zero_mul,Nat.add_zero] at this
   exact this)
 have hagg:(isAgg 92).run Tryz.prog w=.ok true w:=by
  unfold isAgg
  rw [Sem.run_bind,run_underlying Tryz.underlying92 w]
  rfl
 simp only [loadVar,Sem.run_bind,hagg,Result.andThen_ok,sizeOf,typeInfo]
 simp [hi,hz1,hl,exV,exL]
theorem wp_load_ex {o:Oper}{a:Act}{w:World}{K:Act→World→Prop}{Q:Exit→Act→World→Prop}(z:Operand)(ho:o.op=.load 92 z)(b off:Nat)(hx:a.eval z=.pointer (some ⟨b,off,none⟩)){x:ExprT}{kv qv lv rv:Value}(hc:∀(j:Nat) u,(exL x kv qv lv rv)[j]? = some u→w.cell? ⟨b,off+0*17+j,none⟩=some u)
  (h:K (a.put o.dst (exV x kv qv lv rv)) w):o.wp Tryz.prog a w K Q:=by
 unfold Oper.wp execOp
 simp only [ho,hx,Instr.loadAt,Instr.sureAddr,Sem.run_bind,Sem.run_pure,Result.andThen_ok,load_ex hc]
 exact h
theorem wpList_load_ex {ops:Array Oper}{rest:List Oper}{o:Oper}{a:Act}{w:World}{Q:Exit→Act→World→Prop}(hgd:o.guard=none)(z:Operand)(ho:o.op=.load 92 z)(b off:Nat)(hx:a.eval z=.pointer (some ⟨b,off,none⟩)){x:ExprT}{kv qv lv rv:Value}(hc:∀(j:Nat) u,(exL x kv qv lv rv)[j]? = some u→w.cell? ⟨b,off+0*17+j,none⟩=some u)
  (h:wpList Tryz.prog ops Q rest (a.put o.dst (exV x kv qv lv rv)) w):wpList Tryz.prog ops Q (o::rest) a w :=
 wpList_plain hgd fun _ hK=>wp_load_ex z ho b off hx hc (hK _ _ h)
def E0 :Array Value:=#[.int .i64 0,.slice none 0 0,.bool false,.slice none 0 0,.int .i64 0,.bool false,.int .i64 0,.int .i64 0,.string ⟨#[]⟩,.bool false,.slice none 0 0,.bool false,.int .i64 0,.int .i64 0,.string ⟨#[]⟩,.bool false,.slice none 0 0]
theorem RowG.nil {α:Type}(K:Nat→Prop)(k:Nat)(R:List Value→α→Prop)(w:World):RowG K k R w (.slice none 0 0) ([]:List α):=⟨none,0,rfl,⟨Nat.le_refl _,by omega⟩,.inl rfl⟩
theorem ExR.mk {K:Nat→Prop}{m:Nat}{w:World}{kv:Value}{l:List ExprT}(h:RowG K 17 (REx K m w) w kv l)(k:Int):ExR K (m+1) w (exL (mkE k l) kv (.slice none 0 0) (.slice none 0 0) (.slice none 0 0)) (mkE k l) :=
 ⟨_,_,_,_,rfl,h,RowG.nil _ _ _ _,RowG.nil _ _ _ _,RowG.nil _ _ _ _⟩
theorem listL_yes {E:Int}{sg:List UInt8}{F:PSt→ExprT×PSt}{f:Nat}{t:PSt}(h:isS sg t=true):listL E sg F (f+1) t=((F (nextS E t)).1::(listL E sg F f (F (nextS E t)).2).1,(listL E sg F f (F (nextS E t)).2).2):=by rw [listL,ite_tt h]
theorem listL_no {E:Int}{sg:List UInt8}{F:PSt→ExprT×PSt}{f:Nat}{t:PSt}(h:isS sg t=false):listL E sg F f t=([],t):=by
 cases f with
 | zero=>rfl
 | succ f=>rw [listL,ite_ff h]
theorem Blk.put17 {w:World}{k:Nat}{t:TypeId}{v0 v1 v2 v3 v4 v5 v6 v7 v8 v9 v10 v11 v12 v13 v14 v15 v16 u0 u1 u2 u3 u4 u5 u6 u7 u8 u9 u10 u11 u12 u13 u14 u15 u16:Value}(h:Blk w k t #[v0,v1,v2,v3,v4,v5,v6,v7,v8,v9,v10,v11,v12,v13,v14,v15,v16]):Blk (((((((((((((((((w.setCell ⟨k,0,none⟩ u0).setCell ⟨k,1,none⟩ u1).setCell ⟨k,2,none⟩ u2).setCell ⟨k,3,none⟩ u3).setCell ⟨k,4,none⟩ u4).setCell ⟨k,5,none⟩ u5).setCell ⟨k,6,none⟩ u6).setCell ⟨k,7,none⟩ u7).setCell ⟨k,8,none⟩ u8).setCell ⟨k,9,none⟩ u9).setCell ⟨k,10,none⟩ u10).setCell ⟨k,11,none⟩ u11).setCell ⟨k,12,none⟩ u12).setCell ⟨k,13,none⟩ u13).setCell ⟨k,14,none⟩ u14).setCell ⟨k,15,none⟩ u15).setCell ⟨k,16,none⟩ u16) k t #[u0,u1,u2,u3,u4,u5,u6,u7,u8,u9,u10,u11,u12,u13,u14,u15,u16]:=by
 have h0:Blk _ k t #[u0,v1,v2,v3,v4,v5,v6,v7,v8,v9,v10,v11,v12,v13,v14,v15,v16]:=h.set_ 0 u0
 have h1:Blk _ k t #[u0,u1,v2,v3,v4,v5,v6,v7,v8,v9,v10,v11,v12,v13,v14,v15,v16]:=h0.set_ 1 u1
 have h2:Blk _ k t #[u0,u1,u2,v3,v4,v5,v6,v7,v8,v9,v10,v11,v12,v13,v14,v15,v16]:=h1.set_ 2 u2
 have h3:Blk _ k t #[u0,u1,u2,u3,v4,v5,v6,v7,v8,v9,v10,v11,v12,v13,v14,v15,v16]:=h2.set_ 3 u3
 have h4:Blk _ k t #[u0,u1,u2,u3,u4,v5,v6,v7,v8,v9,v10,v11,v12,v13,v14,v15,v16]:=h3.set_ 4 u4
 have h5:Blk _ k t #[u0,u1,u2,u3,u4,u5,v6,v7,v8,v9,v10,v11,v12,v13,v14,v15,v16]:=h4.set_ 5 u5
 have h6:Blk _ k t #[u0,u1,u2,u3,u4,u5,u6,v7,v8,v9,v10,v11,v12,v13,v14,v15,v16]:=h5.set_ 6 u6
 have h7:Blk _ k t #[u0,u1,u2,u3,u4,u5,u6,u7,v8,v9,v10,v11,v12,v13,v14,v15,v16]:=h6.set_ 7 u7
 have h8:Blk _ k t #[u0,u1,u2,u3,u4,u5,u6,u7,u8,v9,v10,v11,v12,v13,v14,v15,v16]:=h7.set_ 8 u8
 have h9:Blk _ k t #[u0,u1,u2,u3,u4,u5,u6,u7,u8,u9,v10,v11,v12,v13,v14,v15,v16]:=h8.set_ 9 u9
 have h10:Blk _ k t #[u0,u1,u2,u3,u4,u5,u6,u7,u8,u9,u10,v11,v12,v13,v14,v15,v16]:=h9.set_ 10 u10
 have h11:Blk _ k t #[u0,u1,u2,u3,u4,u5,u6,u7,u8,u9,u10,u11,v12,v13,v14,v15,v16]:=h10.set_ 11 u11
 have h12:Blk _ k t #[u0,u1,u2,u3,u4,u5,u6,u7,u8,u9,u10,u11,u12,v13,v14,v15,v16]:=h11.set_ 12 u12
 have h13:Blk _ k t #[u0,u1,u2,u3,u4,u5,u6,u7,u8,u9,u10,u11,u12,u13,v14,v15,v16]:=h12.set_ 13 u13
 have h14:Blk _ k t #[u0,u1,u2,u3,u4,u5,u6,u7,u8,u9,u10,u11,u12,u13,u14,v15,v16]:=h13.set_ 14 u14
 have h15:Blk _ k t #[u0,u1,u2,u3,u4,u5,u6,u7,u8,u9,u10,u11,u12,u13,u14,u15,v16]:=h14.set_ 15 u15
 have h16:Blk _ k t #[u0,u1,u2,u3,u4,u5,u6,u7,u8,u9,u10,u11,u12,u13,u14,u15,u16]:=h15.set_ 16 u16
 exact h16
theorem list_and (g:Nat)(E:Int)(F:PSt→ExprT×PSt)(s:ByteArray)(k:Int)(d:Nat)(hd:d≤33)(hLF:∀t,(F t).2.toks.length≤t.toks.length)(hBF:∀t,t.fe≠0→(F t).2=t)
  (hF:∀t w,RdS g E w t d→(d=33→t.fe≠0)→Calls Tryz.prog 109 #[.pointer (some ⟨g,0,none⟩)] w (ExP g E w (F t) d)) (t:PSt) (w:World) (h:RdS g E w t d) (hf:d=33→t.fe≠0) :
  Calls Tryz.prog 108 #[.pointer (some ⟨g,0,none⟩),.string s,.int .i64 k,.func (.func 109) #[.pointer (some ⟨g,0,none⟩)] #[]] w (ExP g E w (listF E s.data.toList k F t) d):=by
 have hg:=h.lt
 obtain⟨w0,hw0⟩:∃w0:World,w0.heap.size=w.heap.size+1:=⟨w.alloc (.cells #[] 0),by simp⟩
 have hwa:w.heap.size+1≤w0.heap.size:=by omega
 have hwb:w0.heap.size≤w.heap.size+1:=by omega
 have hg0:g<w0.heap.size:=by omega
 clear hw0
 have HR0:=hH (h.alloc (.cells E0 92))
 have HX0:=hH (show Ex g w (w.alloc (.cells E0 92)) from(Ex.refl g w).alloc _)
 have HB0:=hH (Blk.new w 92 E0)
 have HTB:=hH h.bound
 have HF1:=hH (hF t _ HR0.out hf)
 have HF:=hH hF
 have HLE:=hH hLF
 have HLE1:=hH (hLF t)
 have HF2:=hH (show d=33→(F t).2.fe≠0 from fun e=>by rw [hBF t (hf e)];exact hf e)
 unfold listF
 obtain⟨x0,t1,hx0⟩:∃x0 t1,F t=(x0,t1):=⟨_,_,rfl⟩
 rw [hx0] at HF1 HF2 HLE1 ⊢
 unfold ExP at HF1
 simp only at HF1 HF2 HLE1 ⊢
 unfold E0 at HR0 HX0 HB0 HF1
 obtain⟨i0,hi,hz0,hz1,hz2⟩:=info_parts info_ex
 clear h hf hx0 hF hLF hBF
 go_enter Tryz.func108, Tryz.ntmps108
 generalize hQ:bodyPost Tryz.prog Tryz.f108 (ExP g E w (joinE k x0 (listL E s.data.toList F t1.toks.length t1).1,(listL E s.data.toList F t1.toks.length t1).2) d)=Q
 have HQ:=hH hQ;clear hQ
 go_wp2_with fail
 refine HF1.out.mono ?_
 rintro e w1 ⟨m,kv,qv,lv,rv,rfl,hex,hr,hx⟩
 obtain⟨A1,q1,A2,q2,A3,q3,A4,q4,rfl,rfl,rfl,rfl⟩:=hex.slices
 have hs1:=(HB0.out.ex hx (by omega)).lt
 have HBR:=hH (BRow.one REx_ok (w0:=w0) hex (fun b hb _=>by have:=hb.al;omega) (by omega) 92)
 have HRD:=hH (hr.alloc (.cells (exL x0 (.slice A1 x0.kids.length q1) (.slice A2 x0.q.segs.length q2) (.slice A3 x0.left.p.segs.length q3) (.slice A4 x0.right.p.segs.length q4)).toArray 92))
 have HEX:=hH ((HX0.out.trans hx).alloc (.cells (exL x0 (.slice A1 x0.kids.length q1) (.slice A2 x0.q.segs.length q2) (.slice A3 x0.left.p.segs.length q3) (.slice A4 x0.right.p.segs.length q4)).toArray 92))
 have HB1:=hH ((HB0.out.ex hx (by omega)).alloc (.cells (exL x0 (.slice A1 x0.kids.length q1) (.slice A2 x0.q.segs.length q2) (.slice A3 x0.left.p.segs.length q3) (.slice A4 x0.right.p.segs.length q4)).toArray 92))
 unfold exV
 clear hex hr hx HF1 HR0 HX0 HB0
 go_wp2
 unfold exL at HBR HRD HEX HB1
 go_loopg [9] t1.toks.length (fun kk v wr=>∃(t':PSt) (l:List ExprT) (css:List (List Value)) (m f:Nat),kk=t'.toks.length∧t'.toks.length≤f∧l.length+t'.toks.length≤1000001∧Hid (BRow 17 92 REx m w0 wr v l css)∧Hid (RdS g E wr t' d)∧Hid (Ex g w wr)∧Hid (Blk wr w.heap.size 92 E0)∧Hid (d=33→t'.fe≠0)∧Hid (((x0::(listL E s.data.toList F t1.toks.length t1).1,(listL E s.data.toList F t1.toks.length t1).2):List ExprT×PSt)=(l++(listL E s.data.toList F f t').1,(listL E s.data.toList F f t').2)))
 case atStart=>exact⟨t1,[x0],[_],m,t1.toks.length,rfl,Nat.le_refl _,by have:=HTB.out;have:=HLE1.out;simp;omega,HBR,HRD,HEX,HB1,HF2,hH rfl⟩
 case round =>
  clear HBR HRD HEX HF2 HTB HLE1 HB1 hs1
  obtain⟨t',l,css,m',f,hgk,hfl,hll,HBR,HRD,HEX,HBB,HFE,HEQ⟩:=hrel
  have HGK:=hH hgk;clear hgk
  cases hb:isS s.data.toList t' with
  | true =>
   have hd32:=is_deep hb hd HFE.out
   have hlt:=is_lt (E:=E) hb
   obtain⟨f',rfl⟩:∃f',f=f'+1:=⟨f-1,by omega⟩
   have HEQ:=hH (HEQ.out.trans (by rw [listL_yes hb]))
   have HT:=hH (take_yes g E t' d s wr HRD.out (hH hb))
   have HLE2:=hH (HLE.out (nextS E t'))
   obtain⟨x,t3,hx3⟩:∃x t3,F (nextS E t')=(x,t3):=⟨_,_,rfl⟩
   have HX3:=hH hx3
   rw [hx3] at HEQ HLE2
   simp only at HEQ HLE2
   have HLT:=hH hlt
   clear hb hx3 hlt HLE
   go_wp2_with (go_at_call 62;refine HT.out.mono ?_;rintro e w4 ⟨rfl,hr,hx⟩;have HS4:=hH (HF.out (nextS E t') w4 hr (fun e=>absurd e (by omega)));have HX4:=hH (HEX.out.trans hx);have HB4:=hH (HBR.out.ex REx_ok hx hg0);have HC4:=hH (HBB.out.ex hx (by omega));have hz4:=hx.size;clear hr hx)
   refine HS4.out.mono ?_
   rw [HX3.out]
   rintro e w5 ⟨mn,kv,qv,lv,rv,rfl,hex,hr,hx⟩
   simp only at hex hr ⊢
   obtain⟨A1,q1,A2,q2,A3,q3,A4,q4,rfl,rfl,rfl,rfl⟩:=hex.slices
   have hz5:=hx.size
   obtain⟨cs,hcs⟩:∃cs,cs=exL x (.slice A1 x.kids.length q1) (.slice A2 x.q.segs.length q2) (.slice A3 x.left.p.segs.length q3) (.slice A4 x.right.p.segs.length q4):=⟨_,rfl⟩
   rw [←hcs] at hex
   have HX5:=hH (HX4.out.trans hx)
   have HB5:=hH ((HB4.out.ex REx_ok hx hg0).bel REx_ok (bel_lit (o:=.cells cs.toArray 92)))
   have HC5:=hH ((HC4.out.ex hx (by omega)).alloc (.cells cs.toArray 92))
   have HR5:=hH (hr.alloc (.cells cs.toArray 92))
   have HN5:=hH (show REx (Fr w4) mn (w5.alloc (.cells cs.toArray 92)) cs x from REx_ok.keep (show REx (Fr w4) mn w5 cs x from hex) ((Kp.id_ fun b hb _=>hb).alloc _) (Nat.le_refl _))
   have HK5:=hH (show ∀b,Fr w4 b→b<(w5.alloc (.cells cs.toArray 92)).heap.size→w0.heap.size≤b∧u9.ownBlock≠some b from fun b (hb:w4.heap.size≤b) _=>⟨by have:=HBR.out.size;omega,fun e=>by have:=(HBR.out.blk e).2;omega⟩)
   have hwz:=HB5.out.size
   have hlen:cs.length=17:=REx_ok.len HN5.out
   unfold exV
   clear hex hr hx HS4 HB4 HC4
   subst hcs
   unfold exL at HB5 HC5 HR5 HN5 HK5 hwz
   go_wp2_with (at_builtin;refine wpList_append_any _ rfl (.tmp 16) (.tmp 19) 88 rfl w0.heap.size 92 i0 _ 17 216 Tryz.underlying88 hi hz0 hz1 hz2 rfl (by decide) u9 l.length css.flatten rfl HB5.out.own (w5.heap.size+1) (some ⟨w5.heap.size,0,none⟩) 1 1 (exL x (.slice A1 x.kids.length q1) (.slice A2 x.q.segs.length q2) (.slice A3 x.left.p.segs.length q3) (.slice A4 x.right.p.segs.length q4)) rfl (reads_new w5 92 17 1 (exL x (.slice A1 x.kids.length q1) (.slice A2 x.q.segs.length q2) (.slice A3 x.left.p.segs.length q3) (.slice A4 x.right.p.segs.length q4)) rfl) (REx_one HN5.out) (by unfold maxLen;omega) (by omega) hwz ?_;intro v' w7 hown7 hg7 hat7;have HB7:=hH (HB5.out.snoc REx_ok HN5.out HK5.out hown7 hg7 hat7);have HR7:=hH (HR5.out.grown hg7 (fun k hk=>by have:=(HBR.out.blk hk).1;omega));have HC7:=hH (HC5.out.grown hg7 (fun k hk=>by have:=(HBR.out.blk hk).1;omega));have HX7:=hH ((HX5.out.alloc (.cells (exL x (.slice A1 x.kids.length q1) (.slice A2 x.q.segs.length q2) (.slice A3 x.left.p.segs.length q3) (.slice A4 x.right.p.segs.length q4)).toArray 92)).grown hg7 (fun k hk=>by have:=(HBR.out.blk hk).1;omega));clear hown7 hg7 hat7)
   go_roundg t3.toks.length
   case measure=>have:=HGK.out;have:=HLT.out;have:=HLE2.out;simp;omega
   case rel=>exact⟨t3,l++[x],_,_,f',rfl,by have:=HLT.out;have:=HLE2.out;omega,by have:=HLT.out;have:=HLE2.out;simp;omega,HB7,HR7,HX7,HC7,hH (fun e=>absurd e (by omega)),hH (by rw [HEQ.out,List.append_assoc];rfl)⟩
  | false =>
   have HT:=hH (take_no g E t' d s wr HRD.out (hH hb))
   have hE:=HEQ.out.trans (by rw [listL_no hb,List.append_nil])
   have hE1:x0::(listL E s.data.toList F t1.toks.length t1).1=l:=congrArg Prod.fst hE
   have HE2:=hH (show (listL E s.data.toList F t1.toks.length t1).2=t' from congrArg Prod.snd hE)
   have hl0:0<l.length:=by rw [←hE1];simp
   obtain⟨A,c,hv,hrow⟩:=HBR.out.done REx_ok
   subst hv
   have HROW:=hH hrow
   have HB17:=HBB.out
   unfold E0 at HB17
   obtain⟨z,⟨d0,d1,d2,d3,d4,d5,d6,d7,d8,d9,d10,d11,d12,d13,d14,d15,d16⟩,⟨f0,f1,f2,f3,f4,f5,f6,f7,f8,f9,f10,f11,f12,f13,f14,f15,f16⟩⟩:=HB17.c17
   clear hb
   by_cases h1:l.length=1
   ·obtain⟨x,hlx⟩:∃x,l=[x]:=List.length_eq_one_iff.1 h1
    obtain⟨b,off,A1,q1,A2,q2,A3,q3,A4,q4,rfl,hR,hbl,hcells⟩:=RowG.first hrow hlx
    have HRx:=hH hR
    have HCE:=hH hcells
    have HE:=hH (show (joinE k x0 (listL E s.data.toList F t1.toks.length t1).1,(listL E s.data.toList F t1.toks.length t1).2)=(x,t') by
     rw [hlx] at hE1
     obtain⟨rfl,hnil⟩:=List.cons.inj hE1
     rw [hnil,HE2.out]
     rfl)
    clear hcells hR hrow HROW HEQ HBR hE hE1 hlx
    have hl1:((l.length:Int)==1)=true:=by rw [h1];rfl
    go_wp2_with (first|(go_at_call 62;refine HT.out.mono ?_;rintro e w' ⟨rfl,rfl⟩)|(refine wpList_load_ex rfl (.tmp 25) rfl b off rfl HCE.out ?_;unfold exV))
    rw [←HQ.out,HE.out]
    refine bodyPost_ret (v:=exV x (.slice A1 x.kids.length q1) (.slice A2 x.q.segs.length q2) (.slice A3 x.left.p.segs.length q3) (.slice A4 x.right.p.segs.length q4)) (results_cell_row (by rfl) _ _ w.heap.size _ _ _ _ (by rfl) (show Blk _ w.heap.size 92 _ from HB17.put17) Tryz.underlying92 (by rfl) (by kernel_rfl)) rfl ⟨_,_,_,_,_,rfl,ExR.keep ((Kp.id_ fun b (hb:w0.heap.size≤b) _=>(show w.heap.size≤b by omega)).far17 (fun b (hb:w0.heap.size≤b) _=>by omega)) _ _ (Nat.le_refl _) _ _ HRx.out,HRD.out.far17 hg,HEX.out.far17 (Nat.le_refl _)⟩
   ·have HE:=hH (show (joinE k x0 (listL E s.data.toList F t1.toks.length t1).1,(listL E s.data.toList F t1.toks.length t1).2)=(mkE k l,t') by
     rw [HE2.out]
     unfold joinE
     rw [if_neg (fun e=>by rw [e] at hE1;rw [←hE1] at h1;exact h1 rfl),hE1])
    have hl1:((l.length:Int)==1)=false:=by rw [beq_eq_false_iff_ne];omega
    clear hrow hE hE1 h1
    go_wp2_with (go_at_call 62;refine HT.out.mono ?_;rintro e w' ⟨rfl,rfl⟩)
    rw [←HQ.out,HE.out]
    have hkp:Kp (Fr w0) (Fr w) wr wr:=Kp.id_ fun b (hb:w0.heap.size≤b) _=>(show w.heap.size≤b by omega)
    refine bodyPost_ret (v:=exV (mkE k l) (.slice A l.length c) (.slice none 0 0) (.slice none 0 0) (.slice none 0 0)) (results_cell_row (by rfl) _ _ w.heap.size _ _ _ _ (by rfl) (show Blk _ w.heap.size 92 _ from HB17.put17) Tryz.underlying92 (by rfl) (by kernel_rfl)) rfl ⟨_,_,_,_,_,rfl,ExR.mk (HROW.out.keep (hkp.far17 (fun b (hb:w0.heap.size≤b) _=>by omega)) (fun cs x hx=>REx_ok.keep hx (hkp.far17 (fun b (hb:w0.heap.size≤b) _=>by omega)) (Nat.le_refl _))) k,HRD.out.far17 hg,HEX.out.far17 (Nat.le_refl _)⟩
end
/- qtree: round (over or's contract). -/
section
open Go.RowKit
set_option maxRecDepth 100000
set_option maxHeartbeats 4000000
theorem load_far {w:World}{k:Nat}{T:TypeId}{x:ExprT}{kv qv lv rv:Value}{p:Addr}(h:Blk w k T (exL x kv qv lv rv).toArray)(hp:k≠p.block)(v:Value) :
  ∀(j:Nat) u,(exL x kv qv lv rv)[j]? = some u→(w.setCell p v).cell? ⟨k,0+0*17+j,none⟩=some u:=fun j u hu=>by
 rw [show 0+0*17+j=j by omega]
 exact((h.far hp v).cell j).trans (by simpa using hu)
theorem round_any (g:Nat)(E:Int)(P:Nat→PSt→ExprT×PSt)(N:Nat)(hP:OrC g E P N)(t:PSt)(d:Nat)(w:World)(h:RdS g E w t d)(hN:N≤d+1)(hd:d≤32) :
  Calls Tryz.prog 116 #[.pointer (some ⟨g,0,none⟩)] w (ExP g E w (roundF E P d t) d):=by
 have hg:=h.lt
 have HR0:=hH (h.alloc (.cells E0 92))
 have HX0:=hH (show Ex g w (w.alloc (.cells E0 92)) from(Ex.refl g w).alloc _)
 have HB0:=hH (Blk.new w 92 E0)
 have HO:=hH (open_any g E t d _ HR0.out (by omega))
 have HP:=hH (fun w hr=>hP (d+1) (openS E d t) w hr (by omega) (fun e=>openS_33 (by omega)) hN)
 unfold roundF
 obtain⟨x,t2,hx2⟩:∃x t2,P (d+1) (openS E d t)=(x,t2):=⟨_,_,rfl⟩
 rw [hx2] at HP ⊢
 unfold ExP at HP
 simp only at HP ⊢
 unfold E0 at HR0 HX0 HB0 HO
 clear h hx2 hP
 go_enter Tryz.func116, Tryz.ntmps116
 generalize hQ:bodyPost Tryz.prog Tryz.f116 (ExP g E w (x,mustS E [41] t2) d)=Q
 have HQ:=hH hQ;clear hQ
 go_wp2_with (go_at_call 97;refine HO.out.mono ?_;rintro e w1 ⟨rfl,hr,hx⟩;have HP1:=hH (HP.out w1 hr);have HX1:=hH (HX0.out.trans hx);have HB1:=hH (HB0.out.ex hx (by omega));clear hr hx)
 refine HP1.out.mono ?_
 rintro e w2 ⟨m,kv,qv,lv,rv,rfl,hex,hr,hx⟩
 obtain⟨A1,q1,A2,q2,A3,q3,A4,q4,rfl,rfl,rfl,rfl⟩:=hex.slices
 have hw1:w.heap.size<w1.heap.size:=HB1.out.lt
 have hw2:=hx.size
 obtain⟨cs,hcs⟩:∃cs,cs=exL x (.slice A1 x.kids.length q1) (.slice A2 x.q.segs.length q2) (.slice A3 x.left.p.segs.length q3) (.slice A4 x.right.p.segs.length q4):=⟨_,rfl⟩
 have HE2:=hH (show REx (Fr w1) m w2 cs x by rw [hcs];exact hex)
 have HX2:=hH ((HX1.out.trans hx).alloc (.cells cs.toArray 92))
 have HB2:=hH ((HB1.out.ex hx (by omega)).alloc (.cells cs.toArray 92))
 have HC2:=hH (Blk.new w2 92 cs.toArray)
 have HM:=hH (must_any g E t2 (d+1) ⟨#[41]⟩ _ (hr.alloc (.cells cs.toArray 92)))
 have HC2a:=hH (show Blk _ w2.heap.size 92 (exL x (.slice A1 x.kids.length q1) (.slice A2 x.q.segs.length q2) (.slice A3 x.left.p.segs.length q3) (.slice A4 x.right.p.segs.length q4)).toArray by rw [←hcs];exact HC2.out)
 clear HC2
 subst hcs
 have HE3:=hH HE2.out
 clear HE2
 unfold exL at HX2 HB2 HM HC2a
 unfold exV
 clear hex hr hx HP1 HB1 HX1
 go_wp2_with (first
  | (go_at_call 82;refine HM.out.mono ?_;rintro e w3 ⟨rfl,hr,hx⟩;have HR3:=hH hr;have HK3:=hH hx;have HX3:=hH (HX2.out.trans hx);have HB3:=HB2.out.ex hx (by omega);have HC3:=hH (HC2a.out.ex hx (by omega));clear hr hx;obtain⟨A,c,n,hn,hnc,hc,hd1,hg2,⟨c0,c1,c2,c3,c4⟩,⟨p0,p2,p3,p4⟩,hT⟩:=HR3.out.cells;clear hn hT hnc hc c0 c1 c2 c3 p0 p2 p3;obtain⟨z,⟨d0,d1,d2,d3,d4,d5,d6,d7,d8,d9,d10,d11,d12,d13,d14,d15,d16⟩,⟨f0,f1,f2,f3,f4,f5,f6,f7,f8,f9,f10,f11,f12,f13,f14,f15,f16⟩⟩:=HB3.c17;have HCE:=hH (fun (v:Value)=>load_far (p:=⟨g,4,none⟩) HC3.out (by show w2.heap.size≠g;omega) v))
  | (refine wpList_load_ex rfl (.tmp 3) rfl w2.heap.size 0 rfl (HCE.out _) ?_;unfold exV))
 rw [←HQ.out]
 have hkp:Kp (Fr w1) (Fr w) w2 w3:=((Kp.id_ fun b hb _=>hb).alloc _).trans (HK3.out.kp fun b (hb:w1.heap.size≤b) _=>⟨by omega,(show w.heap.size≤b by omega)⟩)
 trace_state
 refine bodyPost_ret (v:=exV x (.slice A1 x.kids.length q1) (.slice A2 x.q.segs.length q2) (.slice A3 x.left.p.segs.length q3) (.slice A4 x.right.p.segs.length q4)) (results_cell_row (by rfl) _ _ w.heap.size _ _ _ _ (by rfl) (show Blk _ w.heap.size 92 _ from(HB3.far (p:=⟨g,4,none⟩) (by show w.heap.size≠g;omega) _).put17) Tryz.underlying92 (by rfl) (by kernel_rfl)) rfl ⟨m,_,_,_,_,rfl,ExR.keep ((hkp.set_ (p:=⟨g,4,none⟩) (fun b (hb:w1.heap.size≤b) _=>(show b≠g by omega)) _).far17 (fun b (hb:w1.heap.size≤b) _=>by omega)) _ _ (Nat.le_refl _) _ _ HE3.out,(HR3.out.deep (d':=d) (by omega) (by omega)).far17 hg,(HX3.out.self1 4 _).far17 (Nat.le_refl _)⟩
end

end Go.Proofs.YtjbdcjcfijjiiaaGreatDoor
