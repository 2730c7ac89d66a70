/- ref17: rows of elements; sels (printed by gen_yh.py). -/
import Derived.Deep.LoopGhost
import Derived.Test.YtjbdcjcfijjiiaaGreatDoorNYg
namespace Go.Proofs.YtjbdcjcfijjiiaaGreatDoor
open Go.RowKit
set_option maxRecDepth 100000
set_option maxHeartbeats 2000000
def Els {α:Type}(k:Nat)(R:Rel α)(w0:World)(m:Nat)(css:List (List Value))(l:List α)(y:World):Prop :=
 css.length=l.length∧(∀cs∈css,cs.length=k)∧∀(i:Nat) (cs:List Value) (x:α),css[i]? = some cs→l[i]? = some x→R (Fr w0) m y cs x
theorem Els.nil {α:Type}(k:Nat)(R:Rel α)(w0:World)(m:Nat)(y:World):Els k R w0 m [] ([]:List α) y:=⟨rfl,⟨(fun _ h=>nomatch h),fun i cs x h _=>by simp at h⟩⟩
theorem Els.snoc {α:Type}{k:Nat}{R:Rel α}{w0:World}{m mn:Nat}{css:List (List Value)}{l:List α}{y:World}{cs:List Value}{x:α}(hR:RelOk k R)(h:Els k R w0 m css l y)(hn:R (Fr w0) mn y cs x):Els k R w0 (max m mn) (css++[cs]) (l++[x]) y:=by
 refine⟨by simp [h.1],fun c hc=>?_,fun i cs' x' h1 h2=>?_⟩
 ·rcases List.mem_append.1 hc with hc|hc
  ·exact h.2.1 c hc
  ·simp at hc;subst hc;exact hR.len hn
 ·rcases Nat.lt_or_ge i css.length with hi|hi
  ·rw [List.getElem?_append_left hi] at h1
   rw [List.getElem?_append_left (by rw [←h.1];exact hi)] at h2
   exact hR.keep (h.2.2 i cs' x' h1 h2) (Kp.refl _ _) (Nat.le_max_left _ _)
  ·rw [List.getElem?_append_right hi] at h1
   rw [List.getElem?_append_right (by rw [←h.1];exact hi),←h.1] at h2
   obtain⟨j,hj⟩:∃j,i-css.length=j:=⟨_,rfl⟩
   rw [hj] at h1 h2
   cases j with
   | zero=>cases h1;cases h2;exact hR.keep hn (Kp.refl _ _) (Nat.le_max_right _ _)
   | succ j=>simp at h1
theorem Els.one {α:Type}{k:Nat}{R:Rel α}{w0:World}{m:Nat}{y:World}{cs:List Value}{x:α}(hR:RelOk k R)(hn:R (Fr w0) m y cs x):Els k R w0 m [cs] [x] y:=by
 have:=Els.snoc hR (Els.nil k R w0 0 y) hn
 simpa using this
theorem Els.done {α:Type}{k:Nat}{R:Rel α}{w0:World}{m:Nat}{css:List (List Value)}{l:List α}{y:World}{v:Value}{T:TypeId}(h:Els k R w0 m css l y)(ho:y.ownsRow w0.heap.size T k v l.length css.flatten):∃A c,v=.slice A l.length c∧RowG (Fr w0) k (R (Fr w0) m y) y (.slice A l.length c) l:=by
 rcases ho.2 with⟨hv,h0⟩|⟨g,cap,cur,hv,hb,hg,hle,hmx,_⟩
 ·exact⟨none,0,by rw [hv,h0],none,0,rfl,⟨by omega,by omega⟩,.inl (List.eq_nil_of_length_eq_zero h0)⟩
 ·refine⟨some ⟨g,0,none⟩,cap,hv,some ⟨g,0,none⟩,cap,rfl,⟨hle,by unfold maxLen at hmx;omega⟩,.inr ⟨g,0,rfl,hb,(Array.getElem?_eq_some_iff.1 hg).1,fun i x hx=>?_⟩⟩
  have hi:i<css.length:=by rw [h.1];exact(List.getElem?_eq_some_iff.1 hx).1
  have hcs:css[i]? = some css[i]:=List.getElem?_eq_getElem hi
  have hlen:=h.2.1 css[i] (List.getElem_mem hi)
  refine⟨css[i],hlen,fun j u hu=>?_,h.2.2 i _ x hcs hx⟩
  have hj:j<k:=by rw [←hlen];exact(List.getElem?_eq_some_iff.1 hu).1
  have:=ho.cells (g:=g) (by rw [hv];rfl) (i*k+j) u (by rw [flat_at css k h.2.1 i j hj,hcs];exact hu)
  rw [add_lit] at this
  rw [show 0+i*k+j=0+(i*k+j) by omega];exact this
theorem Own.addR {α:Type}{k:Nat}{R:Rel α}{X:List Nat}{w0 w w':World}{L:List BlkE}{rs:List RowE}{J:World→Prop}{m:Nat}{cs:List Value}{x:α}(hR:RelOk k R)(M:Own X w0 w L rs J)(hb:Bel w.heap.size w w')(h:R (Fr w) m w' cs x):Own X w0 w' L rs (fun y=>J y∧R (Fr w0) m y cs x) :=
 M.addK (G:=fun K y=>R K m y cs x) (fun h hk=>hR.keep h hk (Nat.le_refl _)) hb h
section
variable  {X:List Nat}{w0 w:World}{L L':List BlkE}{rs:List RowE}{J S:World→Prop}{ops:Array Oper}{rest:List Oper}{a:Act}{Q:Exit→Act→World→Prop}{md:Region.Mode}{fuel i:Nat}{listed:Array Bool}{is:List Nat}{dst:Option Tmp}{tt:TypeId}{pos:String}{af:Array Edge}
theorem bsf_Sel (v0 v1 v2 v3 v4 v5 v6 v7 v8:Value):Tryz.prog.builtSlice 85 1 [(0,.agg #[v0,v1,v2,v3,v4,v5,v6,v7,v8])]=some #[v0,v1,v2,v3,v4,v5,v6,v7,v8]:=by kernel_rfl
theorem gq_Sel {x:Operand}(dst:Option Tmp)(h:wpList Tryz.prog ops Q (⟨dst,.buildSlice 77 1 #[(0,x)],tt,pos,af,none⟩::rest) a w):wpList Tryz.prog ops Q (⟨dst,.buildSlice 77 1 #[(0,x)],tt,pos,af,none⟩::rest) a w:=h
theorem gp_Sel {s x:Operand}(h:wpList Tryz.prog ops Q (⟨dst,.call { callee:=.builtin .append,args:=#[s,x],argTypes:=#[77,77] },tt,pos,af,none⟩::rest) a w):wpList Tryz.prog ops Q (⟨dst,.call { callee:=.builtin .append,args:=#[s,x],argTypes:=#[77,77] },tt,pos,af,none⟩::rest) a w:=h
theorem bsl_Sel (dst:Option Tmp){x:Operand}{v0 v1 v2 v3 v4 v5 v6 v7 v8:Value}(M:Own X w0 w L rs J)
  (h:∀g w',w0.heap.size≤g→Hid (Own X w0 w' ((g,85,#[v0,v1,v2,v3,v4,v5,v6,v7,v8])::L) rs J)→wpList Tryz.prog ops Q rest (a.put dst (.slice (some ⟨g,0,none⟩) 1 1)) w') (hx:a.eval x=.agg #[v0,v1,v2,v3,v4,v5,v6,v7,v8]:=by with_unfolding_all exact rfl):wpList Tryz.prog ops Q (⟨dst,.buildSlice 77 1 #[(0,x)],tt,pos,af,none⟩::rest) a w :=
 wpList_buildSlice_own rfl _ 85 1 _ rfl Tryz.underlying77 _ (by simp only [List.map_toArray,List.map_cons,List.map_nil,hx];exact bsf_Sel v0 v1 v2 v3 v4 v5 v6 v7 v8) M fun g w' hg _ M=>h g w' hg (hH M)
theorem ap_Sel {s x:Operand}{v:Value}{n:Nat}{xs:List Value}{g c:Nat}{T:TypeId}{cs:Array Value}(hs:a.eval s=v)(hx:a.eval x=.slice (some ⟨g,0,none⟩) 1 c)(M:Own X w0 w L rs J)
  (h:∀v' w',(∀rs',UpdR (v,85,9,n,xs) (v',85,9,n+1,xs++cs.toList) rs rs'→Own X w0 w' L rs' J)→wpList Tryz.prog ops Q rest (a.put dst v') w') (hrow:(v,85,9,n,xs)∈rs:=by repeat constructor) (hm:(g,T,cs)∈L:=by repeat constructor) (hcs:cs.size=9:=by exact rfl) (h1:allOne cs.toList=true:=by exact rfl) (hn:n≤1000000:=by omega):wpList Tryz.prog ops Q (⟨dst,.call { callee:=.builtin .append,args:=#[s,x],argTypes:=#[77,77] },tt,pos,af,none⟩::rest) a w:=by
 obtain⟨i0,hi,hz0,hz1,hz2⟩:=info_parts info_sel
 exact wpList_append_ownB rfl s x _ rfl 85 i0 _ 9 72 Tryz.underlying77 hi hz0 hz1 hz2 rfl (by decide) v n xs hs M hrow g c 1 cs hx T hm (by rw [hcs]) h1 (by unfold maxLen;omega) (by omega) h
theorem bsf_Seg (v0 v1:Value):Tryz.prog.builtSlice 79 1 [(0,.agg #[v0,v1])]=some #[v0,v1]:=by kernel_rfl
theorem gq_Seg {x:Operand}(dst:Option Tmp)(h:wpList Tryz.prog ops Q (⟨dst,.buildSlice 35 1 #[(0,x)],tt,pos,af,none⟩::rest) a w):wpList Tryz.prog ops Q (⟨dst,.buildSlice 35 1 #[(0,x)],tt,pos,af,none⟩::rest) a w:=h
theorem gp_Seg {s x:Operand}(h:wpList Tryz.prog ops Q (⟨dst,.call { callee:=.builtin .append,args:=#[s,x],argTypes:=#[35,35] },tt,pos,af,none⟩::rest) a w):wpList Tryz.prog ops Q (⟨dst,.call { callee:=.builtin .append,args:=#[s,x],argTypes:=#[35,35] },tt,pos,af,none⟩::rest) a w:=h
theorem bsl_Seg (dst:Option Tmp){x:Operand}{v0 v1:Value}(M:Own X w0 w L rs J)
  (h:∀g w',w0.heap.size≤g→Hid (Own X w0 w' ((g,79,#[v0,v1])::L) rs J)→wpList Tryz.prog ops Q rest (a.put dst (.slice (some ⟨g,0,none⟩) 1 1)) w') (hx:a.eval x=.agg #[v0,v1]:=by with_unfolding_all exact rfl):wpList Tryz.prog ops Q (⟨dst,.buildSlice 35 1 #[(0,x)],tt,pos,af,none⟩::rest) a w :=
 wpList_buildSlice_own rfl _ 79 1 _ rfl Tryz.underlying35 _ (by simp only [List.map_toArray,List.map_cons,List.map_nil,hx];exact bsf_Seg v0 v1) M fun g w' hg _ M=>h g w' hg (hH M)
theorem ap_Seg {s x:Operand}{v:Value}{n:Nat}{xs:List Value}{g c:Nat}{T:TypeId}{cs:Array Value}(hs:a.eval s=v)(hx:a.eval x=.slice (some ⟨g,0,none⟩) 1 c)(M:Own X w0 w L rs J)
  (h:∀v' w',(∀rs',UpdR (v,79,2,n,xs) (v',79,2,n+1,xs++cs.toList) rs rs'→Own X w0 w' L rs' J)→wpList Tryz.prog ops Q rest (a.put dst v') w') (hrow:(v,79,2,n,xs)∈rs:=by repeat constructor) (hm:(g,T,cs)∈L:=by repeat constructor) (hcs:cs.size=2:=by exact rfl) (h1:allOne cs.toList=true:=by exact rfl) (hn:n≤1000000:=by omega):wpList Tryz.prog ops Q (⟨dst,.call { callee:=.builtin .append,args:=#[s,x],argTypes:=#[35,35] },tt,pos,af,none⟩::rest) a w:=by
 obtain⟨i0,hi,hz0,hz1,hz2⟩:=info_parts info_seg
 exact wpList_append_ownB rfl s x _ rfl 79 i0 _ 2 32 Tryz.underlying35 hi hz0 hz1 hz2 rfl (by decide) v n xs hs M hrow g c 1 cs hx T hm (by rw [hcs]) h1 (by unfold maxLen;omega) (by omega) h
theorem bsf_Expr (v0 v1 v2 v3 v4 v5 v6 v7 v8 v9 v10 v11 v12 v13 v14 v15 v16:Value):Tryz.prog.builtSlice 92 1 [(0,.agg #[v0,v1,v2,v3,v4,v5,v6,v7,v8,v9,v10,v11,v12,v13,v14,v15,v16])]=some #[v0,v1,v2,v3,v4,v5,v6,v7,v8,v9,v10,v11,v12,v13,v14,v15,v16]:=by kernel_rfl
theorem gq_Expr {x:Operand}(dst:Option Tmp)(h:wpList Tryz.prog ops Q (⟨dst,.buildSlice 88 1 #[(0,x)],tt,pos,af,none⟩::rest) a w):wpList Tryz.prog ops Q (⟨dst,.buildSlice 88 1 #[(0,x)],tt,pos,af,none⟩::rest) a w:=h
theorem gp_Expr {s x:Operand}(h:wpList Tryz.prog ops Q (⟨dst,.call { callee:=.builtin .append,args:=#[s,x],argTypes:=#[88,88] },tt,pos,af,none⟩::rest) a w):wpList Tryz.prog ops Q (⟨dst,.call { callee:=.builtin .append,args:=#[s,x],argTypes:=#[88,88] },tt,pos,af,none⟩::rest) a w:=h
theorem bsl_Expr (dst:Option Tmp){x:Operand}{v0 v1 v2 v3 v4 v5 v6 v7 v8 v9 v10 v11 v12 v13 v14 v15 v16:Value}(M:Own X w0 w L rs J)
  (h:∀g w',w0.heap.size≤g→Hid (Own X w0 w' ((g,92,#[v0,v1,v2,v3,v4,v5,v6,v7,v8,v9,v10,v11,v12,v13,v14,v15,v16])::L) rs J)→wpList Tryz.prog ops Q rest (a.put dst (.slice (some ⟨g,0,none⟩) 1 1)) w') (hx:a.eval x=.agg #[v0,v1,v2,v3,v4,v5,v6,v7,v8,v9,v10,v11,v12,v13,v14,v15,v16]:=by with_unfolding_all exact rfl):wpList Tryz.prog ops Q (⟨dst,.buildSlice 88 1 #[(0,x)],tt,pos,af,none⟩::rest) a w :=
 wpList_buildSlice_own rfl _ 92 1 _ rfl Tryz.underlying88 _ (by simp only [List.map_toArray,List.map_cons,List.map_nil,hx];exact bsf_Expr v0 v1 v2 v3 v4 v5 v6 v7 v8 v9 v10 v11 v12 v13 v14 v15 v16) M fun g w' hg _ M=>h g w' hg (hH M)
theorem rbs_Expr {x:Operand}(ho:ops[i]? = some ⟨dst,.buildSlice 88 1 #[(0,x)],tt,pos,af,none⟩){v0 v1 v2 v3 v4 v5 v6 v7 v8 v9 v10 v11 v12 v13 v14 v15 v16:Value}(hx:a.eval x=.agg #[v0,v1,v2,v3,v4,v5,v6,v7,v8,v9,v10,v11,v12,v13,v14,v15,v16])(M:Own X w0 w L rs J)
  (h:∀g w',w0.heap.size≤g→Hid (Own X w0 w' ((g,92,#[v0,v1,v2,v3,v4,v5,v6,v7,v8,v9,v10,v11,v12,v13,v14,v15,v16])::L) rs J)→S w'∧wpAnyH Tryz.prog md ops Q S fuel (listed.setIfInBounds i true) (a.put dst (.slice (some ⟨g,0,none⟩) 1 1)) w') (hs:AllReadyH Tryz.prog md ops Q S fuel listed a w is:=by exact .nil):AllReadyH Tryz.prog md ops Q S fuel listed a w (i::is) :=
 rdy_buildSlice _ 92 1 _ ho Tryz.underlying88 _ (by simp only [List.map_toArray,List.map_cons,List.map_nil,hx];exact bsf_Expr v0 v1 v2 v3 v4 v5 v6 v7 v8 v9 v10 v11 v12 v13 v14 v15 v16) M (fun g w' hg _ M=>h g w' hg (hH M)) hs
theorem ap_Expr {s x:Operand}{v:Value}{n:Nat}{xs:List Value}{g c:Nat}{T:TypeId}{cs:Array Value}(hs:a.eval s=v)(hx:a.eval x=.slice (some ⟨g,0,none⟩) 1 c)(M:Own X w0 w L rs J)
  (h:∀v' w',(∀rs',UpdR (v,92,17,n,xs) (v',92,17,n+1,xs++cs.toList) rs rs'→Own X w0 w' L rs' J)→wpList Tryz.prog ops Q rest (a.put dst v') w') (hrow:(v,92,17,n,xs)∈rs:=by repeat constructor) (hm:(g,T,cs)∈L:=by repeat constructor) (hcs:cs.size=17:=by exact rfl) (h1:allOne cs.toList=true:=by exact rfl) (hn:n≤1000000:=by omega):wpList Tryz.prog ops Q (⟨dst,.call { callee:=.builtin .append,args:=#[s,x],argTypes:=#[88,88] },tt,pos,af,none⟩::rest) a w:=by
 obtain⟨i0,hi,hz0,hz1,hz2⟩:=info_parts info_ex
 exact wpList_append_ownB rfl s x _ rfl 92 i0 _ 17 216 Tryz.underlying88 hi hz0 hz1 hz2 rfl (by decide) v n xs hs M hrow g c 1 cs hx T hm (by rw [hcs]) h1 (by unfold maxLen;omega) (by omega) h
end
theorem SelC.ptr_ {K:Nat→Prop}{R:List Value→ExprT→Prop}{w:World}{x:SelT}{pv:Value}(h:SelC K R w (selL x pv) x):∃p,pv=.pointer p:=by
 obtain⟨pv',h1,h2⟩:=h
 have h1:pv=pv':=by unfold selL at h1;simpa using h1
 subst h1
 cases hf:x.f with
 | none=>rw [hf] at h2;exact⟨none,h2⟩
 | some e=>rw [hf] at h2;obtain⟨b,off,cs,h1,_⟩:=h2;exact⟨_,h1⟩
theorem rmustS_bad {E:Int}{l:List UInt8}{t:PSt}(h:t.fe≠0):mustS E l t=t:=by unfold mustS;rw [isS_bad l h];exact formS_bad h
theorem rselF_bad {E:Int}{P:Nat→PSt→ExprT×PSt}{d:Nat}{t:PSt}(h:t.fe≠0):(selF E P d t).2=t:=by
 have hk:kindS t=0:=by unfold kindS;rw [hdT_bad h];rfl
 unfold selF
 rw [if_neg (by rw [hk];decide),ite_ff (isS_bad _ h),ite_ff (isS_bad _ h),ite_ff (by rw [hk,isS_bad _ h];rfl)]
 exact formS_bad h
theorem rselsL_yes {E:Int}{P:Nat→PSt→ExprT×PSt}{d f:Nat}{t:PSt}(h:isS [44] t=true):selsL E P d (f+1) t=((selF E P d (nextS E t)).1::(selsL E P d f (selF E P d (nextS E t)).2).1,(selsL E P d f (selF E P d (nextS E t)).2).2):=by rw [selsL,ite_tt h]
theorem rselsL_no {E:Int}{P:Nat→PSt→ExprT×PSt}{d f:Nat}{t:PSt}(h:isS [44] t=false):selsL E P d f t=([],t):=by
 cases f with
 | zero=>rfl
 | succ f=>rw [selsL,ite_ff h]
theorem RIn.bound {all:List TokD}{k:Nat}{t:PSt}(h:RIn all k t):t.toks.length≤4096:=by
 rw [h.eq,List.length_drop];have:=h.bd;omega
def RSelsP (A:Option Addr)(all:List TokD)(c:Nat)(E:Int)(d:Nat)(w:World)(r:List SelT×PSt)(e:Ending)(w':World):Prop :=
 ∃m A1 c1 k' dp',e=.returned (.tuple #[rv A all.length c k' E r.2 dp',.slice A1 r.1.length c1])∧RIn all k' r.2∧(r.2.fe=0→dp'=(d:Int))∧RowG (Fr w) 9 (RSel (Fr w) m w') w' (.slice A1 r.1.length c1) r.1∧Bel w.heap.size w w'
section
variable  (A:Option Addr)(all:List TokD)(c k:Nat)(E:Int)(P:Nat→PSt→ExprT×PSt)(t:PSt)(d:Nat)(dp:Int)(w:World)
theorem rsels_any (hL:LeP P)(N:Nat)(hP:ROrC A all c E P N)(h:RIn all k t)(hT:TkR w A all)(hd:t.fe=0→dp=(d:Int))(hN:N≤d+1)(hdd:d≤33)(hf:d=33→t.fe≠0):Calls Tryz.prog 46 #[rv A all.length c k E t dp] w (RSelsP A all c E d w (selsF E P d t)):=by
 have HM:=hH (fun W (hb:Bel w.heap.size w W)=>rmust_any A all c k E t dp W ⟨#[91]⟩ h (hT.bel hb))
 have HS:=hH (fun k t dp W (hi:RIn all k t) (hb:Bel w.heap.size w W) hd hf=>rsel_any A all c k E P t d dp W N hP hi (hT.bel hb) hd hN hdd hf)
 have HTT:=hH hT
 have HF1:=hH (show d=33→(mustS E [91] t).fe≠0 from fun e=>by rw [rmustS_bad (hf e)];exact hf e)
 have HF2:=hH (show d=33→(selF E P d (mustS E [91] t)).2.fe≠0 from fun e=>by rw [rselF_bad (HF1.out e)];exact HF1.out e)
 have HD1:=hH (show (mustS E [91] t).fe=0→dp=(d:Int) from fun e=>hd (mustS_fe0 e))
 have HLE:=hH (fun t=>selF_le hL d (E:=E) t)
 unfold selsF
 unfold RP at HM
 rw [show ((⟨#[91]⟩:ByteArray).data.toList)=[91] from rfl] at HM
 obtain⟨t1,ht1⟩:∃t1,mustS E [91] t=t1:=⟨_,rfl⟩
 rw [ht1] at HF1 HF2 HD1 HM ⊢
 obtain⟨x0,t2,hx0⟩:∃x0 t2,selF E P d t1=(x0,t2):=⟨_,_,rfl⟩
 have HX0:=hH hx0
 rw [hx0] at HF2 ⊢
 simp only at HF2 ⊢
 unfold RSelP at HS
 clear h hf hx0 ht1 hP hT hd
 have M:=hH (Own.start [] w (fun _=>True) fun _ _=>trivial)
 go_enter Tryz.func46, Tryz.ntmps46
 generalize hQ:bodyPost Tryz.prog Tryz.f46 (RSelsP A all c E d w (x0::(selsL E P d t2.toks.length t2).1,mustS E [93] (selsL E P d t2.toks.length t2).2))=Q
 have HQ:=hH hQ;clear hQ
 go_wp2_with (first|(with_reducible first|(refine bx_R (some 1) M.out ?_;clear M;intro g1 w' hg1 M)|(refine al_R (some 2) M.out ?_;clear M;intro g2 w' hg2 M)|(refine al_R (some 4) M.out ?_;clear M;intro g4 w' hg4 M)|(refine al_Sel (some 5) M.out ?_;clear M;intro g5 w' hg5 M)|refine ld_R M.out ?_|refine ld_Sel M.out ?_|(refine st_R M.out ?_;clear M;intro w' M)|(refine st_Sel M.out ?_;clear M;intro w' M)|(refine bsl_Sel (some 17) M.out ?_;clear M;intro g17 w' hg17 M))|(go_at_call 67;(with_reducible refine(HM.out _ M.out.bel0).mono ?_);rintro e w' ⟨k1,rfl,hi1,hb⟩;have HS1:=hH (fun W hb=>HS.out k1 t1 dp W hi1 hb HD1.out HF1.out);clear hi1;replace M:=hH (M.out.bel hb);clear hb)|(go_at_call 68;(with_reducible refine(HS1.out _ M.out.bel0).mono ?_);rintro e w' ⟨mn,pv,k2,D2,rfl,hi2,hd2,hsc,hb⟩;rw [HX0.out] at hi2 hd2 hsc ⊢;simp only at hi2 hd2 hsc ⊢;obtain⟨ppv,rfl⟩:=hsc.ptr_;have Mn:=M.out.addR RSel_ok hb hsc;replace M:=hH Mn;clear Mn hb hsc))
 have HR0:=hH ((M.out.rowOf 9 1 hg17 rfl (by unfold maxLen;omega)).imp (J':=fun y=>Els 9 RSel w mn [selL x0 (.pointer ppv)] [x0] y) fun y h=>Els.one RSel_ok h.2)
 have hb1:=hi2.bound
 have HI2:=hH hi2
 have HD2:=hH hd2
 clear M hi2 hd2 HM
 go_loopg [6,7] t2.toks.length (fun gk v kk wr=>∃(t':PSt) (l:List SelT) (css:List (List Value)) (m f k' j:Nat) (D:Int),gk=t'.toks.length∧t'.toks.length≤f∧kk=.int .i64 (j:Nat)∧l.length=j+1∧l.length+t'.toks.length≤4097∧Hid (RIn all k' t')∧Hid (t'.fe=0→D=(d:Int))∧Hid (Own [] w wr [(g5,85,#[.int .i64 x0.kind,.string (bs x0.name),.int .i64 x0.index,.int .i64 x0.fr,.int .i64 x0.tt,.int .i64 x0.step,.bool x0.hf,.bool x0.ht,.pointer ppv]),(g4,54,#[.slice A all.length c,.int .i64 (k':Int),.int .i64 E,.int .i64 t'.fe,.int .i64 t'.fa,.int .i64 D]),(g2,54,#[.slice none 0 0,.int .i64 0,.int .i64 0,.int .i64 0,.int .i64 0,.int .i64 0]),(g1,54,#[.slice A all.length c,.int .i64 (k:Int),.int .i64 E,.int .i64 t.fe,.int .i64 t.fa,.int .i64 dp])] [(v,85,9,l.length,css.flatten)] (fun y=>Els 9 RSel w m css l y))∧Hid (d=33→t'.fe≠0)∧Hid (((x0::(selsL E P d t2.toks.length t2).1,mustS E [93] (selsL E P d t2.toks.length t2).2):List SelT×PSt)=(l++(selsL E P d f t').1,mustS E [93] (selsL E P d f t').2)))
 case atStart=>exact⟨t2,[x0],[selL x0 (.pointer ppv)],mn,t2.toks.length,k2,0,D2,rfl,Nat.le_refl _,rfl,rfl,by simp;omega,HI2,HD2,HR0,HF2,hH rfl⟩
 case round =>
  clear HR0 HF2 HI2 HD2 hb1
  obtain⟨t',l,css,m,f,k',j,D,hgk,hfl,rfl,hlj,hll,HIN,HDD,M,HFE,HEQ⟩:=hrel
  have HGK:=hH hgk;clear hgk
  have HLJ:=hH hlj
  have hj5:(j:Int)<5000:=by omega
  cases hb:isS [44] t' with
  | true =>
   have hd32:=is_deep hb hdd HFE.out
   have hlt:=is_lt (E:=E) hb
   obtain⟨f',rfl⟩:∃f',f=f'+1:=⟨f-1,by omega⟩
   have HEQ:=hH (HEQ.out.trans (by rw [rselsL_yes hb]))
   have HIS:=hH (fun W (hw:Bel w.heap.size w W)=>ris_at A all c k' E t' D W ⟨#[44]⟩ true HIN.out (HTT.out.bel hw) (hH hb))
   have HNX:=hH (fun W (hw:Bel w.heap.size w W)=>rnext_any A all c k' E t' D W HIN.out (HTT.out.bel hw))
   unfold RP at HNX
   have HLE2:=hH (HLE.out (nextS E t'))
   obtain⟨x,t3,hx3⟩:∃x t3,selF E P d (nextS E t')=(x,t3):=⟨_,_,rfl⟩
   have HX3:=hH hx3
   have HDN:=hH (show (nextS E t').fe=0→D=(d:Int) from fun e=>HDD.out (nextS_fe0 e))
   rw [hx3] at HEQ HLE2
   simp only at HEQ HLE2
   have HLT:=hH hlt
   clear hb hx3 hlt HLE hlj
   go_wp2_with (first|(with_reducible first|(refine al_R (some 8) M.out ?_;clear M;intro g8 w' hg8 M)|(refine al_Sel (some 9) M.out ?_;clear M;intro g9 w' hg9 M)|refine ld_R M.out ?_|refine ld_Sel M.out ?_|(refine st_R M.out ?_;clear M;intro w' M)|(refine st_Sel M.out ?_;clear M;intro w' M)|(refine bsl_Sel (some 35) M.out ?_;clear M;intro g35 w' hg35 M))|((with_reducible refine gg_R ?_);refine ldg_R rfl rfl M.out ?_)|((with_reducible refine gp_Sel ?_);refine ap_Sel rfl rfl M.out ?_;intro v' w' Mn;have Mn:=Mn _ (by repeat constructor);replace M:=hH Mn;clear Mn;skip)|(go_at_call 13;(with_reducible refine M.out.call (HIS.out _ M.out.bel0) ?_);clear M;intro w' M)|(go_at_call 29;(with_reducible refine(HNX.out _ M.out.bel0).mono ?_);rintro e w' ⟨k4,rfl,hi4,hb⟩;have HS4:=hH (fun W hb=>HS.out k4 (nextS E t') D W hi4 hb HDN.out (fun e=>absurd e (by omega)));clear hi4;replace M:=hH (M.out.bel hb);clear hb)|(go_at_call 68;(with_reducible refine(HS4.out _ M.out.bel0).mono ?_);rintro e w' ⟨mn,pw,k5,D5,rfl,hi5,hd5,hsc,hb⟩;rw [HX3.out] at hi5 hd5 hsc ⊢;simp only at hi5 hd5 hsc ⊢;obtain⟨ppw,rfl⟩:=hsc.ptr_;have Mn:=M.out.addR RSel_ok hb hsc;replace M:=hH Mn;clear Mn hb hsc))
   have HLD:=hH HLJ.out
   go_roundg t3.toks.length
   case measure=>have:=HGK.out;have:=HLT.out;have:=HLE2.out;simp;omega
   case rel=>exact⟨t3,l++[x],css++[selL x (.pointer ppw)],max m mn,f',k5,j+1,D5,rfl,by have:=HLT.out;have:=HLE2.out;omega,by go_num,by simp;exact HLJ.out,by have:=HLT.out;have:=HLE2.out;simp;omega,hH hi5,hH hd5,hH (by
     have e1:(l++[x]).length=l.length+1:=by simp
     have e2:(css++[selL x (.pointer ppw)]).flatten=css.flatten++selL x (.pointer ppw):=by simp
     rw [e1,e2]
     exact M.out.drop.drop.drop.imp fun y h=>Els.snoc RSel_ok h.1 h.2),hH (fun e=>absurd e (by omega)),hH (by rw [HEQ.out,List.append_assoc];rfl)⟩
  | false =>
   have HIS:=hH (fun W (hw:Bel w.heap.size w W)=>ris_at A all c k' E t' D W ⟨#[44]⟩ false HIN.out (HTT.out.bel hw) (hH hb))
   have HMU:=hH (fun W (hw:Bel w.heap.size w W)=>rmust_any A all c k' E t' D W ⟨#[93]⟩ HIN.out (HTT.out.bel hw))
   unfold RP at HMU
   have HE:=hH (HEQ.out.trans (by rw [rselsL_no hb,List.append_nil]))
   have HDM:=hH (show (mustS E [93] t').fe=0→D=(d:Int) from fun e=>HDD.out (mustS_fe0 e))
   obtain⟨A1,c1,hv,_⟩:=M.out.now.done (M.out.row _ List.mem_cons_self)
   simp only at hv
   subst hv
   clear hb hlj
   go_wp2_with (first|(with_reducible first|refine ld_R M.out ?_|(refine st_R M.out ?_;clear M;intro w' M))|((with_reducible refine gg_R ?_);refine ldg_R rfl rfl M.out ?_)|(go_at_call 13;(with_reducible refine M.out.call (HIS.out _ M.out.bel0) ?_);clear M;intro w' M)|(go_at_call 67;(with_reducible refine(HMU.out _ M.out.bel0).mono ?_);rintro e w' ⟨k6,rfl,hi6,hb⟩;have HI6:=hH hi6;clear hi6;replace M:=hH (M.out.bel hb);clear hb))
   obtain⟨A2,c2,hv,hrow⟩:=M.out.now.done (M.out.row _ List.mem_cons_self)
   cases hv
   rw [←HQ.out]
   refine bodyPost_ret (v:=.tuple #[rv A all.length c k6 E (mustS E [93] t') D,.slice A1 l.length c1]) (results_1t Tryz.results46 _ g2 _ _ _ _ rfl rfl (M.out.blk (g2,_,_) (by repeat constructor)) Tryz.underlying54 rfl 6 isz_R rfl) rfl ?_
   rw [HE.out]
   exact⟨m,A1,c1,k6,D,rfl,HI6.out,HDM.out,hrow,M.out.bel0⟩
end
end Go.Proofs.YtjbdcjcfijjiiaaGreatDoor
