/- Own blocks: one law a kind of operation, for any program; what it asks of a type is one word (no word of a dump). -/
import Derived.Deep.MidRow
import Derived.Test.YtjbdcjcfijjiiaaGreatDoorNG01
namespace Go.Proofs.YtjbdcjcfijjiiaaGreatDoor
open Go.RowKit
structure TyF (P:Program)(t:TypeId)(n:Nat)(z:Array Value):Prop where
 u:∃d,P.underlying t=some d∧isRowT d=true
 s:(P.info? t).map (·.size)=some n
 z:(P.info? t).bind (·.zero)=some (.agg z)
structure OneF (P:Program)(t:TypeId):Prop where
 u:∃d,P.underlying t=some d∧isRowT d=false
 s:(P.info? t).map (·.size)=some 1
structure SlF (P:Program)(t e:TypeId)(k b:Nat)(z:Value):Prop where
 u:P.underlying t=some (.slice e)
 i:(P.info? e).map (fun i=>(i.zero,i.size,i.bytes))=some (some z,k,b)
 z:z.cells.size=k
 k:0<k
def setAt (cs:Array Value):Nat→List Value→Array Value
 | _,[]=>cs
 | o,v::r=>setAt (cs.setIfInBounds o v) (o+1) r
theorem setAt_size :∀(vs:List Value) (cs:Array Value) (o:Nat),(setAt cs o vs).size=cs.size
 | [],_,_=>rfl
 | v::r,cs,o=>by rw [setAt,setAt_size r];simp
theorem Blk.setCells {w:World}{g:Nat}{T:TypeId}:∀(vs:List Value) (o:Nat) {w:World} {cs:Array Value},Blk w g T cs→Blk (w.setCells g o vs) g T (setAt cs o vs)
 | [],_,_,_,h=>h
 | v::r,o,_,_,h=>Blk.setCells (w:=w) r (o+1) (h.set_ o v)
theorem setCells_other (g:Nat):∀(vs:List Value) (o:Nat) (w:World) (b:Nat),b≠g→(w.setCells g o vs).heap[b]? = w.heap[b]?
 | [],_,_,_,_=>rfl
 | v::r,o,w,b,h=>(setCells_other g r (o+1) _ b h).trans (Below.heap_setCell w ⟨g,o,none⟩ v b h)
theorem setCells_os (g:Nat):∀(vs:List Value) (o:Nat) (w:World),(w.setCells g o vs).os=w.os∧(w.setCells g o vs).output=w.output∧(w.setCells g o vs).heap.size=w.heap.size
 | [],_,_=>⟨rfl,rfl,rfl⟩
 | v::r,o,w=>by
  obtain⟨h1,h2,h3⟩:=setCells_os g r (o+1) (w.setCell ⟨g,o,none⟩ v)
  exact⟨h1,h2,h3.trans (by simp)⟩
section
variable  {P:Program}{X:List Nat}{w0 w:World}{L L':List BlkE}{rs rs':List RowE}{J S:World→Prop}{ops:Array Oper}{rest:List Oper}{a:Act}{Q:Exit→Act→World→Prop}{K:Act→World→Prop}{md:Region.Mode}{fuel i:Nat}{listed:Array Bool}{is:List Nat}{dst:Option Tmp}{tt:TypeId}{pos:String}{af:Array Edge}
theorem g_ld (T:TypeId){x:Operand}(h:wpList P ops Q (⟨dst,.load T x,tt,pos,af,none⟩::rest) a w):wpList P ops Q (⟨dst,.load T x,tt,pos,af,none⟩::rest) a w:=h
theorem g_ldg (T:TypeId){gd:Nat×Bool}{x:Operand}(h:wpList P ops Q (⟨dst,.load T x,tt,pos,af,some gd⟩::rest) a w):wpList P ops Q (⟨dst,.load T x,tt,pos,af,some gd⟩::rest) a w:=h
theorem g_st (T:TypeId){x y:Operand}(h:wpList P ops Q (⟨dst,.store T x y,tt,pos,af,none⟩::rest) a w):wpList P ops Q (⟨dst,.store T x y,tt,pos,af,none⟩::rest) a w:=h
theorem g_bx (T:TypeId)(d:Tmp){x:Operand}(h:wpList P ops Q (⟨some d,.box T x,tt,pos,af,none⟩::rest) a w):wpList P ops Q (⟨some d,.box T x,tt,pos,af,none⟩::rest) a w:=h
theorem g_al (T:TypeId)(d:Tmp)(h:wpList P ops Q (⟨some d,.alloc T,tt,pos,af,none⟩::rest) a w):wpList P ops Q (⟨some d,.alloc T,tt,pos,af,none⟩::rest) a w:=h
theorem g_bs (T:TypeId)(d:Tmp){n:Nat}{ps:Array (Nat×Operand)}(h:wpList P ops Q (⟨some d,.buildSlice T n ps,tt,pos,af,none⟩::rest) a w):wpList P ops Q (⟨some d,.buildSlice T n ps,tt,pos,af,none⟩::rest) a w:=h
theorem g_ap (T:TypeId)(d:Tmp){s x:Operand}(h:wpList P ops Q (⟨some d,.call { callee:=.builtin .append,args:=#[s,x],argTypes:=#[T,T] },tt,pos,af,none⟩::rest) a w):wpList P ops Q (⟨some d,.call { callee:=.builtin .append,args:=#[s,x],argTypes:=#[T,T] },tt,pos,af,none⟩::rest) a w:=h
theorem run_load1 {T:TypeId}(F:OneF P T){b o:Nat}{v:Value}(hc:w.cell? ⟨b,o,none⟩=some v):(loadVar T ⟨b,o,none⟩).run P w=.ok v w:=by
 obtain⟨d,hu,hd⟩:=F.u
 have hagg:(isAgg T).run P w=.ok false w:=by
  unfold isAgg
  rw [Sem.run_bind,run_underlying hu w]
  cases d <;> first|rfl|cases hd
 unfold loadVar
 rw [Sem.run_bind,hagg]
 simp [run_load,hc]
theorem o_ld1 {T:TypeId}(F:OneF P T){x:Operand}{g:Option (Nat×Bool)}{b o:Nat}{v:Value}(hx:a.eval x=.pointer (some ⟨b,o,none⟩))(hc:w.cell? ⟨b,o,none⟩=some v)(h:K (a.put dst v) w):Oper.wp P ⟨dst,.load T x,tt,pos,af,g⟩ a w K Q:=by
 unfold Oper.wp execOp
 simp only [hx,Instr.loadAt,Instr.sureAddr,Sem.run_bind,Sem.run_pure,Result.andThen_ok,run_load1 F hc]
 exact h
theorem l_ld {T:TypeId}{n:Nat}{z:Array Value}(F:TyF P T n z){x:Operand}{g:Nat}{T':TypeId}{cs:Array Value}(M:Own X w0 w L rs J)
  (h:wpList P ops Q rest (a.put dst (.agg cs)) w) (hx:a.eval x=.pointer (some ⟨g,0,none⟩):=by with_unfolding_all exact rfl) (hm:(g,T',cs)∈L:=by with_unfolding_all repeat constructor) (hn:cs.size=n:=by with_unfolding_all exact rfl):wpList P ops Q (⟨dst,.load T x,tt,pos,af,none⟩::rest) a w:=by
 obtain⟨d,hu,hd⟩:=F.u
 exact wpList_load_own rfl _ x rfl g hx M T' cs hm d hu hd n F.s hn h
theorem l_ld1 {T:TypeId}(F:OneF P T){x:Operand}{g j:Nat}{T':TypeId}{cs:Array Value}{v:Value}(M:Own X w0 w L rs J)
  (h:wpList P ops Q rest (a.put dst v) w) (hx:a.eval x=.pointer (some ⟨g,j,none⟩):=by with_unfolding_all exact rfl) (hm:(g,T',cs)∈L:=by with_unfolding_all repeat constructor) (hv:cs[j]? = some v:=by with_unfolding_all exact rfl):wpList P ops Q (⟨dst,.load T x,tt,pos,af,none⟩::rest) a w :=
 wpList_plain rfl fun _ hK=>o_ld1 F hx (((M.blk _ hm).cell j).trans hv) (hK _ _ h)
theorem l_ld1g {T:TypeId}(F:OneF P T){gd:Nat×Bool}{x:Operand}{g j:Nat}{T':TypeId}{cs:Array Value}{v:Value}(hw:Region.wanted ⟨dst,.load T x,tt,pos,af,some gd⟩ (yielded ops a.tmps)=true)(hx:a.eval x=.pointer (some ⟨g,j,none⟩))(M:Own X w0 w L rs J)
  (h:wpList P ops Q rest (a.put dst v) w) (hm:(g,T',cs)∈L:=by repeat constructor) (hv:cs[j]? = some v:=by exact rfl):wpList P ops Q (⟨dst,.load T x,tt,pos,af,some gd⟩::rest) a w :=
 wpList_step fun _ hK=>by rw [if_pos hw];exact o_ld1 F hx (((M.blk _ hm).cell j).trans hv) (hK _ _ h)
theorem l_ldc {T:TypeId}(F:OneF P T){x:Operand}{b o:Nat}{v:Value}(hx:a.eval x=.pointer (some ⟨b,o,none⟩))(hc:w.cell? ⟨b,o,none⟩=some v)
  (h:wpList P ops Q rest (a.put dst v) w):wpList P ops Q (⟨dst,.load T x,tt,pos,af,none⟩::rest) a w :=
 wpList_plain rfl fun _ hK=>o_ld1 F hx hc (hK _ _ h)
theorem o_ldf {T:TypeId}{n:Nat}{z:Array Value}(F:TyF P T n z){g:Option (Nat×Bool)}{x:Operand}{b o:Nat}{cs:List Value}(hx:a.eval x=.pointer (some ⟨b,o,none⟩))(hc:w.rangeAt b o cs)(hn:cs.length=n)(h:K (a.put dst (.agg cs.toArray)) w):Oper.wp P ⟨dst,.load T x,tt,pos,af,g⟩ a w K Q:=by
 obtain⟨d,hu,hd⟩:=F.u
 exact wp_load_mid T x rfl b o hx cs d hc hu (by cases d <;> first|rfl|cases hd) (by rw [hn];exact F.s) h
theorem l_ldf {T:TypeId}{n:Nat}{z:Array Value}(F:TyF P T n z){x:Operand}{b o:Nat}{cs:List Value}(hx:a.eval x=.pointer (some ⟨b,o,none⟩))(hc:w.rangeAt b o cs)(hn:cs.length=n)
  (h:wpList P ops Q rest (a.put dst (.agg cs.toArray)) w):wpList P ops Q (⟨dst,.load T x,tt,pos,af,none⟩::rest) a w :=
 wpList_plain rfl fun _ hK=>o_ldf F hx hc hn (hK _ _ h)
theorem range_own {g o n:Nat}{T':TypeId}{cs:Array Value}{part:List Value}(h:Blk w g T' cs)(hp:(cs.toList.drop o).take n=part):w.rangeAt g o part:=by
 subst hp
 intro j v hv
 rw [h.cell (o+j)]
 have hj:j<n:=by
  rcases Nat.lt_or_ge j n with h|h
  ·exact h
  ·rw [List.getElem?_eq_none (by rw [List.length_take];omega)] at hv;cases hv
 rw [List.getElem?_take_of_lt hj,List.getElem?_drop] at hv
 simpa using hv
theorem l_ldm {T:TypeId}{n:Nat}{z:Array Value}(F:TyF P T n z){x:Operand}{g o:Nat}{T':TypeId}{cs:Array Value}{part:List Value}(hx:a.eval x=.pointer (some ⟨g,o,none⟩))(M:Own X w0 w L rs J)
  (h:wpList P ops Q rest (a.put dst (.agg part.toArray)) w) (hm:(g,T',cs)∈L:=by repeat constructor) (hp:(cs.toList.drop o).take n=part:=by exact rfl) (hn:part.length=n:=by exact rfl):wpList P ops Q (⟨dst,.load T x,tt,pos,af,none⟩::rest) a w :=
 l_ldf F hx (range_own (M.blk _ hm) hp) hn h
theorem l_ldj {T:TypeId}{n:Nat}{z:Array Value}(F:TyF P T n z){x:Operand}{g:Nat}{T':TypeId}{cs:Array Value}(hx:a.eval x=.pointer (some ⟨g,0,none⟩))(M:Own X w0 w L rs J)(hJ:∀y,J y→Blk y g T' cs)(hn:cs.size=n)
  (h:wpList P ops Q rest (a.put dst (.agg cs)) w):wpList P ops Q (⟨dst,.load T x,tt,pos,af,none⟩::rest) a w:=by
 obtain⟨d,hu,hd⟩:=F.u
 exact wpList_load_row rfl T x rfl g hx T' cs (0,0) d (hJ w M.now) hu (by cases d <;> first|rfl|cases hd) (by rw [hn];exact F.s) h
theorem l_ld1j {T:TypeId}(F:OneF P T){x:Operand}{g j:Nat}{T':TypeId}{cs:Array Value}{v:Value}(hx:a.eval x=.pointer (some ⟨g,j,none⟩))(M:Own X w0 w L rs J)(hJ:∀y,J y→Blk y g T' cs)(hv:cs[j]? = some v)
  (h:wpList P ops Q rest (a.put dst v) w):wpList P ops Q (⟨dst,.load T x,tt,pos,af,none⟩::rest) a w :=
 l_ldc F hx (((hJ w M.now).cell j).trans hv) h
theorem o_st {T:TypeId}{n:Nat}{z:Array Value}(F:TyF P T n z){x y:Operand}{g:Nat}{old cs:Array Value}(hx:a.eval x=.pointer (some ⟨g,0,none⟩))(hy:a.eval y=.agg cs)(M:Own X w0 w L rs J)(hm:Upd g old cs L L')(hold:old.size=n)(hn:cs.size=n)(h1:allOne cs.toList=true)
  (h:∀w',Own X w0 w' L' rs J→K (a.put dst undef) w'):Oper.wp P ⟨dst,.store T x y,tt,pos,af,none⟩ a w K Q:=by
 have M':=M.setRow hm
 obtain⟨A,T',B,rfl,rfl⟩:=hm.split
 exact wp_store_row T x y rfl g cs hx hy T' old (M.blk (g,T',old) (by simp)) (by rw [hn];exact F.s) (by rw [hn,hold]) (allOne_all h1) (h _ M')
theorem l_st {T:TypeId}{n:Nat}{z:Array Value}(F:TyF P T n z){x y:Operand}{g:Nat}{old cs:Array Value}(M:Own X w0 w L rs J)
  (h:∀w',Hid (Own X w0 w' L' rs J)→wpList P ops Q rest (a.put dst undef) w') (hx:a.eval x=.pointer (some ⟨g,0,none⟩):=by with_unfolding_all exact rfl) (hy:a.eval y=.agg cs:=by with_unfolding_all exact rfl) (hm:Upd g old cs L L':=by with_unfolding_all repeat constructor) (hold:old.size=n:=by with_unfolding_all exact rfl) (hn:cs.size=n:=by with_unfolding_all exact rfl) (h1:allOne cs.toList=true:=by with_unfolding_all exact rfl):wpList P ops Q (⟨dst,.store T x y,tt,pos,af,none⟩::rest) a w :=
 wpList_plain rfl fun _ hK=>o_st F hx hy M hm hold hn h1 fun w' M=>hK _ _ (h w' (hH M))
theorem o_st1 {T:TypeId}(F:OneF P T){x y:Operand}{g j:Nat}{v:Value}{old new:Array Value}(hx:a.eval x=.pointer (some ⟨g,j,none⟩))(hy:a.eval y=v)(h1:v.oneCell'=true)(M:Own X w0 w L rs J)(hm:Upd g old new L L')(hnew:old.setIfInBounds j v=new)(hj:j<old.size)
  (h:∀w',Own X w0 w' L' rs J→K (a.put dst undef) w'):Oper.wp P ⟨dst,.store T x y,tt,pos,af,none⟩ a w K Q:=by
 subst hnew hy
 have M':=M.setCell hm
 obtain⟨A,T',B,rfl,rfl⟩:=hm.split
 have hb:=M.blk (g,T',old) (by simp)
 unfold Oper.wp execOp
 simp only [hx,Instr.storeAt,Instr.sureAddr,Sem.run_bind,Sem.run_pure,Result.andThen_ok,run_store1 (P:=P) g j T _ h1 ⟨_,(hb.cell j).trans (Array.getElem?_eq_getElem hj)⟩ (hb.frozen j) F.s]
 exact h _ M'
theorem l_st1 {T:TypeId}(F:OneF P T){x y:Operand}{g j:Nat}{v:Value}{old new:Array Value}(hx:a.eval x=.pointer (some ⟨g,j,none⟩))(hy:a.eval y=v)(M:Own X w0 w L rs J)
  (h:∀w',Hid (Own X w0 w' L' rs J)→wpList P ops Q rest (a.put dst undef) w') (h1:v.oneCell'=true:=by exact rfl) (hm:Upd g old new L L':=by repeat constructor) (hnew:old.setIfInBounds j v=new:=by (simp only [List.setIfInBounds_toArray,List.set_cons_zero,List.set_cons_succ];rfl)) (hj:j<old.size:=by simp):wpList P ops Q (⟨dst,.store T x y,tt,pos,af,none⟩::rest) a w :=
 wpList_plain rfl fun _ hK=>o_st1 F hx hy h1 M hm hnew hj fun w' M=>hK _ _ (h w' (hH M))
theorem Own.setCells {g o:Nat}{old:Array Value}{vs:List Value}(M:Own X w0 w L rs J)(h:Upd g old (setAt old o vs) L L'):Own X w0 (w.setCells g o vs) L' rs J:=by
 obtain⟨A,T,B,rfl,rfl⟩:=h.split
 have hg:Blk w g T old:=M.blk (g,T,old) (by simp)
 obtain⟨h1,h2,h3⟩:=setCells_os g vs o w
 exact M.modify h1 h2 h3 (Blk.setCells (w:=w) vs o hg) fun b hb=>setCells_other g vs o w b hb
theorem o_stm {T:TypeId}{n:Nat}{z:Array Value}(F:TyF P T n z){x y:Operand}{g o:Nat}{old cs new:Array Value}(hx:a.eval x=.pointer (some ⟨g,o,none⟩))(hy:a.eval y=.agg cs)(hn:cs.size=n)(h1:allOne cs.toList=true)(M:Own X w0 w L rs J)(hnew:setAt old o cs.toList=new)(hm:Upd g old new L L')(ho:o+n≤old.size)
  (h:∀w',Own X w0 w' L' rs J→K (a.put dst undef) w'):Oper.wp P ⟨dst,.store T x y,tt,pos,af,none⟩ a w K Q:=by
 subst hnew
 have M':=M.setCells hm
 obtain⟨A,T',B,rfl,rfl⟩:=hm.split
 have hb:=M.blk (g,T',old) (by simp)
 have ht:w.there g o cs.size:=fun j hj=>by
  have hlt:o+j<old.size:=by omega
  exact⟨by rw [(hb.cell (o+j)).trans (Array.getElem?_eq_getElem hlt)];rfl,hb.frozen _⟩
 exact wp_store_mid T x y rfl g o cs hx hy ht (by rw [hn];exact F.s) (allOne_all h1) (h _ M')
theorem l_bx {T:TypeId}{d:Tmp}{x:Operand}{cs:Array Value}(M:Own X w0 w L rs J)
  (h:∀g w',w0.heap.size≤g→Hid (Own X w0 w' ((g,T,cs)::L) rs J)→wpList P ops Q rest (a.put (some d) (.pointer (some ⟨g,0,none⟩))) w') (hx:a.eval x=.agg cs:=by with_unfolding_all exact rfl):wpList P ops Q (⟨some d,.box T x,tt,pos,af,none⟩::rest) a w :=
 Great.wpList_boxTo rfl T x rfl (some d) rfl w.heap.size rfl cs (by rw [hx];rfl) (h _ _ M.size (hH (M.alloc T cs)))
theorem o_al {T:TypeId}{n:Nat}{z:Array Value}(F:TyF P T n z)(M:Own X w0 w L rs J)
  (h:∀g w',w0.heap.size≤g→Own X w0 w' ((g,T,z)::L) rs J→K (a.put dst (.pointer (some ⟨g,0,none⟩))) w'):Oper.wp P ⟨dst,.alloc T,tt,pos,af,none⟩ a w K Q:=by
 obtain⟨i,hi,hz⟩:=Option.bind_eq_some_iff.1 F.z
 unfold Oper.wp execOp
 simp [Instr.alloc,Sem.run_bind,newVar,zeroValue,typeInfo,hi,hz,newRow,Sem.run_pure,Result.andThen_ok]
 exact h _ _ M.size (M.alloc T z)
theorem l_al {T:TypeId}{n:Nat}{z:Array Value}(F:TyF P T n z){d:Tmp}(M:Own X w0 w L rs J)
  (h:∀g w',w0.heap.size≤g→Hid (Own X w0 w' ((g,T,z)::L) rs J)→wpList P ops Q rest (a.put (some d) (.pointer (some ⟨g,0,none⟩))) w'):wpList P ops Q (⟨some d,.alloc T,tt,pos,af,none⟩::rest) a w :=
 wpList_plain rfl fun _ hK=>o_al F M fun g w' hg M=>hK _ _ (h g w' hg (hH M))
theorem o_bs {t e:TypeId}{k b:Nat}{zv:Value}(F:SlF P t e k b zv){n:Nat}{ps:Array (Nat×Operand)}{cs:Array Value}(hf:P.builtSlice e n (ps.map fun (i,x)=>(i,a.eval x)).toList=some cs)(M:Own X w0 w L rs J)
  (h:∀g w',w0.heap.size≤g→Own X w0 w' ((g,e,cs)::L) rs J→K (a.put dst (.slice (some ⟨g,0,none⟩) n n)) w'):Oper.wp P ⟨dst,.buildSlice t n ps,tt,pos,af,none⟩ a w K Q:=by
 have h4:=h _ _ M.size (M.alloc e cs)
 unfold Program.builtSlice at hf
 cases hie:P.info? e with
 | none=>simp [hie] at hf
 | some ie =>
  simp only [hie] at hf
  cases hz:ie.zero with
  | none=>simp [hz] at hf
  | some z =>
   simp only [hz] at hf
   by_cases hc:n*ie.size > 2 ^ 24∨n*ie.size=0
   ·simp [hc] at hf
   ·rw [if_neg hc] at hf
    exact wp_buildSlice t e n ps rfl cs ie z F.u hie hz (fun h'=>hc (Or.inl h')) (fun h'=>hc (Or.inr h')) hf h4
theorem l_bs {t e:TypeId}{k b:Nat}{zv:Value}(F:SlF P t e k b zv){d:Tmp}{n:Nat}{ps:Array (Nat×Operand)}{cs:Array Value}(hf:P.builtSlice e n (ps.map fun (i,x)=>(i,a.eval x)).toList=some cs)(M:Own X w0 w L rs J)
  (h:∀g w',w0.heap.size≤g→Hid (Own X w0 w' ((g,e,cs)::L) rs J)→wpList P ops Q rest (a.put (some d) (.slice (some ⟨g,0,none⟩) n n)) w'):wpList P ops Q (⟨some d,.buildSlice t n ps,tt,pos,af,none⟩::rest) a w :=
 wpList_plain rfl fun _ hK=>o_bs F hf M fun g w' hg M=>hK _ _ (h g w' hg (hH M))
theorem o_bs0 {t e:TypeId}{k b:Nat}{zv:Value}(F:SlF P t e k b zv)(hl:(Instr.buildSlice t 0 #[]).run P w=.ok (.slice (some ⟨w.heap.size,0,none⟩) 0 0) (w.alloc (.cells #[] e)))(M:Own X w0 w L rs J)
  (h:∀g w',w0.heap.size≤g→Own X w0 w' L ((.slice (some ⟨g,0,none⟩) 0 0,e,k,0,[])::rs) J→K (a.put dst (.slice (some ⟨g,0,none⟩) 0 0)) w'):Oper.wp P ⟨dst,.buildSlice t 0 #[],tt,pos,af,none⟩ a w K Q:=by
 have _:=F.k
 have h4:=h _ _ M.size ((M.alloc e #[]).rowOf k 0 M.size (by simp) (by unfold maxLen;omega))
 unfold Oper.wp execOp
 simp only [Array.map_empty,Sem.run_bind,hl,Result.andThen_ok,Sem.run_pure]
 exact h4
theorem l_bs0 {t e:TypeId}{k b:Nat}{zv:Value}(F:SlF P t e k b zv)(hl:∀w:World,(Instr.buildSlice t 0 #[]).run P w=.ok (.slice (some ⟨w.heap.size,0,none⟩) 0 0) (w.alloc (.cells #[] e))){d:Tmp}(M:Own X w0 w L rs J)
  (h:∀g w',w0.heap.size≤g→Hid (Own X w0 w' L ((.slice (some ⟨g,0,none⟩) 0 0,e,k,0,[])::rs) J)→wpList P ops Q rest (a.put (some d) (.slice (some ⟨g,0,none⟩) 0 0)) w'):wpList P ops Q (⟨some d,.buildSlice t 0 #[],tt,pos,af,none⟩::rest) a w :=
 wpList_plain rfl fun _ hK=>o_bs0 F (hl w) M fun g w' hg M=>hK _ _ (h g w' hg (hH M))
theorem o_apR {t e:TypeId}{k b:Nat}{zv:Value}(F:SlF P t e k b zv){s x:Operand}{v:Value}{n:Nat}{xs:List Value}{A:Option Addr}{m c B:Nat}{news:List Value}(hs:a.eval s=v)(hx:a.eval x=.slice A m c)(M:Own X w0 w L rs J)(hrow:(v,e,k,n,xs)∈rs)(hr:Reads w B k A m news)(h1:∀u∈news,u.oneCell'=true)(h63:n+m≤maxLen)(hb:(n+m)*b≤140737488355328)
  (h:∀v' w',(∀rs',UpdR (v,e,k,n,xs) (v',e,k,n+m,xs++news) rs rs'→Own X w0 w' L rs' J)→K (a.put dst v') w'):Oper.wp P ⟨dst,.call { callee:=.builtin .append,args:=#[s,x],argTypes:=#[t,t] },tt,pos,af,none⟩ a w K Q:=by
 obtain⟨i,hi,hz,hsz,hby⟩:=info_parts F.i
 exact wp_append_any w s x t rfl w0.heap.size e i _ k b F.u hi hz hsz hby F.z F.k v n xs hs (M.row _ hrow) B A m c news hx hr h1 h63 hb M.size fun v' w' hown hg hv=>h v' w' fun rs' hu=>M.grow hu hown hg hv
theorem l_apR {t e:TypeId}{k b:Nat}{zv:Value}(F:SlF P t e k b zv){d:Tmp}{s x:Operand}{v:Value}{n:Nat}{xs:List Value}{A:Option Addr}{m c B:Nat}{news:List Value}(hs:a.eval s=v)(hx:a.eval x=.slice A m c)(M:Own X w0 w L rs J)(hr:Reads w B k A m news)(h1:∀u∈news,u.oneCell'=true)
  (h:∀v' w',(∀rs',UpdR (v,e,k,n,xs) (v',e,k,n+m,xs++news) rs rs'→Own X w0 w' L rs' J)→wpList P ops Q rest (a.put (some d) v') w') (hrow:(v,e,k,n,xs)∈rs:=by repeat constructor) (h63:n+m≤maxLen:=by unfold maxLen;omega) (hb:(n+m)*b≤140737488355328:=by omega):wpList P ops Q (⟨some d,.call { callee:=.builtin .append,args:=#[s,x],argTypes:=#[t,t] },tt,pos,af,none⟩::rest) a w :=
 wpList_plain rfl fun _ hK=>o_apR F hs hx M hrow hr h1 h63 hb fun v' w' M=>hK _ _ (h v' w' M)
theorem reads_blk {g m k:Nat}{T:TypeId}{cs:Array Value}(h:Blk w g T cs)(hn:cs.size=m*k):Reads w w.heap.size k (some ⟨g,0,none⟩) m cs.toList :=
 ⟨by simp [hn],fun _=>⟨_,rfl,h.lt,fun j u hu=>by
  have:(⟨g,0,none⟩:Addr).add j=⟨g,j,none⟩:=by unfold Addr.add;by_cases hi:j=0 <;> simp [hi]
  rw [this,h.cell j];simpa using hu⟩⟩
theorem o_apB {t e:TypeId}{k b:Nat}{zv:Value}(F:SlF P t e k b zv){s x:Operand}{v:Value}{n:Nat}{xs:List Value}{g c m:Nat}{T:TypeId}{cs:Array Value}(hs:a.eval s=v)(hx:a.eval x=.slice (some ⟨g,0,none⟩) m c)(M:Own X w0 w L rs J)(hrow:(v,e,k,n,xs)∈rs)(hm:(g,T,cs)∈L)(hcs:cs.size=m*k)(h1:allOne cs.toList=true)(h63:n+m≤maxLen)(hb:(n+m)*b≤140737488355328)
  (h:∀v' w',(∀rs',UpdR (v,e,k,n,xs) (v',e,k,n+m,xs++cs.toList) rs rs'→Own X w0 w' L rs' J)→K (a.put dst v') w'):Oper.wp P ⟨dst,.call { callee:=.builtin .append,args:=#[s,x],argTypes:=#[t,t] },tt,pos,af,none⟩ a w K Q :=
 o_apR F hs hx M hrow (reads_blk (M.blk _ hm) hcs) (allOne_mem h1) h63 hb h
theorem l_apB {t e:TypeId}{k b:Nat}{zv:Value}(F:SlF P t e k b zv){d:Tmp}{s x:Operand}{v:Value}{n:Nat}{xs:List Value}{g c m:Nat}{T:TypeId}{cs:Array Value}(hs:a.eval s=v)(hx:a.eval x=.slice (some ⟨g,0,none⟩) m c)(M:Own X w0 w L rs J)
  (h:∀v' w',(∀rs',UpdR (v,e,k,n,xs) (v',e,k,n+m,xs++cs.toList) rs rs'→Own X w0 w' L rs' J)→wpList P ops Q rest (a.put (some d) v') w') (hrow:(v,e,k,n,xs)∈rs:=by repeat constructor) (hm:(g,T,cs)∈L:=by repeat constructor) (hcs:cs.size=m*k:=by exact rfl) (h1:allOne cs.toList=true:=by exact rfl) (h63:n+m≤maxLen:=by unfold maxLen;omega) (hb:(n+m)*b≤140737488355328:=by omega):wpList P ops Q (⟨some d,.call { callee:=.builtin .append,args:=#[s,x],argTypes:=#[t,t] },tt,pos,af,none⟩::rest) a w :=
 wpList_plain rfl fun _ hK=>o_apB F hs hx M hrow hm hcs h1 h63 hb fun v' w' M=>hK _ _ (h v' w' M)
/-! ## The steps of a region that draws its order -/
theorem r_ld1 {T:TypeId}(F:OneF P T){x:Operand}(ho:ops[i]? = some ⟨dst,.load T x,tt,pos,af,none⟩){g j:Nat}{T':TypeId}{cs:Array Value}{v:Value}(hx:a.eval x=.pointer (some ⟨g,j,none⟩))(M:Own X w0 w L rs J)
  (h:S w∧wpAnyH P md ops Q S fuel (listed.setIfInBounds i true) (a.put dst v) w) (hs:AllReadyH P md ops Q S fuel listed a w is:=by exact .nil) (hm:(g,T',cs)∈L:=by repeat constructor) (hv:cs[j]? = some v:=by exact rfl):AllReadyH P md ops Q S fuel listed a w (i::is) :=
 rdy ho (fun _ hK=>o_ld1 F hx (((M.blk _ hm).cell j).trans hv) (hK.out _ _ h.1 fun _=>h.2)) hs
theorem r_ld {T:TypeId}{n:Nat}{z:Array Value}(F:TyF P T n z){x:Operand}(ho:ops[i]? = some ⟨dst,.load T x,tt,pos,af,none⟩){g:Nat}{T':TypeId}{cs:Array Value}(hx:a.eval x=.pointer (some ⟨g,0,none⟩))(M:Own X w0 w L rs J)
  (h:S w∧wpAnyH P md ops Q S fuel (listed.setIfInBounds i true) (a.put dst (.agg cs)) w) (hs:AllReadyH P md ops Q S fuel listed a w is:=by exact .nil) (hm:(g,T',cs)∈L:=by repeat constructor) (hn:cs.size=n:=by exact rfl):AllReadyH P md ops Q S fuel listed a w (i::is):=by
 obtain⟨d,hu,hd⟩:=F.u
 exact rdy ho (fun _ hK=>wp_load_row T x rfl g hx T' cs (0,0) d (M.blk _ hm) hu (by cases d <;> first|rfl|cases hd) (by rw [hn];exact F.s) (hK.out _ _ h.1 fun _=>h.2)) hs
theorem r_st {T:TypeId}{n:Nat}{z:Array Value}(F:TyF P T n z){x y:Operand}(ho:ops[i]? = some ⟨dst,.store T x y,tt,pos,af,none⟩){g:Nat}{old cs:Array Value}(hx:a.eval x=.pointer (some ⟨g,0,none⟩))(hy:a.eval y=.agg cs)(M:Own X w0 w L rs J)
  (h:∀w',Hid (Own X w0 w' L' rs J)→S w'∧wpAnyH P md ops Q S fuel (listed.setIfInBounds i true) (a.put dst undef) w') (hs:AllReadyH P md ops Q S fuel listed a w is:=by exact .nil) (hm:Upd g old cs L L':=by repeat constructor) (hold:old.size=n:=by exact rfl) (hn:cs.size=n:=by exact rfl) (h1:allOne cs.toList=true:=by exact rfl):AllReadyH P md ops Q S fuel listed a w (i::is) :=
 rdy ho (fun _ hK=>o_st F hx hy M hm hold hn h1 fun w' M=>hK.out _ _ (h w' (hH M)).1 fun _=>(h w' (hH M)).2) hs
theorem r_st1 {T:TypeId}(F:OneF P T){x y:Operand}(ho:ops[i]? = some ⟨dst,.store T x y,tt,pos,af,none⟩){g j:Nat}{v:Value}{old new:Array Value}(hx:a.eval x=.pointer (some ⟨g,j,none⟩))(hy:a.eval y=v)(M:Own X w0 w L rs J)
  (h:∀w',Hid (Own X w0 w' L' rs J)→S w'∧wpAnyH P md ops Q S fuel (listed.setIfInBounds i true) (a.put dst undef) w') (hs:AllReadyH P md ops Q S fuel listed a w is:=by exact .nil) (h1:v.oneCell'=true:=by exact rfl) (hm:Upd g old new L L':=by repeat constructor) (hnew:old.setIfInBounds j v=new:=by (simp only [List.setIfInBounds_toArray,List.set_cons_zero,List.set_cons_succ];rfl)) (hj:j<old.size:=by simp):AllReadyH P md ops Q S fuel listed a w (i::is) :=
 rdy ho (fun _ hK=>o_st1 F hx hy h1 M hm hnew hj fun w' M=>hK.out _ _ (h w' (hH M)).1 fun _=>(h w' (hH M)).2) hs
theorem r_stm {T:TypeId}{n:Nat}{z:Array Value}(F:TyF P T n z){x y:Operand}(ho:ops[i]? = some ⟨dst,.store T x y,tt,pos,af,none⟩){g o:Nat}{old cs new:Array Value}(hx:a.eval x=.pointer (some ⟨g,o,none⟩))(hy:a.eval y=.agg cs)(M:Own X w0 w L rs J)
  (h:∀w',Hid (Own X w0 w' L' rs J)→S w'∧wpAnyH P md ops Q S fuel (listed.setIfInBounds i true) (a.put dst undef) w') (hs:AllReadyH P md ops Q S fuel listed a w is:=by exact .nil) (hn:cs.size=n:=by exact rfl) (h1:allOne cs.toList=true:=by exact rfl) (hm:Upd g old new L L':=by repeat constructor) (hnew:setAt old o cs.toList=new:=by (simp only [setAt,List.setIfInBounds_toArray,List.set_cons_zero,List.set_cons_succ];rfl)) (hoo:o+n≤old.size:=by simp):AllReadyH P md ops Q S fuel listed a w (i::is) :=
 rdy ho (fun _ hK=>o_stm F hx hy hn h1 M hnew hm hoo fun w' M=>hK.out _ _ (h w' (hH M)).1 fun _=>(h w' (hH M)).2) hs
theorem r_al {T:TypeId}{n:Nat}{z:Array Value}(F:TyF P T n z)(ho:ops[i]? = some ⟨dst,.alloc T,tt,pos,af,none⟩)(M:Own X w0 w L rs J)
  (h:∀g w',w0.heap.size≤g→Hid (Own X w0 w' ((g,T,z)::L) rs J)→S w'∧wpAnyH P md ops Q S fuel (listed.setIfInBounds i true) (a.put dst (.pointer (some ⟨g,0,none⟩))) w') (hs:AllReadyH P md ops Q S fuel listed a w is:=by exact .nil):AllReadyH P md ops Q S fuel listed a w (i::is) :=
 rdy ho (fun _ hK=>o_al F M fun g w' hg M=>hK.out _ _ (h g w' hg (hH M)).1 fun _=>(h g w' hg (hH M)).2) hs
theorem r_bs {t e:TypeId}{k b:Nat}{zv:Value}(F:SlF P t e k b zv){n:Nat}{ps:Array (Nat×Operand)}(ho:ops[i]? = some ⟨dst,.buildSlice t n ps,tt,pos,af,none⟩){cs:Array Value}(M:Own X w0 w L rs J)
  (h:∀g w',w0.heap.size≤g→Hid (Own X w0 w' ((g,e,cs)::L) rs J)→S w'∧wpAnyH P md ops Q S fuel (listed.setIfInBounds i true) (a.put dst (.slice (some ⟨g,0,none⟩) n n)) w') (hs:AllReadyH P md ops Q S fuel listed a w is:=by exact .nil) (hf:P.builtSlice e n (ps.map fun (i,x)=>(i,a.eval x)).toList=some cs:=by kernel_rfl):AllReadyH P md ops Q S fuel listed a w (i::is) :=
 rdy ho (fun _ hK=>o_bs F hf M fun g w' hg M=>hK.out _ _ (h g w' hg (hH M)).1 fun _=>(h g w' hg (hH M)).2) hs
theorem r_bs0 {t e:TypeId}{k b:Nat}{zv:Value}(F:SlF P t e k b zv)(hl:∀w:World,(Instr.buildSlice t 0 #[]).run P w=.ok (.slice (some ⟨w.heap.size,0,none⟩) 0 0) (w.alloc (.cells #[] e)))(ho:ops[i]? = some ⟨dst,.buildSlice t 0 #[],tt,pos,af,none⟩)(M:Own X w0 w L rs J)
  (h:∀g w',w0.heap.size≤g→Hid (Own X w0 w' L ((.slice (some ⟨g,0,none⟩) 0 0,e,k,0,[])::rs) J)→S w'∧wpAnyH P md ops Q S fuel (listed.setIfInBounds i true) (a.put dst (.slice (some ⟨g,0,none⟩) 0 0)) w') (hs:AllReadyH P md ops Q S fuel listed a w is:=by exact .nil):AllReadyH P md ops Q S fuel listed a w (i::is) :=
 rdy ho (fun _ hK=>o_bs0 F (hl w) M fun g w' hg M=>hK.out _ _ (h g w' hg (hH M)).1 fun _=>(h g w' hg (hH M)).2) hs
theorem r_apR {t e:TypeId}{k b:Nat}{zv:Value}(F:SlF P t e k b zv){s x:Operand}(ho:ops[i]? = some ⟨dst,.call { callee:=.builtin .append,args:=#[s,x],argTypes:=#[t,t] },tt,pos,af,none⟩){v:Value}{n:Nat}{xs:List Value}{A:Option Addr}{m c B:Nat}{news:List Value}(hs':a.eval s=v)(hx:a.eval x=.slice A m c)(M:Own X w0 w L rs J)(hr:Reads w B k A m news)(h1:∀u∈news,u.oneCell'=true)
  (h:∀v' w',(∀rs',UpdR (v,e,k,n,xs) (v',e,k,n+m,xs++news) rs rs'→Own X w0 w' L rs' J)→S w'∧wpAnyH P md ops Q S fuel (listed.setIfInBounds i true) (a.put dst v') w') (hs:AllReadyH P md ops Q S fuel listed a w is:=by exact .nil) (hrow:(v,e,k,n,xs)∈rs:=by repeat constructor) (h63:n+m≤maxLen:=by unfold maxLen;omega) (hb:(n+m)*b≤140737488355328:=by omega):AllReadyH P md ops Q S fuel listed a w (i::is) :=
 rdy ho (fun _ hK=>o_apR F hs' hx M hrow hr h1 h63 hb fun v' w' M=>hK.out _ _ (h v' w' M).1 fun _=>(h v' w' M).2) hs
theorem r_apB {t e:TypeId}{k b:Nat}{zv:Value}(F:SlF P t e k b zv){s x:Operand}(ho:ops[i]? = some ⟨dst,.call { callee:=.builtin .append,args:=#[s,x],argTypes:=#[t,t] },tt,pos,af,none⟩){v:Value}{n:Nat}{xs:List Value}{g c m:Nat}{T:TypeId}{cs:Array Value}(hx:a.eval x=.slice (some ⟨g,0,none⟩) m c)(M:Own X w0 w L rs J)
  (h:∀v' w',(∀rs',UpdR (v,e,k,n,xs) (v',e,k,n+m,xs++cs.toList) rs rs'→Own X w0 w' L rs' J)→S w'∧wpAnyH P md ops Q S fuel (listed.setIfInBounds i true) (a.put dst v') w') (hs:AllReadyH P md ops Q S fuel listed a w is:=by exact .nil) (hs':a.eval s=v:=by exact rfl) (hrow:(v,e,k,n,xs)∈rs:=by repeat constructor) (hm:(g,T,cs)∈L:=by repeat constructor) (hcs:cs.size=m*k:=by exact rfl) (h1:allOne cs.toList=true:=by exact rfl) (h63:n+m≤maxLen:=by unfold maxLen;omega) (hb:(n+m)*b≤140737488355328:=by omega):AllReadyH P md ops Q S fuel listed a w (i::is) :=
 r_apR F ho hs' hx M (hrow:=hrow) (reads_blk (M.blk _ hm) hcs) (allOne_mem h1) (h63:=h63) (hb:=hb) h hs
theorem y_ld {T:TypeId}{n:Nat}{z:Array Value}(F:TyF P T n z)(x:Operand)(g:Nat)(hx:a.eval x=.pointer (some ⟨g,0,none⟩))(T':TypeId)(cs:Array Value)(hS:∀w,S w→Blk w g T' cs)(hn:cs.size=n):YieldsIf P ops S ⟨dst,.load T x,tt,pos,af,none⟩ (.agg cs) a:=by
 obtain⟨d,hu,hd⟩:=F.u
 exact yields_load_row T x g hx T' cs hS d hu hd n F.s hn
theorem y_ldf {T:TypeId}{n:Nat}{z:Array Value}(F:TyF P T n z)(x:Operand)(b o:Nat)(hx:a.eval x=.pointer (some ⟨b,o,none⟩))(cs:List Value)(hS:∀w,S w→w.rangeAt b o cs)(hn:cs.length=n):YieldsIf P ops S ⟨dst,.load T x,tt,pos,af,none⟩ (.agg cs.toArray) a:=by
 obtain⟨d,hu,hd⟩:=F.u
 exact yieldsIf_load_mid (by simp [Region.wanted]) T x rfl b o hx cs d (fun w h=>hS w h) hu (by cases d <;> first|rfl|cases hd) (by rw [hn];exact F.s)
theorem y_ldm {T:TypeId}{n:Nat}{z:Array Value}(F:TyF P T n z)(x:Operand)(g o:Nat)(hx:a.eval x=.pointer (some ⟨g,o,none⟩))(T':TypeId)(cs:Array Value)(hS:∀w,S w→Blk w g T' cs)(part:List Value)(hp:(cs.toList.drop o).take n=part)(hn:part.length=n):YieldsIf P ops S ⟨dst,.load T x,tt,pos,af,none⟩ (.agg part.toArray) a :=
 y_ldf F x g o hx part (fun w h=>range_own (hS w h) hp) hn
theorem y_ldc {T:TypeId}(F:OneF P T)(x:Operand)(b o:Nat)(hx:a.eval x=.pointer (some ⟨b,o,none⟩))(v:Value)(hS:∀w,S w→w.cell? ⟨b,o,none⟩=some v):YieldsIf P ops S ⟨dst,.load T x,tt,pos,af,none⟩ v a :=
 .inl ⟨by simp [Region.wanted],fun w hw=>by
  unfold execOp
  simp only [hx,Instr.loadAt,Instr.sureAddr,Sem.run_bind,Sem.run_pure,Result.andThen_ok,run_load1 F (hS w hw)]⟩
theorem y_ld1 {T:TypeId}(F:OneF P T)(x:Operand)(g j:Nat)(hx:a.eval x=.pointer (some ⟨g,j,none⟩))(T':TypeId)(cs:Array Value)(hS:∀w,S w→Blk w g T' cs)(v:Value)(hv:cs[j]? = some v):YieldsIf P ops S ⟨dst,.load T x,tt,pos,af,none⟩ v a :=
 y_ldc F x g j hx v fun w h=>((hS w h).cell j).trans hv
end
theorem Own.freeze {X:List Nat}{w0 w:World}{g:Nat}{T:TypeId}{cs:Array Value}{L:List BlkE}{rs:List RowE}{J:World→Prop}(M:Own X w0 w ((g,T,cs)::L) rs J):Own X w0 w L rs (fun y=>J y∧Blk y g T cs) :=
 have hb:=M.blk (g,T,cs) (by simp)
 ⟨M.os,M.output,M.size,M.out,fun z hz=>M.low z (by simp [hz]),fun z hz=>M.blk z (by simp [hz]),M.row,(List.nodup_cons.1 M.nodup).2,fun y hy =>
  ⟨M.always y ⟨hy.1,fun b h1 h2=>hy.2 b h1 fun h=>h2 (by show b∈g::exO L rs;simp [h])⟩,(hy.2 g hb.lt (List.nodup_cons.1 M.nodup).1).trans hb⟩⟩
section
variable  {P:Program}{S J:World→Prop}{ops:Array Oper}{Q:Exit→Act→World→Prop}{md:Region.Mode}{fuel:Nat}{listed:Array Bool}{dst:Option Tmp}{a a':Act}{w:World}{v:Value}{oi:Oper}
theorem tk (i:Nat){op:Op}{tt:TypeId}{pos:String}{af:Array Edge}{gd:Option (Nat×Bool)}(hi:ops[i]? = some ⟨dst,op,tt,pos,af,gd⟩)(hS:S w)(hy:YieldsIf P ops S ⟨dst,op,tt,pos,af,gd⟩ v a)(h:wpAnyH P md ops (NoPanic Q) S fuel (listed.setIfInBounds i true) a' w)
  (ha:a.put dst v=a':=by (simp only [Act.put,List.setIfInBounds_toArray,List.set_cons_zero,List.set_cons_succ];rfl)) (hs:Region.noSelect ops=true:=by kernel_rfl) (hf:Region.free md ops listed i=true:=by kernel_rfl) (hr:(Region.ready md ops listed).contains i=true:=by kernel_rfl):wpAnyH P md ops (NoPanic Q) S (fuel+1) listed a w:=by
 subst ha
 exact wpAnyH_take hi hs hf hr (fun _ _ _ h=>h) hy hS h
theorem tkd (i:Nat){op:Op}{tt:TypeId}{pos:String}{af:Array Edge}{gd:Option (Nat×Bool)}(hi:ops[i]? = some ⟨dst,op,tt,pos,af,gd⟩)(hS:S w)(hy:YieldsIf P ops S ⟨dst,op,tt,pos,af,gd⟩ v a)(h:wpAnyH P md ops (NoPanic Q) S fuel (listed.setIfInBounds i true) a' w)
  (hf:Region.free md ops listed i=true:=by decide +kernel) (hr:(Region.ready md ops listed).contains i=true:=by decide +kernel) (ha:a.put dst v=a':=by (simp only [Act.put,List.setIfInBounds_toArray,List.set_cons_zero,List.set_cons_succ];rfl)) (hs:Region.noSelect ops=true:=by kernel_rfl):wpAnyH P md ops (NoPanic Q) S (fuel+1) listed a w:=by
 subst ha
 exact wpAnyH_take hi hs hf hr (fun _ _ _ h=>h) hy hS h
theorem tkp (i:Nat){op:Op}{tt:TypeId}{pos:String}{af:Array Edge}{gd:Option (Nat×Bool)}(hi:ops[i]? = some ⟨dst,op,tt,pos,af,gd⟩)(hS:S w)(h:wpAnyH P md ops (NoPanic Q) S fuel (listed.setIfInBounds i true) a' w)
  (hw:Region.wanted ⟨dst,op,tt,pos,af,gd⟩ (yielded ops a.tmps)=true:=by rfl) (hv:∀w,S w→(execOp a.eval ⟨dst,op,tt,pos,af,gd⟩).run P w=.ok (.value v) w:=by (intro w hS;go_simp;with_reducible rfl))
  (ha:a.put dst v=a':=by (simp only [Act.put,List.setIfInBounds_toArray,List.set_cons_zero,List.set_cons_succ];rfl)) (hs:Region.noSelect ops=true:=by kernel_rfl) (hf:Region.free md ops listed i=true:=by kernel_rfl) (hr:(Region.ready md ops listed).contains i=true:=by kernel_rfl):wpAnyH P md ops (NoPanic Q) S (fuel+1) listed a w:=by
 subst ha
 exact wpAnyH_take hi hs hf hr (fun _ _ _ h=>h) (.inl ⟨hw,hv⟩) hS h
theorem tkpd (i:Nat){op:Op}{tt:TypeId}{pos:String}{af:Array Edge}{gd:Option (Nat×Bool)}(hi:ops[i]? = some ⟨dst,op,tt,pos,af,gd⟩)(hS:S w)(h:wpAnyH P md ops (NoPanic Q) S fuel (listed.setIfInBounds i true) a' w)
  (hf:Region.free md ops listed i=true:=by decide +kernel) (hr:(Region.ready md ops listed).contains i=true:=by decide +kernel) (hw:Region.wanted ⟨dst,op,tt,pos,af,gd⟩ (yielded ops a.tmps)=true:=by rfl) (hv:∀w,S w→(execOp a.eval ⟨dst,op,tt,pos,af,gd⟩).run P w=.ok (.value v) w:=by (intro w hS;go_simp;with_reducible rfl))
  (ha:a.put dst v=a':=by (simp only [Act.put,List.setIfInBounds_toArray,List.set_cons_zero,List.set_cons_succ];rfl)) (hs:Region.noSelect ops=true:=by kernel_rfl):wpAnyH P md ops (NoPanic Q) S (fuel+1) listed a w:=by
 subst ha
 exact wpAnyH_take hi hs hf hr (fun _ _ _ h=>h) (.inl ⟨hw,hv⟩) hS h
theorem tn {b:Act}(h:wpAnyH P md ops (NoPanic Q) S fuel listed a' w)(ha:b=a':=by (simp only [Act.put,List.setIfInBounds_toArray,List.set_cons_zero,List.set_cons_succ];rfl)):wpAnyH P md ops (NoPanic Q) S fuel listed b w:=by
 subst ha
 exact h
theorem tr (rs:List Nat)(h:AllReadyH P md ops (NoPanic Q) S fuel listed a w rs)(hr:Region.ready md ops listed=rs:=by kernel_rfl)(hne:rs≠[]:=by simp):wpAnyH P md ops (NoPanic Q) S (fuel+1) listed a w:=wpAnyH_ready hr hne h
theorem trd (rs:List Nat)(h:AllReadyH P md ops (NoPanic Q) S fuel listed a w rs)(hr:Region.ready md ops listed=rs:=by decide +kernel)(hne:rs≠[]:=by simp):wpAnyH P md ops (NoPanic Q) S (fuel+1) listed a w:=wpAnyH_ready hr hne h
theorem te (h:Q .normal a w)(hr:Region.ready md ops listed=[]:=by kernel_rfl):wpAnyH P md ops (NoPanic Q) S fuel listed a w:=wpAnyH_done hr (NoPanic.normal h) fuel
theorem ted (h:Q .normal a w)(hr:Region.ready md ops listed=[]:=by decide +kernel):wpAnyH P md ops (NoPanic Q) S fuel listed a w:=wpAnyH_done hr (NoPanic.normal h) fuel
theorem gR {is:List Nat}(h:AllReadyH P md ops Q S fuel listed a w is):AllReadyH P md ops Q S fuel listed a w is:=h
theorem gW (h:wpAnyH P md ops Q S fuel listed a w):wpAnyH P md ops Q S fuel listed a w:=h
theorem an {A B:Prop}(h:A)(k:A→B):A∧B:=⟨h,k h⟩
theorem tbh {id:Nat}(S:World→Prop)(hS:S w.drew)(h:S w.drew→wpAnyH P .any ops (NoPanic Q) S ops.size (Array.replicate ops.size false) a w.drew)(hm:P.follows .mixedOrders=true:=by kernel_rfl):(Code.region id ops true).wp P Q a w:=wp_region_noPanic (wp_region_held_drew hm hS fun _=>h hS)
theorem tb {id:Nat}(S:World→Prop)(hS:S w.drew)(h:wpAnyH P .any ops (NoPanic Q) S ops.size (Array.replicate ops.size false) a w.drew)(hm:P.follows .mixedOrders=true:=by kernel_rfl):(Code.region id ops true).wp P Q a w:=wp_region_noPanic (wp_region_held_drew hm hS fun _=>h)
end
theorem results_1 {P:Program}{fn:Func}{p:Tmp}{ty:TypeId}(h:fn.results=#[.cell p ty])(tmps:Array Value)(w:World)(g:Nat)(T:TypeId)(cs:Array Value)(hp:tmps.getD p undef=.pointer (some ⟨g,0,none⟩))(hg:Blk w g T cs){n:Nat}{z:Array Value}(F:TyF P ty n z)(hn:cs.size=n) :
  (results fn tmps).run P w=.ok (.agg cs) w:=by
 obtain⟨d,hu,hd⟩:=F.u
 exact results_cell_row h tmps w g T cs (0,0) d hp hg hu (by cases d <;> first|rfl|cases hd) (by rw [hn];exact F.s)
end Go.Proofs.YtjbdcjcfijjiiaaGreatDoor
