/- NG01: Ow, Ox joined. -/
import Derived.Laws.Rows
import Derived.Laws.Tables
import Derived.Great.BuildSlice
import Derived.Great.Ranges
import Derived.Great.Walk
import Derived.Deep.RegionHeld3
import Derived.Test.YtjbdcjcfijjiiaaGreatDoorNA0
namespace Go.Proofs.YtjbdcjcfijjiiaaGreatDoor
open Go.RowKit
/- Own blocks: a world told by the blocks that a call made itself, rows that grow, and what else holds (printed by gen_own.py; no word of a dump). -/
section
open Go.RowKit
abbrev BlkE :=Nat×TypeId×Array Value
abbrev RowE :=Value×TypeId×Nat×Nat×List Value
def Kept (ex:List Nat)(w y:World):Prop:=w.heap.size≤y.heap.size∧∀b,b<w.heap.size→b ∉ ex→y.heap[b]? = w.heap[b]?
theorem Kept.refl (ex:List Nat)(w:World):Kept ex w w:=⟨Nat.le_refl _,fun _ _ _=>rfl⟩
def exO (L:List BlkE)(rs:List RowE):List Nat:=L.map (·.1)++rs.filterMap fun r=>r.1.ownBlock
structure Own (X:List Nat)(w0 w:World)(L:List BlkE)(rs:List RowE)(J:World→Prop):Prop where
 os:w.os=w0.os
 output:w.output=w0.output
 size:w0.heap.size≤w.heap.size
 out:∀b,b<w0.heap.size→b ∉ X→w.heap[b]? = w0.heap[b]?
 low:∀x∈L,w0.heap.size≤x.1∨x.1∈X
 blk:∀x∈L,Blk w x.1 x.2.1 x.2.2
 row:∀r∈rs,w.ownsRow w0.heap.size r.2.1 r.2.2.1 r.1 r.2.2.2.1 r.2.2.2.2
 nodup:(exO L rs).Nodup
 always:∀y,Kept (exO L rs) w y→J y
theorem ownsRow_keep {w w1:World}{base:Nat}{e:TypeId}{size n:Nat}{v:Value}{xs:List Value}(h:w.ownsRow base e size v n xs)(hb:∀b,v.ownBlock=some b→w1.heap[b]? = w.heap[b]?):w1.ownsRow base e size v n xs:=by
 refine⟨h.1,?_⟩
 rcases h.2 with h|⟨g,cap,cur,h1,h2,h3,h4⟩
 ·exact .inl h
 ·exact .inr ⟨g,cap,cur,h1,h2,(hb g (by rw [h1];rfl)).trans h3,h4⟩
theorem ownsRow_lt {w:World}{base:Nat}{e:TypeId}{size n:Nat}{v:Value}{xs:List Value}(h:w.ownsRow base e size v n xs){b:Nat}(hb:v.ownBlock=some b):base≤b∧b<w.heap.size:=by
 rcases h.2 with⟨h,_⟩|⟨g,cap,cur,h1,h2,h3,_⟩
 ·rw [h] at hb;cases hb
 ·rw [h1] at hb;cases hb;exact⟨h2,(Array.getElem?_eq_some_iff.1 h3).1⟩
inductive Upd (g:Nat) (old new:Array Value):List BlkE→List BlkE→Prop
 | here (T:TypeId) (r:List BlkE):Upd g old new ((g,T,old)::r) ((g,T,new)::r)
 | there (x:BlkE) {r r':List BlkE}:Upd g old new r r'→Upd g old new (x::r) (x::r')
theorem Upd.split {g:Nat}{old new:Array Value}:∀{L L':List BlkE},Upd g old new L L'→∃A T B,L=A++(g,T,old)::B∧L'=A++(g,T,new)::B
 | _,_,.here T r=>⟨[],T,r,rfl,rfl⟩
 | _,_,.there x h=>by
  obtain⟨A,T,B,h1,h2⟩:=h.split
  exact⟨x::A,T,B,by rw [h1];rfl,by rw [h2];rfl⟩
inductive UpdR (r r':RowE):List RowE→List RowE→Prop
 | here (t:List RowE):UpdR r r' (r::t) (r'::t)
 | there (x:RowE) {t t':List RowE}:UpdR r r' t t'→UpdR r r' (x::t) (x::t')
theorem UpdR.split {r r':RowE}:∀{t t':List RowE},UpdR r r' t t'→∃A B,t=A++r::B∧t'=A++r'::B
 | _,_,.here t=>⟨[],t,rfl,rfl⟩
 | _,_,.there x h=>by
  obtain⟨A,B,h1,h2⟩:=h.split
  exact⟨x::A,B,by rw [h1];rfl,by rw [h2];rfl⟩
section
variable  {X:List Nat}{w0 w w':World}{L L':List BlkE}{rs rs':List RowE}{J J':World→Prop}
theorem Own.start (X:List Nat)(w:World)(J:World→Prop)(h:∀y,Kept [] w y→J y):Own X w w [] [] J :=
 ⟨rfl,rfl,Nat.le_refl _,fun _ _ _=>rfl,(fun _ h=>nomatch h),(fun _ h=>nomatch h),(fun _ h=>nomatch h),List.nodup_nil,h⟩
theorem Own.now (M:Own X w0 w L rs J):J w:=M.always w (Kept.refl _ _)
theorem Own.bel0 (M:Own [] w0 w L rs J):Bel w0.heap.size w0 w:=⟨M.os,M.output,M.size,fun b hb=>M.out b hb (by simp)⟩
theorem Own.ex_lt (M:Own X w0 w L rs J){b:Nat}(hb:b∈exO L rs):b<w.heap.size:=by
 unfold exO at hb
 rcases List.mem_append.1 hb with h|h
 ·obtain⟨x,hx,rfl⟩:=List.mem_map.1 h
  exact(M.blk x hx).lt
 ·obtain⟨r,hr,h1⟩:=List.mem_filterMap.1 h
  exact(ownsRow_lt (M.row r hr) h1).2
theorem Own.ne_row (M:Own X w0 w L rs J){x:BlkE}(hx:x∈L){r:RowE}(hr:r∈rs):r.1.ownBlock≠some x.1:=by
 intro h
 have:=M.nodup
 unfold exO at this
 exact(List.nodup_append.1 this).2.2 x.1 (List.mem_map.2 ⟨x,hx,rfl⟩) x.1 (List.mem_filterMap.2 ⟨r,hr,h⟩) rfl
theorem Own.add (M:Own X w0 w L rs J)(h:∀y,Kept (exO L rs) w y→J' y):Own X w0 w L rs (fun y=>J y∧J' y) :=
 ⟨M.os,M.output,M.size,M.out,M.low,M.blk,M.row,M.nodup,fun y hy=>⟨M.always y hy,h y hy⟩⟩
theorem Own.imp (M:Own X w0 w L rs J)(h:∀y,J y→J' y):Own X w0 w L rs J' :=
 ⟨M.os,M.output,M.size,M.out,M.low,M.blk,M.row,M.nodup,fun y hy=>h y (M.always y hy)⟩
theorem Own.kept (M:Own X w0 w L rs J)(hos:w'.os=w.os)(ho:w'.output=w.output)(hs:w.heap.size≤w'.heap.size)(hb:∀b,b<w.heap.size→w'.heap[b]? = w.heap[b]?):Own X w0 w' L rs J :=
 ⟨hos.trans M.os,ho.trans M.output,Nat.le_trans M.size hs,fun b h1 h2=>(hb b (Nat.lt_of_lt_of_le h1 M.size)).trans (M.out b h1 h2),M.low,
  fun x hx=>(hb x.1 (M.blk x hx).lt).trans (M.blk x hx),
  fun r hr=>ownsRow_keep (M.row r hr) fun b h=>hb b (ownsRow_lt (M.row r hr) h).2,M.nodup,
  fun y hy=>M.always y ⟨Nat.le_trans hs hy.1,fun b h1 h2=>(hy.2 b (Nat.lt_of_lt_of_le h1 hs) h2).trans (hb b h1)⟩⟩
theorem Own.bel (M:Own X w0 w L rs J)(h:Bel w.heap.size w w'):Own X w0 w' L rs J:=M.kept h.os h.output h.size h.block
theorem Own.drew (M:Own X w0 w L rs J):Own X w0 w.drew L rs J:=M.kept rfl rfl (Nat.le_refl _) fun _ _=>rfl
theorem Own.drewN (M:Own X w0 w L rs J)(n:Nat):Own X w0 (w.drewN n) L rs J:=M.kept rfl rfl (Nat.le_refl _) fun _ _=>rfl
theorem Own.alloc (M:Own X w0 w L rs J)(T:TypeId)(cs:Array Value):Own X w0 (w.alloc (.cells cs T)) ((w.heap.size,T,cs)::L) rs J:=by
 have N:=M.kept (w':=w.alloc (.cells cs T)) rfl rfl (by simp) fun b hb=>Below.heap_alloc w _ b hb
 refine⟨N.os,N.output,N.size,N.out,?_,?_,N.row,?_,?_⟩
 ·intro x hx
  rcases List.mem_cons.1 hx with rfl|hx
  ·exact .inl M.size
  ·exact M.low x hx
 ·intro x hx
  rcases List.mem_cons.1 hx with rfl|hx
  ·exact Blk.new w T cs
  ·exact N.blk x hx
 ·show (w.heap.size::exO L rs).Nodup
  exact List.nodup_cons.2 ⟨fun h=>Nat.lt_irrefl _ (M.ex_lt h),M.nodup⟩
 ·intro y hy
  refine M.always y ⟨Nat.le_trans (by simp) hy.1,fun b h1 h2=>?_⟩
  refine(hy.2 b (by simp;omega) ?_).trans (Below.heap_alloc w _ b h1)
  show b ∉ w.heap.size::exO L rs
  rw [List.mem_cons,not_or]
  exact⟨by omega,h2⟩
theorem Own.modify {A B:List BlkE}{g:Nat}{T:TypeId}{cs cs':Array Value}(M:Own X w0 w (A++(g,T,cs)::B) rs J)(hos:w'.os=w.os)(ho:w'.output=w.output)(hs:w'.heap.size=w.heap.size)(hg:Blk w' g T cs')
  (hb:∀b,b≠g→w'.heap[b]? = w.heap[b]?):Own X w0 w' (A++(g,T,cs')::B) rs J:=by
 have he:exO (A++(g,T,cs')::B) rs=exO (A++(g,T,cs)::B) rs:=by simp [exO]
 have hmem:(g,T,cs)∈A++(g,T,cs)::B:=by simp
 have hnd:∀x∈A++B,x.1≠g:=by
  have:=M.nodup
  unfold exO at this
  have:=(List.nodup_append.1 this).1
  rw [List.map_append,List.map_cons,List.nodup_append,List.nodup_cons] at this
  obtain⟨_,⟨h2,_⟩,h3⟩:=this
  intro x hx e
  rcases List.mem_append.1 hx with h|h
  ·exact h3 x.1 (List.mem_map.2 ⟨x,h,rfl⟩) g (by simp) e
  ·exact h2 (List.mem_map.2 ⟨x,h,e⟩)
 refine⟨hos.trans M.os,ho.trans M.output,by rw [hs];exact M.size,?_,?_,?_,?_,by rw [he];exact M.nodup,?_⟩
 ·intro b h1 h2
  refine(hb b ?_).trans (M.out b h1 h2)
  rintro rfl
  rcases M.low _ hmem with h|h
  ·exact Nat.lt_irrefl _ (Nat.lt_of_lt_of_le h1 h)
  ·exact h2 h
 ·intro x hx
  simp only [List.mem_append,List.mem_cons] at hx
  rcases hx with h|rfl|h
  ·exact M.low x (by simp [h])
  ·exact M.low (g,T,cs) hmem
  ·exact M.low x (by simp [h])
 ·intro x hx
  simp only [List.mem_append,List.mem_cons] at hx
  rcases hx with h|rfl|h
  ·exact(hb x.1 (hnd x (by simp [h]))).trans (M.blk x (by simp [h]))
  ·exact hg
  ·exact(hb x.1 (hnd x (by simp [h]))).trans (M.blk x (by simp [h]))
 ·intro r hr
  exact ownsRow_keep (M.row r hr) fun b h=>hb b fun e=>M.ne_row hmem hr (by rw [h,e])
 ·intro y hy
  rw [he] at hy
  refine M.always y ⟨by rw [←hs];exact hy.1,fun b h1 h2=>(hy.2 b (by rw [hs];exact h1) h2).trans (hb b ?_)⟩
  rintro rfl
  exact h2 (by simp [exO])
theorem Own.setRow {g:Nat}{old new:Array Value}(M:Own X w0 w L rs J)(h:Upd g old new L L'):Own X w0 (w.setRow g new) L' rs J:=by
 obtain⟨A,T,B,rfl,rfl⟩:=h.split
 have hg:Blk w g T old:=M.blk (g,T,old) (by simp)
 exact M.modify rfl rfl (by simp) (setRow_heap w g old new T (0,0) hg) fun b hb=>setRow_other w g b new hb
theorem Own.setCell {g i:Nat}{u:Value}{old:Array Value}(M:Own X w0 w L rs J)(h:Upd g old (old.setIfInBounds i u) L L'):Own X w0 (w.setCell ⟨g,i,none⟩ u) L' rs J:=by
 obtain⟨A,T,B,rfl,rfl⟩:=h.split
 have hg:Blk w g T old:=M.blk (g,T,old) (by simp)
 exact M.modify rfl rfl (by simp) (hg.set_ i u) fun b hb=>Below.heap_setCell w ⟨g,i,none⟩ u b hb
theorem Own.grow {v v':Value}{T:TypeId}{k n n':Nat}{xs xs':List Value}(M:Own X w0 w L rs J)(h:UpdR (v,T,k,n,xs) (v',T,k,n',xs') rs rs')(hown:w'.ownsRow w0.heap.size T k v' n' xs')(hg:w.grownBy w' v.ownBlock)
  (hv:v'.ownBlock=v.ownBlock∨v'.ownBlock=some w.heap.size):Own X w0 w' L rs' J:=by
 obtain⟨A,B,rfl,rfl⟩:=h.split
 have hmem:(v,T,k,n,xs)∈A++(v,T,k,n,xs)::B:=by simp
 have hrow:=M.row _ hmem
 have hN:=M.nodup
 unfold exO at hN
 rw [List.filterMap_append,List.filterMap_cons,List.nodup_append] at hN
 obtain⟨n1,n2,n3⟩:=hN
 have hne:∀r∈A++B,∀b,r.1.ownBlock=some b→v.ownBlock≠some b:=by
  intro r hr b hb e
  rw [e] at n2
  simp only at n2
  rw [List.nodup_append,List.nodup_cons] at n2
  obtain⟨_,⟨h2,_⟩,h3⟩:=n2
  rcases List.mem_append.1 hr with h|h
  ·exact h3 b (List.mem_filterMap.2 ⟨r,h,hb⟩) b (by simp) rfl
  ·exact h2 (List.mem_filterMap.2 ⟨r,h,hb⟩)
 have hex:∀b,b∈exO L (A++(v',T,k,n',xs')::B)→b∈exO L (A++(v,T,k,n,xs)::B)∨b=w.heap.size:=by
  intro b hb
  unfold exO at hb ⊢
  rw [List.filterMap_append,List.filterMap_cons] at hb ⊢
  rcases hv with hv|hv
  ·rw [hv] at hb;exact .inl hb
  ·rw [hv] at hb
   simp only [List.mem_append,List.mem_cons] at hb
   rcases hb with h|h|h|h
   ·exact .inl (by simp [h])
   ·exact .inl (by simp only [List.mem_append];exact .inr (.inl h))
   ·exact .inr h
   ·exact .inl (by simp only [List.mem_append];refine .inr (.inr ?_);cases v.ownBlock <;> simp [h])
 refine⟨hg.os.trans M.os,hg.output.trans M.output,Nat.le_trans M.size hg.size,?_,M.low,?_,?_,?_,?_⟩
 ·intro b h1 h2
  refine(hg.block b (Nat.lt_of_lt_of_le h1 M.size) fun e=>?_).trans (M.out b h1 h2)
  have:=(ownsRow_lt hrow e.symm).1
  omega
 ·intro x hx
  exact(hg.block x.1 (M.blk x hx).lt fun e=>M.ne_row hx hmem e.symm).trans (M.blk x hx)
 ·intro r hr
  simp only [List.mem_append,List.mem_cons] at hr
  have oth:r∈A++B→w'.ownsRow w0.heap.size r.2.1 r.2.2.1 r.1 r.2.2.2.1 r.2.2.2.2:=fun h=>by
   have hm:r∈A++(v,T,k,n,xs)::B:=by
    rcases List.mem_append.1 h with h|h <;> simp [h]
   exact ownsRow_keep (M.row r hm) fun b hb=>hg.block b (ownsRow_lt (M.row r hm) hb).2 fun e=>hne r h b hb e.symm
  rcases hr with h|rfl|h
  ·exact oth (by simp [h])
  ·exact hown
  ·exact oth (by simp [h])
 ·rcases hv with hv|hv
  ·have:exO L (A++(v',T,k,n',xs')::B)=exO L (A++(v,T,k,n,xs)::B):=by
    unfold exO
    rw [List.filterMap_append,List.filterMap_cons,List.filterMap_append,List.filterMap_cons,hv]
   rw [this];exact M.nodup
  ·have hf:∀b,b∈exO L (A++B)→b<w.heap.size:=fun b hb=>M.ex_lt (by
    unfold exO at hb ⊢
    rw [List.filterMap_append] at hb ⊢
    rw [List.filterMap_cons]
    simp only [List.mem_append] at hb ⊢
    rcases hb with h|h|h
    ·exact .inl h
    ·exact .inr (.inl h)
    ·refine .inr (.inr ?_);cases v.ownBlock <;> simp [h])
   have hAB:(exO L (A++B)).Nodup:=by
    refine List.Sublist.nodup ?_ M.nodup
    unfold exO
    refine List.Sublist.append (List.Sublist.refl _) ?_
    exact List.Sublist.filterMap _ (List.Sublist.append (List.Sublist.refl _) (List.sublist_cons_self _ _))
   unfold exO at hAB hf ⊢
   rw [List.filterMap_append] at hAB hf ⊢
   rw [List.filterMap_cons,hv]
   simp only
   refine(List.Perm.nodup_iff ?_).1 (List.nodup_cons.2 ⟨fun h=>Nat.lt_irrefl _ (hf _ h),hAB⟩)
   rw [←List.append_assoc,←List.append_assoc]
   exact(List.perm_middle (l₁:=L.map (·.1)++A.filterMap fun r=>r.1.ownBlock)).symm
 ·intro y hy
  refine M.always y ⟨Nat.le_trans hg.size hy.1,fun b h1 h2=>?_⟩
  refine(hy.2 b (Nat.lt_of_lt_of_le h1 hg.size) fun h=>?_).trans (hg.block b h1 fun e=>?_)
  ·rcases hex b h with h|h
   ·exact h2 h
   ·omega
  ·refine h2 ?_
   unfold exO
   rw [List.filterMap_append,List.filterMap_cons,←e]
   simp
theorem Own.rowNil (M:Own X w0 w L rs J)(T:TypeId)(k:Nat):Own X w0 w L ((.slice none 0 0,T,k,0,[])::rs) J :=
 ⟨M.os,M.output,M.size,M.out,M.low,M.blk,fun r hr=>by
  rcases List.mem_cons.1 hr with rfl|hr
  ·exact World.ownsRow_nil _ _ _ _
  ·exact M.row r hr,M.nodup,M.always⟩
theorem Own.rowOf {g:Nat}{T:TypeId}{cs:Array Value}(M:Own X w0 w ((g,T,cs)::L) rs J)(k n:Nat)(hX:w0.heap.size≤g)(hn:cs.size=n*k)(h63:n≤maxLen):Own X w0 w L ((.slice (some ⟨g,0,none⟩) n n,T,k,n,cs.toList)::rs) J:=by
 have hp:(exO ((g,T,cs)::L) rs).Perm (exO L ((.slice (some ⟨g,0,none⟩) n n,T,k,n,cs.toList)::rs)):=by
  unfold exO
  rw [List.map_cons,List.filterMap_cons]
  exact(List.perm_middle (l₁:=L.map (·.1)) (l₂:=rs.filterMap fun r=>r.1.ownBlock) (a:=g)).symm
 refine⟨M.os,M.output,M.size,M.out,fun x hx=>M.low x (by simp [hx]),fun x hx=>M.blk x (by simp [hx]),fun r hr=>?_,hp.nodup_iff.1 M.nodup,fun y hy=>M.always y ⟨hy.1,fun b h1 h2=>hy.2 b h1 fun h=>h2 (hp.mem_iff.2 h)⟩⟩
 rcases List.mem_cons.1 hr with rfl|hr
 ·refine⟨by simp [hn],.inr ⟨g,n,cs,rfl,hX,M.blk (g,T,cs) (by simp),Nat.le_refl _,h63,hn,?_⟩⟩
  rw [←hn];exact List.take_of_length_le (by simp)
 ·exact M.row r hr
theorem Own.drop {x:BlkE}(M:Own X w0 w (x::L) rs J):Own X w0 w L rs J :=
 ⟨M.os,M.output,M.size,M.out,fun z hz=>M.low z (by simp [hz]),fun z hz=>M.blk z (by simp [hz]),M.row,(List.nodup_cons.1 M.nodup).2,fun y hy=>M.always y ⟨hy.1,fun b h1 h2=>hy.2 b h1 fun h=>h2 (by show b∈x.1::exO L rs;simp [h])⟩⟩
end
/-! ## Steps of a walk -/
def allOne :List Value→Bool
 | []=>true
 | v::r=>v.oneCell' && allOne r
theorem allOne_all {cs:Array Value}(h:allOne cs.toList=true):cs.all (·.oneCell')=true:=by
 have:∀l:List Value,allOne l=true→l.all (·.oneCell')=true:=by
  intro l
  induction l with
  | nil=>intro _;rfl
  | cons v r ih=>intro h;rw [allOne,Bool.and_eq_true] at h;rw [List.all_cons,h.1,ih h.2];rfl
 rw [←Array.all_toList];exact this _ h
theorem allOne_mem {cs:List Value}(h:allOne cs=true):∀u∈cs,u.oneCell'=true:=by
 induction cs with
 | nil=>intro _ h;cases h
 | cons v r ih =>
  rw [allOne,Bool.and_eq_true] at h
  intro u hu
  rcases List.mem_cons.1 hu with rfl|hu
  ·exact h.1
  ·exact ih h.2 u hu
def isRowT (d:TypeDesc):Bool:=match d with|.struct _|.array _ _=>true|_=>false
section
variable  {P:Program}{X:List Nat}{w0 w:World}{L L':List BlkE}{rs rs':List RowE}{J:World→Prop}{ops:Array Oper}{rest:List Oper}{o:Oper}{a:Act}{Q:Exit→Act→World→Prop}
theorem wpList_load_own (hgd:o.guard=none)(ty:TypeId)(x:Operand)(ho:o.op=.load ty x)(g:Nat)(hx:a.eval x=.pointer (some ⟨g,0,none⟩))(M:Own X w0 w L rs J)(T:TypeId)(cs:Array Value)(hm:(g,T,cs)∈L)
  (d:TypeDesc) (hu:P.underlying ty=some d) (hd:isRowT d=true) (n:Nat) (hi:(P.info? ty).map (·.size)=some n) (hn:cs.size=n) (h:wpList P ops Q rest (a.put o.dst (.agg cs)) w):wpList P ops Q (o::rest) a w :=
 wpList_load_row hgd ty x ho g hx T cs (0,0) d (M.blk _ hm) hu (by cases d <;> first|rfl|cases hd) (by rw [hn];exact hi) h
theorem wpList_load_ownG (hgd:Region.wanted o (yielded ops a.tmps)=true)(ty:TypeId)(x:Operand)(ho:o.op=.load ty x)(g:Nat)(hx:a.eval x=.pointer (some ⟨g,0,none⟩))(M:Own X w0 w L rs J)(T:TypeId)(cs:Array Value)(hm:(g,T,cs)∈L)
  (d:TypeDesc) (hu:P.underlying ty=some d) (hd:isRowT d=true) (n:Nat) (hi:(P.info? ty).map (·.size)=some n) (hn:cs.size=n) (h:wpList P ops Q rest (a.put o.dst (.agg cs)) w):wpList P ops Q (o::rest) a w :=
 wpList_step fun _ hK=>by
  rw [if_pos hgd]
  exact wp_load_row ty x ho g hx T cs (0,0) d (M.blk _ hm) hu (by cases d <;> first|rfl|cases hd) (by rw [hn];exact hi) (hK _ _ h)
theorem wpList_store_own (hgd:o.guard=none)(ty:TypeId)(x y:Operand)(ho:o.op=.store ty x y)(g:Nat)(hx:a.eval x=.pointer (some ⟨g,0,none⟩))(cs:Array Value)(hy:a.eval y=.agg cs)(M:Own X w0 w L rs J)(old:Array Value)(hm:Upd g old cs L L')
  (n:Nat) (hi:(P.info? ty).map (·.size)=some n) (hn:cs.size=n) (hold:old.size=n) (h1:allOne cs.toList=true) (h:∀w',Own X w0 w' L' rs J→wpList P ops Q rest (a.put o.dst undef) w'):wpList P ops Q (o::rest) a w:=by
 have M':=M.setRow hm
 obtain⟨A,T,B,rfl,rfl⟩:=hm.split
 exact wpList_store_row hgd ty x y ho g cs hx hy T old (M.blk (g,T,old) (by simp)) (by rw [hn];exact hi) (by rw [hn,hold]) (allOne_all h1) (h _ M')
theorem wpList_box_own (hgd:o.guard=none)(ty:TypeId)(x:Operand)(ho:o.op=.box ty x)(cs:Array Value)(hx:a.eval x=.agg cs)(M:Own X w0 w L rs J)
  (h:∀g w',w0.heap.size≤g→g=w.heap.size→Own X w0 w' ((g,ty,cs)::L) rs J→wpList P ops Q rest (a.put o.dst (.pointer (some ⟨g,0,none⟩))) w'):wpList P ops Q (o::rest) a w :=
 Great.wpList_boxTo hgd ty x ho o.dst rfl w.heap.size rfl cs (by rw [hx];rfl) (h _ _ M.size rfl (M.alloc ty cs))
theorem wpList_alloc_own (hgd:o.guard=none)(ty:TypeId)(ho:o.op=.alloc ty)(i:TypeInfo)(hi:P.info? ty=some i)(z:Value)(hz:i.zero=some z)(cs:Array Value)(hcs:z.cells=cs)(M:Own X w0 w L rs J)
  (h:∀g w',w0.heap.size≤g→g=w.heap.size→Own X w0 w' ((g,ty,cs)::L) rs J→wpList P ops Q rest (a.put o.dst (.pointer (some ⟨g,0,none⟩))) w'):wpList P ops Q (o::rest) a w:=by
 subst hcs
 have hh:=h _ _ M.size rfl (M.alloc ty z.cells)
 refine wpList_plain hgd fun K hK=>?_
 unfold Oper.wp execOp
 simp [ho,Instr.alloc,Sem.run_bind,newVar,zeroValue,typeInfo,hi,hz,newRow,Sem.run_pure,Result.andThen_ok]
 exact hK _ _ hh
theorem wpList_buildSlice_own (hgd:o.guard=none)(t e:TypeId)(len:Nat)(parts:Array (Nat×Operand))(ho:o.op=.buildSlice t len parts)(hu:P.underlying t=some (.slice e))(cs:Array Value)
  (hf:P.builtSlice e len (parts.map fun (i,x)=>(i,a.eval x)).toList=some cs) (M:Own X w0 w L rs J)
  (h:∀g w',w0.heap.size≤g→g=w.heap.size→Own X w0 w' ((g,e,cs)::L) rs J→wpList P ops Q rest (a.put o.dst (.slice (some ⟨g,0,none⟩) len len)) w'):wpList P ops Q (o::rest) a w :=
 Great.wpList_buildSliceTo hgd t e len parts ho w.heap.size rfl o.dst rfl hu cs hf (h _ _ M.size rfl (M.alloc e cs))
theorem wpList_load1_own (hgd:Region.wanted o (yielded ops a.tmps)=true)(ty:TypeId)(x:Operand)(ho:o.op=.load ty x)(g j:Nat)(hx:a.eval x=.pointer (some ⟨g,j,none⟩))(M:Own X w0 w L rs J)(T:TypeId)(cs:Array Value)(hm:(g,T,cs)∈L)(v:Value)(hv:cs[j]? = some v)
  (d:TypeDesc) (hu:P.underlying ty=some d) (hd:isRowT d=false) (h:wpList P ops Q rest (a.put o.dst v) w):wpList P ops Q (o::rest) a w :=
 wpList_step fun K hK=>by
  rw [if_pos hgd]
  have hc:=((M.blk _ hm).cell j).trans hv
  have hagg:(isAgg ty).run P w=.ok false w:=by
   unfold isAgg
   rw [Sem.run_bind,run_underlying hu w]
   cases d <;> first|rfl|cases hd
  unfold Oper.wp execOp
  simp only [ho,hx,Instr.loadAt,Instr.sureAddr,loadVar,Sem.run_bind,Sem.run_pure,Result.andThen_ok,hagg]
  simp [run_load,hc]
  exact hK _ _ h
theorem run_store1 (g i:Nat)(ty:TypeId)(v:Value)(h1:v.oneCell'=true)(hc:∃u,w.cell? ⟨g,i,none⟩=some u)(hf:w.frozen? ⟨g,i,none⟩=false)(hi:(P.info? ty).map (·.size)=some 1):(storeVar ty ⟨g,i,none⟩ v).run P w=.ok () (w.setCell ⟨g,i,none⟩ v):=by
 obtain⟨u,hc⟩:=hc
 have hv:v.cells=#[v]:=by cases v <;> first|rfl|cases h1
 have ha:(⟨g,i,none⟩:Addr).add 0=⟨g,i,none⟩:=by unfold Addr.add;simp
 cases hq:P.info? ty with
 | none=>simp [hq] at hi
 | some q =>
  have hs:q.size=1:=by simpa [hq] using hi
  simp [storeVar,sizeOf,typeInfo,hq,hv,hs,storeCells,ha,run_store,h1,hc,hf]
theorem wpList_store1_own (ty:TypeId)(x y:Operand)(ho:o.op=.store ty x y)(g i:Nat)(hx:a.eval x=.pointer (some ⟨g,i,none⟩))(v:Value)(hy:a.eval y=v)(h1:v.oneCell'=true)(M:Own X w0 w L rs J)(old new:Array Value)
 (hsz:(P.info? ty).map (·.size)=some 1) (h:∀w',Own X w0 w' L' rs J→wpList P ops Q rest (a.put o.dst undef) w') (hgd:o.guard=none:=by exact rfl) (hm:Upd g old new L L':=by repeat constructor) (hnew:old.setIfInBounds i v=new:=by exact rfl) (hi:i<old.size:=by simp):wpList P ops Q (o::rest) a w:=by
 subst hnew hy
 have M':=M.setCell hm
 obtain⟨A,T,B,rfl,rfl⟩:=hm.split
 have hb:=M.blk (g,T,old) (by simp)
 refine wpList_plain hgd fun K hK=>?_
 unfold Oper.wp execOp
 simp only [ho,hx,Instr.storeAt,Instr.sureAddr,Sem.run_bind,Sem.run_pure,Result.andThen_ok,run_store1 (P:=P) g i ty _ h1 ⟨_,(hb.cell i).trans (Array.getElem?_eq_getElem hi)⟩ (hb.frozen i) hsz]
 exact hK _ _ (h _ M')
theorem wpList_append_ownB (hgd:o.guard=none)(s x:Operand)(t:TypeId)(ho:o.op=.call { callee:=.builtin .append,args:=#[s,x],argTypes:=#[t,t] })(e:TypeId)(i:TypeInfo)(z:Value)(size bytes:Nat)(ht:P.underlying t=some (.slice e))(hi:P.info? e=some i)(hz:i.zero=some z)
  (hsize:i.size=size) (hby:i.bytes=bytes) (hzs:z.cells.size=size) (hsz:0<size) (v:Value) (n:Nat) (xs:List Value) (hs:a.eval s=v) (M:Own X w0 w L rs J) (hrow:(v,e,size,n,xs)∈rs) (g c m:Nat) (cs:Array Value) (hx:a.eval x=.slice (some ⟨g,0,none⟩) m c) (T:TypeId) (hm:(g,T,cs)∈L) (hcs:cs.size=m*size) (h1:allOne cs.toList=true)
  (h63:n+m≤maxLen) (hbytes:(n+m)*bytes≤140737488355328)
  (h:∀v' w',(∀rs',UpdR (v,e,size,n,xs) (v',e,size,n+m,xs++cs.toList) rs rs'→Own X w0 w' L rs' J)→wpList P ops Q rest (a.put o.dst v') w'):wpList P ops Q (o::rest) a w:=by
 refine wpList_append_any w hgd s x t ho w0.heap.size e i z size bytes ht hi hz hsize hby hzs hsz v n xs hs (M.row _ hrow) w.heap.size (some ⟨g,0,none⟩) m c cs.toList hx ⟨by simp [hcs],fun _=>⟨_,rfl,(M.blk _ hm).lt,fun j u hu=>?_⟩⟩ (allOne_mem h1) h63 hbytes M.size ?_
 ·have hb:=(M.blk _ hm).cell j
  have:(⟨g,0,none⟩:Addr).add j=⟨g,j,none⟩:=by unfold Addr.add;by_cases hi:j=0 <;> simp [hi]
  rw [this,hb]
  simpa using hu
 ·intro v' w' hown hg hv
  exact h v' w' fun rs' hu=>M.grow hu hown hg hv
end
section
variable  {P:Program}{w:World}
theorem results_2 {fn:Func}{p q:Tmp}{ty uy:TypeId}(h:fn.results=#[.cell p ty,.cell q uy])(tmps:Array Value)(g k:Nat)(t u:TypeId)(cs ds:Array Value)(d d':TypeDesc)
  (hp:tmps.getD p undef=.pointer (some ⟨g,0,none⟩)) (hq:tmps.getD q undef=.pointer (some ⟨k,0,none⟩)) (hg:Blk w g t cs) (hk:Blk w k u ds) (hu:P.underlying ty=some d) (hd:isRowT d=true) (hu':P.underlying uy=some d') (hd':isRowT d'=true)
  (n m:Nat) (hi:(P.info? ty).map (·.size)=some n) (hn:cs.size=n) (hi':(P.info? uy).map (·.size)=some m) (hm:ds.size=m) :
  (results fn tmps).run P w=.ok (.tuple #[.agg cs,.agg ds]) w:=by
 have hp':tmps[p]?.getD undef=.pointer (some ⟨g,0,none⟩):=by simpa using hp
 have hq':tmps[q]?.getD undef=.pointer (some ⟨k,0,none⟩):=by simpa using hq
 simp [results,h,hp',hq',asAddr,run_loadVar_row w g t ty cs (0,0) d hg hu (by cases d <;> first|rfl|cases hd) (by rw [hn];exact hi),run_loadVar_row w k u uy ds (0,0) d' hk hu' (by cases d' <;> first|rfl|cases hd') (by rw [hm];exact hi')]
theorem results_1t {fn:Func}{p q:Tmp}{ty:TypeId}(h:fn.results=#[.cell p ty,.tmp q])(tmps:Array Value)(g:Nat)(t:TypeId)(cs:Array Value)(d:TypeDesc)(v:Value)
  (hp:tmps.getD p undef=.pointer (some ⟨g,0,none⟩)) (hq:tmps.getD q undef=v) (hg:Blk w g t cs) (hu:P.underlying ty=some d) (hd:isRowT d=true)
  (n:Nat) (hi:(P.info? ty).map (·.size)=some n) (hn:cs.size=n) :
  (results fn tmps).run P w=.ok (.tuple #[.agg cs,v]) w:=by
 have hp':tmps[p]?.getD undef=.pointer (some ⟨g,0,none⟩):=by simpa using hp
 have hq':tmps[q]?.getD undef=v:=by simpa using hq
 simp [results,h,hp',hq',asAddr,run_loadVar_row w g t ty cs (0,0) d hg hu (by cases d <;> first|rfl|cases hd) (by rw [hn];exact hi)]
end
section
variable  {X:List Nat}{w0 w:World}{L L':List BlkE}{rs:List RowE}{J:World→Prop}{k:Nat}
theorem Own.c2 {T:TypeId}{u0 u1:Value}(M:Own X w0 w L rs J)(h:(k,T,#[u0,u1])∈L):w.cell? ⟨k,0,none⟩=some u0∧w.cell? ⟨k,1,none⟩=some u1 :=
 ⟨(M.blk _ h).cell 0,(M.blk _ h).cell 1⟩
theorem Own.c6 {T:TypeId}{u0 u1 u2 u3 u4 u5:Value}(M:Own X w0 w L rs J)(h:(k,T,#[u0,u1,u2,u3,u4,u5])∈L):w.cell? ⟨k,0,none⟩=some u0∧w.cell? ⟨k,1,none⟩=some u1∧w.cell? ⟨k,2,none⟩=some u2∧w.cell? ⟨k,3,none⟩=some u3∧w.cell? ⟨k,4,none⟩=some u4∧w.cell? ⟨k,5,none⟩=some u5 :=
 ⟨(M.blk _ h).cell 0,(M.blk _ h).cell 1,(M.blk _ h).cell 2,(M.blk _ h).cell 3,(M.blk _ h).cell 4,(M.blk _ h).cell 5⟩
end
theorem Own.b {X:List Nat}{w0 w:World}{L:List BlkE}{rs:List RowE}{J:World→Prop}{g:Nat}{T:TypeId}{cs:Array Value}(M:Own X w0 w L rs J)(hm:(g,T,cs)∈L:=by repeat constructor):Blk w g T cs:=M.blk (g,T,cs) hm
end
/- Own blocks: the steps of a region that draws its order (no word of a dump). -/
section
open Go.RowKit
section
variable  {P:Program}{X:List Nat}{w0 w:World}{L L':List BlkE}{rs:List RowE}{J S:World→Prop}{ops:Array Oper}{o:Oper}{a:Act}{Q:Exit→Act→World→Prop}{md:Region.Mode}{fuel i:Nat}{listed:Array Bool}{is:List Nat}{dst:Option Tmp}{tt:TypeId}{pos:String}{af:Array Edge}
theorem wp_of_call {K:Act→World→Prop}{f:FuncId}{args:Array Value}(hrun:(execOp a.eval o).run P w=.ok (.enter f args) w)(hc:Calls P f args w fun e w'=>∃v,e=.returned v∧K (a.put o.dst v) w'):o.wp P a w K Q:=by
 unfold Oper.wp
 rw [hrun,Oper.upon_enter]
 refine hc.mono ?_
 rintro e w' ⟨v,rfl,h⟩
 exact h
theorem rdy (ho:ops[i]? = some o)(h:∀K:Act→World→Prop,Shut (∀a w,S w→(S w→wpAnyH P md ops Q S fuel (listed.setIfInBounds i true) a w)→K a w)→Oper.wp P o a w K Q)(hs:AllReadyH P md ops Q S fuel listed a w is:=by exact .nil)(hgd:o.guard=none:=by exact rfl):AllReadyH P md ops Q S fuel listed a w (i::is) :=
 AllReadyH.cons ho (fun K hK=>by
  rw [if_pos (by simp [Region.wanted,hgd])]
  exact h K hK) hs
theorem rdy_store (ty:TypeId)(x y:Operand)(ho:ops[i]? = some ⟨dst,.store ty x y,tt,pos,af,none⟩)(g:Nat)(hx:a.eval x=.pointer (some ⟨g,0,none⟩))(cs:Array Value)(hy:a.eval y=.agg cs)(M:Own X w0 w L rs J)(old:Array Value)
  (n:Nat) (hi:(P.info? ty).map (·.size)=some n) (h1:allOne cs.toList=true)
  (h:∀w',Own X w0 w' L' rs J→S w'∧wpAnyH P md ops Q S fuel (listed.setIfInBounds i true) (a.put dst undef) w') (hs:AllReadyH P md ops Q S fuel listed a w is:=by exact .nil) (hm:Upd g old cs L L':=by repeat constructor) (hn:cs.size=n:=by exact rfl) (hold:old.size=n:=by exact rfl):AllReadyH P md ops Q S fuel listed a w (i::is):=by
 refine rdy ho (fun K hK=>?_) hs
 have M':=M.setRow hm
 obtain⟨A,T,B,rfl,rfl⟩:=hm.split
 obtain⟨h2,h3⟩:=h _ M'
 exact wp_store_row ty x y rfl g cs hx hy T old (M.blk (g,T,old) (by simp)) (by rw [hn];exact hi) (by rw [hn,hold]) (allOne_all h1) (hK.out _ _ h2 fun _=>h3)
theorem rdy_call {f:FuncId}{args:Array Value}{R:Ending→World→Prop}(hc:Calls P f args w R){op:Op}(ho:ops[i]? = some ⟨dst,op,tt,pos,af,none⟩)(hrun:(execOp a.eval ⟨dst,op,tt,pos,af,none⟩).run P w=.ok (.enter f args) w)
  (h:∀e w',R e w'→∃v,e=.returned v∧S w'∧wpAnyH P md ops Q S fuel (listed.setIfInBounds i true) (a.put dst v) w') (hs:AllReadyH P md ops Q S fuel listed a w is:=by exact .nil):AllReadyH P md ops Q S fuel listed a w (i::is):=by
 refine rdy ho (fun K hK=>?_) hs
 refine wp_of_call hrun (hc.mono fun e w' he=>?_)
 obtain⟨v,h1,h2,h3⟩:=h e w' he
 exact⟨v,h1,hK.out _ _ h2 fun _=>h3⟩
theorem rdy_buildSlice (t e:TypeId)(len:Nat)(parts:Array (Nat×Operand))(ho:ops[i]? = some ⟨dst,.buildSlice t len parts,tt,pos,af,none⟩)(hu:P.underlying t=some (.slice e))(cs:Array Value)
  (hf:P.builtSlice e len (parts.map fun (i,x)=>(i,a.eval x)).toList=some cs) (M:Own X w0 w L rs J)
  (h:∀g w',w0.heap.size≤g→g=w.heap.size→Own X w0 w' ((g,e,cs)::L) rs J→S w'∧wpAnyH P md ops Q S fuel (listed.setIfInBounds i true) (a.put dst (.slice (some ⟨g,0,none⟩) len len)) w') (hs:AllReadyH P md ops Q S fuel listed a w is):AllReadyH P md ops Q S fuel listed a w (i::is):=by
 refine rdy ho (fun K hK=>?_) hs
 obtain⟨h2,h3⟩:=h _ _ M.size rfl (M.alloc e cs)
 have h4:=hK.out _ _ h2 fun _=>h3
 unfold Program.builtSlice at hf
 cases hie:P.info? e with
 | none=>simp [hie] at hf
 | some ie =>
  simp only [hie] at hf
  cases hz:ie.zero with
  | none=>simp [hz] at hf
  | some z =>
   simp only [hz] at hf
   by_cases hc:len*ie.size > 2 ^ 24∨len*ie.size=0
   ·simp [hc] at hf
   ·rw [if_neg hc] at hf
    exact wp_buildSlice t e len parts rfl cs ie z hu hie hz (fun h'=>hc (Or.inl h')) (fun h'=>hc (Or.inr h')) hf h4
theorem yields_load_row (ty:TypeId)(x:Operand)(g:Nat)(hx:a.eval x=.pointer (some ⟨g,0,none⟩))(T:TypeId)(cs:Array Value)(hS:∀w,S w→Blk w g T cs)(d:TypeDesc)(hu:P.underlying ty=some d)(hd:isRowT d=true)(n:Nat)(hi:(P.info? ty).map (·.size)=some n)(hn:cs.size=n):YieldsIf P ops S ⟨dst,.load ty x,tt,pos,af,none⟩ (.agg cs) a :=
 .inl ⟨by simp [Region.wanted],fun w hw'=>by
  unfold execOp
  simp only [hx,Instr.loadAt,Instr.sureAddr,Sem.run_bind,Sem.run_pure,Result.andThen_ok,run_loadVar_row w g T ty cs (0,0) d (hS w hw') hu (by cases d <;> first|rfl|cases hd) (by rw [hn];exact hi)]⟩
end
end

end Go.Proofs.YtjbdcjcfijjiiaaGreatDoor
