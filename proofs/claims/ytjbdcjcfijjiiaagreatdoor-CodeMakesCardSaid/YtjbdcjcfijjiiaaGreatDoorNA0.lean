/- Words for all: memory, bytes, returns. -/
import Derived.WalkKit
import Derived.WalkSpells
import Derived.WalkLawsBesides
import Derived.Lib.Hide
import Derived.Deep.QuietTactic
import Derived.BigQuiet
import Derived.Deep.Draws
import Derived.IntWalk
import Derived.Handy
import Derived.WalkSmall
import Derived.Deep.RegionWith
import Derived.Deep.DeepCutAuto
import Derived.Maps.AppendAt
import Derived.Deep.AppendLies
import Derived.Test.YtjbdcjcfijjiiaaGreatDoorRows
namespace Go.Proofs.YtjbdcjcfijjiiaaGreatDoor
open Go.RowKit
theorem hH {p:Prop}(h:p):Hid p:=h
theorem ret_bool {a b:Bool}(h:a=b):Ending.returned (.bool a)=.returned (.bool b):=by rw [h]
theorem ret_str {a b:ByteArray}(h:a=b):Ending.returned (.string a)=.returned (.string b):=by rw [h]
theorem ret_int {k:IntKind}{a b:Int}(h:a=b):Ending.returned (.int k a)=.returned (.int k b):=by rw [h]
theorem drop_cons (s:ByteArray)(k:Nat)(h:k<s.size):s.data.toList.drop k=s[k]::s.data.toList.drop (k+1):=by
 rw [List.drop_eq_getElem_cons (by simpa using h)];rfl
theorem drop_nil (s:ByteArray)(k:Nat)(h:s.size≤k):s.data.toList.drop k=[]:=by
 apply List.drop_of_length_le;simpa using h
def Rd (w:World)(A:Option Addr)(xs:List Value):Prop :=
 xs=[]∨∃b off,A=some ⟨b,off,none⟩∧b<w.heap.size∧∀i u,xs[i]? = some u→w.cell? ⟨b,off+i,none⟩=some u
theorem Rd.below {w w':World}{A:Option Addr}{xs:List Value}{B:Nat}(h:Rd w A xs)(hb:Below B w w')(hB:w.heap.size≤B):Rd w' A xs:=by
 rcases h with h|⟨b,off,e,hlt,hc⟩
 ·exact .inl h
 ·exact .inr ⟨b,off,e,by have:=hb.size;omega,fun i u hu=>(hb.cell (p:=⟨b,off+i,none⟩) (by show b<B;omega)).trans (hc i u hu)⟩
theorem Rd.drew {w:World}{A:Option Addr}{xs:List Value}(h:Rd w A xs):Rd w.drew A xs:=h
theorem Rd.drewN {w:World}{A:Option Addr}{xs:List Value}(h:Rd w A xs)(n:Nat):Rd (w.drewN n) A xs:=h
theorem Rd.alloc {w:World}{A:Option Addr}{xs:List Value}(h:Rd w A xs)(o:Obj):Rd (w.alloc o) A xs:=h.below ((Below.refl _ _).alloc (Nat.le_refl _) o) (Nat.le_refl _)
theorem Rd.nil (w:World)(A:Option Addr):Rd w A []:=.inl rfl
theorem Rd.cons {w:World}{A:Option Addr}{x:Value}{xs:List Value}(h:Rd w A (x::xs)):∃b off,A=some ⟨b,off,none⟩∧b<w.heap.size∧∀i u,(x::xs)[i]? = some u→w.cell? ⟨b,off+i,none⟩=some u :=
 h.resolve_left (by simp)
theorem Rd.pos {w:World}{A:Option Addr}{xs:List Value}(h:Rd w A xs)(hp:0<xs.length):∃b off,A=some ⟨b,off,none⟩∧b<w.heap.size∧∀i u,xs[i]? = some u→w.cell? ⟨b,off+i,none⟩=some u :=
 h.resolve_left (by rintro rfl;simp at hp)
structure Bel (B:Nat)(w w':World):Prop where
 os:w'.os=w.os
 output:w'.output=w.output
 size:w.heap.size≤w'.heap.size
 block:∀k,k<B→w'.heap[k]? = w.heap[k]?
theorem Bel.of {B:Nat}{w w':World}(h:Below B w w'):Bel B w w':=⟨h.os,h.output,h.size,h.block⟩
theorem Bel.refl (B:Nat)(w:World):Bel B w w:=.of (Below.refl B w)
theorem Bel.trans {B:Nat}{a b c:World}(h:Bel B a b)(k:Bel B b c):Bel B a c :=
 ⟨k.os.trans h.os,k.output.trans h.output,Nat.le_trans h.size k.size,fun i hi=>(k.block i hi).trans (h.block i hi)⟩
theorem Bel.mono {B B':Nat}{w w':World}(h:Bel B w w')(hB:B'≤B):Bel B' w w':=⟨h.os,h.output,h.size,fun k hk=>h.block k (Nat.lt_of_lt_of_le hk hB)⟩
theorem Bel.and {B:Nat}{a b c:World}(h:Bel B a b)(k:Below b.heap.size b c)(hB:B≤b.heap.size):Bel B a c:=h.trans (Bel.of (k.mono hB))
theorem Bel.next {a b c:World}(h:Bel a.heap.size a b)(k:Bel b.heap.size b c):Bel a.heap.size a c:=h.trans (k.mono h.size)
theorem Bel.drew {B:Nat}{a w:World}(h:Bel B a w):Bel B a w.drew:=⟨h.os,h.output,h.size,h.block⟩
theorem Bel.drewN {B:Nat}{a w:World}(h:Bel B a w)(n:Nat):Bel B a (w.drewN n):=⟨h.os,h.output,h.size,h.block⟩
theorem Bel.alloc {B:Nat}{a w:World}(h:Bel B a w)(hB:B≤w.heap.size)(o:Obj):Bel B a (w.alloc o):=h.trans (.of ((Below.refl B w).alloc hB o))
theorem Bel.setCell {B:Nat}{a w:World}(h:Bel B a w){p:Addr}(hp:B≤p.block)(u:Value):Bel B a (w.setCell p u):=h.trans (.of ((Below.refl B w).setCell hp u))
theorem Bel.grown {B:Nat}{a w w':World}{row:Option Nat}(h:Bel B a w)(hg:w.grownBy w' row)(hB:B≤w.heap.size)(hr:∀k,row=some k→B≤k):Bel B a w':=h.trans (.of ((Below.refl B w).grown hg hB hr))
theorem Bel.cell {B:Nat}{w w':World}(h:Bel B w w'){p:Addr}(hp:p.block<B):w'.cell? p=w.cell? p:=World.cell?_of_block (h.block _ hp)
theorem Bel.frozen {B:Nat}{w w':World}(h:Bel B w w'){p:Addr}(hp:p.block<B):w'.frozen? p=w.frozen? p:=World.frozen?_of_block (h.block _ hp)
theorem Rd.bel {w w':World}{A:Option Addr}{xs:List Value}{B:Nat}(h:Rd w A xs)(hb:Bel B w w')(hB:w.heap.size≤B):Rd w' A xs:=by
 rcases h with h|⟨b,off,e,hlt,hc⟩
 ·exact .inl h
 ·exact .inr ⟨b,off,e,by have:=hb.size;omega,fun i u hu=>(hb.cell (p:=⟨b,off+i,none⟩) (by show b<B;omega)).trans (hc i u hu)⟩
theorem str_t {a b:ByteArray}(h:a=b):(a.toList==b.toList)=true:=by subst h;simp
theorem str_f {a b:ByteArray}(h:¬a=b):(a.toList==b.toList)=false:=by
 rw [beq_eq_false_iff_ne];intro e;apply h
 rw [ByteArray.toList_eq,ByteArray.toList_eq] at e
 exact ByteArray.ext (Array.toList_inj.1 e)
theorem block_of_add (a:Addr)(n:Nat):(a.add n).block=a.block:=by unfold Addr.add;split <;> rfl
theorem add_of_add (a:Addr)(i j:Nat):(a.add i).add j=a.add (i+j):=by
 unfold Addr.add
 by_cases hi:i=0 <;> by_cases hj:j=0 <;> simp [hi,hj,Nat.add_assoc]
def Reads (w:World)(B size:Nat)(A:Option Addr)(n:Nat)(xs:List Value):Prop :=
 xs.length=n*size∧(0<n→∃ad,A=some ad∧ad.block<B∧∀j u,xs[j]? = some u→w.cell? (ad.add j)=some u)
section
variable  {w w':World}{B B' size n:Nat}{A:Option Addr}{xs:List Value}
theorem Reads.none_ :Reads w B size A 0 []:=⟨by simp,fun h=>absurd h (by omega)⟩
theorem Reads.at_ {k:Nat}(h:Reads w B 1 A n xs)(hk:k<n):∃ad u,A=some ad∧ad.block<B∧xs[k]? = some u∧w.cell? (ad.add k)=some u:=by
 obtain⟨ad,e,hb,hc⟩:=h.2 (by omega)
 have hl:k<xs.length:=by have:=h.1;omega
 exact⟨ad,xs[k],e,hb,List.getElem?_eq_getElem hl,hc k _ (List.getElem?_eq_getElem hl)⟩
theorem Reads.keep (h:Reads w B size A n xs)(hk:∀p:Addr,p.block<B→w'.cell? p=w.cell? p):Reads w' B size A n xs :=
 ⟨h.1,fun hn=>by
  obtain⟨ad,e,hb,hc⟩:=h.2 hn
  exact⟨ad,e,hb,fun j u hu=>(hk _ (by rw [block_of_add];exact hb)).trans (hc j u hu)⟩⟩
theorem Reads.more (h:Reads w B size A n xs)(hB:B≤B'):Reads w B' size A n xs :=
 ⟨h.1,fun hn=>by
  obtain⟨ad,e,hb,hc⟩:=h.2 hn
  exact⟨ad,e,by omega,hc⟩⟩
theorem Reads.below (h:Reads w B size A n xs)(hb:Below B w w'):Reads w' B size A n xs:=h.keep fun _ hp=>hb.cell hp
theorem Reads.drew (h:Reads w B size A n xs):Reads w.drew B size A n xs:=h
theorem Reads.drewN (h:Reads w B size A n xs)(k:Nat):Reads (w.drewN k) B size A n xs:=h
theorem Reads.alloc (h:Reads w B size A n xs)(hB:B≤w.heap.size)(o:Obj):Reads (w.alloc o) B size A n xs:=h.keep fun p hp=>World.cell?_alloc_lt w o p (by omega)
theorem Reads.setCell (h:Reads w B size A n xs){p:Addr}(hB:B≤p.block)(u:Value):Reads (w.setCell p u) B size A n xs :=
 h.keep fun q hq=>World.cell?_setCell_other w p q u (fun e=>by subst e;omega)
theorem Reads.grown (h:Reads w B size A n xs){row:Option Nat}(hg:w.grownBy w' row)(hB:B≤w.heap.size)(hr:∀g,row=some g→B≤g):Reads w' B size A n xs :=
 h.keep fun p hp=>World.cell?_of_block (hg.block p.block (by omega) (fun e=>by have:=hr _ e.symm;omega))
theorem Reads.cut (h:Reads w B size A n xs){k cap:Nat}(hk:k≤n)(hc:n≤cap) :
  Reads w B size (if cap=k then A else A.map (·.add (k*size))) (n-k) (xs.drop (k*size)):=by
 refine⟨by rw [List.length_drop,h.1,Nat.sub_mul],fun hn=>?_⟩
 obtain⟨ad,rfl,hb,hcell⟩:=h.2 (by omega)
 rw [if_neg (by omega)]
 refine⟨ad.add (k*size),rfl,by rw [block_of_add];exact hb,fun j u hu=>?_⟩
 rw [add_of_add]
 exact hcell _ u (by rw [←hu,List.getElem?_drop])
end
section
variable  {P:Program}(w:World)
theorem run_append_of_nil (base:Nat)(t ty e:TypeId)(i:TypeInfo)(size:Nat)(ht:P.underlying t=some (.slice e))(hi:P.info? e=some i)
  (v:Value) (n:Nat) (xs:List Value) (hown:w.ownsRow base e size v n xs) (c:Nat):(Builtin.append_ #[t,t] ty #[v,.slice none 0 c]).run P w=.ok v w:=by
 rcases hown.2 with⟨rfl,rfl⟩|⟨g,cap,cur,rfl,_,_,hnc,_⟩
 ·simp [Builtin.append_,run_underlying ht,sizeOf,typeInfo,hi,Builtin.lenOf,Builtin.firstCells]
 ·simp [Builtin.append_,run_underlying ht,sizeOf,typeInfo,hi,Builtin.lenOf,Builtin.firstCells,hnc,storeCells]
theorem run_append_any (base:Nat)(t ty e:TypeId)(i:TypeInfo)(z:Value)(size bytes:Nat)(ht:P.underlying t=some (.slice e))(hi:P.info? e=some i)(hz:i.zero=some z)
  (hsize:i.size=size) (hby:i.bytes=bytes) (hzs:z.cells.size=size) (hsz:0<size)
  (v:Value) (n:Nat) (xs:List Value) (hown:w.ownsRow base e size v n xs)
  (B:Nat) (A:Option Addr) (m c:Nat) (news:List Value) (hr:Reads w B size A m news) (h1:∀u∈news,u.oneCell'=true)
  (h63:n+m≤maxLen) (hbytes:(n+m)*bytes≤140737488355328) (hbase:base≤w.heap.size) :
  ∃v' w',(Builtin.append_ #[t,t] ty #[v,.slice A m c]).run P w=.ok v' w'∧w'.ownsRow base e size v' (n+m) (xs++news)∧w.grownBy w' v.ownBlock∧
   (v'.ownBlock=v.ownBlock∨v'.ownBlock=some w.heap.size):=by
 rcases A with _|ad
 ·have hm:m=0:=by
   rcases Nat.eq_zero_or_pos m with h0|h0
   ·exact h0
   ·obtain⟨ad,h,_⟩:=hr.2 h0
    cases h
  subst hm
  have hn:news=[]:=List.eq_nil_of_length_eq_zero (by simpa using hr.1)
  subst hn
  exact⟨v,w,run_append_of_nil w base t ty e i size ht hi v n xs hown c,by simpa using hown,World.grownBy.refl w _,.inl rfl⟩
 ·have hcells:∀j u,news[j]? = some u→w.cell? (ad.add j)=some u:=by
   intro j u hu
   rcases Nat.eq_zero_or_pos m with h0|h0
   ·subst h0
    have hn:news=[]:=List.eq_nil_of_length_eq_zero (by simpa using hr.1)
    subst hn
    simp at hu
   ·obtain⟨ad',h,_,hc⟩:=hr.2 h0
    injection h with h
    subst h
    exact hc j u hu
  obtain⟨v',w',hrun,h2,h3,_,h5⟩:=run_append_own_at (P:=P) w base t ty e i z size bytes ht hi hz hsize hby hzs hsz v n xs hown ad m c news hr.1 hcells h1 h63 hbytes hbase
  exact⟨v',w',hrun,h2,h3,h5⟩
theorem wp_append_any {o:Oper}{a:Act}{K:Act→World→Prop}{Q:Exit→Act→World→Prop}(s x:Operand)(t:TypeId)
  (ho:o.op=.call { callee:=.builtin .append,args:=#[s,x],argTypes:=#[t,t] })
  (base:Nat) (e:TypeId) (i:TypeInfo) (z:Value) (size bytes:Nat) (ht:P.underlying t=some (.slice e)) (hi:P.info? e=some i) (hz:i.zero=some z)
  (hsize:i.size=size) (hby:i.bytes=bytes) (hzs:z.cells.size=size) (hsz:0<size)
  (v:Value) (n:Nat) (xs:List Value) (hs:a.eval s=v) (hown:w.ownsRow base e size v n xs)
  (B:Nat) (A:Option Addr) (m c:Nat) (news:List Value) (hx:a.eval x=.slice A m c) (hr:Reads w B size A m news) (h1:∀u∈news,u.oneCell'=true)
  (h63:n+m≤maxLen) (hbytes:(n+m)*bytes≤140737488355328) (hbase:base≤w.heap.size)
  (h:∀v' w',w'.ownsRow base e size v' (n+m) (xs++news)→w.grownBy w' v.ownBlock→(v'.ownBlock=v.ownBlock∨v'.ownBlock=some w.heap.size)→K (a.put o.dst v') w'):o.wp P a w K Q:=by
 obtain⟨v',w',hrun,h2,h3,h4⟩:=run_append_any (P:=P) w base t o.type e i z size bytes ht hi hz hsize hby hzs hsz v n xs hown B A m c news hr h1 h63 hbytes hbase
 unfold Oper.wp execOp
 simp only [ho,resolve,invoke,builtin,Sem.run_bind,Sem.run_pure,Result.andThen_ok,List.map_toArray,List.map_cons,List.map_nil,hs,hx,hrun]
 exact h v' w' h2 h3 h4
theorem wpList_append_any {ops:Array Oper}{rest:List Oper}{o:Oper}{a:Act}{Q:Exit→Act→World→Prop}(hgd:o.guard=none)(s x:Operand)(t:TypeId)
  (ho:o.op=.call { callee:=.builtin .append,args:=#[s,x],argTypes:=#[t,t] })
  (base:Nat) (e:TypeId) (i:TypeInfo) (z:Value) (size bytes:Nat) (ht:P.underlying t=some (.slice e)) (hi:P.info? e=some i) (hz:i.zero=some z)
  (hsize:i.size=size) (hby:i.bytes=bytes) (hzs:z.cells.size=size) (hsz:0<size)
  (v:Value) (n:Nat) (xs:List Value) (hs:a.eval s=v) (hown:w.ownsRow base e size v n xs)
  (B:Nat) (A:Option Addr) (m c:Nat) (news:List Value) (hx:a.eval x=.slice A m c) (hr:Reads w B size A m news) (h1:∀u∈news,u.oneCell'=true)
  (h63:n+m≤maxLen) (hbytes:(n+m)*bytes≤140737488355328) (hbase:base≤w.heap.size)
  (h:∀v' w',w'.ownsRow base e size v' (n+m) (xs++news)→w.grownBy w' v.ownBlock→(v'.ownBlock=v.ownBlock∨v'.ownBlock=some w.heap.size)→wpList P ops Q rest (a.put o.dst v') w'):wpList P ops Q (o::rest) a w :=
 wpList_plain hgd fun _ hK=>wp_append_any w s x t ho base e i z size bytes ht hi hz hsize hby hzs hsz v n xs hs hown B A m c news hx hr h1 h63 hbytes hbase fun v' w' h2 h3 h4=>hK _ _ (h v' w' h2 h3 h4)
theorem step_append_any {ops:Array Oper}{o:Oper}{a:Act}{K:Act→World→Prop}{Q:Exit→Act→World→Prop}{E:Prop}(hgd:o.guard=none)(s x:Operand)(t:TypeId)
  (ho:o.op=.call { callee:=.builtin .append,args:=#[s,x],argTypes:=#[t,t] })
  (base:Nat) (e:TypeId) (i:TypeInfo) (z:Value) (size bytes:Nat) (ht:P.underlying t=some (.slice e)) (hi:P.info? e=some i) (hz:i.zero=some z)
  (hsize:i.size=size) (hby:i.bytes=bytes) (hzs:z.cells.size=size) (hsz:0<size)
  (v:Value) (n:Nat) (xs:List Value) (hs:a.eval s=v) (hown:w.ownsRow base e size v n xs)
  (B:Nat) (A:Option Addr) (m c:Nat) (news:List Value) (hx:a.eval x=.slice A m c) (hr:Reads w B size A m news) (h1:∀u∈news,u.oneCell'=true)
  (h63:n+m≤maxLen) (hbytes:(n+m)*bytes≤140737488355328) (hbase:base≤w.heap.size)
  (h:∀v' w',w'.ownsRow base e size v' (n+m) (xs++news)→w.grownBy w' v.ownBlock→(v'.ownBlock=v.ownBlock∨v'.ownBlock=some w.heap.size)→K (a.put o.dst v') w') :
  if Region.wanted o (yielded ops a.tmps)=true then Oper.wp P o a w K Q else E:=by
 have hw:Region.wanted o (yielded ops a.tmps)=true:=by simp [Region.wanted,hgd]
 rw [if_pos hw]
 exact wp_append_any w s x t ho base e i z size bytes ht hi hz hsize hby hzs hsz v n xs hs hown B A m c news hx hr h1 h63 hbytes hbase h
end
theorem ownsRow_bel {w w1:World}{B base:Nat}{e:TypeId}{size n:Nat}{v:Value}{xs:List Value}(h:w.ownsRow base e size v n xs)(hb:Bel B w w1)(hB:w.heap.size≤B):w1.ownsRow base e size v n xs:=by
 refine⟨h.1,?_⟩
 rcases h.2 with h|⟨g,cap,cur,h1,h2,h3,h4⟩
 ·exact .inl h
 ·refine .inr ⟨g,cap,cur,h1,h2,(hb.block g ?_).trans h3,h4⟩
  have:=(Array.getElem?_eq_some_iff.1 h3).1
  omega
theorem grown_bel {w w':World}{row:Option Nat}{B:Nat}(h:w.grownBy w' row)(hB:B≤w.heap.size)(hr:∀k,row=some k→B≤k):Bel B w w':=(Bel.refl B w).grown h hB hr
theorem belcell {W w1:World}(hb:Bel W.heap.size W w1):(∀b o,b<W.heap.size→w1.cell? ⟨b,o,none⟩=W.cell? ⟨b,o,none⟩)∧(∀b o,b<W.heap.size→w1.frozen? ⟨b,o,none⟩=W.frozen? ⟨b,o,none⟩) :=
 ⟨fun b o h=>hb.cell (p:=⟨b,o,none⟩) h,fun b o h=>hb.frozen (p:=⟨b,o,none⟩) h⟩
theorem len_toList (s:ByteArray):s.data.toList.length=s.size:=by simp
theorem extract_list (s:ByteArray)(k:Nat):s.extract k s.size=⟨(s.data.toList.drop k).toArray⟩:=by
 apply ByteArray.ext
 apply Array.toList_inj.1
 simp [ByteArray.data_extract,List.extract_eq_take_drop]
 rw [List.take_of_length_le (by simp)]
theorem ext_drop (s:ByteArray)(k:Nat):(s.extract k s.size).data.toList=s.data.toList.drop k:=by rw [extract_list]
theorem ext_take (s:ByteArray)(n:Nat):(s.extract 0 n).data.toList=s.data.toList.take n:=by
 simp [ByteArray.data_extract,List.extract_eq_take_drop]
def Blk (w:World)(g:Nat)(t:TypeId)(cs:Array Value):Prop:=w.heap[g]? = some (.cells cs t (0,0))
section
variable  {w w':World}{g:Nat}{t:TypeId}{cs:Array Value}
theorem Blk.lt (h:Blk w g t cs):g<w.heap.size:=by
 rcases Nat.lt_or_ge g w.heap.size with hlt|hge
 ·exact hlt
 ·unfold Blk at h;rw [Array.getElem?_eq_none hge] at h;cases h
theorem Blk.cell (h:Blk w g t cs)(i:Nat):w.cell? ⟨g,i,none⟩=cs[i]?:=cell_of_row w g i cs t (0,0) h
theorem Blk.frozen (h:Blk w g t cs)(i:Nat):w.frozen? ⟨g,i,none⟩=false:=by
 unfold Blk at h
 simp [World.frozen?,h]
theorem Blk.new (w:World)(t:TypeId)(cs:Array Value):Blk (w.alloc (.cells cs t)) w.heap.size t cs:=heap_alloc_new w _
theorem Blk.alloc (h:Blk w g t cs)(o:Obj):Blk (w.alloc o) g t cs:=(Below.heap_alloc w o g h.lt).trans h
theorem Blk.set_ (h:Blk w g t cs)(i:Nat)(u:Value):Blk (w.setCell ⟨g,i,none⟩ u) g t (cs.setIfInBounds i u):=by
 unfold Blk at h ⊢
 simp [World.setCell,Array.getElem?_modify,h]
theorem Blk.far (h:Blk w g t cs){p:Addr}(hp:g≠p.block)(u:Value):Blk (w.setCell p u) g t cs:=(Below.heap_setCell w p u g hp).trans h
theorem Blk.bel {B:Nat}(h:Blk w g t cs)(hb:Bel B w w')(hg:g<B):Blk w' g t cs:=(hb.block g hg).trans h
end
end Go.Proofs.YtjbdcjcfijjiiaaGreatDoor
