/- NG14: Ch, Ci joined. -/
import Derived.Deep.LoopGhost
import Derived.Test.YtjbdcjcfijjiiaaGreatDoorNG13
namespace Go.Proofs.YtjbdcjcfijjiiaaGreatDoor
open Go.RowKit
/- Jumps laid, and turned once their place is known; rows written into (no word of a dump but the types'). -/
section
open Go.RowKit
section
variable  {I:Nat→Nat→ExprT→List InsD}{L Wt:ExprT→Nat}{op:Int}{E:Nat}
theorem insK_cc (y z:ExprT)(r:List ExprT)(a b:Nat):insK I L Wt op E a b (y::z::r)=I a b y++⟨op,0,0,0,0,bs [],E⟩::insK I L Wt op E (a+L y+1) (b+Wt y) (z::r):=rfl
theorem lenK_cc (y z:ExprT)(r:List ExprT):lenK L (y::z::r)=L y+(lenK L (z::r)+1):=rfl
theorem insK_snoc :∀(l:List ExprT) (x:ExprT) (a b:Nat),l≠[]→insK I L Wt op E a b (l++[x])=insK I L Wt op E a b l++⟨op,0,0,0,0,bs [],E⟩::I (a+lenK L l+1) (b+(l.map Wt).sum) x
 | [],_,_,_,h=>absurd rfl h
 | [y],x,a,b,_=>by simp [insK,lenK]
 | y::z::r,x,a,b,_=>by
  have:=insK_snoc (z::r) x (a+L y+1) (b+Wt y) (by simp)
  rw [List.cons_append] at this
  rw [List.cons_append,List.cons_append,insK_cc,this,insK_cc,lenK_cc]
  simp only [List.append_assoc,List.cons_append,List.map_cons,List.sum_cons]
  rw [show a+L y+1+lenK L (z::r)+1=a+(L y+(lenK L (z::r)+1))+1 by omega,show b+Wt y+(Wt z+(r.map Wt).sum)=b+(Wt y+(Wt z+(r.map Wt).sum)) by omega]
theorem lenK_snoc :∀(l:List ExprT) (x:ExprT),l≠[]→lenK L (l++[x])=lenK L l+1+L x
 | [],_,h=>absurd rfl h
 | [y],x,_=>by simp [lenK];omega
 | y::z::r,x,_=>by
  have:=lenK_snoc (z::r) x (by simp)
  rw [List.cons_append] at this
  rw [List.cons_append,List.cons_append,lenK_cc,this,lenK_cc]
  omega
def posK (L:ExprT→Nat):Nat→List ExprT→List Nat
 | _,[]=>[]
 | a,x::r=>if r.isEmpty then [] else (a+L x)::posK L (a+L x+1) r
theorem posK_cc (y z:ExprT)(r:List ExprT)(a:Nat):posK L a (y::z::r)=(a+L y)::posK L (a+L y+1) (z::r):=rfl
theorem posK_snoc :∀(l:List ExprT) (x:ExprT) (a:Nat),l≠[]→posK L a (l++[x])=posK L a l++[a+lenK L l]
 | [],_,_,h=>absurd rfl h
 | [y],x,a,_=>by simp [posK,lenK]
 | y::z::r,x,a,_=>by
  have:=posK_snoc (z::r) x (a+L y+1) (by simp)
  rw [List.cons_append] at this
  rw [List.cons_append,List.cons_append,posK_cc,this,posK_cc,lenK_cc,List.cons_append]
  rw [show a+L y+1+lenK L (z::r)=a+(L y+(lenK L (z::r)+1)) by omega]
def toD (E:Nat)(y:InsD):InsD:=⟨y.op,y.p,y.sign,y.kind,y.n,y.s,(E:Nat)⟩
def patchL (E:Nat):List Nat→List InsD→List InsD
 | [],l=>l
 | p::r,l=>patchL E r (l.modify p (toD E))
theorem patchL_len (E:Nat):∀(ps:List Nat) (l:List InsD),(patchL E ps l).length=l.length
 | [],_=>rfl
 | p::r,l=>by rw [patchL,patchL_len E r];simp
theorem patchL_snoc (E:Nat):∀(ps:List Nat) (p:Nat) (l:List InsD),patchL E (ps++[p]) l=(patchL E ps l).modify p (toD E)
 | [],_,_=>rfl
 | q::r,p,l=>by rw [List.cons_append,patchL,patchL,patchL_snoc E r]
theorem modify_mid {l1 l2:List InsD}{y:InsD}{f:InsD→InsD}{p:Nat}(h:l1.length=p):(l1++y::l2).modify p f=l1++f y::l2:=by
 subst h
 induction l1 with
 | nil=>rfl
 | cons x r ih=>rw [List.cons_append,List.length_cons,List.modify_succ_cons,ih,List.cons_append]
theorem modify_set {f:InsD→InsD}:∀{l:List InsD} {p:Nat} {y:InsD},l[p]? = some y→l.modify p f=l.set p (f y)
 | [],_,_,h=>by simp at h
 | x::r,0,y,h=>by obtain rfl:=Option.some.inj h;rfl
 | x::r,p+1,y,h=>by
  rw [List.getElem?_cons_succ] at h
  rw [List.modify_succ_cons,List.set_cons_succ,modify_set h]
theorem patch_all :∀(l:List ExprT) (_:∀x∈l,∀a b,(I a b x).length=L x) (a b:Nat) (pre suf:List InsD),pre.length=a→patchL E (posK L a l) (pre++(insK I L Wt op 0 a b l++suf))=pre++(insK I L Wt op E a b l++suf)
 | [],_,_,_,_,_,_=>rfl
 | [x],_,a,b,pre,suf,_=>by simp [posK,patchL,insK]
 | x::z::r,hI,a,b,pre,suf,h=>by
  rw [posK_cc,insK_cc,insK_cc,patchL]
  have e:∀F:Nat,pre++(I a b x++⟨op,0,0,0,0,bs [],(F:Nat)⟩::insK I L Wt op F (a+L x+1) (b+Wt x) (z::r)++suf)=(pre++I a b x)++⟨op,0,0,0,0,bs [],(F:Nat)⟩::(insK I L Wt op F (a+L x+1) (b+Wt x) (z::r)++suf):=fun F=>by simp
  have hl:(pre++I a b x).length=a+L x:=by rw [List.length_append,h,hI x (by simp)]
  rw [e 0,modify_mid hl,e E]
  have:=patch_all (z::r) (fun x hx=>hI x (by simp [hx])) (a+L x+1) (b+Wt x) (pre++I a b x++[⟨op,0,0,0,0,bs [],(E:Nat)⟩]) suf (by rw [List.length_append,hl];rfl)
  simp only [List.append_assoc,List.singleton_append] at this ⊢
  exact this
theorem posK_lt :∀(l:List ExprT) (_:∀x∈l,1≤L x) (a:Nat),∀p∈posK L a l,a≤p∧p<a+lenK L l
 | [],_,_,_,h=>by simp [posK] at h
 | [x],_,_,_,h=>by simp [posK] at h
 | x::z::r,hL,a,p,h=>by
  rw [posK] at h
  rw [lenK]
  simp only [List.isEmpty_cons,Bool.false_eq_true,if_false] at h ⊢
  have hz:1≤lenK L (z::r):=by rw [lenK];have:=hL z (by simp);omega
  rcases List.mem_cons.1 h with rfl|h
  ·omega
  ·have:=posK_lt (z::r) (fun x hx=>hL x (by simp [hx])) _ p h;omega
theorem posK_len1 :∀(l:List ExprT) (a:Nat),l≠[]→(posK L a l).length+1=l.length
 | [],_,h=>absurd rfl h
 | [x],_,_=>rfl
 | x::z::r,a,_=>by
  have:=posK_len1 (z::r) (a+L x+1) (by simp)
  rw [posK_cc,List.length_cons,List.length_cons,←this]
theorem posK_len :∀(l:List ExprT) (a:Nat),(posK L a l).length≤l.length
 | [],_=>Nat.le_refl _
 | x::r,a=>by
  rw [posK]
  split
  ·simp
  ·rw [List.length_cons,List.length_cons];have:=posK_len r (a+L x+1);omega
end
/-! ## Rows as blocks -/
section
variable  {X:List Nat}{w0 w:World}{L:List BlkE}{rs:List RowE}{J:World→Prop}{v:Value}{T:TypeId}{k n:Nat}{xs:List Value}
theorem Own.freezeRow (M:Own X w0 w L ((v,T,k,n,xs)::rs) J):∃A c,v=.slice A n c∧(n≤c∧c≤maxLen)∧FrA w0 A∧Own X w0 w L rs (fun y=>J y∧Rdd y k A n xs):=by
 obtain⟨A,c,hv,hc,hf,hr⟩:=own_reads (M.row _ List.mem_cons_self)
 simp only at hv hr
 have hsub:(exO L rs).Sublist (exO L ((v,T,k,n,xs)::rs)):=by
  unfold exO
  exact List.Sublist.append (List.Sublist.refl _) (List.Sublist.filterMap _ (List.sublist_cons_self _ _))
 have hN:=M.nodup
 refine⟨A,c,hv,hc,hf,M.os,M.output,M.size,M.out,M.low,M.blk,fun r h=>M.row r (List.mem_cons_of_mem _ h),hsub.nodup hN,fun y hy=>⟨M.always y ⟨hy.1,fun b h1 h2=>hy.2 b h1 fun h=>h2 (hsub.subset h)⟩,hr.kept hy fun a e h0 hm=>?_⟩⟩
 subst hv
 obtain⟨g,off,sp⟩:=a
 rcases (M.row _ List.mem_cons_self).2 with⟨h,hn⟩|⟨g',cap,cur,h,_⟩
 ·simp only at hn;omega
 ·simp only [Value.slice.injEq] at h
  obtain⟨h,_,_⟩:=h
  rw [h] at e
  cases e
  subst h
  unfold exO at hN hm
  rw [List.filterMap_cons] at hN
  have hN':=(List.perm_middle (l₁:=L.map (·.1)) (l₂:=rs.filterMap fun r=>r.1.ownBlock) (a:=g)).nodup_iff.1 hN
  exact(List.nodup_cons.1 hN').1 hm
theorem row_form {base:Nat}{A:Option Addr}{m c:Nat}{xs:List Value}(h:w.ownsRow base T k v n xs)(hv:v=.slice A m c):∀a,A=some a→∃g,a=⟨g,0,none⟩:=by
 intro a e
 subst hv
 rcases h.2 with⟨h,_⟩|⟨g,cap,cur,h,_⟩
 ·cases h;cases e
 ·cases h;cases e;exact⟨g,rfl⟩
theorem Own.rowBlk (M:Own X w0 w L ((v,T,k,n,xs)::rs) J)(hn:0<n):∃g c cur,v=.slice (some ⟨g,0,none⟩) n c∧(n≤c∧c≤maxLen)∧w0.heap.size≤g∧cur.toList.take (n*k)=xs∧n*k≤cur.size∧Own X w0 w ((g,T,cur)::L) rs J:=by
 have hr:=M.row _ List.mem_cons_self
 have hx:xs.length=n*k:=hr.1
 rcases hr.2 with⟨_,h0⟩|⟨g,cap,cur,hv,hb,hg,hle,hm,hsz,ht⟩
 ·simp only at h0;omega
 ·simp only at hv hg hle hsz ht
  subst hv
  have hp:(exO L ((.slice (some ⟨g,0,none⟩) n cap,T,k,n,xs)::rs)).Perm (exO ((g,T,cur)::L) rs):=by
   unfold exO
   rw [List.map_cons,List.filterMap_cons]
   exact List.perm_middle (l₁:=L.map (·.1)) (l₂:=rs.filterMap fun r=>r.1.ownBlock) (a:=g)
  refine⟨g,cap,cur,rfl,⟨hle,hm⟩,hb,ht,?_,M.os,M.output,M.size,M.out,fun x hx=>?_,fun x hx=>?_,fun r h=>M.row r (List.mem_cons_of_mem _ h),hp.nodup_iff.1 M.nodup,fun y hy=>M.always y ⟨hy.1,fun b h1 h2=>hy.2 b h1 fun h=>h2 (hp.mem_iff.2 h)⟩⟩
  ·have:=congrArg List.length ht
   rw [List.length_take,hx] at this
   simp at this;omega
  ·rcases List.mem_cons.1 hx with rfl|hx
   ·exact .inl hb
   ·exact M.low x hx
  ·rcases List.mem_cons.1 hx with rfl|hx
   ·exact hg
   ·exact M.blk x hx
theorem Own.rowBlk_at {x:BlkE}(M:Own X w0 w (x::L) ((v,T,k,n,xs)::rs) J)(hn:0<n):∃g c cur,v=.slice (some ⟨g,0,none⟩) n c∧(n≤c∧c≤maxLen)∧w0.heap.size≤g∧cur.toList.take (n*k)=xs∧n*k≤cur.size∧Own X w0 w (x::L) rs (fun y=>J y∧Blk y g T cur):=by
 obtain⟨g,c,cur,h1,h2,h3,h4,h5,h6⟩:=M.rowBlk hn
 exact⟨g,c,cur,h1,h2,h3,h4,h5,h6.freeze⟩
end
theorem rdd_blk {w:World}{g k n:Nat}{T:TypeId}{cur:Array Value}{xs:List Value}(h:Blk w g T cur)(ht:cur.toList.take (n*k)=xs)(hs:n*k≤cur.size):Rdd w k (some ⟨g,0,none⟩) n xs:=by
 subst ht
 refine⟨by rw [List.length_take,Array.length_toList];omega,fun _=>⟨_,rfl,h.lt,fun j u hu=>?_⟩⟩
 have hj:j<n*k:=by
  rcases Nat.lt_or_ge j (n*k) with h|h
  ·exact h
  ·rw [List.getElem?_eq_none (by rw [List.length_take];omega)] at hu;cases hu
 rw [List.getElem?_take_of_lt hj] at hu
 rw [add_lit,h.cell]
 simpa using hu
theorem take_mid {α:Type}(f:α→List Value)(k:Nat)(hk:∀x,(f x).length=k){l:List α}{cur:Array Value}(h:cur.toList.take (l.length*k)=l.flatMap f){p:Nat}{y:α}(hy:l[p]? = some y):(cur.toList.drop (p*k)).take k=f y:=by
 have hp:=(List.getElem?_eq_some_iff.1 hy).1
 have hle:p*k+k≤l.length*k:=by rw [←Nat.succ_mul];exact Nat.mul_le_mul_right k hp
 refine List.ext_getElem? fun j=>?_
 by_cases hj:j<k
 ·rw [List.getElem?_take_of_lt hj,List.getElem?_drop]
  have h1:(cur.toList.take (l.length*k))[p*k+j]? = (l.flatMap f)[p*k+j]?:=by rw [h]
  rw [List.getElem?_take_of_lt (by omega)] at h1
  rw [h1,flat_get f k hk l p j hj,hy];rfl
 ·rw [List.getElem?_eq_none (by rw [List.length_take];omega),List.getElem?_eq_none (by rw [hk];omega)]
theorem setAt_get :∀(vs:List Value) (cs:Array Value) (o i:Nat),o+vs.length≤cs.size→(setAt cs o vs)[i]? = if o≤i∧i<o+vs.length then vs[i-o]? else cs[i]?
 | [],cs,o,i,_=>by rw [setAt,if_neg (by simp)]
 | v::r,cs,o,i,h=>by
  rw [List.length_cons] at h
  rw [setAt,setAt_get r _ (o+1) i (by simp;omega),List.length_cons]
  by_cases h0:i=o
  ·subst h0
   rw [if_neg (by omega),if_pos (by omega),Nat.sub_self,List.getElem?_cons_zero,Array.getElem?_setIfInBounds_self_of_lt (by omega)]
  ·by_cases h1:o+1≤i∧i<o+1+r.length
   ·rw [if_pos h1,if_pos (by omega),show i-o=(i-(o+1))+1 by omega,List.getElem?_cons_succ]
   ·rw [if_neg h1,if_neg (by omega),Array.getElem?_setIfInBounds_ne (by omega)]
theorem take_set {α:Type}(f:α→List Value)(k:Nat)(hk:∀x,(f x).length=k){l:List α}{cur:Array Value}(h:cur.toList.take (l.length*k)=l.flatMap f)(hsz:l.length*k≤cur.size){p:Nat}{y:α}(hp:p<l.length):(setAt cur (p*k) (f y)).toList.take (l.length*k)=(l.set p y).flatMap f:=by
 have hle:p*k+k≤l.length*k:=by rw [←Nat.succ_mul];exact Nat.mul_le_mul_right k hp
 rcases Nat.eq_zero_or_pos k with hk0|hk0
 ·subst hk0
  have:∀l:List α,l.flatMap f=[]:=fun l=>by
   induction l with
   | nil=>rfl
   | cons x r ih=>rw [List.flatMap_cons,ih,List.eq_nil_of_length_eq_zero (hk x)];rfl
  rw [this];simp
 refine List.ext_getElem? fun i=>?_
 by_cases hi:i<l.length*k
 ·rw [List.getElem?_take_of_lt hi,Array.getElem?_toList,setAt_get _ _ _ _ (by rw [hk];omega),hk]
  have hd:i / k*k+i % k=i:=Nat.div_add_mod' i k
  have hm:i % k<k:=Nat.mod_lt _ hk0
  have hg:((l.set p y).flatMap f)[i]? = ((l.set p y)[i / k]?).bind fun x=>(f x)[i % k]?:=by
   have:=flat_get f k hk (l.set p y) (i / k) (i % k) hm
   rwa [hd] at this
  rw [hg]
  by_cases hin:p*k≤i∧i<p*k+k
  ·have e:i / k=p:=by
    rw [Nat.div_eq_iff hk0];omega
   rw [if_pos hin,e,List.getElem?_set_self hp]
   show _=(f y)[i % k]?
   rw [e] at hd
   rw [show i-p*k=i % k by omega]
  ·have e:p≠i / k:=by
    intro e
    rw [←e] at hd
    omega
   rw [if_neg hin,List.getElem?_set_ne e]
   have h1:(cur.toList.take (l.length*k))[i]? = (l.flatMap f)[i]?:=by rw [h]
   rw [List.getElem?_take_of_lt hi,Array.getElem?_toList] at h1
   rw [h1]
   have:=flat_get f k hk l (i / k) (i % k) hm
   rwa [hd] at this
 ·rw [List.getElem?_eq_none (by rw [List.length_take];omega),List.getElem?_eq_none (by rw [flat_len f k hk,List.length_set];omega)]
end
/- ref19: expr, or and and (printed by gen_ci.py). -/
section
open Go.RowKit
set_option maxRecDepth 100000
set_option maxHeartbeats 2000000
structure KidD where
 x:ExprT
 kc:List Value
 W:List (PathT×Value)
def wC (z:PathT×Value):List Value:=[.bool z.1.abs,z.2]
def ksD (D:List KidD):List ExprT:=D.map (·.x)
def nWD (D:List KidD):Nat:=(D.map fun d=>d.W.length).sum
def wCD (D:List KidD):List Value:=D.flatMap fun d=>d.W.flatMap wC
def insJ (n:Nat)(k:Int)(E a b:Nat)(l:List ExprT):List InsD:=insK (insN n) (lenN n) (fun y=>(waitN n y).length) (3+k) E a b l
def KidC (wT:World)(n:Nat)(d:KidD):Prop :=
 ∀(B1 B2 B3 A4 A5:Option Addr) (m1 d1 m2 d2 m3 d3 c4 c5 n4 nw:Nat) (is:List InsD) (wc:List Value) (w:World),is.length=n4→Bel wT.heap.size wT w→Rdd w 7 A4 n4 (is.flatMap insC)→Rdd w 2 A5 nw wc→(∀u∈wc,u.oneCell'=true)→n4+lenN n d.x≤999990→nw+d.W.length≤999990→
  Calls Tryz.prog 41 #[.agg #[.slice B1 m1 d1,.slice B2 m2 d2,.slice B3 m3 d3,.slice A4 n4 c4,.slice A5 nw c5],.agg d.kc.toArray] w (MoreP B1 B2 B3 m1 d1 m2 d2 m3 d3 n4 nw (is.flatMap insC) wc w (insN n n4 nw d.x) d.W.length (d.W.flatMap wC))
theorem flatMap_snoc (l:List InsD)(x:InsD):(l++[x]).flatMap insC=l.flatMap insC++insC x:=by simp
structure KidsOK (wT:World)(n:Nat)(b off:Nat)(D:List KidD):Prop where
 lt:b<wT.heap.size
 kc:∀(i:Nat) (d:KidD),D[i]? = some d→d.kc.length=17∧wT.rangeAt b (off+i*17) d.kc
 call:∀d∈D,KidC wT n d
 len:∀d∈D,(∀a b,(insN n a b d.x).length=lenN n d.x)∧1≤lenN n d.x∧d.W.length=(waitN n d.x).length
 one:∀d∈D,∀u∈d.W.flatMap wC,u.oneCell'=true
def posV (L:ExprT→Nat)(a:Nat)(l:List ExprT):List Value:=(posK L a l).map fun (p:Nat)=>.int .i64 (p:Int)
theorem nWD_eq {n:Nat}:∀{D:List KidD},(∀d∈D,d.W.length=(waitN n d.x).length)→((ksD D).map fun y=>(waitN n y).length).sum=nWD D
 | [],_=>rfl
 | d::r,h=>by
  have:=nWD_eq (D:=r) fun d hd=>h d (by simp [hd])
  unfold ksD nWD at *
  rw [List.map_cons,List.map_cons,List.sum_cons,List.map_cons,List.sum_cons,this,h d (by simp)]
theorem lenK_app_le {L:ExprT→Nat}:∀(l r:List ExprT),lenK L l≤lenK L (l++r)
 | [],_=>Nat.zero_le _
 | [x],r=>by cases r <;> simp [lenK]
 | x::z::l,r=>by
  have:=lenK_app_le (L:=L) (z::l) r
  rw [List.cons_append] at this
  rw [List.cons_append,List.cons_append,lenK_cc,lenK_cc];omega
section
variable  (B1 B2 B3 A4 A5:Option Addr)(m1 d1 m2 d2 m3 d3 c4 c5 n4 nw:Nat)(is:List InsD)(wc:List Value)(w:World)
theorem rexpr_ka (z2 z3 z4 z5 z6 z7 z8 z9 z10 z11 z12 z13 z14 z15 z16:Value)(k:Int)(hk:k=0∨k=1)(n b off qc:Nat)(wT:World)(D:List KidD)(hD:2≤D.length)(his:is.length=n4)(hK:KidsOK wT n b off D)(hw:Bel wT.heap.size wT w)(h4:Rdd w 7 A4 n4 (is.flatMap insC))(h5:Rdd w 2 A5 nw wc)(h1:∀u∈wc,u.oneCell'=true)(hl:n4+lenK (lenN n) (ksD D)≤999990)(hlw:nw+nWD D≤999990)(hql:D.length≤1000000) :
  Calls Tryz.prog 41 #[.agg #[.slice B1 m1 d1,.slice B2 m2 d2,.slice B3 m3 d3,.slice A4 n4 c4,.slice A5 nw c5],.agg #[.int .i64 k,.slice (some ⟨b,off,none⟩) D.length qc,z2,z3,z4,z5,z6,z7,z8,z9,z10,z11,z12,z13,z14,z15,z16]] w (MoreP B1 B2 B3 m1 d1 m2 d2 m3 d3 n4 nw (is.flatMap insC) wc w (insJ n k (n4+lenK (lenN n) (ksD D)) n4 nw (ksD D)) (nWD D) (wCD D)):=by
 have M:=hH (Own.start [] w (fun y=>((∀(i:Nat) (d:KidD),D[i]? = some d→y.rangeAt b (off+i*17) d.kc)∧Rdd y 7 A4 n4 (is.flatMap insC))∧Rdd y 2 A5 nw wc) fun y hy=>⟨⟨fun i d hi j v hv=>by
  rw [World.cell?_of_block (hy.2 b (Nat.lt_of_lt_of_le hK.lt hw.size) (by simp)),World.cell?_of_block (hw.block b hK.lt)]
  exact(hK.kc i d hi).2 j v hv,h4.old hy⟩,h5.old hy⟩)
 have HKK:=hH hk
 have hwr:IntKind.i64.wrap (3+k)=3+k:=by rcases hk with rfl|rfl <;> decide
 clear hk
 have HK:=hH hK
 have HW:=hH hw
 have HL:=hH hl
 have HLW:=hH hlw
 have HIS:=hH his
 have HC0:=hH h1
 have HD2:=hH hD
 unfold MoreP
 clear h4 h5 h1 hK hw hD hl hlw his
 go_enter Tryz.func41, Tryz.ntmps41
 generalize hQ:bodyPost Tryz.prog Tryz.f41 _=Q
 have HQ:=hH hQ;clear hQ
 let qd:=bodyPost Tryz.prog Tryz.f41 (fun _ _=>True)
 go_upto_if 15 with(first|(with_reducible first|(refine l_bx (d:=2) M.out ?_;clear M;intro g2 w' hg2 M)|(refine l_al (d:=4) F_M M.out ?_;clear M;intro g4 w' hg4 M))|((with_reducible refine l_bx (d:=3) M.out ?_);clear M;intro g3 w' hg3 M;replace M:=hH M.out.freeze)|((with_reducible refine g_ld 3 ?_);refine l_ld1j O_int rfl M.out (fun y h=>h.2) (by exact rfl) ?_))
 go_cut [15,17] (fun v15 _ wx=>v15=.bool true∧w'=wx)
 case first =>
  rcases HKK.out with rfl|rfl
  all_goals
   go_wp2
   go_meet
   case rel=>exact⟨rfl,rfl⟩
 case rest =>
 obtain⟨rfl,rfl⟩:=hcut
 go_wp2
 go_loopg [5,6] D.length (fun gk v kk wr=>∃(Pd Rd:List KidD) (A4 A5:Option Addr) (c4 c5:Nat),gk=Rd.length∧Hid (D=Pd++Rd)∧kk=.int .i64 (Pd.length:Nat)∧Hid (Pd≠[]→FrA w A5)∧Hid (Own [] w wr [(g4,68,#[.slice none 0 0,.slice none 0 0,.slice none 0 0,.slice none 0 0,.slice none 0 0]),(g2,68,#[.slice B1 m1 d1,.slice B2 m2 d2,.slice B3 m3 d3,.slice A4 (n4+lenK (lenN n) (ksD Pd)) c4,.slice A5 (nw+nWD Pd) c5])] [(v,3,1,(posK (lenN n) n4 (ksD Pd)).length,(posV (lenN n) n4 (ksD Pd)))] (fun y=>(((∀(i:Nat) (d:KidD),D[i]? = some d→y.rangeAt b (off+i*17) d.kc)∧Blk y g3 92 #[.int .i64 k,.slice (some ⟨b,off,none⟩) D.length qc,z2,z3,z4,z5,z6,z7,z8,z9,z10,z11,z12,z13,z14,z15,z16])∧Rdd y 7 A4 (n4+lenK (lenN n) (ksD Pd)) ((is++insJ n k 0 n4 nw (ksD Pd)).flatMap insC))∧Rdd y 2 A5 (nw+nWD Pd) (wc++wCD Pd))))
 case atStart=>exact⟨[],D,A4,A5,c4,c5,rfl,hH rfl,rfl,hH (fun h=>absurd rfl h),hH (by
  have:=(M.out.rowNil 3 1).imp (J':=fun y=>(((∀(i:Nat) (d:KidD),D[i]? = some d→y.rangeAt b (off+i*17) d.kc)∧Blk y g3 92 #[.int .i64 k,.slice (some ⟨b,off,none⟩) D.length qc,z2,z3,z4,z5,z6,z7,z8,z9,z10,z11,z12,z13,z14,z15,z16])∧Rdd y 7 A4 n4 (is.flatMap insC))∧Rdd y 2 A5 nw wc) fun y h=>⟨⟨⟨h.1.1.1,h.2⟩,h.1.1.2⟩,h.1.2⟩
  simpa [ksD,lenK,insJ,insK,nWD,wCD,posV,posK] using this)⟩
 case round =>
  clear M
  obtain⟨Pd,Rd0,A4,A5,c4,c5,hgk,HD,rfl,HF5,M⟩:=hrel
  have HGK:=hH hgk
  cases Rd0 with
  | cons dk Rd =>
   have HI:=hH (show D[Pd.length]? = some dk from by rw [HD.out,List.getElem?_append_right (Nat.le_refl _),Nat.sub_self];rfl)
   have hmem:dk∈D:=List.mem_of_getElem? HI.out
   have HKC:=hH (HK.out.call dk hmem)
   unfold KidC MoreP at HKC
   have HKL:=hH (HK.out.kc _ _ HI.out).1
   have HLN:=hH (HK.out.len dk hmem)
   have hlt:(Pd.length:Int)<(D.length:Int):=by have:=(List.getElem?_eq_some_iff.1 HI.out).1;omega
   have HPD:=hH (fun d (hd:d∈Pd)=>HK.out.len d (by rw [HD.out];simp [hd]))
   have HC:=hH (show ∀u∈(wc++wCD Pd),u.oneCell'=true from fun u hu=>(List.mem_append.1 hu).elim (HC0.out u) fun hu=>by
    obtain⟨d,hd,hu⟩:=List.mem_flatMap.1 hu
    exact HK.out.one d (by rw [HD.out];simp [hd]) u hu)
   have HXL:=hH (show (is++insJ n k 0 n4 nw (ksD Pd)).length=(n4+lenK (lenN n) (ksD Pd)) from by rw [List.length_append,HIS.out,insJ,insK_len _ _ _ fun x hx=>by
     obtain⟨d,hd,rfl⟩:=List.mem_map.1 hx
     exact(HPD.out d hd).1])
   have HNW:=hH (show nw+nWD Pd+dk.W.length≤999990 from by
    have h1:=HLW.out
    rw [HD.out] at h1
    unfold nWD at h1 ⊢
    rw [List.map_append,List.sum_append,List.map_cons,List.sum_cons] at h1
    omega)
   have HKS:=hH (show ksD (Pd++[dk])=ksD Pd++[dk.x] from by simp [ksD])
   have HLE:=hH (show n4+lenK (lenN n) (ksD Pd++[dk.x])≤999990 from by
    have h1:=HL.out
    rw [HD.out,show ksD (Pd++dk::Rd)=(ksD Pd++[dk.x])++ksD Rd by simp [ksD]] at h1
    have:=lenK_app_le (L:=lenN n) (ksD Pd++[dk.x]) (ksD Rd)
    omega)
   have hpl:(posK (lenN n) n4 (ksD Pd)).length≤1000000:=by
    have h1:=posK_len (L:=lenN n) (ksD Pd) n4
    have h2:(ksD Pd).length=Pd.length:=by simp [ksD]
    omega
   have e3:nw+nWD Pd+dk.W.length=nw+nWD (Pd++[dk]):=by simp [nWD];omega
   have e4:wc++wCD Pd++dk.W.flatMap wC=wc++wCD (Pd++[dk]):=by simp [wCD]
   have HE3:=hH e3
   have HE4:=hH e4
   clear e3 e4 hmem
   by_cases hp:Pd=[]
   ·have hz:¬(0:Int)<(Pd.length:Int):=by rw [hp];decide
    have HLX:=hH (show (n4+lenK (lenN n) (ksD Pd))+lenN n dk.x≤999990 from by have:=HLE.out;rw [hp] at this ⊢;simp [ksD,lenK] at this ⊢;omega)
    have HE1:=hH (show (n4+lenK (lenN n) (ksD Pd))+(insN n (n4+lenK (lenN n) (ksD Pd)) (nw+nWD Pd) dk.x).length=n4+lenK (lenN n) (ksD (Pd++[dk])) from by rw [HLN.out.1,hp];simp [ksD,lenK])
    have HE2:=hH (show ((is++insJ n k 0 n4 nw (ksD Pd)).flatMap insC)++(insN n (n4+lenK (lenN n) (ksD Pd)) (nw+nWD Pd) dk.x).flatMap insC=(is++insJ n k 0 n4 nw (ksD (Pd++[dk]))).flatMap insC from by rw [hp];simp [ksD,lenK,insJ,insK,nWD])
    have HE5:=hH (show posK (lenN n) n4 (ksD Pd)=posK (lenN n) n4 (ksD (Pd++[dk])) from by rw [hp];simp [ksD,posK])
    clear hp
    go_upto_region 11 with(first|((with_reducible refine g_ld 88 ?_);refine l_ld1j O_sEx rfl M.out (fun y h=>h.1.1.2) (by exact rfl) ?_))
    replace M:=hH M.out.drew
    refine tbh (fun y=>(((∀(i:Nat) (d:KidD),D[i]? = some d→y.rangeAt b (off+i*17) d.kc)∧Blk y g3 92 #[.int .i64 k,.slice (some ⟨b,off,none⟩) D.length qc,z2,z3,z4,z5,z6,z7,z8,z9,z10,z11,z12,z13,z14,z15,z16])∧Rdd y 7 A4 (n4+lenK (lenN n) (ksD Pd)) ((is++insJ n k 0 n4 nw (ksD Pd)).flatMap insC))∧Rdd y 2 A5 (nw+nWD Pd) (wc++wCD Pd)) M.out.now fun hS=>?_
    refine tkp 1 rfl hS ?_
    refine tk 2 rfl hS (y_ld1 O_sEx _ _ _ rfl _ _ (fun _ h=>h.1.1.2) _ rfl) ?_
    refine tkp 3 rfl hS ?_
    refine tkp 4 rfl hS ?_
    refine tk 5 rfl hS (y_ldf F_Ex _ _ _ rfl dk.kc (fun _ h=>h.1.1.1 _ _ HI.out) HKL.out) ?_
    repeat' (first|((with_reducible refine gR ?_);first|exact .nil|(refine r_ld F_M (i:=0) rfl rfl M.out ?_ ?_;refine⟨M.out.now,tn ?_⟩)|(refine rdy_call (HKC.out B1 B2 B3 A4 A5 m1 d1 m2 d2 m3 d3 c4 c5 (n4+lenK (lenN n) (ksD Pd)) (nw+nWD Pd) (is++insJ n k 0 n4 nw (ksD Pd)) (wc++wCD Pd) _ (HXL.out) (HW.out.next M.out.bel0) (M.out.now.1.2) M.out.now.2 HC.out HLX.out HNW.out) (i:=6) (op:=.call _) rfl (by go_simp) ?_ ?_;rintro e w' ⟨Az,cz,Ay,cy,rfl,hr4,hf4,hr5,hf5,hb⟩;have Mn:=(M.out.addRd hb hr4 hf4).add (J':=fun y=>Rdd y 2 Ay _ _) (fun y hy=>hr5.kept hy fun a e _ hm=>Nat.lt_irrefl _ (Nat.lt_of_lt_of_le (M.out.ex_lt hm) ((hf5 a e).1)));have HF5:=hH (hf5.le M.out.size);replace M:=hH Mn;clear Mn hb hr4 hf4 hr5 hf5;refine⟨_,rfl,?_⟩;refine⟨M.out.now.1.1,tn ?_⟩)|(refine r_st F_M (i:=7) rfl rfl rfl M.out ?_ ?_;clear M;intro w' M;refine⟨M.out.now.1.1,tn ?_⟩))|((with_reducible refine gW ?_);first|refine trd [0] ?_|refine trd [6] ?_|refine trd [7] ?_|refine ted ?_))
    all_goals
     go_wp2
     go_roundg Rd.length
     case measure=>first|(rw [HGK.out];simp;done)|(simp;done)
     case rel=>exact⟨Pd++[dk],Rd,Az,Ay,cz,cy,rfl,hH (by rw [HD.out];simp),by first|go_num|simp,hH (fun _=>HF5.out),hH (by rw [←HE1.out,←HE2.out,←HE3.out,←HE4.out];unfold posV;rw [←HE5.out];exact M.out.imp fun y h=>⟨⟨h.1.1.1.1,h.1.2⟩,h.2⟩)⟩
   ·have hz:(0:Int)<(Pd.length:Int):=by have:=List.length_pos_iff.2 hp;omega
    have hk0:ksD Pd≠[]:=by unfold ksD;simpa using hp
    have HLX:=hH (show (n4+lenK (lenN n) (ksD Pd))+1+lenN n dk.x≤999990 from by have:=HLE.out;rw [lenK_snoc _ _ hk0] at this;omega)
    have HE1:=hH (show (n4+lenK (lenN n) (ksD Pd))+1+(insN n ((n4+lenK (lenN n) (ksD Pd))+1) (nw+nWD Pd) dk.x).length=n4+lenK (lenN n) (ksD (Pd++[dk])) from by rw [HLN.out.1,HKS.out,lenK_snoc _ _ hk0];omega)
    have HE2:=hH (show (((is++insJ n k 0 n4 nw (ksD Pd))++[(⟨3+k,0,0,0,0,⟨#[]⟩,0⟩:InsD)]).flatMap insC)++(insN n ((n4+lenK (lenN n) (ksD Pd))+1) (nw+nWD Pd) dk.x).flatMap insC=(is++insJ n k 0 n4 nw (ksD (Pd++[dk]))).flatMap insC from by
     rw [HKS.out]
     unfold insJ
     rw [insK_snoc _ _ _ _ hk0,nWD_eq fun d hd=>(HPD.out d hd).2.2]
     simp only [List.flatMap_append,List.flatMap_cons,List.append_assoc,List.flatMap_nil,List.append_nil]
     rfl)
    have HE5:=hH (show posK (lenN n) n4 (ksD Pd)++[(n4+lenK (lenN n) (ksD Pd))]=posK (lenN n) n4 (ksD (Pd++[dk])) from by rw [HKS.out,posK_snoc _ _ _ hk0])
    have HX:=hH (show ((is++insJ n k 0 n4 nw (ksD Pd))++[(⟨3+k,0,0,0,0,⟨#[]⟩,0⟩:InsD)]).length=(n4+lenK (lenN n) (ksD Pd))+1 from by rw [List.length_append,HXL.out];rfl)
    clear hp hk0
    go_upto_region 11 with(first|(with_reducible first|refine l_ld1 O_sIns M.out ?_|refine l_ld F_M M.out ?_|(refine l_st F_M M.out ?_;clear M;intro w' M))|((with_reducible refine g_ld 88 ?_);refine l_ld1j O_sEx rfl M.out (fun y h=>h.1.1.2) (by exact rfl) ?_)|((with_reducible refine g_bs 123 32 ?_);refine l_bs SL_sint (cs:=#[.int .i64 (((n4+lenK (lenN n) (ksD Pd)):Nat):Int)]) (by kernel_rfl) M.out ?_;clear M;intro g32 w' hg32 M)|((with_reducible refine g_ap 123 33 ?_);refine l_apB SL_sint rfl rfl M.out ?_;intro v33 w' Mn;replace Mn:=Mn _ (by repeat constructor);replace M:=hH Mn;clear Mn)|((with_reducible refine g_ld 3 ?_);refine l_ld1j O_int rfl M.out (fun y h=>h.1.1.2) (by exact rfl) ?_)|(go_at_call 42;refine(rput_any B1 B2 B3 A4 A5 m1 d1 m2 d2 m3 d3 c4 (nw+nWD Pd) c5 _ (n4+lenK (lenN n) (ksD Pd)) ((is++insJ n k 0 n4 nw (ksD Pd)).flatMap insC) ⟨3+k,0,0,0,0,⟨#[]⟩,0⟩ (by have:=HLX.out;omega) (ins_one1 _) M.out.now.1.2).mono ?_;rintro e w' ⟨Ax,cx,rfl,hrd,hfr,hb⟩;rw [←flatMap_snoc] at hrd;have Mn:=M.out.addRd hb hrd hfr;replace M:=hH Mn;clear Mn hb hrd hfr))
    replace M:=hH (M.out.drop.imp (J':=fun y=>(((∀(i:Nat) (d:KidD),D[i]? = some d→y.rangeAt b (off+i*17) d.kc)∧Blk y g3 92 #[.int .i64 k,.slice (some ⟨b,off,none⟩) D.length qc,z2,z3,z4,z5,z6,z7,z8,z9,z10,z11,z12,z13,z14,z15,z16])∧Rdd y 7 Ax ((n4+lenK (lenN n) (ksD Pd))+1) (((is++insJ n k 0 n4 nw (ksD Pd))++[(⟨3+k,0,0,0,0,⟨#[]⟩,0⟩:InsD)]).flatMap insC))∧Rdd y 2 A5 (nw+nWD Pd) (wc++wCD Pd)) fun y h=>⟨⟨h.1.1.1,h.2⟩,h.1.2⟩)
    replace M:=hH M.out.drew
    refine tbh (fun y=>(((∀(i:Nat) (d:KidD),D[i]? = some d→y.rangeAt b (off+i*17) d.kc)∧Blk y g3 92 #[.int .i64 k,.slice (some ⟨b,off,none⟩) D.length qc,z2,z3,z4,z5,z6,z7,z8,z9,z10,z11,z12,z13,z14,z15,z16])∧Rdd y 7 Ax ((n4+lenK (lenN n) (ksD Pd))+1) (((is++insJ n k 0 n4 nw (ksD Pd))++[(⟨3+k,0,0,0,0,⟨#[]⟩,0⟩:InsD)]).flatMap insC))∧Rdd y 2 A5 (nw+nWD Pd) (wc++wCD Pd)) M.out.now fun hS=>?_
    refine tkp 1 rfl hS ?_
    refine tk 2 rfl hS (y_ld1 O_sEx _ _ _ rfl _ _ (fun _ h=>h.1.1.2) _ rfl) ?_
    refine tkp 3 rfl hS ?_
    refine tkp 4 rfl hS ?_
    refine tk 5 rfl hS (y_ldf F_Ex _ _ _ rfl dk.kc (fun _ h=>h.1.1.1 _ _ HI.out) HKL.out) ?_
    repeat' (first|((with_reducible refine gR ?_);first|exact .nil|(refine r_ld F_M (i:=0) rfl rfl M.out ?_ ?_;refine⟨M.out.now,tn ?_⟩)|(refine rdy_call (HKC.out B1 B2 B3 Ax A5 m1 d1 m2 d2 m3 d3 cx c5 ((n4+lenK (lenN n) (ksD Pd))+1) (nw+nWD Pd) ((is++insJ n k 0 n4 nw (ksD Pd))++[(⟨3+k,0,0,0,0,⟨#[]⟩,0⟩:InsD)]) (wc++wCD Pd) _ (HX.out) (HW.out.next M.out.bel0) (M.out.now.1.2) M.out.now.2 HC.out HLX.out HNW.out) (i:=6) (op:=.call _) rfl (by go_simp) ?_ ?_;rintro e w' ⟨Az,cz,Ay,cy,rfl,hr4,hf4,hr5,hf5,hb⟩;have Mn:=(M.out.addRd hb hr4 hf4).add (J':=fun y=>Rdd y 2 Ay _ _) (fun y hy=>hr5.kept hy fun a e _ hm=>Nat.lt_irrefl _ (Nat.lt_of_lt_of_le (M.out.ex_lt hm) ((hf5 a e).1)));have HF5:=hH (hf5.le M.out.size);replace M:=hH Mn;clear Mn hb hr4 hf4 hr5 hf5;refine⟨_,rfl,?_⟩;refine⟨M.out.now.1.1,tn ?_⟩)|(refine r_st F_M (i:=7) rfl rfl rfl M.out ?_ ?_;clear M;intro w' M;refine⟨M.out.now.1.1,tn ?_⟩))|((with_reducible refine gW ?_);first|refine trd [0] ?_|refine trd [6] ?_|refine trd [7] ?_|refine ted ?_))
    all_goals
     go_wp2
     go_roundg Rd.length
     case measure=>first|(rw [HGK.out];simp;done)|(simp;done)
     case rel=>exact⟨Pd++[dk],Rd,Az,Ay,cz,cy,rfl,hH (by rw [HD.out];simp),by first|go_num|simp,hH (fun _=>HF5.out),hH (by rw [←HE1.out,←HE2.out,←HE3.out,←HE4.out];unfold posV;rw [←HE5.out,List.length_append,List.map_append];exact M.out.imp fun y h=>⟨⟨h.1.1.1.1,h.1.2⟩,h.2⟩)⟩
  | nil =>
   obtain rfl:D=Pd:=by simpa using HD.out
   have hnlt:¬(D.length:Int)<(D.length:Int):=by omega
   have HXL:=hH (show (is++insJ n k 0 n4 nw (ksD D)).length=(n4+lenK (lenN n) (ksD D)) from by rw [List.length_append,HIS.out,insJ,insK_len _ _ _ fun x hx=>by
     obtain⟨d,hd,rfl⟩:=List.mem_map.1 hx
     exact(HK.out.len d hd).1])
   have HPN:=hH (show 0<(posK (lenN n) n4 (ksD D)).length from by
    have h1:=posK_len1 (L:=lenN n) (ksD D) n4 (two_ne (by simpa [ksD] using HD2.out))
    have h2:(ksD D).length=D.length:=by simp [ksD]
    have:=HD2.out;omega)
   have HNN:=hH (show 0<(n4+lenK (lenN n) (ksD D)) from by
    have:=lenK_pos (lenN n) (l:=ksD D) (fun x hx=>by
     obtain⟨d,hd,rfl⟩:=List.mem_map.1 hx
     exact(HK.out.len d hd).2.1) (two_ne (by simpa [ksD] using HD2.out))
    omega)
   have hplD:(posK (lenN n) n4 (ksD D)).length≤1000000:=by
    have h1:=posK_len (L:=lenN n) (ksD D) n4
    have h2:(ksD D).length=D.length:=by simp [ksD]
    omega
   have hN9:(n4+lenK (lenN n) (ksD D))≤999990:=HL.out
   clear HGK HD
   go_wp2_with (first|(with_reducible refine l_ld1 O_sIns M.out ?_)|((with_reducible refine g_ld 88 ?_);refine l_ld1j O_sEx rfl M.out (fun y h=>h.1.1.2) (by exact rfl) ?_)|((with_reducible refine g_bs 26 47 ?_);refine l_bs0 SL_sIns lit0_sIns M.out ?_;clear M;intro g47 w' hg47 M)|((with_reducible refine g_ap 26 51 ?_);refine l_apR SL_sIns rfl rfl M.out (M.out.now.1.2) (ins_one1 _) ?_;intro v51 w' Mn;(try simp only [Nat.zero_add,List.nil_append] at Mn);replace Mn:=Mn _ (by repeat constructor);(try simp only [Nat.zero_add,List.nil_append] at Mn);replace M:=hH Mn;clear Mn))
   obtain⟨gl,cl,cur0,hv,⟨hcl,hcm⟩,hgl,ht0,hs0,M2⟩:=M.out.rowBlk HNN.out
   subst hv
   have HGL:=hH hgl
   obtain⟨ga,ca,cura,hv,⟨hca,hcam⟩,hga,hta,hsa,M3⟩:=M2.rowBlk_at HPN.out
   subst hv
   replace M:=hH M3
   clear M2 M3
   have HTA:=hH (show ∀(j p:Nat),(posK (lenN n) n4 (ksD D))[j]? = some p→cura[j]? = some (.int .i64 (p:Int)) from fun j p hj=>by
    have h1:(posV (lenN n) n4 (ksD D))[j]? = some (.int .i64 (p:Int)):=by unfold posV;rw [List.getElem?_map,hj];rfl
    rw [←hta,List.getElem?_take_of_lt (by rw [Nat.mul_one];exact(List.getElem?_eq_some_iff.1 hj).1)] at h1
    simpa using h1)
   have HPL:=hH (show ∀p∈posK (lenN n) n4 (ksD D),p<(n4+lenK (lenN n) (ksD D)) from fun p hp=>(posK_lt (ksD D) (fun x hx=>by
    obtain⟨d,hd,rfl⟩:=List.mem_map.1 hx
    exact(HK.out.len d hd).2.1) n4 p hp).2)
   clear hta hsa
   go_loopg [8] (posK (lenN n) n4 (ksD D)).length (fun gk kk wr=>∃(j:Nat) (cur:Array Value),gk=(posK (lenN n) n4 (ksD D)).length-j∧j≤(posK (lenN n) n4 (ksD D)).length∧kk=.int .i64 (j:Nat)∧Hid (cur.toList.take ((n4+lenK (lenN n) (ksD D))*7)=(patchL (n4+lenK (lenN n) (ksD D)) ((posK (lenN n) n4 (ksD D)).take j) (is++insJ n k 0 n4 nw (ksD D))).flatMap insC∧(n4+lenK (lenN n) (ksD D))*7≤cur.size)∧Hid (Own [] w wr [(gl,49,cur),(g4,68,#[.slice none 0 0,.slice none 0 0,.slice none 0 0,.slice none 0 0,.slice none 0 0]),(g2,68,#[.slice B1 m1 d1,.slice B2 m2 d2,.slice B3 m3 d3,.slice A4 (n4+lenK (lenN n) (ksD D)) c4,.slice A5 (nw+nWD D) c5])] [] (fun y=>((((∀(i:Nat) (d:KidD),D[i]? = some d→y.rangeAt b (off+i*17) d.kc)∧Blk y g3 92 #[.int .i64 k,.slice (some ⟨b,off,none⟩) D.length qc,z2,z3,z4,z5,z6,z7,z8,z9,z10,z11,z12,z13,z14,z15,z16])∧Rdd y 7 A4 (n4+lenK (lenN n) (ksD D)) ((is++insJ n k 0 n4 nw (ksD D)).flatMap insC))∧Rdd y 2 A5 (nw+nWD D) (wc++wCD D))∧Blk y ga 3 cura)))
   case atStart=>exact⟨0,cur0,rfl,Nat.zero_le _,rfl,hH ⟨by simpa [patchL] using ht0,hs0⟩,M⟩
   case round =>
    clear M
    obtain⟨j,cur,hgk,hjl,rfl,HT,M⟩:=hrel
    by_cases hj:j<(posK (lenN n) n4 (ksD D)).length
    ·obtain⟨p,hp⟩:∃p,(posK (lenN n) n4 (ksD D))[j]? = some p:=⟨_,List.getElem?_eq_getElem hj⟩
     have HA:=hH (HTA.out j p hp)
     have hpN:p<(n4+lenK (lenN n) (ksD D)):=HPL.out p (List.mem_of_getElem? hp)
     have HPP:=hH hp
     obtain⟨IS,hIS⟩:∃IS,patchL (n4+lenK (lenN n) (ksD D)) ((posK (lenN n) n4 (ksD D)).take j) (is++insJ n k 0 n4 nw (ksD D))=IS:=⟨_,rfl⟩
     have hln:IS.length=(n4+lenK (lenN n) (ksD D)):=by rw [←hIS,patchL_len];exact HXL.out
     have HIS2:=hH hIS
     rw [hIS] at HT
     obtain⟨y,hy⟩:∃y,IS[p]? = some y:=⟨_,List.getElem?_eq_getElem (by omega)⟩
     have HMID:=hH (show (cur.toList.drop (p*7)).take 7=[.int .i64 y.op,.int .i64 y.p,.int .i64 y.sign,.int .i64 y.kind,.int .i64 y.n,.string y.s,.int .i64 y.tt] from take_mid insC 7 (fun _=>rfl) (by rw [hln];exact HT.out.1) hy)
     have HY:=hH hy
     have hjI:(j:Int)<((posK (lenN n) n4 (ksD D)).length:Nat):=by omega
     have hpI:(p:Int)<((n4+lenK (lenN n) (ksD D)):Nat):=by omega
     have HGJ:=hH hgk
     have hsz:p*7+7≤cur.size:=by have:=HT.out.2;omega
     clear hp hIS hy hgk
     go_upto_region 18 with(first|(with_reducible first|(refine l_al (d:=9) F_Ins M.out ?_;clear M;intro g9 w' hg9 M)|(refine l_st F_Ins M.out ?_;clear M;intro w' M))|((with_reducible refine g_ld 3 ?_);refine l_ld1j O_int rfl M.out (fun y h=>h.2) HA.out ?_)|((with_reducible refine g_ld 49 ?_);refine l_ldf F_Ins rfl (range_own (M.out.blk _ (by repeat constructor)) HMID.out) rfl ?_)|((with_reducible refine g_st 3 ?_);refine l_st1 O_int rfl rfl M.out ?_;clear M;intro w' M))
     replace M:=hH M.out.freeze
     replace M:=hH M.out.drew
     refine tbh (fun y_=>(((((∀(i:Nat) (d:KidD),D[i]? = some d→y_.rangeAt b (off+i*17) d.kc)∧Blk y_ g3 92 #[.int .i64 k,.slice (some ⟨b,off,none⟩) D.length qc,z2,z3,z4,z5,z6,z7,z8,z9,z10,z11,z12,z13,z14,z15,z16])∧Rdd y_ 7 A4 (n4+lenK (lenN n) (ksD D)) ((is++insJ n k 0 n4 nw (ksD D)).flatMap insC))∧Rdd y_ 2 A5 (nw+nWD D) (wc++wCD D))∧Blk y_ ga 3 cura)∧Blk y_ g9 49 #[.int .i64 y.op,.int .i64 y.p,.int .i64 y.sign,.int .i64 y.kind,.int .i64 y.n,.string y.s,.int .i64 (((n4+lenK (lenN n) (ksD D)):Nat):Int)]) M.out.now fun hS=>?_
     refine tkp 0 rfl hS ?_
     refine tkp 1 rfl hS ?_
     refine tkp 2 rfl hS ?_
     refine tkp 3 rfl hS ?_
     refine tk 4 rfl hS (y_ld1 O_int _ _ _ rfl _ _ (fun _ h=>h.1.2) _ HA.out) ?_
     refine tk 5 rfl hS (y_ld F_Ins _ _ rfl _ _ (fun _ h=>h.2) rfl) ?_
     refine tkp 6 rfl hS ?_
     refine tr [7] ?_
     refine r_stm (new:=setAt cur (p*7) [.int .i64 y.op,.int .i64 y.p,.int .i64 y.sign,.int .i64 y.kind,.int .i64 y.n,.string y.s,.int .i64 (((n4+lenK (lenN n) (ksD D)):Nat):Int)]) F_Ins (i:=7) rfl rfl rfl M.out ?_ .nil (hnew:=rfl) (hoo:=hsz)
     clear M;intro w' M;refine an M.out.now fun hS=>tn ?_
     refine te ?_
     go_wp2
     go_roundg ((posK (lenN n) n4 (ksD D)).length-(j+1))
     case measure=>have:=HGJ.out;omega
     case rel=>exact⟨j+1,setAt cur (p*7) [.int .i64 y.op,.int .i64 y.p,.int .i64 y.sign,.int .i64 y.kind,.int .i64 y.n,.string y.s,.int .i64 (((n4+lenK (lenN n) (ksD D)):Nat):Int)],rfl,by omega,by first|go_num|simp,hH (by
       rw [List.take_add_one,HPP.out,Option.toList_some,patchL_snoc,HIS2.out]
       have h1:=take_set insC 7 (fun _=>rfl) (l:=IS) (y:=toD (n4+lenK (lenN n) (ksD D)) y) (by rw [hln];exact HT.out.1) (by rw [hln];exact HT.out.2) (p:=p) (by omega)
       rw [hln] at h1
       rw [modify_set HY.out]
       exact⟨h1,by rw [setAt_size];exact HT.out.2⟩),hH (M.out.imp fun y h=>h.1)⟩
    ·obtain rfl:j=(posK (lenN n) n4 (ksD D)).length:=by omega
     rw [List.take_length] at HT
     have HPAT:=hH (show patchL (n4+lenK (lenN n) (ksD D)) (posK (lenN n) n4 (ksD D)) (is++insJ n k 0 n4 nw (ksD D))=is++insJ n k (n4+lenK (lenN n) (ksD D)) n4 nw (ksD D) from by
      have:=patch_all (I:=insN n) (L:=lenN n) (Wt:=fun y=>(waitN n y).length) (op:=3+k) (E:=(n4+lenK (lenN n) (ksD D))) (ksD D) (fun x hx=>by
       obtain⟨d,hd,rfl⟩:=List.mem_map.1 hx
       exact(HK.out.len d hd).1) n4 nw is [] HIS.out
      simpa [insJ] using this)
     rw [HPAT.out] at HT
     have HLJ:=hH (show n4+(insJ n k (n4+lenK (lenN n) (ksD D)) n4 nw (ksD D)).length=(n4+lenK (lenN n) (ksD D)) from by rw [insJ,insK_len _ _ _ fun x hx=>by
      obtain⟨d,hd,rfl⟩:=List.mem_map.1 hx
      exact(HK.out.len d hd).1])
     have hnj:¬(((posK (lenN n) n4 (ksD D)).length:Nat):Int)<(((posK (lenN n) n4 (ksD D)).length:Nat):Int):=by omega
     go_wp2_with (first|(with_reducible first|refine l_ld F_M M.out ?_|(refine l_st F_M M.out ?_;clear M;intro w' M))|((with_reducible refine g_st 26 ?_);refine l_st1 O_sIns rfl rfl M.out ?_;clear M;intro w' M))
     rw [←HQ.out]
     exact bodyPost_ret (results_1 Tryz.results41 _ _ g4 _ _ rfl (M.out.blk (g4,_,_) (by repeat constructor)) F_M rfl) rfl ⟨some ⟨gl,0,none⟩,cl,A5,c5,by rw [HLJ.out];rfl,by
      rw [HLJ.out,←List.flatMap_append]
      exact rdd_blk (M.out.blk (gl,49,cur) (by repeat constructor)) HT.out.1 HT.out.2,fun a e=>by cases e;exact⟨HGL.out,rfl⟩,M.out.now.1.2,HF5.out (List.length_pos_iff.1 (by have:=HD2.out;omega)),M.out.bel0⟩
end
end

end Go.Proofs.YtjbdcjcfijjiiaaGreatDoor
