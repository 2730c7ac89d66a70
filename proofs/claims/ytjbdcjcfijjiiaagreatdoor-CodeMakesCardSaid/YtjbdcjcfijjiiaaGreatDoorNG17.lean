/- NG17: Cc, Cl joined. -/
import Derived.Test.YtjbdcjcfijjiiaaGreatDoorNG13
import Derived.Test.YtjbdcjcfijjiiaaGreatDoorNCk
namespace Go.Proofs.YtjbdcjcfijjiiaaGreatDoor
open Go.RowKit
/- Code of a tree: what each path, and each filter, has (plain; no word of a dump). -/
section
def At {α:Type}(l m:List α)(k:Nat):Prop:=∃A B,m=A++(l++B)∧A.length=k
section
variable  {α:Type}{l m l1 l2:List α}{k j:Nat}
theorem At.app (h:At l m k)(r:List α):At l (m++r) k:=by
 obtain⟨A,B,rfl,h2⟩:=h
 exact⟨A,B++r,by simp,h2⟩
theorem At.new (m l:List α):At l (m++l) m.length:=⟨m,[],by simp,rfl⟩
theorem At.le (h:At l m k):k+l.length≤m.length:=by
 obtain⟨A,B,rfl,rfl⟩:=h
 simp
theorem At.pre (l r:List α):At l (l++r) 0:=⟨[],r,by simp,rfl⟩
theorem At.suf (l r:List α)(h:l.length=k):At r (l++r) k:=⟨l,[],by simp,h⟩
theorem At.drop (h:At l m k):∃r,m.drop k=l++r:=by
 obtain⟨A,B,rfl,rfl⟩:=h
 exact⟨B,by rw [List.drop_left]⟩
end
structure Spot (n:Nat)(c:CodeD)(Wl:List PathT)(i:Nat)(q:PathT)(g0 s0 a0 b0:Nat):Prop where
 p:c.ps[i]? = some ⟨q.abs,g0,(g0+q.segs.length:Nat)⟩
 g:At (gsD s0 q.segs) c.gs g0
 s:At (flD n a0 b0 (selsOf q.segs)).1 c.ss s0
 a:At (flD n a0 b0 (selsOf q.segs)).2 c.is a0
 w:At (flW n (selsOf q.segs)) Wl b0
 lt:i<b0
structure Good (S:List UInt8→Prop)(n:Nat)(c:CodeD)(Wl:List PathT):Prop where
 len:c.ps.length≤Wl.length
 wf:∀q∈Wl,WfP S (WfN S n) q
 spot:∀i,i<c.ps.length→∃q g0 s0 a0 b0,Wl[i]? = some q∧Spot n c Wl i q g0 s0 a0 b0
 segs:∀s∈c.gs,0≤s.fr∧s.fr<s.tt∧s.tt≤(c.ss.length:Nat)
 kinds:∀y∈c.ss,0≤y.kind∧y.kind≤4
 cov:∀k,k<c.is.length→∃i q g0 s0 a0 b0,Wl[i]? = some q∧Spot n c Wl i q g0 s0 a0 b0∧a0≤k∧k<a0+(flD n a0 b0 (selsOf q.segs)).2.length
section
variable  {S:List UInt8→Prop}{n:Nat}{c:CodeD}{Wl:List PathT}
theorem gsD_bd :∀(l:List SegT) (a:Nat),(∀s∈l,s.sels≠[])→∀s∈gsD a l,(a:Int)≤s.fr∧s.fr<s.tt∧s.tt≤(a+(selsOf l).length:Nat)
 | [],_,_,s,h=>by simp [gsD] at h
 | x::r,a,hl,s,h=>by
  rw [gsD] at h
  have e:(selsOf (x::r)).length=x.sels.length+(selsOf r).length:=by unfold selsOf;rw [List.flatMap_cons,List.length_append]
  have hx:0<x.sels.length:=List.length_pos_iff.2 (hl x (by simp))
  rcases List.mem_cons.1 h with rfl|h
  ·simp only;omega
  ·have:=gsD_bd r _ (fun s hs=>hl s (by simp [hs])) s h
   omega
theorem selD_kind {W:ExprT→Prop}{y:SelT}{a:Int}(h:WfS S W y):0≤(selD y a).kind∧(selD y a).kind≤4:=by
 unfold selD
 cases h <;> simp
theorem flD_kind :∀(l:List SelT) (a b:Nat),(∀y∈l,WfS S (WfN S n) y)→∀y∈(flD n a b l).1,0≤y.kind∧y.kind≤4
 | [],_,_,_,y,h=>by simp [flD] at h
 | x::r,a,b,hl,y,h=>by
  have hx:=hl x (by simp)
  have hr:=fun a b=>flD_kind r a b (fun y hy=>hl y (by simp [hy])) y
  rw [flD] at h
  cases hf:x.f with
  | none =>
   rw [hf] at h
   rcases List.mem_cons.1 h with rfl|h
   ·exact selD_kind hx
   ·exact hr _ _ h
  | some e =>
   rw [hf] at h
   rcases List.mem_cons.1 h with rfl|h
   ·exact selD_kind hx
   ·exact hr _ _ h
theorem Spot.more {i:Nat}{q:PathT}{g0 s0 a0 b0:Nat}(h:Spot n c Wl i q g0 s0 a0 b0)(p':List PathD)(g':List SegD)(s':List SelD)(a':List InsD)(w':List PathT):Spot n ⟨c.ps++p',c.gs++g',c.ss++s',c.is++a'⟩ (Wl++w') i q g0 s0 a0 b0:=by
 refine⟨?_,h.g.app _,h.s.app _,h.a.app _,h.w.app _,h.lt⟩
 show (c.ps++p')[i]? = _
 rw [List.getElem?_append_left (List.getElem?_eq_some_iff.1 h.p).1]
 exact h.p
theorem Good.step {p:PathT}{r:List PathT}(h:Good S n c Wl)(hd:Wl.drop c.ps.length=p::r):Good S n (layP n (c.ps.length+1+r.length) c p) (Wl++flW n (selsOf p.segs))∧(Wl++flW n (selsOf p.segs)).drop (c.ps.length+1)=r++flW n (selsOf p.segs):=by
 have hl:Wl.length=c.ps.length+1+r.length:=by
  have:=congrArg List.length hd
  simp at this;have:=h.len;omega
 have hp:Wl[c.ps.length]? = some p:=by
  have:=congrArg (fun l=>l[0]?) hd
  simpa [List.getElem?_drop] using this
 have hw:WfP S (WfN S n) p:=h.wf p (List.mem_of_getElem? hp)
 have new:Spot n (layP n (c.ps.length+1+r.length) c p) (Wl++flW n (selsOf p.segs)) c.ps.length p c.gs.length c.ss.length c.is.length (c.ps.length+1+r.length):=by
  refine⟨?_,At.new _ _,At.new _ _,At.new _ _,?_,by omega⟩
  ·show (c.ps++[_])[c.ps.length]? = _
   rw [List.getElem?_append_right (Nat.le_refl _),Nat.sub_self];rfl
  ·rw [←hl];exact At.new _ _
 have hp':(Wl++flW n (selsOf p.segs))[c.ps.length]? = some p:=by rw [List.getElem?_append_left (by omega)];exact hp
 refine⟨⟨?_,?_,?_,?_,?_,?_⟩,?_⟩
 ·show (c.ps++[_]).length≤_
  rw [List.length_append,List.length_append,List.length_singleton];omega
 ·intro q hq
  rcases List.mem_append.1 hq with hq|hq
  ·exact h.wf q hq
  ·exact flW_mem (sels_wf hw) hq
 ·intro i hi
  have hi':i<c.ps.length+1:=by simpa [layP] using hi
  rcases Nat.lt_or_ge i c.ps.length with hlt|hge
  ·obtain⟨q,g0,s0,a0,b0,e1,e2⟩:=h.spot i hlt
   exact⟨q,g0,s0,a0,b0,by rw [List.getElem?_append_left (List.getElem?_eq_some_iff.1 e1).1];exact e1,e2.more _ _ _ _ _⟩
  ·obtain rfl:i=c.ps.length:=by omega
   exact⟨p,_,_,_,_,hp',new⟩
 ·intro s hs
  have hs':s∈c.gs++gsD c.ss.length p.segs:=hs
  show _∧_∧s.tt≤((c.ss++(flD n c.is.length _ (selsOf p.segs)).1).length:Nat)
  rw [List.length_append,flD_len]
  rcases List.mem_append.1 hs' with hs|hs
  ·have:=h.segs s hs;omega
  ·have:=gsD_bd p.segs c.ss.length (fun s hs=>(hw s hs).1) s hs;omega
 ·intro y hy
  rcases List.mem_append.1 (show y∈c.ss++_ from hy) with hy|hy
  ·exact h.kinds y hy
  ·exact flD_kind _ _ _ (sels_wf hw) y hy
 ·intro k hk
  have hk':k<c.is.length+(flD n c.is.length (c.ps.length+1+r.length) (selsOf p.segs)).2.length:=by
   have:k<(c.is++(flD n c.is.length (c.ps.length+1+r.length) (selsOf p.segs)).2).length:=hk
   rwa [List.length_append] at this
  rcases Nat.lt_or_ge k c.is.length with hlt|hge
  ·obtain⟨i,q,g0,s0,a0,b0,e1,e2,e3⟩:=h.cov k hlt
   exact⟨i,q,g0,s0,a0,b0,by rw [List.getElem?_append_left (List.getElem?_eq_some_iff.1 e1).1];exact e1,e2.more _ _ _ _ _,e3⟩
  ·exact⟨c.ps.length,p,_,_,_,_,hp',new,hge,hk'⟩
 ·rw [List.drop_append_of_le_length (by omega)]
  have:Wl.drop (c.ps.length+1)=r:=by rw [←List.drop_drop,hd];rfl
  rw [this]
def szC (c:CodeD):Nat:=c.ps.length+c.gs.length+c.ss.length+c.is.length
theorem lay_size (c:CodeD)(p:PathT)(b:Nat)(h:WfP S (WfN S n) p):szC (layP n b c p)+((flW n (selsOf p.segs)).map (wtP (wtN n))).sum≤szC c+wtP (wtN n) p:=by
 have:=path_cost n p c.is.length b h
 unfold szC layP
 simp only [List.length_append,List.length_singleton,gsD_len,flD_len]
 omega
theorem make_good :∀(f:Nat) (c:CodeD) (Wl pend:List PathT),Good S n c Wl→Wl.drop c.ps.length=pend→(pend.map (wtP (wtN n))).sum≤f→
  ∃Wl',Good S n (makeL n f c pend) Wl'∧(makeL n f c pend).ps.length=Wl'.length∧szC (makeL n f c pend)≤szC c+(pend.map (wtP (wtN n))).sum∧Wl <+: Wl'
 | 0,c,Wl,[],h,hd,_=>⟨Wl,h,by have:=congrArg List.length hd;simp at this;have:=h.len;simp only [makeL];omega,by simp [makeL],List.prefix_refl _⟩
 | _+1,c,Wl,[],h,hd,_=>⟨Wl,h,by have:=congrArg List.length hd;simp at this;have:=h.len;simp only [makeL];omega,by simp [makeL],List.prefix_refl _⟩
 | 0,c,Wl,p::r,_,_,hf=>by exfalso;rw [List.map_cons,List.sum_cons] at hf;unfold wtP at hf;omega
 | f+1,c,Wl,p::r,h,hd,hf=>by
  obtain⟨h1,h2⟩:=h.step hd
  have hp:p∈Wl:=List.mem_of_mem_drop (by rw [hd];simp:p∈Wl.drop c.ps.length)
  have h3:=lay_size c p (c.ps.length+1+r.length) (h.wf p hp)
  have h4:(layP n (c.ps.length+1+r.length) c p).ps.length=c.ps.length+1:=by simp [layP]
  have h5:=path_cost n p c.is.length (c.ps.length+1+r.length) (h.wf p hp)
  rw [List.map_cons,List.sum_cons] at hf ⊢
  obtain⟨Wl',k1,k2,k3,k4⟩:=make_good f _ _ (r++flW n (selsOf p.segs)) h1 (by rw [h4];exact h2) (by rw [List.map_append,List.sum_append];omega)
  rw [List.map_append,List.sum_append] at k3
  exact⟨Wl',k1,k2,by rw [makeL];omega,(List.prefix_append _ _).trans k4⟩
end
theorem code_good {S:List UInt8→Prop}{p:PathT}(h:WfP S (WfN S 200) p)(hw:wtP (wtN 200) p≤5000) :
  ∃Wl,Good S 200 (codeT p) Wl∧(codeT p).ps.length=Wl.length∧szC (codeT p)≤wtP (wtN 200) p∧Wl[0]? = some p:=by
 have h0:Good S 200 code0 [p]:=⟨by simp [code0],by simpa using h,fun i hi=>by simp [code0] at hi,fun s hs=>by simp [code0] at hs,fun s hs=>by simp [code0] at hs,fun k hk=>by simp [code0] at hk⟩
 obtain⟨Wl,h1,h2,h3,h4⟩:=make_good 5000 code0 [p] [p] h0 rfl (by simpa using hw)
 refine⟨Wl,h1,h2,by rw [List.map_cons,List.map_nil,List.sum_cons,List.sum_nil,show szC code0=0 from rfl,Nat.zero_add,Nat.add_zero] at h3;exact h3,?_⟩
 obtain⟨r,rfl⟩:=h4
 rfl
end
/- ref19: path, of whatever tree (printed by gen_cl.py). -/
section
open Go.RowKit
section
variable  {S:List UInt8→Prop}{wT:World}{n:Nat}
theorem sel_of {m:Nat}{cs:List Value}{x:SelT}(h:SelC (Lw wT) (ExR (Lw wT) m wT) wT cs x)(hx:WfS S (WfN S n) x):∃q:Option Addr,cs=yC (x,q)∧FltOK wT n (x,q):=by
 obtain⟨pv,rfl,hp⟩:=h
 cases hf:x.f with
 | none =>
  rw [hf] at hp
  refine⟨none,by rw [show pv=.pointer none from hp];rfl,fun e he=>?_⟩
  have he:x.f=some e:=he
  rw [hf] at he;cases he
 | some e =>
  rw [hf] at hp
  obtain⟨b,off,cs,rfl,hK,hb,hl,hcs,hr⟩:=hp
  have hw:WfN S n e:=by
   rcases hx.flt with⟨_,e',h1,h2⟩|⟨_,h1⟩
   ·rw [hf] at h1;obtain rfl:=Option.some.inj h1;exact h2
   ·rw [hf] at h1;cases h1
  obtain⟨W,w1,w2,w3,w4⟩:=rexpr_all S wT kids_len n e hw m cs hr
  refine⟨some ⟨b,off,none⟩,rfl,fun e2 he=>?_⟩
  have he:x.f=some e2:=he
  rw [hf] at he
  obtain rfl:=Option.some.inj he
  exact⟨b,off,cs,W,rfl,hb,hl,hcs,w1,w2,w4⟩
theorem segd_of {m:Nat}{cs:List Value}{s:SegT}(h:SegC (Lw wT) (ExR (Lw wT) m wT) wT cs s)(hs:∀y∈s.sels,WfS S (WfN S n) y):∃d:SgD,d.s=s∧cs=[.bool s.deep,.slice d.A d.Y.length d.c]∧d.Y.map (·.1)=s.sels∧Rdd wT 9 d.A d.Y.length (d.Y.flatMap yC)∧∀z∈d.Y,FltOK wT n z:=by
 obtain⟨sv,rfl,A,cap,rfl,_,h3⟩:=h
 rcases h3 with h0|⟨b,off,rfl,hb,hb2,hc⟩
 ·refine⟨⟨s,A,cap,[]⟩,rfl,by rw [h0];rfl,by rw [h0];rfl,?_,fun z hz=>by simp at hz⟩
  exact⟨rfl,fun h=>absurd h (by simp)⟩
 ·obtain⟨Y,hY,hq⟩:=listOf (fun i (y:SelT×Option Addr)=>s.sels[i]? = some y.1∧(∀(j:Nat) u,(yC y)[j]? = some u→wT.cell? ⟨b,off+i*9+j,none⟩=some u)∧FltOK wT n y) s.sels.length fun i hi=>by
   have hx:=List.getElem?_eq_getElem hi
   obtain⟨cs,h1,h2,h3⟩:=hc i _ hx
   obtain⟨q,h4,h5⟩:=sel_of h3 (hs _ (List.getElem_mem hi))
   exact⟨(_,q),hx,by rw [←h4];exact h2,h5⟩
  have hk:Y.map (·.1)=s.sels:=by
   refine List.ext_getElem? fun i=>?_
   rw [List.getElem?_map]
   by_cases hi:i<Y.length
   ·rw [List.getElem?_eq_getElem hi]
    exact((hq i _ (List.getElem?_eq_getElem hi)).1).symm
   ·rw [List.getElem?_eq_none (by omega),List.getElem?_eq_none (by omega)];rfl
  refine⟨⟨s,some ⟨b,off,none⟩,cap,Y⟩,rfl,by rw [hY],hk,?_,fun z hz=>?_⟩
  ·exact reads_flat yC 9 (fun _=>rfl) (by omega) wT _ Y (.inr ⟨b,off,rfl,hb2,fun i x hx j u hu=>(hq i x hx).2.1 j u hu⟩)
  ·obtain⟨i,hi⟩:=List.mem_iff_getElem?.1 hz
   exact(hq i z hi).2.2
theorem segs_of_tree {z:PathT×Value}(h:TreeV wT z)(hw:WfP S (WfN S n) z.1):∃(qA:Option Addr) (qc:Nat) (G:List SgD),z.2=.slice qA G.length qc∧G.map (·.s)=z.1.segs∧
  (∀(i:Nat) (d:SgD),G[i]? = some d→∃b off,qA=some ⟨b,off,none⟩∧b<wT.heap.size∧wT.rangeAt b (off+i*2) [.bool d.s.deep,.slice d.A d.Y.length d.c]∧Rdd wT 9 d.A d.Y.length (d.Y.flatMap yC))∧
  (∀z∈ysD G,FltOK wT n z)∧(∀d∈G,d.Y.map (·.1)=d.s.sels):=by
 obtain⟨A,c,m,e,A',c',e',_,h3⟩:=h
 cases e'
 rcases h3 with h0|⟨b,off,rfl,hb,hb2,hc⟩
 ·refine⟨A,c,[],by rw [e,h0];rfl,by rw [h0];rfl,fun i d h=>by simp at h,fun z h=>by simp [ysD] at h,fun d h=>by simp at h⟩
 ·obtain⟨G,hG,hq⟩:=listOf (fun i (d:SgD)=>z.1.segs[i]? = some d.s∧wT.rangeAt b (off+i*2) [.bool d.s.deep,.slice d.A d.Y.length d.c]∧Rdd wT 9 d.A d.Y.length (d.Y.flatMap yC)∧(d.Y.map (·.1)=d.s.sels)∧∀z∈d.Y,FltOK wT n z) z.1.segs.length fun i hi=>by
   have hx:=List.getElem?_eq_getElem hi
   obtain⟨cs,h1,h2,h3⟩:=hc i _ hx
   obtain⟨d,k1,k2,k3,k4,k5⟩:=segd_of h3 (hw _ (List.getElem_mem hi)).2
   refine⟨d,by rw [k1];exact hx,?_,k4,by rw [k1];exact k3,k5⟩
   rw [k1,←k2]
   exact h2
  have hmem:∀d∈G,∃i,G[i]? = some d:=fun d hd=>List.mem_iff_getElem?.1 hd
  refine⟨some ⟨b,off,none⟩,c,G,by rw [e,hG],?_,fun i d hd=>⟨b,off,rfl,hb2,(hq i d hd).2.1,(hq i d hd).2.2.1⟩,fun z hz=>?_,fun d hd=>?_⟩
  ·refine List.ext_getElem? fun i=>?_
   rw [List.getElem?_map]
   by_cases hi:i<G.length
   ·rw [List.getElem?_eq_getElem hi]
    exact((hq i _ (List.getElem?_eq_getElem hi)).1).symm
   ·rw [List.getElem?_eq_none (by omega),List.getElem?_eq_none (by omega)];rfl
  ·obtain⟨d,hd,hz⟩:=List.mem_flatMap.1 hz
   obtain⟨i,hi⟩:=hmem d hd
   exact(hq i d hi).2.2.2.2 z hz
  ·obtain⟨i,hi⟩:=hmem d hd
   exact(hq i d hi).2.2.2.1
structure MRd (y:World)(c:CodeD)(W:List (PathT×Value))(A1 A2 A3 A4 A5:Option Addr):Prop where
 p:Rdd y 3 A1 c.ps.length (c.ps.flatMap pathC)
 g:Rdd y 3 A2 c.gs.length (c.gs.flatMap segC)
 s:Rdd y 8 A3 c.ss.length (c.ss.flatMap selC)
 i:Rdd y 7 A4 c.is.length (c.is.flatMap insC)
 w:Rdd y 2 A5 W.length (W.flatMap wC)
theorem path_one1 (l:List PathD):∀u∈l.flatMap pathC,u.oneCell'=true:=by
 intro u hu
 obtain⟨x,_,hx⟩:=List.mem_flatMap.1 hu
 exact allOne_mem (cs:=pathC x) rfl u hx
theorem flD_pre {N:Nat}:∀(l r:List SelT) (a b:Nat),(flD N a b l).2.length≤(flD N a b (l++r)).2.length
 | [],_,_,_=>by simp [flD]
 | y::l,r,a,b=>by
  rw [List.cons_append,flD,flD]
  have:=fun a b=>flD_pre (N:=N) l r a b
  cases y.f with
  | none=>exact this _ _
  | some e=>simp only [List.length_append,List.length_cons];have:=this (a+lenN N e+1) (b+(waitN N e).length);omega
theorem flW_app {N:Nat}:∀l r:List SelT,flW N (l++r)=flW N l++flW N r
 | [],_=>rfl
 | y::l,r=>by rw [List.cons_append,flW,flW,flW_app l r,List.append_assoc]
theorem len_le_sum {α:Type}(f:α→Nat):∀l:List α,(∀x∈l,1≤f x)→l.length≤(l.map f).sum
 | [],_=>Nat.le_refl _
 | x::l,h=>by
  have:=len_le_sum f l fun y hy=>h y (by simp [hy])
  have:=h x (by simp)
  rw [List.map_cons,List.sum_cons,List.length_cons];omega
theorem rpath_tree (z:PathT×Value)(hz:TreeV wT z)(hwf:WfP S (WfN S n) z.1)(c:CodeD)(W0:List (PathT×Value))(hW0:∀z∈W0,TreeV wT z)(w:World)(hw:Bel wT.heap.size wT w)(A1 A2 A3 A4 A5:Option Addr)(k1 k2 k3 k4 k5:Nat)(h:MRd w c W0 A1 A2 A3 A4 A5)
  (hk2:c.gs.length≤k2) (hsz:szC c≤10000) (hws:W0.length≤10000) (hp:wtP (wtN n) z.1≤10000):Calls Tryz.prog 23 #[.agg #[.slice A1 c.ps.length k1,.slice A2 c.gs.length k2,.slice A3 c.ss.length k3,.slice A4 c.is.length k4,.slice A5 W0.length k5],.agg #[.bool z.1.abs,z.2]] w fun e w' =>
  ∃(c':CodeD) (W:List (PathT×Value)) (A1' A2' A3' A4' A5':Option Addr) (k1' k2' k3' k4' k5':Nat),c'=layP n W0.length c z.1∧e=.returned (.agg #[.slice A1' c'.ps.length k1',.slice A2' c'.gs.length k2',.slice A3' c'.ss.length k3',.slice A4' c'.is.length k4',.slice A5' (W0++W).length k5'])∧
   MRd w' c' (W0++W) A1' A2' A3' A4' A5'∧W.map (·.1)=flW n (selsOf z.1.segs)∧(∀z∈W,TreeV wT z)∧(FrO w A1 A1'∧FrO w A2 A2'∧FrO w A3 A3'∧FrO w A4 A4'∧FrO w A5 A5')∧(c'.gs.length≤k2'∧c'.ss.length≤k3')∧Bel w.heap.size w w':=by
 obtain⟨qA,qc,G,hz2,hGs0,hG,hF,hGs⟩:=segs_of_tree hz hwf
 have hsel:selsOf z.1.segs=(ysD G).map (·.1):=by rw [←hGs0];exact sels_map hGs
 have hcost:=path_cost n z.1 c.is.length W0.length hwf
 have hlen:z.1.segs.length=G.length:=by rw [←hGs0,List.length_map]
 have hS:∀y∈ysD G,WfS S (WfN S n) y.1:=fun y hy=>sels_wf hwf y.1 (by rw [hsel];exact List.mem_map.2 ⟨y,hy,rfl⟩)
 have hfw:(flW n (selsOf z.1.segs)).length≤((flW n (selsOf z.1.segs)).map (wtP (wtN n))).sum:=len_le_sum _ _ fun x _=>by unfold wtP;omega
 rw [hsel] at hcost hfw
 rw [hlen,List.length_map] at hcost
 have hBD:∀Pd Rd,ysD G=Pd++Rd→c.is.length+(flD n c.is.length W0.length (Pd.map (·.1))).2.length≤999990∧W0.length+(flW n (Pd.map (·.1))).length≤999990:=fun Pd Rd e=>by
  have h1:=flD_pre (N:=n) (Pd.map (·.1)) (Rd.map (·.1)) c.is.length W0.length
  have h2:(flW n (Pd.map (·.1))).length≤(flW n (Pd.map (·.1)++Rd.map (·.1))).length:=by rw [flW_app,List.length_append];omega
  rw [←List.map_append,←e] at h1 h2
  unfold szC at hsz
  omega
 have hone:∀u∈W0.flatMap wC,u.oneCell'=true:=fun u hu=>by
  obtain⟨x,hx,hu⟩:=List.mem_flatMap.1 hu
  exact(hW0 x hx).one u hu
 unfold szC at hsz
 rw [hz2]
 refine(rpath_one _ _ _ _ _ _ _ _ _ _ _ _ _ _ _ (c.ps.flatMap pathC) c.gs w z.1.abs qA qc G c.ss c.is (W0.flatMap wC) wT hw hG S n hS hF hGs h.p h.g h.s h.i h.w (path_one1 _) rfl hone hBD (by omega) (by omega) (by omega) hk2).mono ?_
 rintro e w' ⟨A1',k1',A2',k2',A3',k3',A4',k4',A5',k5',W,rfl,⟨r1,r2,r3,r4,r5⟩,⟨hW1,hW2⟩,⟨f1,f2,f3,f4,f5⟩,⟨c2,c3⟩,hb⟩
 have ec:layP n W0.length c z.1=⟨c.ps++[⟨z.1.abs,c.gs.length,(c.gs.length+G.length:Nat)⟩],c.gs++gsD c.ss.length (G.map (·.s)),c.ss++(flD n c.is.length W0.length ((ysD G).map (·.1))).1,c.is++(flD n c.is.length W0.length ((ysD G).map (·.1))).2⟩:=by
  unfold layP;rw [hsel,←hlen,hGs0]
 have e1:(c.ps++[(⟨z.1.abs,c.gs.length,(c.gs.length+G.length:Nat)⟩:PathD)]).length=c.ps.length+1:=by simp
 have e2:(c.gs++gsD c.ss.length (G.map (·.s))).length=c.gs.length+G.length:=by rw [List.length_append,gsD_len,List.length_map]
 have e3:(c.ss++(flD n c.is.length W0.length ((ysD G).map (·.1))).1).length=c.ss.length+(ysD G).length:=by rw [List.length_append,flD_len,List.length_map]
 have e4:(c.is++(flD n c.is.length W0.length ((ysD G).map (·.1))).2).length=c.is.length+(flD n c.is.length W0.length ((ysD G).map (·.1))).2.length:=by rw [List.length_append]
 refine⟨_,W,A1',A2',A3',A4',A5',k1',k2',k3',k4',k5',rfl,?_,⟨?_,?_,?_,?_,?_⟩,by rw [hsel];exact hW1,hW2,⟨f1.o,f2,f3.o,f4,f5⟩,⟨?_,?_⟩,hb⟩
 ·rw [ec];simp only [e1,e2,e3,e4,List.length_append]
 ·rw [ec];simp only [e1];rw [List.flatMap_append,List.flatMap_cons,List.flatMap_nil,List.append_nil];exact r1
 ·rw [ec];simp only [e2];exact r2
 ·rw [ec];simp only [e3];exact r3
 ·rw [ec];simp only [e4];exact r4
 ·rw [List.length_append,List.flatMap_append];exact r5
 ·rw [ec];simp only [e2];exact c2
 ·rw [ec];simp only [e3];exact c3
end
end

end Go.Proofs.YtjbdcjcfijjiiaaGreatDoor
