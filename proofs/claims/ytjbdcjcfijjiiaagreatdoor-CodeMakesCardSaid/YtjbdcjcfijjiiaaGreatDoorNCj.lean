/- ref19: expr, of whatever tree. -/
import Derived.Test.YtjbdcjcfijjiiaaGreatDoorNG14
namespace Go.Proofs.YtjbdcjcfijjiiaaGreatDoor
open Go.RowKit
def Lw (w:World)(b:Nat):Prop:=b<w.heap.size
def TreeV (wT:World)(z:PathT×Value):Prop:=∃A c m,z.2=.slice A z.1.segs.length c∧SegsG (Lw wT) (ExR (Lw wT) m wT) wT (.slice A z.1.segs.length c) z.1.segs
theorem listOf {α:Type}(Q:Nat→α→Prop):∀n:Nat,(∀i,i<n→∃x,Q i x)→∃l:List α,l.length=n∧∀i x,l[i]? = some x→Q i x
 | 0,_=>⟨[],rfl,fun i x h=>by simp at h⟩
 | n+1,h=>by
  obtain⟨l,hl,hq⟩:=listOf Q n fun i hi=>h i (by omega)
  obtain⟨x,hx⟩:=h n (by omega)
  refine⟨l++[x],by simp [hl],fun i y hy=>?_⟩
  by_cases hi:i<l.length
  ·rw [List.getElem?_append_left hi] at hy;exact hq i y hy
  ·rw [List.getElem?_append_right (by omega)] at hy
   have h0:i-l.length=0:=by
    rcases Nat.eq_zero_or_pos (i-l.length) with h0|h0
    ·exact h0
    ·rw [List.getElem?_eq_none (by simp;omega)] at hy;cases hy
   rw [h0] at hy
   have hy2:x=y:=by simpa using hy
   subst hy2
   rw [show i=n by omega];exact hx
theorem TreeV.one {wT:World}{z:PathT×Value}(h:TreeV wT z):∀u∈wC z,u.oneCell'=true:=by
 obtain⟨A,c,m,e,_⟩:=h
 unfold wC
 rw [e]
 exact allOne_mem rfl
theorem SegsG.tree {wT:World}{m:Nat}{v:Value}{p:PathT}(h:SegsG (Lw wT) (ExR (Lw wT) m wT) wT v p.segs):TreeV wT (p,v):=by
 obtain⟨A,c,rfl,h2,h3⟩:=h
 exact⟨A,c,m,rfl,A,c,rfl,h2,h3⟩
def ExprQ (wT:World)(n:Nat)(x:ExprT):Prop:=∀(m:Nat) (cs:List Value),ExR (Lw wT) m wT cs x→∃W,W.map (·.1)=waitN n x∧(∀z∈W,TreeV wT z)∧cs.length=17∧KidC wT n ⟨x,cs,W⟩
section
variable  {S:List UInt8→Prop}{wT:World}{n:Nat}
theorem kids_ok (ih:∀x,WfN S n x→ExprQ wT n x){m:Nat}{v:Value}{l:List ExprT}(hl:∀k∈l,WfN S n k)(h0:l≠[])(h:RowG (Lw wT) 17 (ExR (Lw wT) m wT) wT v l) :
  ∃(b off c:Nat) (D:List KidD),v=.slice (some ⟨b,off,none⟩) D.length c∧ksD D=l∧KidsOK wT n b off D∧(∀d∈D,d.W.map (·.1)=waitN n d.x∧∀z∈d.W,TreeV wT z):=by
 obtain⟨A,cap,rfl,_,h3⟩:=h
 obtain⟨b,off,rfl,hb,_,hc⟩:=h3.resolve_left h0
 obtain⟨D,hD,hq⟩:=listOf (fun i (d:KidD)=>l[i]? = some d.x∧(∀(j:Nat) u,d.kc[j]? = some u→wT.cell? ⟨b,off+i*17+j,none⟩=some u)∧d.W.map (·.1)=waitN n d.x∧(∀z∈d.W,TreeV wT z)∧d.kc.length=17∧KidC wT n d) l.length fun i hi=>by
  have hx:=List.getElem?_eq_getElem hi
  obtain⟨cs,h1,h2,h3⟩:=hc i _ hx
  obtain⟨W,w1,w2,w3,w4⟩:=ih _ (hl _ (List.getElem_mem hi)) m cs h3
  exact⟨⟨_,cs,W⟩,hx,h2,w1,w2,w3,w4⟩
 have hk:ksD D=l:=by
  refine List.ext_getElem? fun i=>?_
  unfold ksD
  rw [List.getElem?_map]
  by_cases hi:i<D.length
  ·rw [List.getElem?_eq_getElem hi]
   exact((hq i _ (List.getElem?_eq_getElem hi)).1).symm
  ·rw [List.getElem?_eq_none (by omega),List.getElem?_eq_none (by omega)];rfl
 have hmem:∀d∈D,∃i,D[i]? = some d:=fun d hd=>List.mem_iff_getElem?.1 hd
 refine⟨b,off,cap,D,by rw [hD],hk,⟨hb,fun i d hd=>⟨(hq i d hd).2.2.2.2.1,(hq i d hd).2.1⟩,fun d hd=>?_,fun d hd=>?_,fun d hd u hu=>?_⟩,fun d hd=>?_⟩
 ·obtain⟨i,hi⟩:=hmem d hd;exact(hq i d hi).2.2.2.2.2
 ·obtain⟨i,hi⟩:=hmem d hd
  have hw:WfN S n d.x:=hl _ (List.mem_of_getElem? (hq i d hi).1)
  exact⟨fun a b=>insN_len n _ hw a b,lenN_pos n _ hw,by rw [←(hq i d hi).2.2.1,List.length_map]⟩
 ·obtain⟨i,hi⟩:=hmem d hd
  obtain⟨z,hz,hu⟩:=List.mem_flatMap.1 hu
  exact((hq i d hi).2.2.2.1 z hz).one u hu
 ·obtain⟨i,hi⟩:=hmem d hd;exact⟨(hq i d hi).2.2.1,(hq i d hi).2.2.2.1⟩
theorem nWD_len :∀D:List KidD,(D.flatMap (·.W)).length=nWD D
 | []=>rfl
 | d::r=>by rw [List.flatMap_cons,List.length_append,nWD_len r];unfold nWD;rw [List.map_cons,List.sum_cons]
theorem wCD_flat (D:List KidD):(D.flatMap (·.W)).flatMap wC=wCD D:=by unfold wCD;rw [List.flatMap_assoc]
theorem wait_flat {D:List KidD}(h:∀d∈D,d.W.map (·.1)=waitN n d.x):(D.flatMap (·.W)).map (·.1)=(ksD D).flatMap (waitN n):=by
 unfold ksD
 rw [List.map_flatMap,List.flatMap_map]
 induction D with
 | nil=>rfl
 | cons d r ih=>rw [List.flatMap_cons,List.flatMap_cons,h d (by simp),ih fun d hd=>h d (by simp [hd])]
theorem slice_of_segs {m:Nat}{v:Value}{l:List SegT}(h:SegsG (Lw wT) (ExR (Lw wT) m wT) wT v l):∃A c,v=.slice A l.length c:=by
 obtain⟨A,c,e,_⟩:=h
 exact⟨A,c,e⟩
end
theorem rexpr_all (S:List UInt8→Prop)(wT:World)(hsz:∀(n:Nat) (x:ExprT),WfN S n x→x.kids.length≤lenN n x):∀(n:Nat) (x:ExprT),WfN S n x→ExprQ wT n x
 | 0,_,h=>h.elim
 | n+1,x,h=>fun m cs hx=>by
  have h':WfX S (WfN S n) x:=h
  have ih:=rexpr_all S wT hsz n
  obtain⟨m,rfl⟩:∃k,m=k+1:=by
   cases m with
   | zero=>exact hx.elim
   | succ m=>exact⟨m,rfl⟩
  obtain⟨kv,qv,lv,rv,rfl,hk,hq,hlv,hrv⟩:=hx
  obtain⟨Aq,cq,rfl⟩:=slice_of_segs hq
  obtain⟨Al,cl,rfl⟩:=slice_of_segs hlv
  obtain⟨Ar,cr,rfl⟩:=slice_of_segs hrv
  have hlen:=hsz (n+1) x h
  rw [waitN]
  cases h' with
  | test p a =>
   refine⟨[(p,_)],by simp [tstE],fun z hz=>by simp at hz;rw [hz];exact SegsG.tree hq,rfl,?_⟩
   intro B1 B2 B3 A4 A5 m1 d1 m2 d2 m3 d3 c4 c5 n4 nw is wc w his hw h4 h5 h1 hl hlw
   have:=rexpr_test B1 B2 B3 A4 A5 m1 d1 m2 d2 m3 d3 c4 c5 n4 nw (is.flatMap insC) wc w h4 h5 (ins_one1 _) h1 (by rw [lenN] at hl;simp [tstE] at hl;omega) (by simp at hlw;omega) kv (.int .i64 0) (.bool false) (.int .i64 0) (.int .i64 0) (.string (bs [])) (.bool false) (.slice Al 0 cl) (.bool false) (.int .i64 0) (.int .i64 0) (.string (bs [])) (.bool false) (.slice Ar 0 cr) p.abs Aq p.segs.length cq
   rw [show insN (n+1) n4 nw (tstE p)=[⟨0,nw,0,0,0,⟨#[]⟩,0⟩] from by rw [insN];simp [tstE];rfl]
   exact this
  | cmp op a b a1 a2 a3 a4 a5 a6 =>
   cases hl:a.lit
   ·have hbl:b.lit=true:=by
     cases hb:b.lit;·rw [hl,hb] at a5;exact absurd rfl a5
     ·rfl
    refine⟨[(a.p,.slice Al a.p.segs.length cl)],by simp [cmpP,hl],fun z hz=>by simp at hz;rw [hz];exact SegsG.tree hlv,rfl,?_⟩
    intro B1 B2 B3 A4 A5 m1 d1 m2 d2 m3 d3 c4 c5 n4 nw is wc w his hw h4 h5 h1 hl4 hlw
    have:=rexpr_cmpR B1 B2 B3 A4 A5 m1 d1 m2 d2 m3 d3 c4 c5 n4 nw (is.flatMap insC) wc w h4 h5 (ins_one1 _) h1 (by rw [lenN] at hl4;simp at hl4;omega) (by simp at hlw;omega) kv (.bool false) (.slice Aq 0 cq) (.int .i64 a.kind) (.int .i64 a.n) (.string (bs a.s)) (.bool b.lit) (.bool b.p.abs) (.slice Ar b.p.segs.length cr) op b.kind b.n (bs b.s) a.p.abs Al a.p.segs.length cl
    rw [show insN (n+1) n4 nw (⟨4,[],path0,op,a,b⟩:ExprT)=[⟨1,nw,op,b.kind,b.n,bs b.s,0⟩] from by rw [insN];simp [cmpD,hl]]
    unfold exL
    simp only
    rw [hl]
    exact this
   ·obtain⟨k,rfl⟩:∃k:Nat,op=k:=⟨op.toNat,by omega⟩
    refine⟨[(b.p,.slice Ar b.p.segs.length cr)],by simp [cmpP,hl],fun z hz=>by simp at hz;rw [hz];exact SegsG.tree hrv,rfl,?_⟩
    intro B1 B2 B3 A4 A5 m1 d1 m2 d2 m3 d3 c4 c5 n4 nw is wc w his hw h4 h5 h1 hl4 hlw
    have:=rexpr_cmpL B1 B2 B3 A4 A5 m1 d1 m2 d2 m3 d3 c4 c5 n4 nw (is.flatMap insC) wc w h4 h5 (ins_one1 _) h1 (by rw [lenN] at hl4;simp at hl4;omega) (by simp at hlw;omega) kv (.bool false) (.slice Aq 0 cq) (.bool a.p.abs) (.slice Al a.p.segs.length cl) (.bool b.lit) (.int .i64 b.kind) (.int .i64 b.n) (.string (bs b.s)) k (by omega) a.kind a.n (bs a.s) b.p.abs Ar b.p.segs.length cr
    rw [show insN (n+1) n4 nw (⟨4,[],path0,(k:Int),a,b⟩:ExprT)=[⟨1,nw,turnS k,a.kind,a.n,bs a.s,0⟩] from by rw [insN];simp [cmpD,hl]]
    unfold exL
    simp only
    rw [hl]
    exact this
  | not k a =>
   obtain⟨b,off,c,D,rfl,hkD,hK,hW⟩:=kids_ok ih (l:=[k]) (by intro y hy;simp at hy;rw [hy];exact a) (by simp) hk
   obtain⟨d,rfl⟩:∃d,D=[d]:=by
    match D,hkD with
    | [d],_=>exact⟨d,rfl⟩
   obtain rfl:d.x=k:=by simpa [ksD] using hkD
   refine⟨d.W,by simp [mkE,(hW d (by simp)).1],(hW d (by simp)).2,rfl,?_⟩
   intro B1 B2 B3 A4 A5 m1 d1 m2 d2 m3 d3 c4 c5 n4 nw is wc w his hw h4 h5 h1 hl hlw
   obtain⟨hkc,hr⟩:=hK.kc 0 d rfl
   have hll:=(hK.len d (by simp)).1
   have hl':n4+(lenN n d.x+1)≤999990:=by rw [lenN] at hl;simpa [mkE,lenK] using hl
   have hlt:b<w.heap.size:=Nat.lt_of_lt_of_le hK.lt hw.size
   have:=rexpr_not B1 B2 B3 A4 A5 m1 d1 m2 d2 m3 d3 c4 c5 n4 nw (is.flatMap insC) wc w h4 h5 (ins_one1 _) (.bool false) (.slice Aq 0 cq) (.int .i64 0) (.bool false) (.int .i64 0) (.int .i64 0) (.string (bs [])) (.bool false) (.slice Al 0 cl) (.bool false) (.int .i64 0) (.int .i64 0) (.string (bs [])) (.bool false) (.slice Ar 0 cr) b off c d.kc hkc
    (fun j v hv=>by rw [World.cell?_of_block (hw.block b hK.lt)];have:=hr j v hv;rwa [Nat.zero_mul,Nat.add_zero] at this) hlt (insN n n4 nw d.x) d.W.length (d.W.flatMap wC) (by rw [hll];omega)
    (fun w' hb=>hK.call d (by simp) B1 B2 B3 A4 A5 m1 d1 m2 d2 m3 d3 c4 c5 n4 nw is wc w' his (hw.next hb) (h4.bel hb) (h5.bel hb) h1 (by omega) hlw)
   rw [show insN (n+1) n4 nw (mkE 2 [d.x])=insN n n4 nw d.x++[⟨2,0,0,0,0,⟨#[]⟩,0⟩] from by rw [insN];simp [mkE,insK,opD];rfl]
   exact this
  | or l a1 a2 =>
   obtain⟨b,off,c,D,rfl,hkD,hK,hW⟩:=kids_ok ih (l:=l) a2 (two_ne a1) hk
   subst hkD
   have hDl:(ksD D).length=D.length:=by simp [ksD]
   refine⟨D.flatMap (·.W),(wait_flat fun d hd=>(hW d hd).1).trans (by simp [mkE]),fun z hz=>by
    obtain⟨d,hd,hz⟩:=List.mem_flatMap.1 hz
    exact(hW d hd).2 z hz,rfl,?_⟩
   intro B1 B2 B3 A4 A5 m1 d1 m2 d2 m3 d3 c4 c5 n4 nw is wc w his hw h4 h5 h1 hl hlw
   have hl':n4+lenK (lenN n) (ksD D)≤999990:=by rw [lenN] at hl;simpa [mkE] using hl
   have hlen':D.length≤lenK (lenN n) (ksD D):=by rw [lenN] at hlen;simpa [mkE,hDl] using hlen
   rw [nWD_len] at hlw
   have:=rexpr_ka (k:=0) (hk:=.inl rfl) B1 B2 B3 A4 A5 m1 d1 m2 d2 m3 d3 c4 c5 n4 nw is wc w (.bool false) (.slice Aq 0 cq) (.int .i64 0) (.bool false) (.int .i64 0) (.int .i64 0) (.string (bs [])) (.bool false) (.slice Al 0 cl) (.bool false) (.int .i64 0) (.int .i64 0) (.string (bs [])) (.bool false) (.slice Ar 0 cr) n b off c wT D (by omega) his hK hw h4 h5 h1 hl' hlw (by omega)
   rw [show insN (n+1) n4 nw (mkE 0 (ksD D))=insJ n 0 (n4+lenK (lenN n) (ksD D)) n4 nw (ksD D) from by rw [insN];simp [mkE,insJ]]
   rw [nWD_len,wCD_flat]
   exact this
  | and l a1 a2 =>
   obtain⟨b,off,c,D,rfl,hkD,hK,hW⟩:=kids_ok ih (l:=l) a2 (two_ne a1) hk
   subst hkD
   have hDl:(ksD D).length=D.length:=by simp [ksD]
   refine⟨D.flatMap (·.W),(wait_flat fun d hd=>(hW d hd).1).trans (by simp [mkE]),fun z hz=>by
    obtain⟨d,hd,hz⟩:=List.mem_flatMap.1 hz
    exact(hW d hd).2 z hz,rfl,?_⟩
   intro B1 B2 B3 A4 A5 m1 d1 m2 d2 m3 d3 c4 c5 n4 nw is wc w his hw h4 h5 h1 hl hlw
   have hl':n4+lenK (lenN n) (ksD D)≤999990:=by rw [lenN] at hl;simpa [mkE] using hl
   have hlen':D.length≤lenK (lenN n) (ksD D):=by rw [lenN] at hlen;simpa [mkE,hDl] using hlen
   rw [nWD_len] at hlw
   have:=rexpr_ka (k:=1) (hk:=.inr rfl) B1 B2 B3 A4 A5 m1 d1 m2 d2 m3 d3 c4 c5 n4 nw is wc w (.bool false) (.slice Aq 0 cq) (.int .i64 0) (.bool false) (.int .i64 0) (.int .i64 0) (.string (bs [])) (.bool false) (.slice Al 0 cl) (.bool false) (.int .i64 0) (.int .i64 0) (.string (bs [])) (.bool false) (.slice Ar 0 cr) n b off c wT D (by omega) his hK hw h4 h5 h1 hl' hlw (by omega)
   rw [show insN (n+1) n4 nw (mkE 1 (ksD D))=insJ n 1 (n4+lenK (lenN n) (ksD D)) n4 nw (ksD D) from by rw [insN];simp [mkE,insJ]]
   rw [nWD_len,wCD_flat]
   exact this
theorem kids_len {S:List UInt8→Prop}:∀(n:Nat) (x:ExprT),WfN S n x→x.kids.length≤lenN n x
 | 0,_,h=>h.elim
 | n+1,x,h=>by
  have h':WfX S (WfN S n) x:=h
  have key:∀l:List ExprT,(∀k∈l,WfN S n k)→l.length≤lenK (lenN n) l:=fun l hl=>by
   induction l with
   | nil=>exact Nat.zero_le _
   | cons x r ihl =>
    have h1:=lenN_pos n x (hl x (by simp))
    have h2:=ihl fun k hk=>hl k (by simp [hk])
    rw [lenK,List.length_cons]
    split
    ·rename_i hr
     rw [List.isEmpty_iff.1 hr];simp;omega
    ·omega
  rw [lenN]
  cases h' with
  | or l a b=>simpa [mkE] using key l b
  | and l a b=>simpa [mkE] using key l b
  | not k a=>simp [mkE]
  | test p a=>simp [tstE]
  | cmp op a b a1 a2 a3 a4 a5 a6=>simp
end Go.Proofs.YtjbdcjcfijjiiaaGreatDoor
