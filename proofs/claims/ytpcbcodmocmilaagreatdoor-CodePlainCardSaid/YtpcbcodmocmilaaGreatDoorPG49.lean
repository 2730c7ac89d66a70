/- PG49: He, To, Tr, Hf, Rb, Rc, Rd, Fc, Qo, Jf, Jc, Ib, Ic, Id, Ie joined. -/
import Derived.Deep.RegionHeld3
import Derived.Test.YtpcbcodmocmilaaGreatDoorPG48
import Derived.Test.YtpcbcodmocmilaaGreatDoorPG05
import Derived.Test.YtpcbcodmocmilaaGreatDoorPG28
import Derived.Test.YtpcbcodmocmilaaGreatDoorPG37
import Derived.Test.YtpcbcodmocmilaaGreatDoorPG40
import Derived.Test.YtpcbcodmocmilaaGreatDoorPYp
import Derived.Test.YtpcbcodmocmilaaGreatDoorPG14
namespace Go.Proofs.YtpcbcodmocmilaaGreatDoor
open Go.RowKit
/- What is written is read back: the tokens of a tree give the tree; plain. -/
section
section
variable  {L:List (List UInt8)}{r:List TokD}{fa:Int}
end
section
variable  {E:Int}{P:Nat→PSt→ExprT×PSt}{T:Bool→ExprT→List TokD}{W:ExprT→Prop}{S:List UInt8→Prop}{d:Nat}
end
end
/- Queries read, plain: more tokens behind change nothing of what is read ahead of them (no word of a dump). -/
section
def appS (t:PSt)(xs:List TokD):PSt:=⟨t.toks++xs,t.fe,t.fa⟩
def Ext {α:Type}(xs:List TokD)(a b:α×PSt):Prop:=a.2.fe=0→a.2.toks≠[]→b=(a.1,appS a.2 xs)
section
variable  {E E':Int}{t:PSt}{xs:List TokD}
theorem ne_of_le {s t:PSt}(h:s.toks≠[])(hl:s.toks.length≤t.toks.length):t.toks≠[]:=fun e=>by
 rw [e] at hl
 exact h (List.eq_nil_of_length_eq_zero (by simpa using hl))
end
section
variable  {α β γ:Type}{xs:List TokD}{a a':α×PSt}
theorem Ext.map (h:Ext xs a a')(g:α→β):Ext xs (g a.1,a.2) (g a'.1,a'.2):=fun h1 h2=>by rw [h h1 h2]
theorem Ext.bad {b:α×PSt}(h:a.2.fe≠0):Ext xs a b:=fun h1 _=>absurd h1 h
theorem Ext.empty {b:α×PSt}(h:a.2.toks=[]):Ext xs a b:=fun _ h2=>absurd h h2
theorem Ext.nil {t:PSt}{b:α×PSt}(h:t.toks=[])(hl:a.2.toks.length≤t.toks.length):Ext xs a b:=.empty (List.eq_nil_of_length_eq_zero (by rw [h] at hl;simpa using hl))
theorem Ext.post (h:Ext xs a a'){u u':PSt→PSt}(hb:∀s,s.fe≠0→u s=s)(hl:∀s,(u s).toks.length≤s.toks.length)(hu:∀s,s.toks≠[]→u' (appS s xs)=appS (u s) xs):Ext xs (a.1,u a.2) (a'.1,u' a'.2):=fun h1 h2=>by
 have hf:a.2.fe=0:=Classical.byContradiction fun hf=>by simp only at h1;rw [hb _ hf] at h1;exact hf h1
 have hn:a.2.toks≠[]:=ne_of_le h2 (hl _)
 rw [h hf hn]
 simp only
 rw [hu _ hn]
theorem Ext.seq (h:Ext xs a a'){b b':PSt→β×PSt}(g:α→β→γ)(h2:∀s,s.toks.length≤a.2.toks.length→Ext xs (b s) (b' (appS s xs)))(hb:∀s,s.fe≠0→(b s).2=s)(hl:∀s,(b s).2.toks.length≤s.toks.length) :
  Ext xs (g a.1 (b a.2).1,(b a.2).2) (g a'.1 (b' a'.2).1,(b' a'.2).2):=fun k1 k2=>by
 have hf:a.2.fe=0:=Classical.byContradiction fun hf=>by simp only at k1;rw [hb _ hf] at k1;exact hf k1
 have hn:a.2.toks≠[]:=ne_of_le k2 (hl _)
 rw [h hf hn]
 simp only
 rw [h2 a.2 (Nat.le_refl _) k1 k2]
end
def ExtP (xs:List TokD)(P P':Nat→PSt→ExprT×PSt):Prop:=∀d t,Ext xs (P d t) (P' d (appS t xs))
section
variable  {E E':Int}{xs:List TokD}{P P':Nat→PSt→ExprT×PSt}(d:Nat)
variable  (hL:LeP P)(h:ExtP xs P P')
include h hL
end
end
/- Queries read, plain: two queries one behind the other; a query cut (no word of a dump). -/
section
end
/- What is written of a query is the same query; two that are written alike are one; plain. -/
section
section
variable  {S:List UInt8→Prop}
end
end
/- ref17: the comparing of trees that are one (printed by gen_same.py). -/
section
open Go.RowKit
theorem Bel.some {W w1:World}(hb:Bel W.heap.size W w1){a:Addr}{v:Value}(h:W.cell? a=some v):w1.cell? a=some v:=by
 by_cases hl:a.block<W.heap.size
 ·exact(hb.cell hl).trans h
 ·exfalso
  have hn:W.heap[a.block]? = none:=Array.getElem?_eq_none (by omega)
  unfold World.cell? at h
  rw [hn] at h
  simp at h
theorem RowG.at_ {α:Type}{K:Nat→Prop}{k:Nat}{R:List Value→α→Prop}{w:World}{A:Option Addr}{n c:Nat}{l:List α}(h:RowG K k R w (.slice A n c) l){i:Nat}{x:α}(hx:l[i]? = some x) :
  ∃b off,∃cs:List Value,A=some ⟨b,off,none⟩∧b<w.heap.size∧cs.length=k∧(∀(j:Nat) u,cs[j]? = some u→w.cell? ⟨b,off+i*k+j,none⟩=some u)∧R cs x:=by
 obtain⟨A',cap,e1,-,h3⟩:=h
 obtain⟨b,off,rfl,hK,hb,hc⟩:=h3.resolve_left (by intro e;rw [e] at hx;simp at hx)
 obtain⟨cs,hl,hcs,hr⟩:=hc i x hx
 exact⟨b,off,cs,(Value.slice.inj e1).1,hb,hl,hcs,hr⟩
end
/- ref17: Same (over sameSel) (printed by gen_same2.py). -/
section
open Go.RowKit
theorem RowG.cap {α:Type}{K:Nat→Prop}{k:Nat}{R:List Value→α→Prop}{w:World}{A:Option Addr}{n c:Nat}{l:List α}(h:RowG K k R w (.slice A n c) l):l.length≤9223372036854775807:=by
 obtain⟨A',cap,e,h2,-⟩:=h
 omega
theorem RowG.sel {K:Nat→Prop}{R:List Value→ExprT→Prop}{w:World}{A:Option Addr}{n c:Nat}{l:List SelT}(h:RowG K 9 (SelC K R w) w (.slice A n c) l){i:Nat}{x:SelT}(hx:l[i]? = some x) :
  ∃b off pv,A=some ⟨b,off,none⟩∧b<w.heap.size∧(w.cell? ⟨b,off+i*9,none⟩=some (.int .i64 x.kind)∧w.cell? ⟨b,off+i*9+1,none⟩=some (.string (bs x.name))∧w.cell? ⟨b,off+i*9+2,none⟩=some (.int .i64 x.index)∧w.cell? ⟨b,off+i*9+3,none⟩=some (.int .i64 x.fr)∧w.cell? ⟨b,off+i*9+4,none⟩=some (.int .i64 x.tt)∧w.cell? ⟨b,off+i*9+5,none⟩=some (.int .i64 x.step)∧w.cell? ⟨b,off+i*9+6,none⟩=some (.bool x.hf)∧w.cell? ⟨b,off+i*9+7,none⟩=some (.bool x.ht)∧w.cell? ⟨b,off+i*9+8,none⟩=some pv)∧PtrG K R w pv x.f:=by
 obtain⟨b,off,cs,rfl,hb,-,hc,pv,rfl,hp⟩:=h.at_ hx
 exact⟨b,off,pv,rfl,hb,⟨hc 0 _ rfl,hc 1 _ rfl,hc 2 _ rfl,hc 3 _ rfl,hc 4 _ rfl,hc 5 _ rfl,hc 6 _ rfl,hc 7 _ rfl,hc 8 _ rfl⟩,hp⟩
end
/- ref17: sameExpr, and Same of one tree (printed by gen_same3.py). -/
section
open Go.RowKit
end
/- law18: QshowBack (printed by gen_fc.py). -/
section
open Go.RowKit
end
/- Queries read, plain: the two ways of reading give one tree, where there is no fault (no word of a dump). -/
section
def SameR {α:Type}(a b:α×PSt):Prop:=a.2=b.2∧(a.2.fe=0→a.1=b.1)
theorem SameR.refl {α:Type}(a:α×PSt):SameR a a:=⟨rfl,fun _=>rfl⟩
theorem SameR.map {α β:Type}{a b:α×PSt}(h:SameR a b)(g:α→β):SameR (g a.1,a.2) (g b.1,b.2):=⟨h.1,fun e=>congrArg g (h.2 e)⟩
theorem SameR.post {α:Type}{a b:α×PSt}(h:SameR a b)(u:PSt→PSt)(hu:∀s,s.fe≠0→u s=s):SameR (a.1,u a.2) (b.1,u b.2) :=
 ⟨congrArg u h.1,fun e=>h.2 (Classical.byContradiction fun hs=>by simp only at e;rw [hu _ hs] at e;exact hs e)⟩
theorem SameR.seq {α β γ:Type}{a a':α×PSt}{b b':PSt→β×PSt}(g:α→β→γ)(h1:SameR a a')(h2:∀s,SameR (b s) (b' s))(hb:∀s,s.fe≠0→(b s).2=s):SameR (g a.1 (b a.2).1,(b a.2).2) (g a'.1 (b' a'.2).1,(b' a'.2).2):=by
 obtain⟨x,s⟩:=a
 obtain⟨x',s'⟩:=a'
 obtain⟨e1,e2⟩:=h1
 simp only at e1 e2
 subst e1
 refine⟨(h2 s).1,fun e=>?_⟩
 simp only at e ⊢
 have hs:s.fe=0:=Classical.byContradiction fun hs=>by rw [hb s hs] at e;exact hs e
 rw [e2 hs,(h2 s).2 e]
def Eqp (P P':Nat→PSt→ExprT×PSt):Prop:=∀d t,SameR (P d t) (P' d t)
section
variable  {E:Int}{P P':Nat→PSt→ExprT×PSt}(h:Eqp P P')(d:Nat)
include h
theorem same_selF (t:PSt):SameR (selF E P d t) (selF E P' d t):=by
 unfold selF
 have k:=h (d+1) (openS E d t)
 split
 ·exact .refl _
 split
 ·exact .refl _
 split
 ·exact k.map fun x=>(⟨4,[],0,0,0,0,false,false,some x⟩:SelT)
 exact .refl _
theorem same_selsL :∀(f:Nat) (t:PSt),SameR (selsL E P d f t) (selsL E P' d f t)
 | 0,_=>.refl _
 | f+1,t=>by
  rw [selsL,selsL]
  split
  ·exact SameR.seq (fun x l=>x::l) (same_selF h d (nextS E t)) (fun s=>same_selsL f s) (fun s hs=>by rw [selsL_bad f hs])
  ·exact .refl _
theorem same_selsF (t:PSt):SameR (selsF E P d t) (selsF E P' d t):=by
 unfold selsF
 exact(SameR.seq (fun x l=>x::l) (same_selF h d (mustS E [91] t)) (b:=fun s=>selsL E P d s.toks.length s) (b':=fun s=>selsL E P' d s.toks.length s) (fun s=>same_selsL h d _ s) (fun s hs=>by rw [selsL_bad _ hs])).post (mustS E [93]) fun s hs=>must_bad _ hs
theorem same_dotF (dp:Bool)(t:PSt):SameR (dotF E P d dp t) (dotF E P' d dp t):=by
 unfold dotF
 split
 ·exact(same_selsF h d t).map fun l=>(⟨dp,l⟩:SegT)
 ·exact .refl _
theorem same_segF (t:PSt):SameR (segF E P d t) (segF E P' d t):=by
 unfold segF
 split
 ·exact(same_selsF h d t).map fun l=>(⟨false,l⟩:SegT)
 ·exact same_dotF h d _ _
theorem same_segsL :∀(f:Nat) (t:PSt),SameR (segsL E P d f t) (segsL E P' d f t)
 | 0,_=>.refl _
 | f+1,t=>by
  rw [segsL,segsL]
  split
  ·exact SameR.seq (fun x l=>x::l) (same_segF h d t) (fun s=>same_segsL f s) (fun s hs=>by rw [segsL_bad f hs])
  ·exact .refl _
theorem same_pathF (t:PSt):SameR (pathF E P d t) (pathF E P' d t):=by
 unfold pathF
 exact(same_segsL h d _ _).map fun l=>(⟨isS [36] t,l⟩:PathT)
theorem same_sideF (t:PSt):SameR (sideF E P d t) (sideF E P' d t):=by
 unfold sideF
 split
 ·exact(same_pathF h d t).map fun p=>(⟨false,0,0,[],p⟩:SideT)
 ·exact .refl _
theorem same_cmp2 (a:SideT)(t:PSt):SameR (cmp2 E P d a t) (cmp2 E P' d a t):=by
 unfold cmp2
 split
 ·exact .refl _
 ·obtain⟨e1,e2⟩:=same_sideF (E:=E) h d (nextS E t)
  by_cases hs:(sideF E P d (nextS E t)).2.fe=0
  ·rw [e2 hs,e1]
   exact .refl _
  ·have hs':=hs
   rw [e1] at hs'
   have k:∀(b:Bool) (s:PSt),s.fe≠0→(if b=true then failS (atS E t) 8 s else s)=s:=fun b s hs=>by
    cases b
    ·rfl
    ·rw [if_pos rfl,failS_bad hs]
   refine⟨?_,fun e=>?_⟩
   ·simp only
    rw [k _ _ hs,k _ _ hs',e1]
   ·simp only at e
    rw [k _ _ hs] at e
    exact absurd e hs
theorem same_cmpF (t:PSt):SameR (cmpF E P d t) (cmpF E P' d t):=by
 unfold cmpF
 obtain⟨e1,e2⟩:=same_sideF (E:=E) h d t
 by_cases hs:(sideF E P d t).2.fe=0
 ·rw [e2 hs,e1]
  exact same_cmp2 h d _ _
 ·have hs':=hs
  rw [e1] at hs'
  rw [cmp2_bad _ hs,cmp2_bad _ hs',e1]
  exact⟨rfl,fun e=>absurd e hs'⟩
theorem same_roundF (t:PSt):SameR (roundF E P d t) (roundF E P' d t):=by
 unfold roundF
 exact(h (d+1) (openS E d t)).post (mustS E [41]) fun s hs=>must_bad _ hs
theorem same_notF (m m':Bool)(t:PSt):SameR (notF m E P d t) (notF m' E P' d t):=by
 unfold notF
 split
 ·exact(same_roundF h d t).map fun x=>mkE 2 [x]
 split
 ·exact(same_pathF h d t).map fun p=>mkE 2 [tstE p]
 ·exact⟨rfl,fun e=>absurd e (formS_fe E t)⟩
theorem same_oneF (m m':Bool)(t:PSt):SameR (oneF m E P d t) (oneF m' E P' d t):=by
 unfold oneF
 split
 ·exact same_notF h (d+1) m m' _
 split
 ·exact same_roundF h d t
 ·exact same_cmpF h d t
end
theorem same_listL {E:Int}{sg:List UInt8}{F F':PSt→ExprT×PSt}(h:∀t,SameR (F t) (F' t)):∀(f:Nat) (t:PSt),SameR (listL E sg F f t) (listL E sg F' f t)
 | 0,_=>.refl _
 | f+1,t=>by
  rw [listL,listL]
  split
  ·exact SameR.seq (fun x l=>x::l) (h (nextS E t)) (fun s=>same_listL h f s) (fun s hs=>by rw [listL_bad f hs])
  ·exact .refl _
theorem same_listF {E:Int}{sg:List UInt8}{k:Int}{F F':PSt→ExprT×PSt}(h:∀t,SameR (F t) (F' t))(t:PSt):SameR (listF E sg k F t) (listF E sg k F' t):=by
 unfold listF
 exact SameR.seq (joinE k) (h t) (b:=fun s=>listL E sg F s.toks.length s) (b':=fun s=>listL E sg F' s.toks.length s) (fun s=>same_listL h _ s) (fun s hs=>by rw [listL_bad _ hs])
theorem same_orF {E:Int}{P P':Nat→PSt→ExprT×PSt}(h:Eqp P P')(m m':Bool):Eqp (orF m E P) (orF m' E P'):=fun d t=>same_listF (fun t=>same_listF (fun t=>same_oneF h d m m' t) t) t
theorem same_orS (m m':Bool)(E:Int):∀n,Eqp (orS m E n) (orS m' E n)
 | 0=>fun _ _=>.refl _
 | n+1=>same_orF (same_orS m m' E n) m m'
theorem same_parse2 (m m':Bool)(E:Int)(t:PSt):parse2 m E t=parse2 m' E t:=by
 obtain⟨e1,e2⟩:=same_pathF (E:=E) (same_orS m m' E 34) 0 (if isS [36] t then t else formS E t)
 have f1:(parse1 m E t).2=(parse1 m' E t).2:=e1
 have f2:(parse1 m E t).2.fe=0→(parse1 m E t).1=(parse1 m' E t).1:=e2
 unfold parse2
 rw [←f1]
 by_cases h0:(parse1 m E t).2.fe=0
 ·rw [f2 h0]
 ·have hov:ovS (parse1 m E t).2=true:=by unfold ovS;rw [bne_iff_ne.2 h0];rfl
  rw [if_pos hov,if_neg h0,if_neg h0]
theorem parse_same (l:List UInt8):parseT true l=parseT false l:=same_parse2 true false _ _
end
/- law19: ref17's Parse for callers. -/
section
open Go.RowKit
theorem rparsec_ok {s:ByteArray}{p:PathT}(w:World)(hs:s.size≤4096)(h:parseT true s.data.toList=.ok p):Calls Tryz.prog 14 #[.string s] w fun e w'=>∃m A c,e=.returned (.tuple #[.agg #[.bool p.abs,.slice A p.segs.length c],.agg #[.int .i64 0,.int .i64 0]])∧SegsG (Fr w) (ExR (Fr w) m w') w' (.slice A p.segs.length c) p.segs∧Bel w.heap.size w w':=by
 have:=rparse_any s w hs
 unfold RParseP at this
 rw [←parse_same,h] at this
 refine this.mono ?_
 rintro e w' ⟨⟨m,A,c,rfl,hr⟩,hb⟩
 exact⟨m,A,c,rfl,hr,hb⟩
theorem rparsec_err {s:ByteArray}{x a:Int}(w:World)(hs:s.size≤4096)(h:parseT true s.data.toList=.error (x,a)):Calls Tryz.prog 14 #[.string s] w fun e w'=>e=.returned (.tuple #[.agg #[.bool false,.slice none 0 0],.agg #[.int .i64 x,.int .i64 a]])∧Bel w.heap.size w w':=by
 have:=rparse_any s w hs
 unfold RParseP at this
 rw [←parse_same,h] at this
 exact this
end
/- What CodePlain asks of a query's code (plain; no word of a dump). -/
section
def fltN (l:List SelT):Nat:=l.countP fun y=>y.kind==4
theorem fltN_cons (y:SelT)(l:List SelT):fltN (y::l)=fltN l+if y.kind==4 then 1 else 0:=by
 unfold fltN;rw [List.countP_cons]
theorem fltN_app (a b:List SelT):fltN (a++b)=fltN a+fltN b:=by
 unfold fltN;rw [List.countP_append]
section
variable  {S:List UInt8→Prop}
theorem wfs_flt {W:ExprT→Prop}{y:SelT}(h:WfS S W y):(y.f=none∧(y.kind==4)=false)∨∃e,y.f=some e∧(y.kind==4)=true∧W e:=by
 cases h with
 | nm s a=>exact .inl ⟨rfl,rfl⟩
 | wild=>exact .inl ⟨rfl,rfl⟩
 | idx n a=>exact .inl ⟨rfl,rfl⟩
 | slice a b c ha hb a1 a2 a3 a4 a5=>exact .inl ⟨rfl,rfl⟩
 | filt e a=>exact .inr ⟨e,rfl,rfl,a⟩
theorem flD_cnt :∀(l:List SelT) (a b:Nat),(∀y∈l,WfS S (WfN S 200) y)→(flD 200 a b l).1.length=l.length∧2*fltN l≤(flD 200 a b l).2.length∧fltN l≤(flW 200 l).length∧(fltN l=0→(flD 200 a b l).2=[]∧flW 200 l=[])
 | [],_,_,_=>⟨rfl,by simp [fltN],by simp [fltN],fun _=>⟨rfl,rfl⟩⟩
 | y::r,a,b,h=>by
  rw [fltN_cons]
  rcases wfs_flt (h y (by simp)) with⟨e,hk⟩|⟨e,he,hk,hw⟩
  ·obtain⟨h1,h2,h3,h4⟩:=flD_cnt r a b fun z hz=>h z (by simp [hz])
   rw [flD,flW,e,hk]
   simp only [List.length_cons,List.nil_append,Bool.false_eq_true,if_false,Nat.add_zero]
   exact⟨by omega,h2,h3,h4⟩
  ·obtain⟨h1,h2,h3,h4⟩:=flD_cnt r (a+lenN 200 e+1) (b+(waitN 200 e).length) fun z hz=>h z (by simp [hz])
   have k1:=insN_len 200 e hw a b
   have k2:=lenN_pos 200 e hw
   have k3:=waitN_pos 200 e hw
   rw [flD,flW,he,hk]
   simp only [List.length_cons,List.length_append,if_true]
   exact⟨by omega,by omega,by omega,fun h=>by omega⟩
theorem makeL_cnt (n:Nat):∀(f:Nat) (c:CodeD) (W:List PathT),c.is.length≤(makeL n f c W).is.length∧c.ps.length+min f W.length≤(makeL n f c W).ps.length
 | 0,c,W=>by rw [makeL];exact⟨Nat.le_refl _,by omega⟩
 | f+1,c,[]=>by rw [makeL];exact⟨Nat.le_refl _,by simp⟩
 | f+1,c,p::r=>by
  rw [makeL]
  obtain⟨h1,h2⟩:=makeL_cnt n f (layP n (c.ps.length+1+r.length) c p) (r++flW n (selsOf p.segs))
  refine⟨Nat.le_trans ?_ h1,Nat.le_trans ?_ h2⟩
  ·simp [layP]
  ·simp only [layP,List.length_append,List.length_cons,List.length_nil]
   omega
theorem gsD_cnt :∀(a:Nat) (l:List SegT),(gsD a l).length=l.length
 | _,[]=>rfl
 | a,s::r=>by rw [gsD,List.length_cons,List.length_cons,gsD_cnt]
theorem makeL_nil (n:Nat)(f:Nat)(c:CodeD):makeL n f c []=c:=by cases f <;> rfl
theorem plain_code {p:PathT}(h:WfP S (WfN S 200) p)(hF:fltN (selsOf p.segs)≤4000) :
  (0<fltN (selsOf p.segs)→2*fltN (selsOf p.segs)≤(codeT p).is.length∧fltN (selsOf p.segs)<(codeT p).ps.length)∧
  (fltN (selsOf p.segs)=0→(codeT p).ps.length=1∧(codeT p).gs.length=p.segs.length∧(codeT p).ss.length=(selsOf p.segs).length∧(codeT p).is.length=0):=by
 have hs:∀y∈selsOf p.segs,WfS S (WfN S 200) y:=fun y hy=>by
  obtain⟨s,h1,h2⟩:=List.mem_flatMap.1 hy
  exact(h s h1).2 y h2
 obtain⟨k1,k2,k3,k4⟩:=flD_cnt (selsOf p.segs) 0 1 hs
 have e:codeT p=makeL 200 4999 (layP 200 1 code0 p) (flW 200 (selsOf p.segs)):=by
  unfold codeT
  rw [show (5000:Nat)=4999+1 from rfl,makeL]
  rfl
 have hl:layP 200 1 code0 p=⟨[⟨p.abs,0,(p.segs.length:Nat)⟩],gsD 0 p.segs,(flD 200 0 1 (selsOf p.segs)).1,(flD 200 0 1 (selsOf p.segs)).2⟩:=by
  unfold layP code0
  simp
 rw [e]
 constructor
 ·intro h0
  obtain⟨m1,m2⟩:=makeL_cnt 200 4999 (layP 200 1 code0 p) (flW 200 (selsOf p.segs))
  rw [hl] at m1 m2 ⊢
  simp only [List.length_cons,List.length_nil] at m1 m2
  exact⟨by omega,by omega⟩
 ·intro h0
  obtain⟨q1,q2⟩:=k4 h0
  rw [q2,makeL_nil,hl]
  exact⟨rfl,gsD_cnt _ _,k1,by rw [q1];rfl⟩
theorem flt_le (l:List SelT):fltN l≤l.length:=List.countP_le_length
theorem sels_wt (w:ExprT→Nat)(p:PathT):(selsOf p.segs).length+p.segs.length≤wtP w p:=by
 have key:∀l:List SelT,l.length≤(l.map (wtS w)).sum:=fun l=>by
  induction l with
  | nil=>simp
  | cons y r ih=>rw [List.map_cons,List.sum_cons,List.length_cons];unfold wtS at *;omega
 have key2:∀l:List SegT,(selsOf l).length+l.length≤(l.map (wtG w)).sum:=fun l=>by
  induction l with
  | nil=>simp [selsOf]
  | cons s r ih =>
   have:=key s.sels
   rw [List.map_cons,List.sum_cons,List.length_cons]
   unfold selsOf at ih ⊢
   rw [List.flatMap_cons,List.length_append]
   unfold wtG at *
   omega
 have:=key2 p.segs
 unfold wtP
 omega
end
end
/- ref17: sameSel, of any two (printed by gen_ib.py). -/
section
open Go.RowKit
theorem Kp.kept {K:Nat→Prop}{w y:World}(h:Kept [] w y)(hK:∀b,K b→b<w.heap.size→K b):Kp K K w y:=⟨h.1,fun b hb hlt=>⟨hK b hb hlt,h.2 b hlt (by simp)⟩⟩
end
/- ref17: sameSide, sameExpr, of any two (printed by gen_ic.py). -/
section
open Go.RowKit
section
variable  {P:Program}{ops:Array Oper}{dst:Option Tmp}{tt:TypeId}{pos:String}{af:Array Edge}{a:Act}{w0 w:World}{Q:Exit→Act→World→Prop}{X:List Nat}{L:List BlkE}{rs:List RowE}{J:World→Prop}{rest:List Oper}
end
end
/- ref17: Same, of any two (printed by gen_id.py). -/
section
open Go.RowKit
structure SgF where
 d:Bool
 B:Option Addr
 n:Nat
 e:Nat
 u:Nat
 v:Nat
 s:Nat→List Value
structure SgOK (J:World→Prop)(p o N:Nat)(F:Nat→SgF):Prop where
 cell:∀i,i<N→∀y,J y→y.rangeAt p (o+i*2) [.bool (F i).d,.slice (F i).B (F i).n (F i).e]
 cap:∀i,i<N→(F i).n≤9223372036854775807
 addr:∀i,i<N→0<(F i).n→(F i).B=some ⟨(F i).u,(F i).v,none⟩
 len:∀i j,i<N→j<(F i).n→((F i).s j).length=9
 sel:∀i j,i<N→j<(F i).n→∀y,J y→y.rangeAt (F i).u ((F i).v+j*9) ((F i).s j)
theorem SgOK.opened {J:World→Prop}{p o N:Nat}{F:Nat→SgF}(h:SgOK J p o N F){i:Nat}(hi:i<N):∃d B n e u v s,F i=⟨d,B,n,e,u,v,s⟩∧(∀y,J y→y.rangeAt p (o+i*2) [.bool d,.slice B n e])∧n≤9223372036854775807∧(0<n→B=some ⟨u,v,none⟩)∧(∀j,j<n→(s j).length=9)∧∀j,j<n→∀y,J y→y.rangeAt u (v+j*9) (s j) :=
 ⟨_,_,_,_,_,_,_,rfl,h.cell i hi,h.cap i hi,h.addr i hi,fun j=>h.len i j hi,fun j=>h.sel i j hi⟩
end
/- ref17: Same tells whether any two trees are one. -/
section
open Go.RowKit
theorem Kp.kp {K:Nat→Prop}{w y:World}(h:Kept [] w y):Kp K K w y:=⟨h.1,fun b hb hl=>⟨hb,h.2 b hl (by simp)⟩⟩
theorem range_kept {w y:World}(h:Kept [] w y){b o:Nat}{cs:List Value}(hb:b<w.heap.size)(hr:∀(j:Nat) u,cs[j]? = some u→w.cell? ⟨b,o+j,none⟩=some u):y.rangeAt b o cs :=
 fun j v hv=>(World.cell?_of_block (h.2 b hb (by simp))).trans (hr j v hv)
theorem RowG.fn {α:Type}{K:Nat→Prop}{k:Nat}{R:List Value→α→Prop}{w:World}{v:Value}{l:List α}(h:RowG K k R w v l) :
  ∃A c b off,∃f:Nat→List Value,v=.slice A l.length c∧(l.length≤c∧c≤9223372036854775807)∧(0<l.length→A=some ⟨b,off,none⟩)∧∀i x,l[i]? = some x→(f i).length=k∧(∀y,Kept [] w y→y.rangeAt b (off+i*k) (f i))∧R (f i) x:=by
 obtain⟨A,c,rfl,hc,h3⟩:=h
 rcases h3 with rfl|⟨b,off,rfl,hK,hb,hq⟩
 ·exact⟨A,c,0,0,fun _=>[],rfl,hc,fun h=>absurd h (by simp),fun i x h=>by simp at h⟩
 ·have key:∀i:Nat,∃cs:List Value,∀x,l[i]? = some x→cs.length=k∧(∀y,Kept [] w y→y.rangeAt b (off+i*k) cs)∧R cs x:=fun i=>by
   cases hx:l[i]? with
   | none=>exact⟨[],fun x h=>by cases h⟩
   | some x =>
    obtain⟨cs,h1,h2,h3⟩:=hq i x hx
    exact⟨cs,fun y hy=>by cases hy;exact⟨h1,fun y hy=>range_kept hy hb h2,h3⟩⟩
  obtain⟨f,hf⟩:=Classical.axiomOfChoice key
  exact⟨_,c,b,off,f,rfl,hc,fun _=>rfl,hf⟩
theorem SegsG.fn {K:Nat→Prop}{R:List Value→ExprT→Prop}{w:World}{v:Value}{l:List SegT}(h:SegsG K R w v l) :
  ∃A c b off,∃F:Nat→SgF,v=.slice A l.length c∧(l.length≤c∧c≤9223372036854775807)∧(0<l.length→A=some ⟨b,off,none⟩)∧SgOK (Kept [] w) b off l.length F∧∀i x,l[i]? = some x→(F i).d=x.deep∧(F i).n=x.sels.length∧∀j y,x.sels[j]? = some y→SelC K R w ((F i).s j) y:=by
 obtain⟨A,c,b,off,f,rfl,hc,hA,hf⟩:=RowG.fn h
 have key:∀i:Nat,∃X:SgF,∀x,l[i]? = some x→f i=[.bool X.d,.slice X.B X.n X.e]∧X.n≤9223372036854775807∧(0<X.n→X.B=some ⟨X.u,X.v,none⟩)∧(X.d=x.deep∧X.n=x.sels.length)∧∀j y,x.sels[j]? = some y→(X.s j).length=9∧(∀y,Kept [] w y→y.rangeAt X.u (X.v+j*9) (X.s j))∧SelC K R w (X.s j) y:=fun i=>by
  cases hx:l[i]? with
  | none=>exact⟨⟨false,none,0,0,0,0,fun _=>[]⟩,fun x h=>by cases h⟩
  | some x =>
   obtain⟨-,-,sv,e,hr⟩:=hf i x hx
   obtain⟨B,e',u,v,s,rfl,hc',hB,hs⟩:=RowG.fn hr
   exact⟨⟨x.deep,B,x.sels.length,e',u,v,s⟩,fun y hy=>by cases hy;exact⟨e,by simp only;omega,hB,⟨rfl,rfl⟩,hs⟩⟩
 obtain⟨F,hF⟩:=Classical.axiomOfChoice key
 have at_:∀i,i<l.length→∃x,l[i]? = some x:=fun i hi=>⟨_,List.getElem?_eq_getElem hi⟩
 have sat:∀(x:SegT) j,j<x.sels.length→∃y,x.sels[j]? = some y:=fun x j hj=>⟨_,List.getElem?_eq_getElem hj⟩
 refine⟨A,c,b,off,F,rfl,hc,hA,⟨fun i hi y hy=>?_,fun i hi=>?_,fun i hi=>?_,fun i j hi hj=>?_,fun i j hi hj y hy=>?_⟩,fun i x hx=>⟨(hF i x hx).2.2.2.1.1,(hF i x hx).2.2.2.1.2,fun j y hy=>((hF i x hx).2.2.2.2 j y hy).2.2⟩⟩
 ·obtain⟨x,hx⟩:=at_ i hi
  rw [←(hF i x hx).1]
  exact(hf i x hx).2.1 y hy
 ·obtain⟨x,hx⟩:=at_ i hi
  exact(hF i x hx).2.1
 ·obtain⟨x,hx⟩:=at_ i hi
  exact(hF i x hx).2.2.1
 ·obtain⟨x,hx⟩:=at_ i hi
  rw [(hF i x hx).2.2.2.1.2] at hj
  obtain⟨z,hz⟩:=sat x j hj
  exact((hF i x hx).2.2.2.2 j z hz).1
 ·obtain⟨x,hx⟩:=at_ i hi
  rw [(hF i x hx).2.2.2.1.2] at hj
  obtain⟨z,hz⟩:=sat x j hj
  exact((hF i x hx).2.2.2.2 j z hz).2.1 y hy
theorem SegsG.kept {K:Nat→Prop}{n:Nat}{w y:World}{v:Value}{l:List SegT}(h:SegsG K (ExR K n w) w v l)(hy:Kept [] w y):SegsG K (ExR K n y) y v l :=
 SegsG.keep h (Kp.kp hy) fun _ _ h=>ExR.keep (Kp.kp hy) _ _ (Nat.le_refl _) _ _ h
end

end Go.Proofs.YtpcbcodmocmilaaGreatDoor
