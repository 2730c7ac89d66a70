/- NG50: Fb, Ha, Tx, Tp, Hb, Hc, Hd, He, To, Tr, Hf, Rb, Rc, Rd, Fc, Qo, Jf, Je, RowA, RowE joined. -/
import Derived.Lib.ItoaMem
import Derived.Deep.RegionHeld3
import Derived.ProofKit
import Derived.OpenShut
import Derived.ShutString
import Derived.ChangeSame
import Derived.Lay
import Derived.LaidMore
import Derived.Stop.Joined
import Derived.Stop.LaidErr
import Derived.Test.YtjbdcjcfijjiiaaGreatDoorNG49
import Derived.Test.YtjbdcjcfijjiiaaGreatDoorNG31
import Derived.Test.YtjbdcjcfijjiiaaGreatDoorNG04
import Derived.Test.YtjbdcjcfijjiiaaGreatDoorNG12
import Derived.Test.YtjbdcjcfijjiiaaGreatDoorNG39
import Derived.Test.YtjbdcjcfijjiiaaGreatDoorNG42
import Derived.Test.YtjbdcjcfijjiiaaGreatDoorNYp
import Derived.Test.YtjbdcjcfijjiiaaGreatDoorNG36
import Derived.Test.YtjbdcjcfijjiiaaGreatDoorNA0
import Derived.Test.YtjbdcjcfijjiiaaGreatDoorRows
namespace Go.Proofs.YtjbdcjcfijjiiaaGreatDoor
open Go.RowKit
section
section
variable  {E E':Int}{t:PSt}{xs:List TokD}
theorem ne_of_le {s t:PSt}(h:s.toks≠[])(hl:s.toks.length≤t.toks.length):t.toks≠[]:=fun e=>by
 rw [e] at hl
 exact h (List.eq_nil_of_length_eq_zero (by simpa using hl))
end
end
section
open Go.RowKit
theorem Bel.some {W w1:World}(hb:Bel W.heap.size W w1){a:Addr}{v:Value}(h:W.cell? a=some v):w1.cell? a=some v:=by
 by_cases hl:a.block<W.heap.size
 ·exact(hb.cell hl).trans h
 ·exfalso
  have hn:W.heap[a.block]? = none:=Array.getElem?_eq_none (by omega)
  unfold World.cell? at h
  rw [hn] at h
  simp at h
end
section
open Go.RowKit
theorem RowG.at_ {α : Type} {K : Nat → Prop} {k : Nat} {R : List Value → α → Prop} {w : World} {A : Option Addr} {n c : Nat} {l : List α} (h : RowG K k R w (.slice A n c) l) {i : Nat} {x : α} (hx : l[i]? = some x) :
    ∃ b off, ∃ cs : List Value, A = some ⟨b, off, none⟩ ∧ b < w.heap.size ∧ cs.length = k ∧ (∀ (j : Nat) u, cs[j]? = some u → w.cell? ⟨b, off + i * k + j, none⟩ = some u) ∧ R cs x := by
  obtain ⟨A', cap, e1, -, h3⟩ := h
  obtain ⟨b, off, rfl, hK, hb, hc⟩ := h3.resolve_left (by intro e; rw [e] at hx; simp at hx)
  obtain ⟨cs, hl, hcs, hr⟩ := hc i x hx
  exact ⟨b, off, cs, (Value.slice.inj e1).1, hb, hl, hcs, hr⟩
theorem RowG.cap {α:Type}{K:Nat→Prop}{k:Nat}{R:List Value→α→Prop}{w:World}{A:Option Addr}{n c:Nat}{l:List α}(h:RowG K k R w (.slice A n c) l):l.length≤9223372036854775807:=by
 obtain⟨A',cap,e,h2,-⟩:=h
 omega
theorem RowG.sel {K:Nat→Prop}{R:List Value→ExprT→Prop}{w:World}{A:Option Addr}{n c:Nat}{l:List SelT}(h:RowG K 9 (SelC K R w) w (.slice A n c) l){i:Nat}{x:SelT}(hx:l[i]? = some x) :
  ∃b off pv,A=some ⟨b,off,none⟩∧b<w.heap.size∧(w.cell? ⟨b,off+i*9,none⟩=some (.int .i64 x.kind)∧w.cell? ⟨b,off+i*9+1,none⟩=some (.string (bs x.name))∧w.cell? ⟨b,off+i*9+2,none⟩=some (.int .i64 x.index)∧w.cell? ⟨b,off+i*9+3,none⟩=some (.int .i64 x.fr)∧w.cell? ⟨b,off+i*9+4,none⟩=some (.int .i64 x.tt)∧w.cell? ⟨b,off+i*9+5,none⟩=some (.int .i64 x.step)∧w.cell? ⟨b,off+i*9+6,none⟩=some (.bool x.hf)∧w.cell? ⟨b,off+i*9+7,none⟩=some (.bool x.ht)∧w.cell? ⟨b,off+i*9+8,none⟩=some pv)∧PtrG K R w pv x.f:=by
 obtain⟨b,off,cs,rfl,hb,-,hc,pv,rfl,hp⟩:=h.at_ hx
 exact⟨b,off,pv,rfl,hb,⟨hc 0 _ rfl,hc 1 _ rfl,hc 2 _ rfl,hc 3 _ rfl,hc 4 _ rfl,hc 5 _ rfl,hc 6 _ rfl,hc 7 _ rfl,hc 8 _ rfl⟩,hp⟩
end
section
open Go.RowKit
theorem q_ldS {P:Program}{X:List Nat}{w0 w:World}{L:List BlkE}{rs:List RowE}{J:World→Prop}{ops:Array Oper}{rest:List Oper}{a:Act}{Q:Exit→Act→World→Prop}{dst:Option Tmp}{tt:TypeId}{pos:String}{af:Array Edge}{T:TypeId}{n:Nat}{z:Array Value}(F:TyF P T n z){gd:Nat×Bool}{x:Operand}{g:Nat}{T':TypeId}{cs:Array Value}(hw:Region.wanted ⟨dst,.load T x,tt,pos,af,some gd⟩ (yielded ops a.tmps)=true)(hx:a.eval x=.pointer (some ⟨g,0,none⟩))(M:Own X w0 w L rs J)
  (h:wpList P ops Q rest (a.put dst (.agg cs)) w) (hm:(g,T',cs)∈L:=by repeat constructor) (hn:cs.size=n:=by exact rfl):wpList P ops Q (⟨dst,.load T x,tt,pos,af,some gd⟩::rest) a w:=by
 obtain⟨d,hu,hd⟩:=F.u
 exact wpList_step fun _ hK=>by
  rw [if_pos hw]
  exact wp_load_row T x rfl g hx T' cs (0,0) d (M.blk _ hm) hu (by cases d <;> first|rfl|cases hd) (by rw [hn];exact F.s) (hK _ _ h)
end
section
def SameR {α:Type}(a b:α×PSt):Prop:=a.2=b.2∧(a.2.fe=0→a.1=b.1)
theorem SameR.refl {α:Type}(a:α×PSt):SameR a a:=⟨rfl,fun _=>rfl⟩
theorem SameR.map {α β:Type}{a b:α×PSt}(h:SameR a b)(g:α→β):SameR (g a.1,a.2) (g b.1,b.2):=⟨h.1,fun e=>congrArg g (h.2 e)⟩
theorem SameR.post {α:Type}{a b:α×PSt}(h:SameR a b)(u:PSt→PSt)(hu:∀s,s.fe≠0→u s=s):SameR (a.1,u a.2) (b.1,u b.2) :=
 ⟨congrArg u h.1,fun e=>h.2 (Classical.byContradiction fun hs=>by simp only at e;rw [hu _ hs] at e;exact hs e)⟩
theorem SameR.seq {α β γ:Type}{a a':α×PSt}{b b':PSt→β×PSt}(g:α→β→γ)(h1:SameR a a')(h2:∀s,SameR (b s) (b' s))(hb:∀s,s.fe≠0→(b s).2=s):SameR (g a.1 (b a.2).1,(b a.2).2) (g a'.1 (b' a'.2).1,(b' a'.2).2):=by
 obtain⟨x,s⟩:=a
 obtain⟨x',s'⟩:=a'
 obtain⟨e1,e2⟩:=h1
 simp only at e1 e2
 subst e1
 refine⟨(h2 s).1,fun e=>?_⟩
 simp only at e ⊢
 have hs:s.fe=0:=Classical.byContradiction fun hs=>by rw [hb s hs] at e;exact hs e
 rw [e2 hs,(h2 s).2 e]
def Eqp (P P':Nat→PSt→ExprT×PSt):Prop:=∀d t,SameR (P d t) (P' d t)
section
variable  {E:Int}{P P':Nat→PSt→ExprT×PSt}(h:Eqp P P')(d:Nat)
include h
theorem same_selF (t:PSt):SameR (selF E P d t) (selF E P' d t):=by
 unfold selF
 have k:=h (d+1) (openS E d t)
 split
 ·exact .refl _
 split
 ·exact .refl _
 split
 ·exact k.map fun x=>(⟨4,[],0,0,0,0,false,false,some x⟩:SelT)
 exact .refl _
theorem same_selsL :∀(f:Nat) (t:PSt),SameR (selsL E P d f t) (selsL E P' d f t)
 | 0,_=>.refl _
 | f+1,t=>by
  rw [selsL,selsL]
  split
  ·exact SameR.seq (fun x l=>x::l) (same_selF h d (nextS E t)) (fun s=>same_selsL f s) (fun s hs=>by rw [selsL_bad f hs])
  ·exact .refl _
theorem same_selsF (t:PSt):SameR (selsF E P d t) (selsF E P' d t):=by
 unfold selsF
 exact(SameR.seq (fun x l=>x::l) (same_selF h d (mustS E [91] t)) (b:=fun s=>selsL E P d s.toks.length s) (b':=fun s=>selsL E P' d s.toks.length s) (fun s=>same_selsL h d _ s) (fun s hs=>by rw [selsL_bad _ hs])).post (mustS E [93]) fun s hs=>must_bad _ hs
theorem same_dotF (dp:Bool)(t:PSt):SameR (dotF E P d dp t) (dotF E P' d dp t):=by
 unfold dotF
 split
 ·exact(same_selsF h d t).map fun l=>(⟨dp,l⟩:SegT)
 ·exact .refl _
theorem same_segF (t:PSt):SameR (segF E P d t) (segF E P' d t):=by
 unfold segF
 split
 ·exact(same_selsF h d t).map fun l=>(⟨false,l⟩:SegT)
 ·exact same_dotF h d _ _
theorem same_segsL :∀(f:Nat) (t:PSt),SameR (segsL E P d f t) (segsL E P' d f t)
 | 0,_=>.refl _
 | f+1,t=>by
  rw [segsL,segsL]
  split
  ·exact SameR.seq (fun x l=>x::l) (same_segF h d t) (fun s=>same_segsL f s) (fun s hs=>by rw [segsL_bad f hs])
  ·exact .refl _
theorem same_pathF (t:PSt):SameR (pathF E P d t) (pathF E P' d t):=by
 unfold pathF
 exact(same_segsL h d _ _).map fun l=>(⟨isS [36] t,l⟩:PathT)
theorem same_sideF (t:PSt):SameR (sideF E P d t) (sideF E P' d t):=by
 unfold sideF
 split
 ·exact(same_pathF h d t).map fun p=>(⟨false,0,0,[],p⟩:SideT)
 ·exact .refl _
theorem same_cmp2 (a:SideT)(t:PSt):SameR (cmp2 E P d a t) (cmp2 E P' d a t):=by
 unfold cmp2
 split
 ·exact .refl _
 ·obtain⟨e1,e2⟩:=same_sideF (E:=E) h d (nextS E t)
  by_cases hs:(sideF E P d (nextS E t)).2.fe=0
  ·rw [e2 hs,e1]
   exact .refl _
  ·have hs':=hs
   rw [e1] at hs'
   have k:∀(b:Bool) (s:PSt),s.fe≠0→(if b=true then failS (atS E t) 8 s else s)=s:=fun b s hs=>by
    cases b
    ·rfl
    ·rw [if_pos rfl,failS_bad hs]
   refine⟨?_,fun e=>?_⟩
   ·simp only
    rw [k _ _ hs,k _ _ hs',e1]
   ·simp only at e
    rw [k _ _ hs] at e
    exact absurd e hs
theorem same_cmpF (t:PSt):SameR (cmpF E P d t) (cmpF E P' d t):=by
 unfold cmpF
 obtain⟨e1,e2⟩:=same_sideF (E:=E) h d t
 by_cases hs:(sideF E P d t).2.fe=0
 ·rw [e2 hs,e1]
  exact same_cmp2 h d _ _
 ·have hs':=hs
  rw [e1] at hs'
  rw [cmp2_bad _ hs,cmp2_bad _ hs',e1]
  exact⟨rfl,fun e=>absurd e hs'⟩
theorem same_roundF (t:PSt):SameR (roundF E P d t) (roundF E P' d t):=by
 unfold roundF
 exact(h (d+1) (openS E d t)).post (mustS E [41]) fun s hs=>must_bad _ hs
theorem same_notF (m m':Bool)(t:PSt):SameR (notF m E P d t) (notF m' E P' d t):=by
 unfold notF
 split
 ·exact(same_roundF h d t).map fun x=>mkE 2 [x]
 split
 ·exact(same_pathF h d t).map fun p=>mkE 2 [tstE p]
 ·exact⟨rfl,fun e=>absurd e (formS_fe E t)⟩
theorem same_oneF (m m':Bool)(t:PSt):SameR (oneF m E P d t) (oneF m' E P' d t):=by
 unfold oneF
 split
 ·exact same_notF h (d+1) m m' _
 split
 ·exact same_roundF h d t
 ·exact same_cmpF h d t
end
theorem same_listL {E:Int}{sg:List UInt8}{F F':PSt→ExprT×PSt}(h:∀t,SameR (F t) (F' t)):∀(f:Nat) (t:PSt),SameR (listL E sg F f t) (listL E sg F' f t)
 | 0,_=>.refl _
 | f+1,t=>by
  rw [listL,listL]
  split
  ·exact SameR.seq (fun x l=>x::l) (h (nextS E t)) (fun s=>same_listL h f s) (fun s hs=>by rw [listL_bad f hs])
  ·exact .refl _
theorem same_listF {E:Int}{sg:List UInt8}{k:Int}{F F':PSt→ExprT×PSt}(h:∀t,SameR (F t) (F' t))(t:PSt):SameR (listF E sg k F t) (listF E sg k F' t):=by
 unfold listF
 exact SameR.seq (joinE k) (h t) (b:=fun s=>listL E sg F s.toks.length s) (b':=fun s=>listL E sg F' s.toks.length s) (fun s=>same_listL h _ s) (fun s hs=>by rw [listL_bad _ hs])
theorem same_orF {E:Int}{P P':Nat→PSt→ExprT×PSt}(h:Eqp P P')(m m':Bool):Eqp (orF m E P) (orF m' E P'):=fun d t=>same_listF (fun t=>same_listF (fun t=>same_oneF h d m m' t) t) t
theorem same_orS (m m':Bool)(E:Int):∀n,Eqp (orS m E n) (orS m' E n)
 | 0=>fun _ _=>.refl _
 | n+1=>same_orF (same_orS m m' E n) m m'
theorem same_parse2 (m m':Bool)(E:Int)(t:PSt):parse2 m E t=parse2 m' E t:=by
 obtain⟨e1,e2⟩:=same_pathF (E:=E) (same_orS m m' E 34) 0 (if isS [36] t then t else formS E t)
 have f1:(parse1 m E t).2=(parse1 m' E t).2:=e1
 have f2:(parse1 m E t).2.fe=0→(parse1 m E t).1=(parse1 m' E t).1:=e2
 unfold parse2
 rw [←f1]
 by_cases h0:(parse1 m E t).2.fe=0
 ·rw [f2 h0]
 ·have hov:ovS (parse1 m E t).2=true:=by unfold ovS;rw [bne_iff_ne.2 h0];rfl
  rw [if_pos hov,if_neg h0,if_neg h0]
theorem parse_same (l:List UInt8):parseT true l=parseT false l:=same_parse2 true false _ _
end
section
open Go.RowKit
theorem rparsec_ok {s:ByteArray}{p:PathT}(w:World)(hs:s.size≤4096)(h:parseT true s.data.toList=.ok p):Calls Tryz.prog 8 #[.string s] w fun e w'=>∃m A c,e=.returned (.tuple #[.agg #[.bool p.abs,.slice A p.segs.length c],.agg #[.int .i64 0,.int .i64 0]])∧SegsG (Fr w) (ExR (Fr w) m w') w' (.slice A p.segs.length c) p.segs∧Bel w.heap.size w w':=by
 have:=rparse_any s w hs
 unfold RParseP at this
 rw [←parse_same,h] at this
 refine this.mono ?_
 rintro e w' ⟨⟨m,A,c,rfl,hr⟩,hb⟩
 exact⟨m,A,c,rfl,hr,hb⟩
theorem rparsec_err {s:ByteArray}{x a:Int}(w:World)(hs:s.size≤4096)(h:parseT true s.data.toList=.error (x,a)):Calls Tryz.prog 8 #[.string s] w fun e w'=>e=.returned (.tuple #[.agg #[.bool false,.slice none 0 0],.agg #[.int .i64 x,.int .i64 a]])∧Bel w.heap.size w w':=by
 have:=rparse_any s w hs
 unfold RParseP at this
 rw [←parse_same,h] at this
 exact this
end
section
open Go.RowKit
set_option maxRecDepth 100000
set_option maxHeartbeats 2000000
theorem rqueryc_err {s:ByteArray}{x a:Int}(w:World)(hs:s.size≤1000)(h:parseT true s.data.toList=.error (x,a)):Calls Tryz.prog 6 #[.string s] w fun e w'=>e=.returned (.tuple #[.agg #[.slice none 0 0,.slice none 0 0,.slice none 0 0,.slice none 0 0],.agg #[.int .i64 x,.int .i64 a]])∧Bel w.heap.size w w':=by
 have:=rquery_any s w hs
 unfold RQueryP at this
 rw [←parse_same,h] at this
 exact this
theorem rqueryc_ok {s:ByteArray}{p:PathT}(w:World)(hs:s.size≤1000)(h:parseT true s.data.toList=.ok p):Calls Tryz.prog 6 #[.string s] w fun e w'=>∃(A1 A2 A3 A4:Option Addr) (k1 k2 k3 k4:Nat),e=.returned (.tuple #[.agg #[.slice A1 (codeT p).ps.length k1,.slice A2 (codeT p).gs.length k2,.slice A3 (codeT p).ss.length k3,.slice A4 (codeT p).is.length k4],.agg #[.int .i64 0,.int .i64 0]])∧CRd w' (codeT p) A1 A2 A3 A4∧(FrA w A1∧FrA w A2∧FrA w A3∧FrA w A4)∧((codeT p).gs.length≤k2∧(codeT p).ss.length≤k3)∧Bel w.heap.size w w':=by
 have:=rquery_any s w hs
 unfold RQueryP at this
 rw [←parse_same,h] at this
 exact this
theorem rsame19_nil (w:World):Calls Tryz.prog 7 #[.agg #[.slice none 0 0,.slice none 0 0,.slice none 0 0,.slice none 0 0],.agg #[.slice none 0 0,.slice none 0 0,.slice none 0 0,.slice none 0 0]] w fun e w'=>e=.returned (.bool true)∧Bel w.heap.size w w':=by
 have hr:∀k,Rdd w k none 0 []:=fun k=>⟨by simp,fun h=>absurd h (by omega)⟩
 have hc:CRd w code0 none none none none:=⟨hr 3,hr 3,hr 8,hr 7⟩
 have hn:∀a:Addr,(none:Option Addr)=some a→a.spot=none:=fun a e=>by cases e
 exact rsame19_one code0 none none none none none none none none 0 0 0 0 0 0 0 0 w hc hc ⟨hn,hn,hn,hn⟩ ⟨hn,hn,hn,hn⟩ (by decide)
theorem cmk_len (s:ByteArray)(w:World)(h1:400<s.size):Calls Tryz.prog 3 #[.string s] w fun e w'=>e=.returned (.bool true)∧Bel w.heap.size w w':=by
 have M:=hH (Own.start [] w (fun _=>True) fun _ _=>trivial)
 have h1i:(400:Int)<(s.size:Int):=by omega
 go_enter Tryz.func3, Tryz.ntmps3
 go_wp2_with (go_at_call 4;(with_reducible refine(awake19 _).mono ?_);rintro e w' ⟨rfl,hb⟩;replace M:=hH (M.out.bel hb);clear hb)
 go_ret
 exact⟨by simp,M.out.bel0⟩
theorem cmk_err (s:ByteArray)(w:World)(h1:s.size≤400)(x a:Int)(hp:parseT true s.data.toList=.error (x,a)):Calls Tryz.prog 3 #[.string s] w fun e w'=>e=.returned (.bool true)∧Bel w.heap.size w w':=by
 have M:=hH (Own.start [] w (fun _=>True) fun _ _=>trivial)
 have hx:(x != 0)=true:=by simpa using err_ne hp
 have HP:=hH hp
 clear hp
 go_enter Tryz.func3, Tryz.ntmps3
 go_upto_region 8 with(first|(with_reducible first|(refine l_al (d:=3) F_Code M.out ?_;clear M;intro g3 w' hg3 M)|(refine l_al (d:=4) F_Flq M.out ?_;clear M;intro g4 w' hg4 M)|(refine l_al (d:=5) F_Code M.out ?_;clear M;intro g5 w' hg5 M)|(refine l_al (d:=6) F_Flq M.out ?_;clear M;intro g6 w' hg6 M)|(refine l_al (d:=7) F_Path M.out ?_;clear M;intro g7 w' hg7 M)|(refine l_al (d:=8) F_Flq M.out ?_;clear M;intro g8 w' hg8 M)|(refine l_st F_Path M.out ?_;clear M;intro w' M)|(refine l_st F_Flq M.out ?_;clear M;intro w' M)|(refine l_st F_Code M.out ?_;clear M;intro w' M)|refine l_ld1 O_ern M.out ?_|refine l_ld F_Flq M.out ?_)|(go_at_call 4;(with_reducible refine(awake19 _).mono ?_);rintro e w' ⟨rfl,hb⟩;replace M:=hH (M.out.bel hb);clear hb)|((with_reducible refine q_gl 28 ?_);refine q_ldS F_Code rfl rfl M.out ?_)|(go_at_call 5;(with_reducible refine(queryc_err (s:=s) _ (by omega) HP.out).mono ?_);rintro e w' ⟨rfl,hb⟩;replace M:=hH (M.out.bel hb);clear hb)|(go_at_call 6;(with_reducible refine(rqueryc_err (s:=s) _ (by omega) HP.out).mono ?_);rintro e w' ⟨rfl,hb⟩;replace M:=hH (M.out.bel hb);clear hb)|(go_at_call 8;(with_reducible refine(rparsec_err (s:=s) _ (by omega) HP.out).mono ?_);rintro e w' ⟨rfl,hb⟩;replace M:=hH (M.out.bel hb);clear hb)|(go_at_call 7;(with_reducible refine(rsame19_nil _).mono ?_);rintro e w' ⟨rfl,hb⟩;replace M:=hH (M.out.bel hb);clear hb))
 replace M:=hH (M.out.freeze.freeze.freeze.freeze.freeze.freeze.imp (J':=fun y=>True∧Blk y g8 31 #[.int .i64 x,.int .i64 a]) fun y h=>⟨trivial,h.1.1.1.1.1.2⟩)
 replace M:=hH M.out.drew
 refine tbh (fun y=>True∧Blk y g8 31 #[.int .i64 x,.int .i64 a]) M.out.now fun hS=>?_
 refine tkp 0 rfl hS ?_
 refine tk 1 rfl hS (y_ld1 O_ern _ g8 0 rfl _ _ (fun y h=>h.2) _ rfl) ?_
 refine tkp 2 rfl hS ?_
 refine tkp 3 rfl hS ?_
 refine tk 4 rfl hS (q_no rfl) ?_
 refine tk 5 rfl hS (q_no rfl) ?_
 refine tk 6 rfl hS (q_no rfl) ?_
 refine tk 7 rfl hS (q_no rfl) ?_
 refine tkp 8 rfl hS ?_
 refine tkp 9 rfl hS ?_
 refine te ?_
 go_wp2
 go_ret
 exact⟨by simp,M.out.bel0⟩
theorem cmk_ok (s:ByteArray)(w:World)(h1:s.size≤400)(p:PathT)(hp:parseT true s.data.toList=.ok p):Calls Tryz.prog 3 #[.string s] w fun e w'=>e=.returned (.bool true)∧Bel w.heap.size w w':=by
 have M:=hH (Own.start [] w (fun _=>True) fun _ _=>trivial)
 obtain⟨a1,a2,-⟩:=parse_wf hp
 have hl:s.data.toList.length≤400:=by rw [len_toList];exact h1
 have HWF:=hH a1
 have HWT:=hH (show wtP (wtN 200) p≤4000 by omega)
 have HSZ:=hH (show (codeT p).ps.length+(codeT p).gs.length+(codeT p).ss.length+(codeT p).is.length≤9000000000 by
  obtain⟨_,_,_,h,_⟩:=code_good a1 (by omega)
  unfold szC at h
  omega)
 have HP:=hH hp
 clear hp a1 a2 hl
 go_enter Tryz.func3, Tryz.ntmps3
 go_upto_region 8 with(first|(with_reducible first|(refine l_al (d:=3) F_Code M.out ?_;clear M;intro g3 w' hg3 M)|(refine l_al (d:=4) F_Flq M.out ?_;clear M;intro g4 w' hg4 M)|(refine l_al (d:=5) F_Code M.out ?_;clear M;intro g5 w' hg5 M)|(refine l_al (d:=6) F_Flq M.out ?_;clear M;intro g6 w' hg6 M)|(refine l_al (d:=7) F_Path M.out ?_;clear M;intro g7 w' hg7 M)|(refine l_al (d:=8) F_Flq M.out ?_;clear M;intro g8 w' hg8 M)|(refine l_st F_Path M.out ?_;clear M;intro w' M)|(refine l_st F_Flq M.out ?_;clear M;intro w' M)|(refine l_st F_Code M.out ?_;clear M;intro w' M)|refine l_ld1 O_ern M.out ?_|refine l_ld F_Flq M.out ?_)|(go_at_call 4;(with_reducible refine(awake19 _).mono ?_);rintro e w' ⟨rfl,hb⟩;replace M:=hH (M.out.bel hb);clear hb)|((with_reducible refine q_gl 28 ?_);refine q_ldS F_Code rfl rfl M.out ?_)|(go_at_call 5;(with_reducible refine(queryc_ok (s:=s) (p:=p) _ (by omega) HP.out HWT.out).mono ?_);rintro e w' ⟨A1,A2,A3,A4,k1,k2,k3,k4,rfl,hcr,⟨f1,f2,f3,f4⟩,-,hb⟩;have HFA:=hH (show (∀a,A1=some a→a.spot=none)∧(∀a,A2=some a→a.spot=none)∧(∀a,A3=some a→a.spot=none)∧(∀a,A4=some a→a.spot=none) from⟨fun a e=>(f1 a e).2,fun a e=>(f2 a e).2,fun a e=>(f3 a e).2,fun a e=>(f4 a e).2⟩);have Mn:=M.out.addC hb hcr f1 f2 f3 f4;replace M:=hH Mn;clear Mn hb hcr f1 f2 f3 f4)|(go_at_call 6;(with_reducible refine(rqueryc_ok (s:=s) (p:=p) _ (by omega) HP.out).mono ?_);rintro e w' ⟨B1,B2,B3,B4,r1,r2,r3,r4,rfl,hcr,⟨f1,f2,f3,f4⟩,-,hb⟩;have HFB:=hH (show (∀a,B1=some a→a.spot=none)∧(∀a,B2=some a→a.spot=none)∧(∀a,B3=some a→a.spot=none)∧(∀a,B4=some a→a.spot=none) from⟨fun a e=>(f1 a e).2,fun a e=>(f2 a e).2,fun a e=>(f3 a e).2,fun a e=>(f4 a e).2⟩);have Mn:=M.out.addC hb hcr f1 f2 f3 f4;replace M:=hH Mn;clear Mn hb hcr f1 f2 f3 f4)|(go_at_call 8;(with_reducible refine(rparsec_ok (s:=s) _ (by omega) HP.out).mono ?_);rintro e w' ⟨m,A,c,rfl,hsg,hb⟩;have Mn:=M.out.addK (G:=fun K y=>SegsG K (ExR K m y) y (.slice A p.segs.length c) p.segs) (fun h hk=>SegsG.keep h hk fun _ _ h=>ExR.keep hk m m (Nat.le_refl _) _ _ h) hb hsg;replace M:=hH Mn;clear Mn hb hsg)|(go_at_call 7;(with_reducible refine(rsame19_one (codeT p) A1 A2 A3 A4 B1 B2 B3 B4 k1 k2 k3 k4 r1 r2 r3 r4 _ M.out.now.1.2 M.out.now.2 HFA.out HFB.out HSZ.out).mono ?_);rintro e w' ⟨rfl,hb⟩;replace M:=hH (M.out.bel hb);clear hb))
 replace M:=hH (M.out.freeze.freeze.freeze.freeze.freeze.freeze.imp (J':=fun y=>((CRd y (codeT p) B1 B2 B3 B4∧SegsG (Fr w) (ExR (Fr w) m y) y (.slice A p.segs.length c) p.segs)∧Blk y g8 31 #[.int .i64 0,.int .i64 0])∧Blk y g7 37 #[.bool p.abs,.slice A p.segs.length c]∧Blk y g5 28 #[.slice B1 (codeT p).ps.length r1,.slice B2 (codeT p).gs.length r2,.slice B3 (codeT p).ss.length r3,.slice B4 (codeT p).is.length r4]) fun y h=>⟨⟨⟨h.1.1.1.1.1.1.1.2,h.1.1.1.1.1.1.2⟩,h.1.1.1.1.1.2⟩,h.1.1.1.1.2,h.1.1.2⟩)
 replace M:=hH M.out.drew
 refine tbh (fun y=>((CRd y (codeT p) B1 B2 B3 B4∧SegsG (Fr w) (ExR (Fr w) m y) y (.slice A p.segs.length c) p.segs)∧Blk y g8 31 #[.int .i64 0,.int .i64 0])∧Blk y g7 37 #[.bool p.abs,.slice A p.segs.length c]∧Blk y g5 28 #[.slice B1 (codeT p).ps.length r1,.slice B2 (codeT p).gs.length r2,.slice B3 (codeT p).ss.length r3,.slice B4 (codeT p).is.length r4]) M.out.now fun hS=>?_
 refine tkp 0 rfl hS ?_
 refine tk 1 rfl hS (y_ld1 O_ern _ g8 0 rfl _ _ (fun y h=>h.1.2) _ rfl) ?_
 refine tkp 2 rfl hS ?_
 refine tkp 3 rfl hS ?_
 refine tk 4 rfl hS (q_ldG F_Path _ g7 rfl _ _ (fun y h=>h.2.1) rfl) ?_
 refine tk 6 rfl hS (q_ldG F_Code _ g5 rfl _ _ (fun y h=>h.2.2) rfl) ?_
 refine tr [5] ?_
 refine q_callg (make_any (fun _=>True) p (.slice A p.segs.length c) _ (tree_of_segs M.out.now.1.1.2) HWF.out (Nat.le_trans HWT.out (by decide))) (i:=5) (op:=.call _) rfl rfl ?_
 rintro e_ w' ⟨C1,C2,C3,C4,l1,l2,l3,l4,rfl,hcr,⟨f1,f2,f3,f4⟩,-,hb⟩;have HFC:=hH (show (∀a,C1=some a→a.spot=none)∧(∀a,C2=some a→a.spot=none)∧(∀a,C3=some a→a.spot=none)∧(∀a,C4=some a→a.spot=none) from⟨fun a e=>(f1 a e).2,fun a e=>(f2 a e).2,fun a e=>(f3 a e).2,fun a e=>(f4 a e).2⟩);have Mn:=M.out.addC hb hcr f1 f2 f3 f4;replace M:=hH Mn;clear Mn hb hcr f1 f2 f3 f4;refine⟨_,rfl,?_⟩;refine an M.out.now.1 fun hS=>tn ?_
 refine tr [7] ?_
 refine q_callg (rsame19_one (codeT p) C1 C2 C3 C4 B1 B2 B3 B4 l1 l2 l3 l4 r1 r2 r3 r4 _ M.out.now.2 M.out.now.1.1.1.1 HFC.out HFB.out HSZ.out) (i:=7) (op:=.call _) rfl rfl ?_
 rintro e_ w' ⟨rfl,hb⟩;replace M:=hH (M.out.bel hb);clear hb;refine⟨_,rfl,?_⟩;refine an M.out.now.1 fun hS=>tn ?_
 refine tkp 8 rfl hS ?_
 refine tkp 9 rfl hS ?_
 refine te ?_
 go_wp2
 go_ret
 exact⟨by simp,M.out.bel0⟩
theorem cmk_any (s:ByteArray)(w:World)(_:s.size≤maxLen):Calls Tryz.prog 3 #[.string s] w fun e w'=>e=.returned (.bool true)∧Bel w.heap.size w w':=by
 by_cases h1:s.size≤400
 ·cases hp:parseT true s.data.toList with
  | error x=>exact cmk_err s w h1 x.1 x.2 hp
  | ok p=>exact cmk_ok s w h1 p hp
 ·exact cmk_len s w (by omega)
end
section
open Go.RowKit Go.WideShapes Go.ChangeShapes
theorem Bel.frame {W W':World}(h:Bel W.heap.size W W')(may:MemPlace→Prop):W.keptBut W' may:=by
 refine⟨h.os,h.output,fun i hi=>?_⟩
 rw [h.block i hi]
 split <;> simp_all
section
variable  {H:Type}{enc:TypeId×Value→H}{P:Program}
theorem post_of_bel {f:Func}{s:ChangeSpec}{apart fresh handsOn again:Bool}{W W':World}{args:Array Value}{v:Value}{ds gs:List (DataW H)}{before pa pv:List MemPlace}
  (hW:DataW.Whole enc P f.params.toList s.vars apart W args.toList ds gs before)
  (hres:∀(b:Nat) (sp:Nat→Bool) (hd:Bool),DataW.TrodAll enc P W' b sp hd f.resultTypes.toList (v.resultList f.resultTypes.size) (s.fn H (ds++gs)).results [])
  (hargs:∀sp:Nat→Bool,(∀p∈before,sp p.block=true)→DataW.TrodAll enc P W' 0 sp true f.params.toList args.toList (s.fn H (ds++gs)).args pa)
  (hvars:∀sp:Nat→Bool,(∀p∈before,sp p.block=true)→DataW.TrodVars enc P W' sp s.vars (s.fn H (ds++gs)).vars pv)
  (hps:before=pa++pv) (hb:Bel W.heap.size W W')
  (hok:∀(j:Nat) (t:TypeId) (r:Value),f.resultTypes[j]? = some t→(v.resultList f.resultTypes.size)[j]? = some r→Value.okWide P W' .any 0 t r) :
  s.post enc P f apart fresh handsOn again W args v W':=by
 have hlt:∀p∈before,p.block<W.heap.size:=fun p hp=>hW.lt p hp
 have hold:∀p∈before,(fun b=>decide (b<W.heap.size)) p.block=true:=fun p hp=>by simpa using hlt p hp
 refine⟨ds,gs,before,[],pa,pv,hW,hres _ _ _,hargs _ hold,hvars _ hold,World.keptBut_mono (fun p hp=>⟨hp,?_⟩) (hb.frame (·∈before)),fun _=>?_⟩
 ·rw [hps,List.mem_append] at hp
  exact Or.inr hp
 ·obtain⟨_,_,_,_,_,hz,hn⟩:=hW
  refine⟨hok,_,_,([]++pa)++pv,⟨[]++pa,pv,trodAll_append (hargs _ (fun _ _=>rfl)) (hres _ _ _),hvars _ (fun _ _=>rfl),rfl,?_,?_⟩,?_⟩
  ·intro b off hp
   have hin:MemPlace.cell b off∈before:=by rw [hps];simpa using hp
   rw [hb.frozen (hlt _ hin)]
   exact hz b off hin
  ·intro ha
   have:=hn ha
   rw [hps] at this
   simpa using this
  ·intro p hp _
   rw [hps]
   simpa using hp
end
theorem own :ownKnob Tryz.prog.godebug=none:=by kernel_rfl
end
section
open Go.ChangeShapes Go.WideShapes Go.ChangeAt Go.RowKit
def laid2 :List (String×DataW Unit):=[("unicode/utf8.acceptRanges",Rows.laid_unicode_utf8_acceptRanges),("unicode/utf8.first",Rows.laid_unicode_utf8_first)]
theorem door_met (os:Os)(args:Array Value):laidMetH Tryz.prog laid2 ((World.laidAll Tryz.prog os laid2).forCall (fun _ _=>0) ⟨#[],args,[]⟩).memory:=by
 rw [MakeChecks.laidMetH_plain _ _ _ (by kernel_rfl)]
 exact laidMet_laidAll _ (by kernel_rfl) (by kernel_rfl)
theorem door_shaped (os:Os):(World.laidAll Tryz.prog os laid2).Shaped Tryz.prog:=World.shaped_of_ZipB (by kernel_rfl) (by kernel_rfl)
end

end Go.Proofs.YtjbdcjcfijjiiaaGreatDoor
