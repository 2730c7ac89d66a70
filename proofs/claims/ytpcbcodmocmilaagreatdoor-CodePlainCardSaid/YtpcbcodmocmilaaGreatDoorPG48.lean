/- PG48: Ra, Zh, Zk, Sa, Sb, Sc, Sd, Zl, Zm, Zn, Zo, Zp, Fa, Ja, Fb, Ha, Tx, Tp, Hb, Hc, Hd joined. -/
import Derived.Lib.ItoaNum
import Derived.Lib.ItoaLen
import Derived.Lib.UnsafeStr
import Derived.Shelf.RegionOpen
import Derived.Lib.ItoaMem
import Derived.Test.YtpcbcodmocmilaaGreatDoorPQz
import Derived.Test.YtpcbcodmocmilaaGreatDoorPG47
import Derived.Test.YtpcbcodmocmilaaGreatDoorPG34
import Derived.Test.YtpcbcodmocmilaaGreatDoorPG44
import Derived.Test.YtpcbcodmocmilaaGreatDoorPOz
import Derived.Test.YtpcbcodmocmilaaGreatDoorPG01
import Derived.Test.YtpcbcodmocmilaaGreatDoorPG13
import Derived.Test.YtpcbcodmocmilaaGreatDoorPG03
import Derived.Test.YtpcbcodmocmilaaGreatDoorPG05
import Derived.Test.YtpcbcodmocmilaaGreatDoorPG19
import Derived.Test.YtpcbcodmocmilaaGreatDoorShq
import Derived.Test.YtpcbcodmocmilaaGreatDoorPG14
import Derived.Test.YtpcbcodmocmilaaGreatDoorPG28
namespace Go.Proofs.YtpcbcodmocmilaaGreatDoor
open Go.RowKit
/- qtree: Parse, all of it. -/
section
open Go.RowKit
theorem lexq_any (s:ByteArray)(w:World)(hs:s.size≤1000000) :
  Calls Tryz.prog 29 #[.string s] w (LexQ s.data.toList w):=by
 refine(lex_any s w hs).mono ?_
 intro e w' h
 unfold LexP at h
 unfold LexQ stOf
 have ho:=lex_order s.data.toList
 cases hl:lexL s.data.toList with
 | error x =>
  obtain⟨x,a⟩:=x
  rw [hl] at h
  exact⟨none,0,h.1,⟨Nat.le_refl _,by omega,Nat.zero_le _⟩,.inl rfl,h.2⟩
 | ok toks =>
  rw [hl] at h ho
  obtain⟨⟨v,rfl,hv⟩,hb⟩:=h
  have hlen:toks.length≤1000000:=by
   have h1:=ordL_len toks 0 ho.1
   rw [len_toList] at h1
   omega
  obtain⟨A,cap,e1,hc,ht⟩:=tok_own hv rfl
  have hcap:cap≤9223372036854775807:=by
   rcases hv.2 with⟨e2,_⟩|⟨gg,cap',cur,e2,_,_,_,hm,_⟩
   ·rw [e1] at e2
    have:=(Value.slice.inj e2).2.2
    omega
   ·rw [e1] at e2
    have:=(Value.slice.inj e2).2.2
    unfold maxLen at hm
    omega
  subst e1
  exact⟨A,cap,rfl,⟨hc,hcap,hlen⟩,ht,hb⟩
theorem parse_any (s:ByteArray)(w:World)(hs:s.size≤1000000):Calls Tryz.prog 17 #[.string s] w (ParseP s.data.toList w) :=
 parse_of s w fun w=>lexq_any s w hs
end
/- code: Query (printed by gen_zh.py). -/
section
open Go.RowKit
set_option maxRecDepth 100000
set_option maxHeartbeats 2000000
def CQueryP (l:List UInt8)(w:World)(e:Ending)(w':World):Prop :=
 match parseT true l with
 | .error (x,a)=>e=.returned (.tuple #[.agg #[.slice none 0 0,.slice none 0 0,.slice none 0 0,.slice none 0 0],.agg #[.int .i64 x,.int .i64 a]])∧Bel w.heap.size w w'
 | .ok p=>∃(A1 A2 A3 A4:Option Addr) (k1 k2 k3 k4:Nat),e=.returned (.tuple #[.agg #[.slice A1 (codeT p).ps.length k1,.slice A2 (codeT p).gs.length k2,.slice A3 (codeT p).ss.length k3,.slice A4 (codeT p).is.length k4],.agg #[.int .i64 0,.int .i64 0]])∧
  CRd w' (codeT p) A1 A2 A3 A4∧(FrA w A1∧FrA w A2∧FrA w A3∧FrA w A4)∧((codeT p).gs.length≤k2∧(codeT p).ss.length≤k3)∧Bel w.heap.size w w'
theorem tree_of_segs {w y:World}{m:Nat}{p:PathT}{A:Option Addr}{c:Nat}(h:SegsG (Fr w) (ExR (Fr w) m y) y (.slice A p.segs.length c) p.segs):TreeV y (p,.slice A p.segs.length c) :=
 SegsG.tree (p:=p) (SegsG.keep (K':=Lw y) (R':=ExR (Lw y) m y) h ⟨Nat.le_refl _,fun _ _ hb=>⟨hb,rfl⟩⟩ fun cs x hx=>ExR.keep ⟨Nat.le_refl _,fun _ _ hb=>⟨hb,rfl⟩⟩ m m (Nat.le_refl _) cs x hx)
theorem Own.addC {X:List Nat}{w0 w w':World}{L:List BlkE}{rs:List RowE}{J:World→Prop}{A1 A2 A3 A4:Option Addr}{c:CodeD}(M:Own X w0 w L rs J)(hb:Bel w.heap.size w w')(h:CRd w' c A1 A2 A3 A4)(f1:FrA w A1)(f2:FrA w A2)(f3:FrA w A3)(f4:FrA w A4):Own X w0 w' L rs (fun y=>J y∧CRd y c A1 A2 A3 A4) :=
 (M.bel hb).add fun _ hy =>
  have key:∀{k n:Nat} {A:Option Addr} {xs:List Value},Rdd w' k A n xs→FrA w A→Rdd _ k A n xs:=fun h hf=>h.kept hy fun a e _ hm=>Nat.lt_irrefl _ (Nat.lt_of_lt_of_le (M.ex_lt hm) (hf a e).1)
  ⟨key h.p f1,key h.g f2,key h.s f3,key h.i f4⟩
theorem query_errP (s:ByteArray)(w:World)(x a:Int)(hxb:(x != 0)=true)(hP:∀w,Calls Tryz.prog 17 #[.string s] w fun e w'=>e=.returned (.tuple #[.agg #[.bool false,.slice none 0 0],.agg #[.int .i64 x,.int .i64 a]])∧Bel w.heap.size w w'):Calls Tryz.prog 11 #[.string s] w fun e w'=>e=.returned (.tuple #[.agg #[.slice none 0 0,.slice none 0 0,.slice none 0 0,.slice none 0 0],.agg #[.int .i64 x,.int .i64 a]])∧Bel w.heap.size w w':=by
 have M:=hH (Own.start [] w (fun _=>True) fun _ _=>trivial)
 have HP:=hH hP
 clear hP
 go_enter Tryz.func11, Tryz.ntmps11
 generalize hQ:bodyPost Tryz.prog Tryz.f11 _=Q
 have HQ:=hH hQ;clear hQ
 let qd:=bodyPost Tryz.prog Tryz.f11 (fun _ _=>True)
 go_upto_region 3 with(first|((with_reducible refine g_al 28 2 ?_);refine l_al F_Code M.out ?_;clear M;intro g2 w' hg2 M)|((with_reducible refine g_al 31 3 ?_);refine l_al F_Flt M.out ?_;clear M;intro g3 w' hg3 M)|((with_reducible refine g_al 37 4 ?_);refine l_al F_Path M.out ?_;clear M;intro g4 w' hg4 M)|((with_reducible refine g_al 31 5 ?_);refine l_al F_Flt M.out ?_;clear M;intro g5 w' hg5 M)|((with_reducible refine g_st 37 ?_);refine l_st F_Path rfl rfl M.out (by repeat constructor) (by exact rfl) (by exact rfl) (by exact rfl) ?_;clear M;intro w' M)|((with_reducible refine g_st 31 ?_);refine l_st F_Flt rfl rfl M.out (by repeat constructor) (by exact rfl) (by exact rfl) (by exact rfl) ?_;clear M;intro w' M)|((with_reducible refine g_ld 29 ?_);refine l_ld1 O_errno rfl M.out (by repeat constructor) (by exact rfl) ?_)|(go_at_call 17;(with_reducible refine(HP.out _).mono ?_);rintro e w' ⟨rfl,hb⟩;replace M:=hH (M.out.bel hb);clear hb))
 replace M:=hH M.out.freeze
 replace M:=hH M.out.drew
 refine tb (fun y=>True∧Blk y g5 31 #[.int .i64 x,.int .i64 a]) M.out.now ?_
 refine tkp 0 rfl M.out.now ?_
 refine tk 1 rfl M.out.now (y_ld F_Flt _ _ rfl _ _ (fun y h=>h.2) rfl) ?_
 refine tr [2] ?_
 refine r_st F_Code (i:=2) rfl rfl rfl M.out (by repeat constructor) (by exact rfl) (by exact rfl) (by exact rfl) ?_ ?_
 ·clear M;intro w' M;refine⟨M.out.now,tn ?_⟩
  refine tr [3] ?_
  refine r_st F_Flt (i:=3) rfl rfl rfl M.out (by repeat constructor) (by exact rfl) (by exact rfl) (by exact rfl) ?_ ?_
  ·clear M;intro w' M;refine⟨M.out.now,tn ?_⟩
   refine te ?_
   go_wp2
   rw [←HQ.out]
   exact bodyPost_ret (results_2T Tryz.results11 _ _ g2 g3 _ _ _ _ rfl rfl (M.out.blk (g2,_,_) (by repeat constructor)) (M.out.blk (g3,_,_) (by repeat constructor)) F_Code F_Flt rfl rfl) rfl ⟨rfl,M.out.bel0⟩
  exact .nil
 exact .nil
theorem query_okP (s:ByteArray)(w:World)(p:PathT)(hwf:WfP (fun _=>True) (WfN (fun _=>True) 200) p)(hwt:wtP (wtN 200) p≤4000)(hP:∀w,Calls Tryz.prog 17 #[.string s] w fun e w'=>(∃m A c,e=.returned (.tuple #[.agg #[.bool p.abs,.slice A p.segs.length c],.agg #[.int .i64 0,.int .i64 0]])∧SegsG (Fr w) (ExR (Fr w) m w') w' (.slice A p.segs.length c) p.segs)∧Bel w.heap.size w w'):Calls Tryz.prog 11 #[.string s] w fun e w'=>∃(A1 A2 A3 A4:Option Addr) (k1 k2 k3 k4:Nat),e=.returned (.tuple #[.agg #[.slice A1 (codeT p).ps.length k1,.slice A2 (codeT p).gs.length k2,.slice A3 (codeT p).ss.length k3,.slice A4 (codeT p).is.length k4],.agg #[.int .i64 0,.int .i64 0]])∧CRd w' (codeT p) A1 A2 A3 A4∧(FrA w A1∧FrA w A2∧FrA w A3∧FrA w A4)∧((codeT p).gs.length≤k2∧(codeT p).ss.length≤k3)∧Bel w.heap.size w w':=by
 have M:=hH (Own.start [] w (fun _=>True) fun _ _=>trivial)
 have HP:=hH hP
 have HWF:=hH (And.intro hwf hwt)
 clear hP hwf hwt
 go_enter Tryz.func11, Tryz.ntmps11
 generalize hQ:bodyPost Tryz.prog Tryz.f11 _=Q
 have HQ:=hH hQ;clear hQ
 let qd:=bodyPost Tryz.prog Tryz.f11 (fun _ _=>True)
 go_wp2_with (first|((with_reducible refine g_al 28 2 ?_);refine l_al F_Code M.out ?_;clear M;intro g2 w' hg2 M)|((with_reducible refine g_al 31 3 ?_);refine l_al F_Flt M.out ?_;clear M;intro g3 w' hg3 M)|((with_reducible refine g_al 37 4 ?_);refine l_al F_Path M.out ?_;clear M;intro g4 w' hg4 M)|((with_reducible refine g_al 31 5 ?_);refine l_al F_Flt M.out ?_;clear M;intro g5 w' hg5 M)|((with_reducible refine g_st 37 ?_);refine l_st F_Path rfl rfl M.out (by repeat constructor) (by exact rfl) (by exact rfl) (by exact rfl) ?_;clear M;intro w' M)|((with_reducible refine g_st 31 ?_);refine l_st F_Flt rfl rfl M.out (by repeat constructor) (by exact rfl) (by exact rfl) (by exact rfl) ?_;clear M;intro w' M)|((with_reducible refine g_ld 29 ?_);refine l_ld1 O_errno rfl M.out (by repeat constructor) (by exact rfl) ?_)|((with_reducible refine g_st 28 ?_);refine l_st F_Code rfl rfl M.out (by repeat constructor) (by exact rfl) (by exact rfl) (by exact rfl) ?_;clear M;intro w' M)|((with_reducible refine g_ld 37 ?_);refine l_ld F_Path rfl M.out (by repeat constructor) (by exact rfl) ?_)|(go_at_call 17;(with_reducible refine(HP.out _).mono ?_);rintro e w' ⟨⟨m,A,c,rfl,hrow⟩,hb⟩;have Mn:=M.out.addK (G:=fun K y=>SegsG K (ExR K m y) y (.slice A p.segs.length c) p.segs) (fun h hk=>SegsG.keep h hk fun _ _ h=>ExR.keep hk m m (Nat.le_refl _) _ _ h) hb hrow;replace M:=hH Mn;clear Mn hb hrow)|(go_at_call 15;(with_reducible refine(make_any (fun _=>True) p (.slice A p.segs.length c) _ (tree_of_segs M.out.now.2) HWF.out.1 (by have:=HWF.out.2;omega)).mono ?_);rintro e w' ⟨A1,A2,A3,A4,k1,k2,k3,k4,rfl,hcr,⟨f1,f2,f3,f4⟩,hq,hb⟩;have Mn:=M.out.addC hb hcr f1 f2 f3 f4;have HQQ:=hH hq;have HFF:=hH (show FrA w A1∧FrA w A2∧FrA w A3∧FrA w A4 from⟨f1.le M.out.size,f2.le M.out.size,f3.le M.out.size,f4.le M.out.size⟩);replace M:=hH Mn;clear Mn hb hcr f1 f2 f3 f4 hq))
 rw [←HQ.out]
 exact bodyPost_ret (results_2T Tryz.results11 _ _ g2 g3 _ _ _ _ rfl rfl (M.out.blk (g2,_,_) (by repeat constructor)) (M.out.blk (g3,_,_) (by repeat constructor)) F_Code F_Flt rfl rfl) rfl ⟨A1,A2,A3,A4,k1,k2,k3,k4,rfl,M.out.now.2,HFF.out,HQQ.out,M.out.bel0⟩
theorem query_any (s:ByteArray)(w:World)(hs:s.size≤1000):Calls Tryz.prog 11 #[.string s] w (CQueryP s.data.toList w):=by
 have hP:=fun w=>parse_any s w (by omega)
 unfold ParseP at hP
 cases hp:parseT true s.data.toList with
 | error e =>
  obtain⟨x,a⟩:=e
  rw [hp] at hP
  unfold CQueryP
  rw [hp]
  exact query_errP s w x a (bne_iff_ne.2 (err_ne hp)) hP
 | ok p =>
  rw [hp] at hP
  unfold CQueryP
  rw [hp]
  obtain⟨h1,h2,-⟩:=parse_wf hp
  exact query_okP s w p h1 (by have:s.data.toList.length≤1000:=(by rw [len_toList];exact hs);omega) hP
end
/- An append of a string to a row of Own, whose block is known; a Builder in Own's words: what it wrote. -/
section
open Go.RowKit
theorem Blk.shape {w:World}{g:Nat}{T:TypeId}{cs:Array Value}(h:Blk w g T cs):w.shape? g=some (T,cs.size):=by
 have h':w.heap[g]? = some (.cells cs T (0,0)):=h
 simp [World.shape?,h']
section
variable  {w0:World}{L:List BlkE}{rs:List RowE}{J:World→Prop}
end
section
variable  {P:Program}{X:List Nat}{w0 w:World}{L:List BlkE}{rs:List RowE}{J:World→Prop}{ops:Array Oper}{rest:List Oper}{a:Act}{Q:Exit→Act→World→Prop}{tt:TypeId}{pos:String}{af:Array Edge}
end
section
variable  {w0:World}{L:List BlkE}{rs:List RowE}{J:World→Prop}
end
end
/- Queries written: the mirror on lists (plain; no word of a dump). -/
section
section
variable  (E:ExprT→List UInt8)
end
end
/- Texts whose bytes are scalars: what utf.Right tells (plain; no word of a dump). -/
section
def runU (st:Int)(l:List UInt8):Int:=l.foldl (fun s b=>ustep s b.toNat) st
end
/- The texts of a query's tokens: their bytes are scalars, and how many they are (plain; no word of a dump). -/
section
def SS (N:Nat)(t:List UInt8):Prop:=t.length≤N∧runU 0 t=0
end
/- How long is what is written of a query (plain; no word of a dump). -/
section
section
variable  {N:Nat}{W:ExprT→Prop}{E:ExprT→List UInt8}{w:ExprT→Nat}
end
end
/- A Builder in Own's words: String; esc.sign, esc.between, esc.Single (printed by gen_zl.py). -/
section
open Go.RowKit
section
variable  {w0:World}{L:List BlkE}{rs:List RowE}{J:World→Prop}{g:Nat}{T:TypeId}{t:List UInt8}{w w':World}
end
theorem wraps_u8 (n:Int)(h0:0≤n)(h1:n<2 ^ 7):IntKind.u8.wrap n=n:=by rw [show IntKind.u8.wrap n=n % 256 from rfl];omega
end
/- qshow: a number, a text, a slice, a selector, a side are written (printed by gen_zm.py). -/
section
open Go.RowKit
section
variable  {P:Program}{w0 w:World}{L:List BlkE}{rs:List RowE}{J:World→Prop}{g:Nat}{T:TypeId}{t:List UInt8}{ops:Array Oper}{rest:List Oper}{a:Act}{Q:Exit→Act→World→Prop}{tt:TypeId}{pos:String}{af:Array Edge}
end
section
variable  {w0:World}{L:List BlkE}{rs:List RowE}{J:World→Prop}
variable  {N:Nat}{W:ExprT→Prop}{E:ExprT→List UInt8}
end
end
/- qshow: a path, a side, an expression are written; Show (printed by gen_zn.py). -/
section
open Go.RowKit
theorem PtrG.ptr {K:Nat→Prop}{R:List Value→ExprT→Prop}{w:World}{v:Value}{f:Option ExprT}(h:PtrG K R w v f):∃q,v=.pointer q:=by
 cases f with
 | none=>exact⟨_,h⟩
 | some e=>obtain⟨b,off,cs,h,_⟩:=h;exact⟨_,h⟩
section
variable  {w0:World}{L:List BlkE}{rs:List RowE}{J:World→Prop}{N:Nat}{W:ExprT→Prop}{E:ExprT→List UInt8}
end
end
/- qshow: a side, an expression are written; Show (printed by gen_zo.py). -/
section
open Go.RowKit
section
variable  {w0:World}{L:List BlkE}{rs:List RowE}{J:World→Prop}{N:Nat}{W:ExprT→Prop}{E:ExprT→List UInt8}
end
end
/- qshow: an expression whole; Show (printed by gen_zp.py). -/
section
open Go.RowKit
section
variable  {w0:World}{L:List BlkE}{rs:List RowE}{J:World→Prop}{N:Nat}{W:ExprT→Prop}{E:ExprT→List UInt8}
end
end
/- law18: rows whose cells are named; Parse and Show for callers; awake (printed by gen_fa.py). -/
section
open Go.RowKit
def RowC {α:Type}(K:Nat→Prop)(k:Nat)(R:List Value→α→Prop)(w:World)(A:Option Addr)(css:List (List Value))(l:List α):Prop :=
 css.length=l.length∧(∀cs∈css,cs.length=k)∧(l=[]∨∃b off,A=some ⟨b,off,none⟩∧K b∧b<w.heap.size∧∀(i:Nat) (cs:List Value) (x:α),css[i]? = some cs→l[i]? = some x→(∀(j:Nat) u,cs[j]? = some u→w.cell? ⟨b,off+i*k+j,none⟩=some u)∧R cs x)
theorem RowG.named {α:Type}{K:Nat→Prop}{k:Nat}{R:List Value→α→Prop}{w:World}{A:Option Addr}{n c:Nat}{l:List α}(h:RowG K k R w (.slice A n c) l):(l.length≤c∧c≤9223372036854775807)∧∃css,RowC K k R w A css l:=by
 obtain⟨A',cap,e,hcap,h3⟩:=h
 simp only [Value.slice.injEq] at e
 obtain⟨rfl,_,rfl⟩:=e
 refine⟨hcap,?_⟩
 rcases h3 with rfl|⟨b,off,rfl,hK,hb,hc⟩
 ·exact⟨[],rfl,fun cs h=>by simp at h,.inl rfl⟩
 ·have key:∀i:Fin l.length,∃cs:List Value,cs.length=k∧(∀(j:Nat) u,cs[j]? = some u→w.cell? ⟨b,off+i*k+j,none⟩=some u)∧R cs l[i]:=fun i=>hc i l[i] (List.getElem?_eq_getElem i.2)
  let f:Fin l.length→List Value:=fun i=>Classical.choose (key i)
  have hf:∀i,(f i).length=k∧(∀(j:Nat) u,(f i)[j]? = some u→w.cell? ⟨b,off+i*k+j,none⟩=some u)∧R (f i) l[i]:=fun i=>Classical.choose_spec (key i)
  have hget:∀(i:Nat) (cs:List Value),(List.ofFn f)[i]? = some cs→∃hi:i<l.length,cs=f ⟨i,hi⟩:=fun i cs h=>by
   rw [List.getElem?_ofFn] at h
   split at h
   ·rename_i hi
    exact⟨hi,(Option.some.inj h).symm⟩
   ·cases h
  refine⟨List.ofFn f,by simp,fun cs hm=>?_,.inr ⟨b,off,rfl,hK,hb,fun i cs x h1 h2=>?_⟩⟩
  ·obtain⟨i,hi⟩:=List.mem_iff_getElem?.1 hm
   obtain⟨h1,rfl⟩:=hget i cs hi
   exact(hf _).1
  ·obtain⟨hi,rfl⟩:=hget i cs h1
   have:l[i]=x:=by rw [List.getElem?_eq_getElem hi] at h2;exact Option.some.inj h2
   rw [←this]
   exact(hf ⟨i,hi⟩).2
section
variable  {α:Type}{K K':Nat→Prop}{k:Nat}{R R':List Value→α→Prop}{w w':World}{A:Option Addr}{css:List (List Value)}{l:List α}
theorem RowC.keep (h:RowC K k R w A css l)(hk:Kp K K' w w')(hR:∀cs x,R cs x→R' cs x):RowC K' k R' w' A css l:=by
 obtain⟨h1,h2,h3⟩:=h
 refine⟨h1,h2,h3.imp id ?_⟩
 rintro ⟨b,off,e,hK,hb,hc⟩
 refine⟨b,off,e,(hk.block b hK hb).1,Nat.lt_of_lt_of_le hb hk.size,fun i cs x e1 e2=>?_⟩
 obtain⟨hcs,hr⟩:=hc i cs x e1 e2
 exact⟨fun j u hu=>(hk.cell hK hb).trans (hcs j u hu),hR cs x hr⟩
theorem RowC.at_ (h:RowC K k R w A css l){i:Nat}{x:α}(hx:l[i]? = some x):∃cs,css[i]? = some cs:=by
 have hi:=(List.getElem?_eq_some_iff.1 hx).1
 exact⟨_,List.getElem?_eq_getElem (by rw [h.1];exact hi)⟩
theorem RowC.row {c:Nat}(h:RowC K k R w A css l)(hc:l.length≤c∧c≤9223372036854775807):RowG K k R w (.slice A l.length c) l:=by
 refine⟨A,c,rfl,hc,?_⟩
 obtain⟨h1,h2,h3⟩:=id h
 refine h3.imp id ?_
 rintro ⟨b,off,e,hK,hb,hq⟩
 refine⟨b,off,e,hK,hb,fun i x hx=>?_⟩
 obtain⟨cs,hcs⟩:=h.at_ hx
 obtain⟨a1,a2⟩:=hq i cs x hcs hx
 exact⟨cs,h2 cs (List.mem_of_getElem? hcs),a1,a2⟩
theorem flat_len2 :∀css:List (List Value),(∀cs∈css,cs.length=k)→css.flatten.length=css.length*k
 | [],_=>by simp
 | c::r,h=>by rw [List.flatten_cons,List.length_append,flat_len2 r fun x hx=>h x (by simp [hx]),h c (by simp),List.length_cons,Nat.add_mul];omega
theorem RowC.reads (hk0:0<k)(h:RowC K k R w A css l):Reads w w.heap.size k A l.length css.flatten:=by
 obtain⟨h1,h2,h3⟩:=h
 refine⟨by rw [flat_len2 css h2,h1],fun h0=>?_⟩
 rcases h3 with rfl|⟨b,off,rfl,_,hb,hc⟩
 ·exact absurd h0 (by simp)
 ·refine⟨_,rfl,hb,fun j u hu=>?_⟩
  have hj:j % k<k:=Nat.mod_lt _ hk0
  have hd:j / k*k+j % k=j:=Nat.div_add_mod' j k
  rw [←hd,flat_at _ k h2 (j / k) (j % k) hj] at hu
  obtain⟨cs,e1,e2⟩:=Option.bind_eq_some_iff.1 hu
  have hi:j / k<l.length:=by rw [←h1];exact(List.getElem?_eq_some_iff.1 e1).1
  rw [add_lit,←hd,←Nat.add_assoc]
  exact(hc _ cs _ e1 (List.getElem?_eq_getElem hi)).1 (j % k) u e2
theorem RowC.of (h1:css.length=l.length)(h2:∀cs∈css,cs.length=k)(hR:∀(i:Nat) cs x,css[i]? = some cs→l[i]? = some x→R cs x)(hr:Rdd w k A l.length css.flatten)(hs:∀a,A=some a→a.spot=none):RowC (Lw w) k R w A css l:=by
 refine⟨h1,h2,?_⟩
 by_cases h0:0<l.length
 ·obtain⟨ad,e,hb,hc⟩:=hr.2 h0
  obtain⟨b,off,sp⟩:=ad
  obtain rfl:sp=none:=hs _ e
  refine .inr ⟨b,off,e,hb,hb,fun i cs x e1 e2=>⟨fun j u hu=>?_,hR i cs x e1 e2⟩⟩
  have hj:j<k:=by rw [←h2 cs (List.mem_of_getElem? e1)];exact(List.getElem?_eq_some_iff.1 hu).1
  have:=hc (i*k+j) u (by rw [flat_at _ k h2 i j hj,e1];exact hu)
  rwa [add_lit,←Nat.add_assoc] at this
 ·exact .inl (List.eq_nil_of_length_eq_zero (by omega))
end
theorem F_Flq :TyF Tryz.prog 31 2 #[.int .i64 0,.int .i64 0]:=⟨⟨_,Tryz.underlying31,rfl⟩,by kernel_rfl,by kernel_rfl⟩
theorem O_ern :OneF Tryz.prog 29:=⟨⟨_,Tryz.underlying29,rfl⟩,by kernel_rfl⟩
theorem O_sGg :OneF Tryz.prog 35:=⟨⟨_,Tryz.underlying35,rfl⟩,by kernel_rfl⟩
section
variable  {P:Program}{S:World→Prop}{ops:Array Oper}{md:Region.Mode}{fuel i:Nat}{listed:Array Bool}{is:List Nat}{dst:Option Tmp}{tt:TypeId}{pos:String}{af:Array Edge}{a:Act}{w:World}{Q:Exit→Act→World→Prop}
theorem q_ld1g {w0:World}{X:List Nat}{L:List BlkE}{rs:List RowE}{J:World→Prop}{rest:List Oper}{T:TypeId}(F:OneF P T){gd:Nat×Bool}{x:Operand}{g j:Nat}{T':TypeId}{cs:Array Value}{v:Value}(hw:Region.wanted ⟨dst,.load T x,tt,pos,af,some gd⟩ (yielded ops a.tmps)=true)(hx:a.eval x=.pointer (some ⟨g,j,none⟩))(M:Own X w0 w L rs J)(hm:(g,T',cs)∈L)(hv:cs[j]? = some v)
  (h:wpList P ops Q rest (a.put dst v) w):wpList P ops Q (⟨dst,.load T x,tt,pos,af,some gd⟩::rest) a w :=
 wpList_step fun _ hK=>by rw [if_pos hw];exact o_ld1 F hx (((M.blk _ hm).cell j).trans hv) (hK _ _ h)
theorem q_gl (T:TypeId){gd:Nat×Bool}{x:Operand}{rest:List Oper}(h:wpList P ops Q (⟨dst,.load T x,tt,pos,af,some gd⟩::rest) a w):wpList P ops Q (⟨dst,.load T x,tt,pos,af,some gd⟩::rest) a w:=h
end
end
/- law19: awake; ref19.Same of one code (printed by gen_ja.py). -/
section
open Go.RowKit
set_option maxRecDepth 100000
set_option maxHeartbeats 2000000
theorem rdd_atS {α:Type}(f:α→List Value)(k:Nat)(hk:∀x,(f x).length=k)(J:World→Prop){w:World}{A:Option Addr}{l:List α}{i:Nat}{x:α}(hJ:∀y,J y→Rdd y k A l.length (l.flatMap f))(h:J w)(hs:∀a,A=some a→a.spot=none)(hx:l[i]? = some x) :
  ∃b off,A=some ⟨b,off,none⟩∧∀y,J y→∀j u,(f x)[j]? = some u→y.cell? ⟨b,off+i*k+j,none⟩=some u:=by
 have hpos:0<l.length:=by have:=(List.getElem?_eq_some_iff.1 hx).1;omega
 obtain⟨⟨b,off,sp⟩,e,_⟩:=(hJ w h).2 hpos
 obtain rfl:sp=none:=hs _ e
 refine⟨b,off,e,fun y hy j u hu=>?_⟩
 obtain⟨ad,e',_,hc⟩:=(hJ y hy).2 hpos
 rw [e] at e'
 cases e'
 have hj:j<k:=by rw [←hk x];exact(List.getElem?_eq_some_iff.1 hu).1
 have:=hc (i*k+j) u (by rw [flat_get f k hk _ i j hj,hx];exact hu)
 rw [add_lit,←Nat.add_assoc] at this
 exact this
theorem l_ldcgS {P:Program}{ops:Array Oper}{dst:Option Tmp}{tt:TypeId}{pos:String}{af:Array Edge}{a:Act}{w:World}{Q:Exit→Act→World→Prop}{rest:List Oper}{T:TypeId}(F:OneF P T){gd:Nat×Bool}{x:Operand}{b o:Nat}{v:Value}(hw:Region.wanted ⟨dst,.load T x,tt,pos,af,some gd⟩ (yielded ops a.tmps)=true)(hx:a.eval x=.pointer (some ⟨b,o,none⟩))(hc:w.cell? ⟨b,o,none⟩=some v)
  (h:wpList P ops Q rest (a.put dst v) w):wpList P ops Q (⟨dst,.load T x,tt,pos,af,some gd⟩::rest) a w :=
 wpList_step fun _ hK=>by rw [if_pos hw];exact o_ld1 F hx hc (hK _ _ h)
theorem aw_parse19 :parseT true (⟨#[36]⟩:ByteArray).data.toList=.ok ⟨true,[]⟩:=by kernel_rfl
theorem aw_code19 :codeT ⟨true,[]⟩=⟨[⟨true,0,0⟩],[],[],[]⟩:=by kernel_rfl
theorem awake19 (w:World):Calls Tryz.prog 10 #[] w fun e w'=>e=.returned (.bool true)∧Bel w.heap.size w w':=by
 have M:=hH (Own.start [] w (fun _=>True) fun _ _=>trivial)
 have hQ:=fun w=>query_any ⟨#[36]⟩ w (by decide)
 unfold CQueryP at hQ
 rw [aw_parse19] at hQ
 simp only [aw_code19] at hQ
 have HP:=hH hQ
 clear hQ
 go_enter Tryz.func10, Tryz.ntmps10
 go_upto_region 2 with(first|((with_reducible refine g_al 28 1 ?_);refine l_al F_Code M.out ?_;clear M;intro g1 w' hg1 M)|((with_reducible refine g_al 31 2 ?_);refine l_al F_Flt M.out ?_;clear M;intro g2 w' hg2 M)|((with_reducible refine g_st 28 ?_);refine l_st F_Code rfl rfl M.out (by repeat constructor) (by exact rfl) (by exact rfl) (by exact rfl) ?_;clear M;intro w' M)|((with_reducible refine g_st 31 ?_);refine l_st F_Flt rfl rfl M.out (by repeat constructor) (by exact rfl) (by exact rfl) (by exact rfl) ?_;clear M;intro w' M)|(go_at_call 11;(with_reducible refine(HP.out _).mono ?_);rintro e w' ⟨A1,A2,A3,A4,k1,k2,k3,k4,rfl,hcr,⟨f1,f2,f3,f4⟩,hq,hb⟩;have HF:=hH (show FrA w A1∧FrA w A2∧FrA w A3∧FrA w A4 from⟨f1.le M.out.size,f2.le M.out.size,f3.le M.out.size,f4.le M.out.size⟩);have Mn:=M.out.addC hb hcr f1 f2 f3 f4;have HQQ:=hH hq;replace M:=hH Mn;clear Mn hb hcr f1 f2 f3 f4 hq))
 obtain⟨b1,o1,hA1,hc1⟩:=rdd_atS pathC 3 (fun _=>rfl) _ (fun y h=>CRd.p (And.right h)) M.out.now (fun a e=>(HF.out.1 a e).2) (i:=0) rfl
 subst hA1
 have HZ:=hH (hc1 _ M.out.now 0 _ rfl)
 clear hc1
 go_wp2_with (first|((with_reducible refine g_ld 29 ?_);refine l_ld1 O_ern rfl M.out (by repeat constructor) (by exact rfl) ?_)|((with_reducible refine g_ld 23 ?_);refine l_ld1 O_sCPath rfl M.out (by repeat constructor) (by exact rfl) ?_)|((with_reducible refine q_gl 23 ?_);refine q_ld1g O_sCPath rfl rfl M.out (by repeat constructor) (by exact rfl) ?_)|((with_reducible refine q_gl 4 ?_);refine l_ldcgS O_bool rfl rfl HZ.out ?_))
 go_ret
 exact⟨by simp,M.out.bel0⟩
theorem queryc_err {s:ByteArray}{x a:Int}(w:World)(hs:s.size≤1000000)(h:parseT true s.data.toList=.error (x,a)):Calls Tryz.prog 11 #[.string s] w fun e w'=>e=.returned (.tuple #[.agg #[.slice none 0 0,.slice none 0 0,.slice none 0 0,.slice none 0 0],.agg #[.int .i64 x,.int .i64 a]])∧Bel w.heap.size w w':=by
 have hP:=fun w=>parse_any s w hs
 unfold ParseP at hP
 rw [h] at hP
 exact query_errP s w x a (bne_iff_ne.2 (err_ne h)) hP
theorem queryc_ok {s:ByteArray}{p:PathT}(w:World)(hs:s.size≤1000000)(h:parseT true s.data.toList=.ok p)(hwt:wtP (wtN 200) p≤4000):Calls Tryz.prog 11 #[.string s] w fun e w'=>∃(A1 A2 A3 A4:Option Addr) (k1 k2 k3 k4:Nat),e=.returned (.tuple #[.agg #[.slice A1 (codeT p).ps.length k1,.slice A2 (codeT p).gs.length k2,.slice A3 (codeT p).ss.length k3,.slice A4 (codeT p).is.length k4],.agg #[.int .i64 0,.int .i64 0]])∧CRd w' (codeT p) A1 A2 A3 A4∧(FrA w A1∧FrA w A2∧FrA w A3∧FrA w A4)∧((codeT p).gs.length≤k2∧(codeT p).ss.length≤k3)∧Bel w.heap.size w w':=by
 have hP:=fun w=>parse_any s w hs
 unfold ParseP at hP
 rw [h] at hP
 exact query_okP s w p (parse_wf h).1 hwt hP
end
/- law18: QshowTwo (printed by gen_fb.py). -/
section
open Go.RowKit
theorem SS.mono {N M:Nat}(h:N≤M){t:List UInt8}(k:SS N t):SS M t:=⟨Nat.le_trans k.1 h,k.2⟩
end
/- A text written in single marks is read back; plain. -/
section
end
/- qlex: what stands behind a comma, a bracket or a colon changes no token ahead of it; plain (printed by gen_tx.py). -/
section
end
/- Queries read, plain: the tokens' places change nothing but a fault's place (no word of a dump). -/
section
structure SameG (x y:TokD):Prop where
 kind:x.kind=y.kind
 s:x.s=y.s
 n:x.n=y.n
 gap:x.gap=y.gap
def AllG :List TokD→List TokD→Prop
 | [],[]=>True
 | x::l,y::m=>SameG x y∧AllG l m
 | _,_=>False
theorem AllG.len :∀{l m:List TokD},AllG l m→l.length=m.length
 | [],[],_=>rfl
 | _::_,_::_,h=>by rw [List.length_cons,List.length_cons,AllG.len h.2]
 | [],_::_,h=>h.elim
 | _::_,[],h=>h.elim
structure StA (t t':PSt):Prop where
 toks:AllG t.toks t'.toks
 fe:t.fe=t'.fe
structure ResA {α:Type}(a b:α×PSt):Prop where
 eq:a.1=b.1
 st:StA a.2 b.2
section
variable  {E E':Int}{t t':PSt}(h:StA t t')
include h
theorem StA.hd :SameG (hdT t) (hdT t'):=by
 unfold hdT
 rw [←h.fe]
 have:=h.toks
 split
 ·cases h1:t.toks with
  | nil =>
   cases h2:t'.toks with
   | nil=>exact⟨rfl,rfl,rfl,rfl⟩
   | cons y m=>rw [h1,h2] at this;exact this.elim
  | cons x l =>
   cases h2:t'.toks with
   | nil=>rw [h1,h2] at this;exact this.elim
   | cons y m=>rw [h1,h2] at this;exact this.1
 ·exact⟨rfl,rfl,rfl,rfl⟩
theorem StA.len :t.toks.length=t'.toks.length:=h.toks.len
theorem StA.ov :ovS t=ovS t':=by
 unfold ovS
 rw [h.fe]
 have:=h.len
 congr 1
 rw [Bool.eq_iff_iff,List.isEmpty_iff,List.isEmpty_iff]
 rw [←List.length_eq_zero_iff,←List.length_eq_zero_iff,this]
theorem StA.ki :kindS t=kindS t':=h.hd.kind
theorem StA.is (l:List UInt8):isS l t=isS l t':=by unfold isS;rw [h.ki,h.hd.s]
theorem StA.fail (a a' e:Int):StA (failS a e t) (failS a' e t'):=by
 unfold failS
 rw [←h.fe]
 split
 ·exact⟨h.toks,rfl⟩
 ·exact h
theorem StA.form :StA (formS E t) (formS E' t'):=h.fail _ _ _
theorem StA.next :StA (nextS E t) (nextS E' t'):=by
 unfold nextS
 rw [←h.fe]
 have:=h.toks
 split
 ·cases h1:t.toks with
  | nil =>
   cases h2:t'.toks with
   | nil=>exact h.form
   | cons y m=>rw [h1,h2] at this;exact this.elim
  | cons x l =>
   cases h2:t'.toks with
   | nil=>rw [h1,h2] at this;exact this.elim
   | cons y m=>rw [h1,h2] at this;exact⟨this.2,rfl⟩
 ·exact h
theorem StA.must (l:List UInt8):StA (mustS E l t) (mustS E' l t'):=by
 unfold mustS
 rw [h.is l]
 split
 ·exact h.next
 ·exact h.form
theorem StA.open (d:Nat):StA (openS E d t) (openS E' d t'):=by
 unfold openS
 split
 ·exact(h.fail _ _ _).next
 ·exact h.next
theorem StA.close :StA (closeS E t) (closeS E' t'):=by
 unfold closeS
 rw [h.ov,h.hd.gap]
 split
 ·exact h.form
 ·exact h
theorem StA.num :(numS E t).1=(numS E' t').1∧(numS E t).2.1=(numS E' t').2.1∧StA (numS E t).2.2 (numS E' t').2.2:=by
 unfold numS
 rw [h.ki,h.hd.n]
 split
 ·exact⟨rfl,rfl,h.next⟩
 ·exact⟨rfl,rfl,h⟩
theorem StA.seg :isSeg t=isSeg t':=by unfold isSeg;rw [h.is,h.is,h.is]
theorem StA.path :isPath t=isPath t':=by unfold isPath;rw [h.is,h.is]
theorem StA.lit :litS t=litS t':=by unfold litS;rw [h.ki,h.hd.n,h.hd.s]
theorem StA.op :opS t=opS t':=by unfold opS;rw [h.ki,h.hd.s]
end
theorem ResA.map {α β:Type}{a b:α×PSt}(h:ResA a b)(g:α→β):ResA (g a.1,a.2) (g b.1,b.2):=⟨congrArg g h.eq,h.st⟩
theorem ResA.seq {α β γ:Type}{a a':α×PSt}{b b':PSt→β×PSt}(h:ResA a a')(g:α→β→γ)(h2:∀s s',StA s s'→ResA (b s) (b' s')):ResA (g a.1 (b a.2).1,(b a.2).2) (g a'.1 (b' a'.2).1,(b' a'.2).2) :=
 ⟨by have:=(h2 _ _ h.st).eq;simp only;rw [h.eq,this],(h2 _ _ h.st).st⟩
def AlikeP (P P':Nat→PSt→ExprT×PSt):Prop:=∀d t t',StA t t'→ResA (P d t) (P' d t')
section
variable  {E E':Int}{P P':Nat→PSt→ExprT×PSt}(d:Nat)
variable  (hP:AlikeP P P')
include hP
end
end
/- What is written is read, token by token; plain. -/
section
inductive LexTo :List UInt8→List TokD→Prop
 | nil:LexTo [] []
 | cons (g:Bool) (k:Int) (t:List UInt8) (v:Int) (n:Nat) (u:List UInt8) (l:List TokD):tokT u=.ok (k,t,v,n)→bkN u=0→u≠[]→LexTo (u.drop n) l→LexTo (if g then 32::u else u) (⟨k,t,v,0,g⟩::l)
theorem LexTo.run {u:List UInt8}{l:List TokD}(h:LexTo u l):∀(f a:Nat),u.length<f→(0<a∨bkN u=0)→∃m,lexF f a u=.ok m∧AllG l m:=by
 induction h with
 | nil=>intro f a _ _;cases f <;> exact⟨[],by simp [lexF],trivial⟩
 | cons g k t v n u l ht hb hu hl ih =>
  intro f a hf ha
  obtain⟨f,rfl⟩:∃k,f=k+1:=⟨f-1,by omega⟩
  have hok:=tokT_ok _ _ _ _ _ ht
  unfold tokOK at hok
  have hlen:(u.drop n).length<f:=by
   rw [List.length_drop]
   cases g <;> simp at hf <;> omega
  cases g with
  | true =>
   have ha:0<a:=by
    rcases ha with h|h
    ·exact h
    ·rw [if_pos rfl,bkN] at h;simp [isBk] at h
   obtain⟨m,hm,hg⟩:=ih f (a+1+n) hlen (.inl (by omega))
   refine⟨⟨k,t,v,a+1,true⟩::m,?_,⟨⟨rfl,rfl,rfl,rfl⟩,hg⟩⟩
   have hbk:bkN (32::u)=1:=by rw [bkN,if_pos (by decide),hb]
   rw [if_pos rfl,lexF,if_neg (by simp),hbk]
   rw [if_neg (by
    rintro ⟨_,e|e⟩;·omega
    ·exact hu (by simpa using e))]
   rw [show (32::u).drop 1=u from rfl,ht]
   simp only
   rw [hm];rfl
  | false =>
   obtain⟨m,hm,hg⟩:=ih f (a+0+n) hlen (.inl (by omega))
   refine⟨⟨k,t,v,a+0,false⟩::m,?_,⟨⟨rfl,rfl,rfl,rfl⟩,hg⟩⟩
   rw [if_neg (by simp),lexF,if_neg hu,hb]
   rw [if_neg (by simp)]
   rw [List.drop_zero,ht]
   simp only
   rw [hm];rfl
end
/- The tokens of what is written; plain. -/
section
def blk (g:Bool)(u:List UInt8):List UInt8:=if g then 32::u else u
section
variable  (E:Bool→ExprT→List TokD)
end
/-! ## What is put together -/
section
variable  {E:ExprT→List UInt8}{ET:Bool→ExprT→List TokD}{W:ExprT→Prop}{S:List UInt8→Prop}
end
end
/- How deep a query that is read goes when it is written; plain. -/
section
inductive Fit :Nat→ExprT→Prop
 | or (d:Nat) (l:List ExprT):(∀k∈l,k.kind≠0→Fit d k)→(∀k∈l,k.kind=0→d+1≤32)→(∀k∈l,k.kind=0→Fit (d+1) k)→Fit d (mkE 0 l)
 | and (d:Nat) (l:List ExprT):(∀k∈l,¬(k.kind=0∨k.kind=1)→Fit d k)→(∀k∈l,k.kind=0∨k.kind=1→d+1≤32)→(∀k∈l,k.kind=0∨k.kind=1→Fit (d+1) k)→Fit d (mkE 1 l)
 | not (d:Nat) (k:ExprT):d+1≤32→(k.kind=3→Fit (d+1) k)→(k.kind≠3→d+2≤32)→(k.kind≠3→Fit (d+2) k)→Fit d (mkE 2 [k])
 | test (d:Nat) (p:PathT):(∀s∈p.segs,∀y∈s.sels,∀e,y.f=some e→d+1≤32)→(∀s∈p.segs,∀y∈s.sels,∀e,y.f=some e→Fit (d+1) e)→Fit d (tstE p)
 | cmp (d:Nat) (op:Int) (a b:SideT):(∀s∈a.p.segs,∀y∈s.sels,∀e,y.f=some e→d+1≤32)→(∀s∈a.p.segs,∀y∈s.sels,∀e,y.f=some e→Fit (d+1) e)→
   (∀s∈b.p.segs,∀y∈s.sels,∀e,y.f=some e→d+1≤32)→(∀s∈b.p.segs,∀y∈s.sels,∀e,y.f=some e→Fit (d+1) e)→Fit d ⟨4,[],path0,op,a,b⟩
theorem Fit.mono {d:Nat}{x:ExprT}(h:Fit d x):∀{d':Nat},d'≤d→Fit d' x:=by
 induction h with
 | or d l a b c ih1 ih2=>exact fun hd=>.or _ l (fun k hk h=>ih1 k hk h hd) (fun k hk h=>by have:=b k hk h;omega) (fun k hk h=>ih2 k hk h (by omega))
 | and d l a b c ih1 ih2=>exact fun hd=>.and _ l (fun k hk h=>ih1 k hk h hd) (fun k hk h=>by have:=b k hk h;omega) (fun k hk h=>ih2 k hk h (by omega))
 | not d k a b c e ih1 ih2=>exact fun hd=>.not _ k (by omega) (fun h=>ih1 h (by omega)) (fun h=>by have:=c h;omega) (fun h=>ih2 h (by omega))
 | test d p a b ih=>exact fun hd=>.test _ p (fun s hs y hy e he=>by have:=a s hs y hy e he;omega) (fun s hs y hy e he=>ih s hs y hy e he (by omega))
 | cmp d op a b a1 a2 b1 b2 ih1 ih2=>exact fun hd=>.cmp _ op a b (fun s hs y hy e he=>by have:=a1 s hs y hy e he;omega) (fun s hs y hy e he=>ih1 s hs y hy e he (by omega)) (fun s hs y hy e he=>by have:=b1 s hs y hy e he;omega) (fun s hs y hy e he=>ih2 s hs y hy e he (by omega))
def FitS (d:Nat)(y:SelT):Prop:=∀e,y.f=some e→d+1≤32∧Fit (d+1) e
def FitP (d:Nat)(p:PathT):Prop:=∀s∈p.segs,∀y∈s.sels,FitS d y
theorem FitP.path0 (d:Nat):FitP d path0:=fun s hs=>by simp [Go.Proofs.YtpcbcodmocmilaaGreatDoor.path0] at hs
theorem FitS.none {d:Nat}{y:SelT}(h:y.f=none):FitS d y:=fun e he=>by rw [h] at he;cases he
theorem Fit.tst {d:Nat}{p:PathT}(h:FitP d p):Fit d (tstE p):=.test d p (fun s hs y hy e he=>(h s hs y hy e he).1) (fun s hs y hy e he=>(h s hs y hy e he).2)
section
variable  {E:Int}{P:Nat→PSt→ExprT×PSt}{d:Nat}
def FP (P:Nat→PSt→ExprT×PSt)(d:Nat):Prop:=∀d',d<d'→d'≤32→∀t,(P d' t).2.fe=0→Fit d' (P d' t).1
variable  (hP:FP P d)(hB:BadP P)
include hP hB
end
section
variable  {E:Int}{P:Nat→PSt→ExprT×PSt}
theorem FP.le {d d':Nat}(h:FP P d)(hd:d≤d'):FP P d':=fun d2 h2=>h d2 (by omega)
end
end

end Go.Proofs.YtpcbcodmocmilaaGreatDoor
