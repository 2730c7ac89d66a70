/- NG49: Ra, Zh, Zk, Sa, Sb, Sc, Sd, Zl, Zm, Zn, Zo, Zp, Fa, Ja joined. -/
import Derived.Lib.ItoaNum
import Derived.Lib.ItoaLen
import Derived.Lib.UnsafeStr
import Derived.Shelf.RegionOpen
import Derived.Test.YtjbdcjcfijjiiaaGreatDoorNQz
import Derived.Test.YtjbdcjcfijjiiaaGreatDoorNG48
import Derived.Test.YtjbdcjcfijjiiaaGreatDoorNG36
import Derived.Test.YtjbdcjcfijjiiaaGreatDoorNG46
import Derived.Test.YtjbdcjcfijjiiaaGreatDoorNOz
import Derived.Test.YtjbdcjcfijjiiaaGreatDoorNG01
import Derived.Test.YtjbdcjcfijjiiaaGreatDoorNG12
import Derived.Test.YtjbdcjcfijjiiaaGreatDoorNG03
import Derived.Test.YtjbdcjcfijjiiaaGreatDoorNG04
import Derived.Test.YtjbdcjcfijjiiaaGreatDoorNG22
import Derived.Test.YtjbdcjcfijjiiaaGreatDoorShq
import Derived.Test.YtjbdcjcfijjiiaaGreatDoorNCj
namespace Go.Proofs.YtjbdcjcfijjiiaaGreatDoor
open Go.RowKit
section
open Go.RowKit
theorem lexq_any (s:ByteArray)(w:World)(hs:s.size≤1000000) :
  Calls Tryz.prog 18 #[.string s] w (LexQ s.data.toList w):=by
 refine(lex_any s w hs).mono ?_
 intro e w' h
 unfold LexP at h
 unfold LexQ stOf
 have ho:=lex_order s.data.toList
 cases hl:lexL s.data.toList with
 | error x =>
  obtain⟨x,a⟩:=x
  rw [hl] at h
  exact⟨none,0,h.1,⟨Nat.le_refl _,by omega,Nat.zero_le _⟩,.inl rfl,h.2⟩
 | ok toks =>
  rw [hl] at h ho
  obtain⟨⟨v,rfl,hv⟩,hb⟩:=h
  have hlen:toks.length≤1000000:=by
   have h1:=ordL_len toks 0 ho.1
   rw [len_toList] at h1
   omega
  obtain⟨A,cap,e1,hc,ht⟩:=tok_own hv rfl
  have hcap:cap≤9223372036854775807:=by
   rcases hv.2 with⟨e2,_⟩|⟨gg,cap',cur,e2,_,_,_,hm,_⟩
   ·rw [e1] at e2
    have:=(Value.slice.inj e2).2.2
    omega
   ·rw [e1] at e2
    have:=(Value.slice.inj e2).2.2
    unfold maxLen at hm
    omega
  subst e1
  exact⟨A,cap,rfl,⟨hc,hcap,hlen⟩,ht,hb⟩
theorem parse_any (s:ByteArray)(w:World)(hs:s.size≤1000000):Calls Tryz.prog 10 #[.string s] w (ParseP s.data.toList w) :=
 parse_of s w fun w=>lexq_any s w hs
end
section
open Go.RowKit
set_option maxRecDepth 100000
set_option maxHeartbeats 2000000
def CQueryP (l:List UInt8)(w:World)(e:Ending)(w':World):Prop :=
 match parseT true l with
 | .error (x,a)=>e=.returned (.tuple #[.agg #[.slice none 0 0,.slice none 0 0,.slice none 0 0,.slice none 0 0],.agg #[.int .i64 x,.int .i64 a]])∧Bel w.heap.size w w'
 | .ok p=>∃(A1 A2 A3 A4:Option Addr) (k1 k2 k3 k4:Nat),e=.returned (.tuple #[.agg #[.slice A1 (codeT p).ps.length k1,.slice A2 (codeT p).gs.length k2,.slice A3 (codeT p).ss.length k3,.slice A4 (codeT p).is.length k4],.agg #[.int .i64 0,.int .i64 0]])∧
  CRd w' (codeT p) A1 A2 A3 A4∧(FrA w A1∧FrA w A2∧FrA w A3∧FrA w A4)∧((codeT p).gs.length≤k2∧(codeT p).ss.length≤k3)∧Bel w.heap.size w w'
theorem tree_of_segs {w y:World}{m:Nat}{p:PathT}{A:Option Addr}{c:Nat}(h:SegsG (Fr w) (ExR (Fr w) m y) y (.slice A p.segs.length c) p.segs):TreeV y (p,.slice A p.segs.length c) :=
 SegsG.tree (p:=p) (SegsG.keep (K':=Lw y) (R':=ExR (Lw y) m y) h ⟨Nat.le_refl _,fun _ _ hb=>⟨hb,rfl⟩⟩ fun cs x hx=>ExR.keep ⟨Nat.le_refl _,fun _ _ hb=>⟨hb,rfl⟩⟩ m m (Nat.le_refl _) cs x hx)
theorem Own.addC {X:List Nat}{w0 w w':World}{L:List BlkE}{rs:List RowE}{J:World→Prop}{A1 A2 A3 A4:Option Addr}{c:CodeD}(M:Own X w0 w L rs J)(hb:Bel w.heap.size w w')(h:CRd w' c A1 A2 A3 A4)(f1:FrA w A1)(f2:FrA w A2)(f3:FrA w A3)(f4:FrA w A4):Own X w0 w' L rs (fun y=>J y∧CRd y c A1 A2 A3 A4) :=
 (M.bel hb).add fun _ hy =>
  have key:∀{k n:Nat} {A:Option Addr} {xs:List Value},Rdd w' k A n xs→FrA w A→Rdd _ k A n xs:=fun h hf=>h.kept hy fun a e _ hm=>Nat.lt_irrefl _ (Nat.lt_of_lt_of_le (M.ex_lt hm) (hf a e).1)
  ⟨key h.p f1,key h.g f2,key h.s f3,key h.i f4⟩
theorem query_errP (s:ByteArray)(w:World)(x a:Int)(hxb:(x != 0)=true)(hP:∀w,Calls Tryz.prog 10 #[.string s] w fun e w'=>e=.returned (.tuple #[.agg #[.bool false,.slice none 0 0],.agg #[.int .i64 x,.int .i64 a]])∧Bel w.heap.size w w'):Calls Tryz.prog 5 #[.string s] w fun e w'=>e=.returned (.tuple #[.agg #[.slice none 0 0,.slice none 0 0,.slice none 0 0,.slice none 0 0],.agg #[.int .i64 x,.int .i64 a]])∧Bel w.heap.size w w':=by
 have M:=hH (Own.start [] w (fun _=>True) fun _ _=>trivial)
 have HP:=hH hP
 clear hP
 go_enter Tryz.func5, Tryz.ntmps5
 generalize hQ:bodyPost Tryz.prog Tryz.f5 _=Q
 have HQ:=hH hQ;clear hQ
 let qd:=bodyPost Tryz.prog Tryz.f5 (fun _ _=>True)
 go_upto_region 3 with(first|(with_reducible first|(refine l_al (d:=2) F_Code M.out ?_;clear M;intro g2 w' hg2 M)|(refine l_al (d:=3) F_Flt M.out ?_;clear M;intro g3 w' hg3 M)|(refine l_al (d:=4) F_Path M.out ?_;clear M;intro g4 w' hg4 M)|(refine l_al (d:=5) F_Flt M.out ?_;clear M;intro g5 w' hg5 M)|(refine l_st F_Path M.out ?_;clear M;intro w' M)|(refine l_st F_Flt M.out ?_;clear M;intro w' M)|refine l_ld1 O_errno M.out ?_)|(go_at_call 10;(with_reducible refine(HP.out _).mono ?_);rintro e w' ⟨rfl,hb⟩;replace M:=hH (M.out.bel hb);clear hb))
 replace M:=hH M.out.freeze
 replace M:=hH M.out.drew
 refine tbh (fun y=>True∧Blk y g5 31 #[.int .i64 x,.int .i64 a]) M.out.now fun hS=>?_
 refine tkp 0 rfl hS ?_
 refine tk 1 rfl hS (y_ld F_Flt _ _ rfl _ _ (fun y h=>h.2) rfl) ?_
 refine tr [2] ?_
 refine r_st F_Code (i:=2) rfl rfl rfl M.out ?_
 clear M;intro w' M;refine an M.out.now fun hS=>tn ?_
 refine tr [3] ?_
 refine r_st F_Flt (i:=3) rfl rfl rfl M.out ?_
 clear M;intro w' M;refine an M.out.now fun hS=>tn ?_
 refine te ?_
 go_wp2
 rw [←HQ.out]
 exact bodyPost_ret (results_2T Tryz.results5 _ _ g2 g3 _ _ _ _ rfl rfl (M.out.blk (g2,_,_) (by repeat constructor)) (M.out.blk (g3,_,_) (by repeat constructor)) F_Code F_Flt rfl rfl) rfl ⟨rfl,M.out.bel0⟩
theorem query_okP (s:ByteArray)(w:World)(p:PathT)(hwf:WfP (fun _=>True) (WfN (fun _=>True) 200) p)(hwt:wtP (wtN 200) p≤4000)(hP:∀w,Calls Tryz.prog 10 #[.string s] w fun e w'=>(∃m A c,e=.returned (.tuple #[.agg #[.bool p.abs,.slice A p.segs.length c],.agg #[.int .i64 0,.int .i64 0]])∧SegsG (Fr w) (ExR (Fr w) m w') w' (.slice A p.segs.length c) p.segs)∧Bel w.heap.size w w'):Calls Tryz.prog 5 #[.string s] w fun e w'=>∃(A1 A2 A3 A4:Option Addr) (k1 k2 k3 k4:Nat),e=.returned (.tuple #[.agg #[.slice A1 (codeT p).ps.length k1,.slice A2 (codeT p).gs.length k2,.slice A3 (codeT p).ss.length k3,.slice A4 (codeT p).is.length k4],.agg #[.int .i64 0,.int .i64 0]])∧CRd w' (codeT p) A1 A2 A3 A4∧(FrA w A1∧FrA w A2∧FrA w A3∧FrA w A4)∧((codeT p).gs.length≤k2∧(codeT p).ss.length≤k3)∧Bel w.heap.size w w':=by
 have M:=hH (Own.start [] w (fun _=>True) fun _ _=>trivial)
 have HP:=hH hP
 have HWF:=hH (And.intro hwf hwt)
 clear hP hwf hwt
 go_enter Tryz.func5, Tryz.ntmps5
 generalize hQ:bodyPost Tryz.prog Tryz.f5 _=Q
 have HQ:=hH hQ;clear hQ
 let qd:=bodyPost Tryz.prog Tryz.f5 (fun _ _=>True)
 go_wp2_with (first|(with_reducible first|(refine l_al (d:=2) F_Code M.out ?_;clear M;intro g2 w' hg2 M)|(refine l_al (d:=3) F_Flt M.out ?_;clear M;intro g3 w' hg3 M)|(refine l_al (d:=4) F_Path M.out ?_;clear M;intro g4 w' hg4 M)|(refine l_al (d:=5) F_Flt M.out ?_;clear M;intro g5 w' hg5 M)|(refine l_st F_Path M.out ?_;clear M;intro w' M)|(refine l_st F_Flt M.out ?_;clear M;intro w' M)|refine l_ld1 O_errno M.out ?_|(refine l_st F_Code M.out ?_;clear M;intro w' M)|refine l_ld F_Path M.out ?_)|(go_at_call 10;(with_reducible refine(HP.out _).mono ?_);rintro e w' ⟨⟨m,A,c,rfl,hrow⟩,hb⟩;have Mn:=M.out.addK (G:=fun K y=>SegsG K (ExR K m y) y (.slice A p.segs.length c) p.segs) (fun h hk=>SegsG.keep h hk fun _ _ h=>ExR.keep hk m m (Nat.le_refl _) _ _ h) hb hrow;replace M:=hH Mn;clear Mn hb hrow)|(go_at_call 9;(with_reducible refine(make_any (fun _=>True) p (.slice A p.segs.length c) _ (tree_of_segs M.out.now.2) HWF.out.1 (by have:=HWF.out.2;omega)).mono ?_);rintro e w' ⟨A1,A2,A3,A4,k1,k2,k3,k4,rfl,hcr,⟨f1,f2,f3,f4⟩,hq,hb⟩;have Mn:=M.out.addC hb hcr f1 f2 f3 f4;have HQQ:=hH hq;have HFF:=hH (show FrA w A1∧FrA w A2∧FrA w A3∧FrA w A4 from⟨f1.le M.out.size,f2.le M.out.size,f3.le M.out.size,f4.le M.out.size⟩);replace M:=hH Mn;clear Mn hb hcr f1 f2 f3 f4 hq))
 rw [←HQ.out]
 exact bodyPost_ret (results_2T Tryz.results5 _ _ g2 g3 _ _ _ _ rfl rfl (M.out.blk (g2,_,_) (by repeat constructor)) (M.out.blk (g3,_,_) (by repeat constructor)) F_Code F_Flt rfl rfl) rfl ⟨A1,A2,A3,A4,k1,k2,k3,k4,rfl,M.out.now.2,HFF.out,HQQ.out,M.out.bel0⟩
theorem query_any (s:ByteArray)(w:World)(hs:s.size≤1000):Calls Tryz.prog 5 #[.string s] w (CQueryP s.data.toList w):=by
 have hP:=fun w=>parse_any s w (by omega)
 unfold ParseP at hP
 cases hp:parseT true s.data.toList with
 | error e =>
  obtain⟨x,a⟩:=e
  rw [hp] at hP
  unfold CQueryP
  rw [hp]
  exact query_errP s w x a (bne_iff_ne.2 (err_ne hp)) hP
 | ok p =>
  rw [hp] at hP
  unfold CQueryP
  rw [hp]
  obtain⟨h1,h2,-⟩:=parse_wf hp
  exact query_okP s w p h1 (by have:s.data.toList.length≤1000:=(by rw [len_toList];exact hs);omega) hP
end
section
open Go.RowKit
theorem Blk.shape {w:World}{g:Nat}{T:TypeId}{cs:Array Value}(h:Blk w g T cs):w.shape? g=some (T,cs.size):=by
 have h':w.heap[g]? = some (.cells cs T (0,0)):=h
 simp [World.shape?,h']
end
section
open Go.RowKit
theorem wraps_u8 (n:Int)(h0:0≤n)(h1:n<2 ^ 7):IntKind.u8.wrap n=n:=by rw [show IntKind.u8.wrap n=n % 256 from rfl];omega
end
section
open Go.RowKit
theorem PtrG.ptr {K:Nat→Prop}{R:List Value→ExprT→Prop}{w:World}{v:Value}{f:Option ExprT}(h:PtrG K R w v f):∃q,v=.pointer q:=by
 cases f with
 | none=>exact⟨_,h⟩
 | some e=>obtain⟨b,off,cs,h,_⟩:=h;exact⟨_,h⟩
end
section
open Go.RowKit
theorem F_Flq :TyF Tryz.prog 31 2 #[.int .i64 0,.int .i64 0]:=⟨⟨_,Tryz.underlying31,rfl⟩,by kernel_rfl,by kernel_rfl⟩
theorem O_ern :OneF Tryz.prog 29:=⟨⟨_,Tryz.underlying29,rfl⟩,by kernel_rfl⟩
section
variable  {P:Program}{S:World→Prop}{ops:Array Oper}{md:Region.Mode}{fuel i:Nat}{listed:Array Bool}{is:List Nat}{dst:Option Tmp}{tt:TypeId}{pos:String}{af:Array Edge}{a:Act}{w:World}{Q:Exit→Act→World→Prop}
theorem q_ldG {T:TypeId}{n:Nat}{z:Array Value}(F:TyF P T n z){gd:Nat×Bool}(x:Operand)(g:Nat)(hx:a.eval x=.pointer (some ⟨g,0,none⟩))(T':TypeId)(cs:Array Value)(hS:∀w,S w→Blk w g T' cs)(hn:cs.size=n)(hw:Region.wanted ⟨dst,.load T x,tt,pos,af,some gd⟩ (yielded ops a.tmps)=true:=by rfl):YieldsIf P ops S ⟨dst,.load T x,tt,pos,af,some gd⟩ (.agg cs) a:=by
 obtain⟨d,hu,hd⟩:=F.u
 refine .inl ⟨hw,fun w hw'=>?_⟩
 unfold execOp
 simp only [hx,Instr.loadAt,Instr.sureAddr,Sem.run_bind,Sem.run_pure,Result.andThen_ok,run_loadVar_row w g T' T cs (0,0) d (hS w hw') hu (by cases d <;> first|rfl|cases hd) (by rw [hn];exact F.s)]
theorem q_ld1g {w0:World}{X:List Nat}{L:List BlkE}{rs:List RowE}{J:World→Prop}{rest:List Oper}{T:TypeId}(F:OneF P T){gd:Nat×Bool}{x:Operand}{g j:Nat}{T':TypeId}{cs:Array Value}{v:Value}(hw:Region.wanted ⟨dst,.load T x,tt,pos,af,some gd⟩ (yielded ops a.tmps)=true)(hx:a.eval x=.pointer (some ⟨g,j,none⟩))(M:Own X w0 w L rs J)
  (h:wpList P ops Q rest (a.put dst v) w) (hm:(g,T',cs)∈L:=by repeat constructor) (hv:cs[j]? = some v:=by exact rfl):wpList P ops Q (⟨dst,.load T x,tt,pos,af,some gd⟩::rest) a w :=
 wpList_step fun _ hK=>by rw [if_pos hw];exact o_ld1 F hx (((M.blk _ hm).cell j).trans hv) (hK _ _ h)
theorem q_gl (T:TypeId){gd:Nat×Bool}{x:Operand}{rest:List Oper}(h:wpList P ops Q (⟨dst,.load T x,tt,pos,af,some gd⟩::rest) a w):wpList P ops Q (⟨dst,.load T x,tt,pos,af,some gd⟩::rest) a w:=h
theorem q_no {o:Oper}(hw:Region.wanted o (yielded ops a.tmps)=false):YieldsIf P ops S o undef a:=.inr ⟨hw,rfl⟩
theorem q_callg {gd:Nat×Bool}{f:FuncId}{args:Array Value}{R:Ending→World→Prop}(hc:Calls P f args w R){op:Op}(ho:ops[i]? = some ⟨dst,op,tt,pos,af,some gd⟩)(hw:Region.wanted ⟨dst,op,tt,pos,af,some gd⟩ (yielded ops a.tmps)=true)
  (h:∀e w',R e w'→∃v,e=.returned v∧S w'∧wpAnyH P md ops Q S fuel (listed.setIfInBounds i true) (a.put dst v) w') (hs:AllReadyH P md ops Q S fuel listed a w is:=by exact .nil) (hrun:(execOp a.eval ⟨dst,op,tt,pos,af,some gd⟩).run P w=.ok (.enter f args) w:=by go_simp):AllReadyH P md ops Q S fuel listed a w (i::is):=by
 refine AllReadyH.cons ho (fun K hK=>?_) hs
 rw [if_pos hw]
 refine wp_of_call hrun (hc.mono fun e w' he=>?_)
 obtain⟨v,h1,h2,h3⟩:=h e w' he
 exact⟨v,h1,hK.out _ _ h2 fun _=>h3⟩
end
end
section
open Go.RowKit
set_option maxRecDepth 100000
set_option maxHeartbeats 2000000
theorem rdd_atS {α:Type}(f:α→List Value)(k:Nat)(hk:∀x,(f x).length=k)(J:World→Prop){w:World}{A:Option Addr}{l:List α}{i:Nat}{x:α}(hJ:∀y,J y→Rdd y k A l.length (l.flatMap f))(h:J w)(hs:∀a,A=some a→a.spot=none)(hx:l[i]? = some x) :
  ∃b off,A=some ⟨b,off,none⟩∧∀y,J y→∀j u,(f x)[j]? = some u→y.cell? ⟨b,off+i*k+j,none⟩=some u:=by
 have hpos:0<l.length:=by have:=(List.getElem?_eq_some_iff.1 hx).1;omega
 obtain⟨⟨b,off,sp⟩,e,_⟩:=(hJ w h).2 hpos
 obtain rfl:sp=none:=hs _ e
 refine⟨b,off,e,fun y hy j u hu=>?_⟩
 obtain⟨ad,e',_,hc⟩:=(hJ y hy).2 hpos
 rw [e] at e'
 cases e'
 have hj:j<k:=by rw [←hk x];exact(List.getElem?_eq_some_iff.1 hu).1
 have:=hc (i*k+j) u (by rw [flat_get f k hk _ i j hj,hx];exact hu)
 rw [add_lit,←Nat.add_assoc] at this
 exact this
theorem l_ldcgS {P:Program}{ops:Array Oper}{dst:Option Tmp}{tt:TypeId}{pos:String}{af:Array Edge}{a:Act}{w:World}{Q:Exit→Act→World→Prop}{rest:List Oper}{T:TypeId}(F:OneF P T){gd:Nat×Bool}{x:Operand}{b o:Nat}{v:Value}(hw:Region.wanted ⟨dst,.load T x,tt,pos,af,some gd⟩ (yielded ops a.tmps)=true)(hx:a.eval x=.pointer (some ⟨b,o,none⟩))(hc:w.cell? ⟨b,o,none⟩=some v)
  (h:wpList P ops Q rest (a.put dst v) w):wpList P ops Q (⟨dst,.load T x,tt,pos,af,some gd⟩::rest) a w :=
 wpList_step fun _ hK=>by rw [if_pos hw];exact o_ld1 F hx hc (hK _ _ h)
theorem aw_parse19 :parseT true (⟨#[36]⟩:ByteArray).data.toList=.ok ⟨true,[]⟩:=by kernel_rfl
theorem aw_code19 :codeT ⟨true,[]⟩=⟨[⟨true,0,0⟩],[],[],[]⟩:=by kernel_rfl
theorem awake19 (w:World):Calls Tryz.prog 4 #[] w fun e w'=>e=.returned (.bool true)∧Bel w.heap.size w w':=by
 have M:=hH (Own.start [] w (fun _=>True) fun _ _=>trivial)
 have hQ:=fun w=>query_any ⟨#[36]⟩ w (by decide)
 unfold CQueryP at hQ
 rw [aw_parse19] at hQ
 simp only [aw_code19] at hQ
 have HP:=hH hQ
 clear hQ
 go_enter Tryz.func4, Tryz.ntmps4
 go_upto_region 2 with(first|(with_reducible first|(refine l_al (d:=1) F_Code M.out ?_;clear M;intro g1 w' hg1 M)|(refine l_al (d:=2) F_Flt M.out ?_;clear M;intro g2 w' hg2 M)|(refine l_st F_Code M.out ?_;clear M;intro w' M)|(refine l_st F_Flt M.out ?_;clear M;intro w' M))|(go_at_call 5;(with_reducible refine(HP.out _).mono ?_);rintro e w' ⟨A1,A2,A3,A4,k1,k2,k3,k4,rfl,hcr,⟨f1,f2,f3,f4⟩,hq,hb⟩;have HF:=hH (show FrA w A1∧FrA w A2∧FrA w A3∧FrA w A4 from⟨f1.le M.out.size,f2.le M.out.size,f3.le M.out.size,f4.le M.out.size⟩);have Mn:=M.out.addC hb hcr f1 f2 f3 f4;have HQQ:=hH hq;replace M:=hH Mn;clear Mn hb hcr f1 f2 f3 f4 hq))
 obtain⟨b1,o1,hA1,hc1⟩:=rdd_atS pathC 3 (fun _=>rfl) _ (fun y h=>CRd.p (And.right h)) M.out.now (fun a e=>(HF.out.1 a e).2) (i:=0) rfl
 subst hA1
 have HZ:=hH (hc1 _ M.out.now 0 _ rfl)
 clear hc1
 go_wp2_with (first|(with_reducible first|refine l_ld1 O_ern M.out ?_|refine l_ld1 O_sCPath M.out ?_)|((with_reducible refine q_gl 23 ?_);refine q_ld1g O_sCPath rfl rfl M.out ?_)|((with_reducible refine q_gl 4 ?_);refine l_ldcgS O_bool rfl rfl HZ.out ?_))
 go_ret
 exact⟨by simp,M.out.bel0⟩
theorem queryc_err {s:ByteArray}{x a:Int}(w:World)(hs:s.size≤1000000)(h:parseT true s.data.toList=.error (x,a)):Calls Tryz.prog 5 #[.string s] w fun e w'=>e=.returned (.tuple #[.agg #[.slice none 0 0,.slice none 0 0,.slice none 0 0,.slice none 0 0],.agg #[.int .i64 x,.int .i64 a]])∧Bel w.heap.size w w':=by
 have hP:=fun w=>parse_any s w hs
 unfold ParseP at hP
 rw [h] at hP
 exact query_errP s w x a (bne_iff_ne.2 (err_ne h)) hP
theorem queryc_ok {s:ByteArray}{p:PathT}(w:World)(hs:s.size≤1000000)(h:parseT true s.data.toList=.ok p)(hwt:wtP (wtN 200) p≤4000):Calls Tryz.prog 5 #[.string s] w fun e w'=>∃(A1 A2 A3 A4:Option Addr) (k1 k2 k3 k4:Nat),e=.returned (.tuple #[.agg #[.slice A1 (codeT p).ps.length k1,.slice A2 (codeT p).gs.length k2,.slice A3 (codeT p).ss.length k3,.slice A4 (codeT p).is.length k4],.agg #[.int .i64 0,.int .i64 0]])∧CRd w' (codeT p) A1 A2 A3 A4∧(FrA w A1∧FrA w A2∧FrA w A3∧FrA w A4)∧((codeT p).gs.length≤k2∧(codeT p).ss.length≤k3)∧Bel w.heap.size w w':=by
 have hP:=fun w=>parse_any s w hs
 unfold ParseP at hP
 rw [h] at hP
 exact query_okP s w p (parse_wf h).1 hwt hP
theorem rsame19_one (c:CodeD)(A1 A2 A3 A4 B1 B2 B3 B4:Option Addr)(k1 k2 k3 k4 r1 r2 r3 r4:Nat)(w:World)(hA:CRd w c A1 A2 A3 A4)(hB:CRd w c B1 B2 B3 B4)(hsA:(∀a,A1=some a→a.spot=none)∧(∀a,A2=some a→a.spot=none)∧(∀a,A3=some a→a.spot=none)∧(∀a,A4=some a→a.spot=none))(hsB:(∀a,B1=some a→a.spot=none)∧(∀a,B2=some a→a.spot=none)∧(∀a,B3=some a→a.spot=none)∧(∀a,B4=some a→a.spot=none))(hz:c.ps.length+c.gs.length+c.ss.length+c.is.length≤9000000000) :
  Calls Tryz.prog 7 #[.agg #[.slice A1 c.ps.length k1,.slice A2 c.gs.length k2,.slice A3 c.ss.length k3,.slice A4 c.is.length k4],.agg #[.slice B1 c.ps.length r1,.slice B2 c.gs.length r2,.slice B3 c.ss.length r3,.slice B4 c.is.length r4]] w fun e w'=>e=.returned (.bool true)∧Bel w.heap.size w w':=by
 have M:=hH (Own.start [] w (fun y=>CRd y c A1 A2 A3 A4∧CRd y c B1 B2 B3 B4) fun y hy=>⟨⟨hA.p.old hy,hA.g.old hy,hA.s.old hy,hA.i.old hy⟩,⟨hB.p.old hy,hB.g.old hy,hB.s.old hy,hB.i.old hy⟩⟩)
 have HZ:=hH hz
 have HSA:=hH hsA
 have HSB:=hH hsB
 clear hA hB hz hsA hsB
 go_enter Tryz.func7, Tryz.ntmps7
 go_wp2_with (first|(with_reducible first|(refine l_bx (d:=2) M.out ?_;clear M;intro g2 w' hg2 M)|(refine l_bx (d:=3) M.out ?_;clear M;intro g3 w' hg3 M)|refine l_ld1 O_sCPath M.out ?_|refine l_ld1 O_sCSeg M.out ?_|refine l_ld1 O_sCSel M.out ?_|refine l_ld1 O_sIns M.out ?_)|((with_reducible refine q_gl 23 ?_);refine q_ld1g O_sCPath rfl rfl M.out ?_)|((with_reducible refine q_gl 24 ?_);refine q_ld1g O_sCSeg rfl rfl M.out ?_)|((with_reducible refine q_gl 25 ?_);refine q_ld1g O_sCSel rfl rfl M.out ?_)|((with_reducible refine q_gl 26 ?_);refine q_ld1g O_sIns rfl rfl M.out ?_))
 go_loopg [5] c.ps.length (fun gk ii wr=>∃i:Nat,i≤c.ps.length∧gk=c.ps.length-i∧ii=.int .i64 i∧Hid (Own [] w wr [(g3,28,#[.slice B1 c.ps.length r1,.slice B2 c.gs.length r2,.slice B3 c.ss.length r3,.slice B4 c.is.length r4]),(g2,28,#[.slice A1 c.ps.length k1,.slice A2 c.gs.length k2,.slice A3 c.ss.length k3,.slice A4 c.is.length k4])] [] (fun y=>CRd y c A1 A2 A3 A4∧CRd y c B1 B2 B3 B4)))
 case atStart=>exact⟨0,Nat.zero_le _,rfl,rfl,M⟩
 case round =>
  clear M
  obtain⟨i,hi,hgk,rfl,M⟩:=hrel
  have HGK:=hH hgk
  clear hgk
  have hz:=HZ.out
  by_cases hlt:i<c.ps.length
  ·obtain⟨x,hx⟩:∃x,c.ps[i]? = some x:=⟨_,List.getElem?_eq_getElem hlt⟩
   obtain⟨b1,o1,e1,hc1⟩:=rdd_atS pathC 3 (fun _=>rfl) (fun y=>CRd y c A1 A2 A3 A4∧CRd y c B1 B2 B3 B4) (fun y h=>CRd.p (And.left h)) M.out.now HSA.out.1 hx
   obtain⟨b2,o2,e2,hc2⟩:=rdd_atS pathC 3 (fun _=>rfl) (fun y=>CRd y c A1 A2 A3 A4∧CRd y c B1 B2 B3 B4) (fun y h=>CRd.p (And.right h)) M.out.now HSB.out.1 hx
   subst e1 e2
   obtain⟨e0,e1,e2⟩:=x
   have HC1:=hH hc1
   have HC2:=hH hc2
   clear hc1 hc2 hx
   have hlti:(i:Int)<(c.ps.length:Int):=by omega
   go_upto_region 6 with(first|(with_reducible refine l_ld1 O_sCPath M.out ?_))
   replace M:=hH M.out.drew
   refine tbh (fun y=>((CRd y c (some ⟨b1,o1,none⟩) A2 A3 A4∧CRd y c (some ⟨b2,o2,none⟩) B2 B3 B4)∧Blk y g3 28 #[.slice (some ⟨b2,o2,none⟩) c.ps.length r1,.slice B2 c.gs.length r2,.slice B3 c.ss.length r3,.slice B4 c.is.length r4])∧Blk y g2 28 #[.slice (some ⟨b1,o1,none⟩) c.ps.length k1,.slice A2 c.gs.length k2,.slice A3 c.ss.length k3,.slice A4 c.is.length k4]) ⟨⟨M.out.now,M.out.blk (g3,28,#[.slice (some ⟨b2,o2,none⟩) c.ps.length r1,.slice B2 c.gs.length r2,.slice B3 c.ss.length r3,.slice B4 c.is.length r4]) (by repeat constructor)⟩,M.out.blk (g2,28,#[.slice (some ⟨b1,o1,none⟩) c.ps.length k1,.slice A2 c.gs.length k2,.slice A3 c.ss.length k3,.slice A4 c.is.length k4]) (by repeat constructor)⟩ fun hS=>?_
   refine tkp 0 rfl hS ?_
   refine tk 1 rfl hS (y_ld1 O_sCPath _ g2 0 rfl _ _ (fun y h=>h.2) _ rfl) ?_
   refine tkp 2 rfl hS ?_
   refine tkp 3 rfl hS ?_
   refine tk 4 rfl hS (y_ldf F_CPath _ b1 (o1+i*3) rfl [.bool e0,.int .i64 e1,.int .i64 e2] (fun y h=>HC1.out y h.1.1) rfl) ?_
   refine tkp 5 rfl hS ?_
   refine tk 6 rfl hS (y_ld1 O_sCPath _ g3 0 rfl _ _ (fun y h=>h.1.2) _ rfl) ?_
   refine tkp 7 rfl hS ?_
   refine tkp 8 rfl hS ?_
   refine tk 9 rfl hS (y_ldf F_CPath _ b2 (o2+i*3) rfl [.bool e0,.int .i64 e1,.int .i64 e2] (fun y h=>HC2.out y h.1.1) rfl) ?_
   refine tkp 10 rfl hS ?_ (v:=.bool false) (hv:=by intro w hS;go_simp)
   refine te ?_
   go_wp2
   go_roundg (c.ps.length-(i+1))
   case measure=>rw [HGK.out];omega
   case rel=>exact⟨i+1,by omega,rfl,by go_num,M⟩
  obtain rfl:i=c.ps.length:=by omega
  go_wp2_with (first|(with_reducible first|refine l_ld1 O_sCPath M.out ?_|refine l_ld1 O_sCSeg M.out ?_))
  go_loopg [6] c.gs.length (fun gk ii wr=>∃i:Nat,i≤c.gs.length∧gk=c.gs.length-i∧ii=.int .i64 i∧Hid (Own [] w wr [(g3,28,#[.slice B1 c.ps.length r1,.slice B2 c.gs.length r2,.slice B3 c.ss.length r3,.slice B4 c.is.length r4]),(g2,28,#[.slice A1 c.ps.length k1,.slice A2 c.gs.length k2,.slice A3 c.ss.length k3,.slice A4 c.is.length k4])] [] (fun y=>CRd y c A1 A2 A3 A4∧CRd y c B1 B2 B3 B4)))
  case atStart=>exact⟨0,Nat.zero_le _,rfl,rfl,M⟩
  case round =>
   clear M
   obtain⟨i,hi,hgk,rfl,M⟩:=hrel
   have HGK:=hH hgk
   clear hgk
   have hz:=HZ.out
   by_cases hlt:i<c.gs.length
   ·obtain⟨x,hx⟩:∃x,c.gs[i]? = some x:=⟨_,List.getElem?_eq_getElem hlt⟩
    obtain⟨b1,o1,e1,hc1⟩:=rdd_atS segC 3 (fun _=>rfl) (fun y=>CRd y c A1 A2 A3 A4∧CRd y c B1 B2 B3 B4) (fun y h=>CRd.g (And.left h)) M.out.now HSA.out.2.1 hx
    obtain⟨b2,o2,e2,hc2⟩:=rdd_atS segC 3 (fun _=>rfl) (fun y=>CRd y c A1 A2 A3 A4∧CRd y c B1 B2 B3 B4) (fun y h=>CRd.g (And.right h)) M.out.now HSB.out.2.1 hx
    subst e1 e2
    obtain⟨e0,e1,e2⟩:=x
    have HC1:=hH hc1
    have HC2:=hH hc2
    clear hc1 hc2 hx
    have hlti:(i:Int)<(c.gs.length:Int):=by omega
    go_upto_region 11 with(first|(with_reducible refine l_ld1 O_sCSeg M.out ?_))
    replace M:=hH M.out.drew
    refine tbh (fun y=>((CRd y c A1 (some ⟨b1,o1,none⟩) A3 A4∧CRd y c B1 (some ⟨b2,o2,none⟩) B3 B4)∧Blk y g3 28 #[.slice B1 c.ps.length r1,.slice (some ⟨b2,o2,none⟩) c.gs.length r2,.slice B3 c.ss.length r3,.slice B4 c.is.length r4])∧Blk y g2 28 #[.slice A1 c.ps.length k1,.slice (some ⟨b1,o1,none⟩) c.gs.length k2,.slice A3 c.ss.length k3,.slice A4 c.is.length k4]) ⟨⟨M.out.now,M.out.blk (g3,28,#[.slice B1 c.ps.length r1,.slice (some ⟨b2,o2,none⟩) c.gs.length r2,.slice B3 c.ss.length r3,.slice B4 c.is.length r4]) (by repeat constructor)⟩,M.out.blk (g2,28,#[.slice A1 c.ps.length k1,.slice (some ⟨b1,o1,none⟩) c.gs.length k2,.slice A3 c.ss.length k3,.slice A4 c.is.length k4]) (by repeat constructor)⟩ fun hS=>?_
    refine tkp 0 rfl hS ?_
    refine tk 1 rfl hS (y_ld1 O_sCSeg _ g2 1 rfl _ _ (fun y h=>h.2) _ rfl) ?_
    refine tkp 2 rfl hS ?_
    refine tkp 3 rfl hS ?_
    refine tk 4 rfl hS (y_ldf F_CSeg _ b1 (o1+i*3) rfl [.bool e0,.int .i64 e1,.int .i64 e2] (fun y h=>HC1.out y h.1.1) rfl) ?_
    refine tkp 5 rfl hS ?_
    refine tk 6 rfl hS (y_ld1 O_sCSeg _ g3 1 rfl _ _ (fun y h=>h.1.2) _ rfl) ?_
    refine tkp 7 rfl hS ?_
    refine tkp 8 rfl hS ?_
    refine tk 9 rfl hS (y_ldf F_CSeg _ b2 (o2+i*3) rfl [.bool e0,.int .i64 e1,.int .i64 e2] (fun y h=>HC2.out y h.1.1) rfl) ?_
    refine tkp 10 rfl hS ?_ (v:=.bool false) (hv:=by intro w hS;go_simp)
    refine te ?_
    go_wp2
    go_roundg (c.gs.length-(i+1))
    case measure=>rw [HGK.out];omega
    case rel=>exact⟨i+1,by omega,rfl,by go_num,M⟩
   obtain rfl:i=c.gs.length:=by omega
   go_wp2_with (first|(with_reducible first|refine l_ld1 O_sCSeg M.out ?_|refine l_ld1 O_sCSel M.out ?_))
   go_loopg [7] c.ss.length (fun gk ii wr=>∃i:Nat,i≤c.ss.length∧gk=c.ss.length-i∧ii=.int .i64 i∧Hid (Own [] w wr [(g3,28,#[.slice B1 c.ps.length r1,.slice B2 c.gs.length r2,.slice B3 c.ss.length r3,.slice B4 c.is.length r4]),(g2,28,#[.slice A1 c.ps.length k1,.slice A2 c.gs.length k2,.slice A3 c.ss.length k3,.slice A4 c.is.length k4])] [] (fun y=>CRd y c A1 A2 A3 A4∧CRd y c B1 B2 B3 B4)))
   case atStart=>exact⟨0,Nat.zero_le _,rfl,rfl,M⟩
   case round =>
    clear M
    obtain⟨i,hi,hgk,rfl,M⟩:=hrel
    have HGK:=hH hgk
    clear hgk
    have hz:=HZ.out
    by_cases hlt:i<c.ss.length
    ·obtain⟨x,hx⟩:∃x,c.ss[i]? = some x:=⟨_,List.getElem?_eq_getElem hlt⟩
     obtain⟨b1,o1,e1,hc1⟩:=rdd_atS selC 8 (fun _=>rfl) (fun y=>CRd y c A1 A2 A3 A4∧CRd y c B1 B2 B3 B4) (fun y h=>CRd.s (And.left h)) M.out.now HSA.out.2.2.1 hx
     obtain⟨b2,o2,e2,hc2⟩:=rdd_atS selC 8 (fun _=>rfl) (fun y=>CRd y c A1 A2 A3 A4∧CRd y c B1 B2 B3 B4) (fun y h=>CRd.s (And.right h)) M.out.now HSB.out.2.2.1 hx
     subst e1 e2
     obtain⟨e0,e1,e2,e3,e4,e5,e6,e7⟩:=x
     have HC1:=hH hc1
     have HC2:=hH hc2
     clear hc1 hc2 hx
     have hlti:(i:Int)<(c.ss.length:Int):=by omega
     go_upto_region 16 with(first|(with_reducible refine l_ld1 O_sCSel M.out ?_))
     replace M:=hH M.out.drew
     refine tbh (fun y=>((CRd y c A1 A2 (some ⟨b1,o1,none⟩) A4∧CRd y c B1 B2 (some ⟨b2,o2,none⟩) B4)∧Blk y g3 28 #[.slice B1 c.ps.length r1,.slice B2 c.gs.length r2,.slice (some ⟨b2,o2,none⟩) c.ss.length r3,.slice B4 c.is.length r4])∧Blk y g2 28 #[.slice A1 c.ps.length k1,.slice A2 c.gs.length k2,.slice (some ⟨b1,o1,none⟩) c.ss.length k3,.slice A4 c.is.length k4]) ⟨⟨M.out.now,M.out.blk (g3,28,#[.slice B1 c.ps.length r1,.slice B2 c.gs.length r2,.slice (some ⟨b2,o2,none⟩) c.ss.length r3,.slice B4 c.is.length r4]) (by repeat constructor)⟩,M.out.blk (g2,28,#[.slice A1 c.ps.length k1,.slice A2 c.gs.length k2,.slice (some ⟨b1,o1,none⟩) c.ss.length k3,.slice A4 c.is.length k4]) (by repeat constructor)⟩ fun hS=>?_
     refine tkp 0 rfl hS ?_
     refine tk 1 rfl hS (y_ld1 O_sCSel _ g2 2 rfl _ _ (fun y h=>h.2) _ rfl) ?_
     refine tkp 2 rfl hS ?_
     refine tkp 3 rfl hS ?_
     refine tk 4 rfl hS (y_ldf F_CSel _ b1 (o1+i*8) rfl [.int .i64 e0,.string e1,.int .i64 e2,.int .i64 e3,.int .i64 e4,.bool e5,.bool e6,.int .i64 e7] (fun y h=>HC1.out y h.1.1) rfl) ?_
     refine tkp 5 rfl hS ?_
     refine tk 6 rfl hS (y_ld1 O_sCSel _ g3 2 rfl _ _ (fun y h=>h.1.2) _ rfl) ?_
     refine tkp 7 rfl hS ?_
     refine tkp 8 rfl hS ?_
     refine tk 9 rfl hS (y_ldf F_CSel _ b2 (o2+i*8) rfl [.int .i64 e0,.string e1,.int .i64 e2,.int .i64 e3,.int .i64 e4,.bool e5,.bool e6,.int .i64 e7] (fun y h=>HC2.out y h.1.1) rfl) ?_
     refine tkp 10 rfl hS ?_ (v:=.bool false) (hv:=by intro w hS;go_simp)
     refine te ?_
     go_wp2
     go_roundg (c.ss.length-(i+1))
     case measure=>rw [HGK.out];omega
     case rel=>exact⟨i+1,by omega,rfl,by go_num,M⟩
    obtain rfl:i=c.ss.length:=by omega
    go_wp2_with (first|(with_reducible first|refine l_ld1 O_sCSel M.out ?_|refine l_ld1 O_sIns M.out ?_))
    go_loopg [8] c.is.length (fun gk ii wr=>∃i:Nat,i≤c.is.length∧gk=c.is.length-i∧ii=.int .i64 i∧Hid (Own [] w wr [(g3,28,#[.slice B1 c.ps.length r1,.slice B2 c.gs.length r2,.slice B3 c.ss.length r3,.slice B4 c.is.length r4]),(g2,28,#[.slice A1 c.ps.length k1,.slice A2 c.gs.length k2,.slice A3 c.ss.length k3,.slice A4 c.is.length k4])] [] (fun y=>CRd y c A1 A2 A3 A4∧CRd y c B1 B2 B3 B4)))
    case atStart=>exact⟨0,Nat.zero_le _,rfl,rfl,M⟩
    case round =>
     clear M
     obtain⟨i,hi,hgk,rfl,M⟩:=hrel
     have HGK:=hH hgk
     clear hgk
     have hz:=HZ.out
     by_cases hlt:i<c.is.length
     ·obtain⟨x,hx⟩:∃x,c.is[i]? = some x:=⟨_,List.getElem?_eq_getElem hlt⟩
      obtain⟨b1,o1,e1,hc1⟩:=rdd_atS insC 7 (fun _=>rfl) (fun y=>CRd y c A1 A2 A3 A4∧CRd y c B1 B2 B3 B4) (fun y h=>CRd.i (And.left h)) M.out.now HSA.out.2.2.2 hx
      obtain⟨b2,o2,e2,hc2⟩:=rdd_atS insC 7 (fun _=>rfl) (fun y=>CRd y c A1 A2 A3 A4∧CRd y c B1 B2 B3 B4) (fun y h=>CRd.i (And.right h)) M.out.now HSB.out.2.2.2 hx
      subst e1 e2
      obtain⟨e0,e1,e2,e3,e4,e5,e6⟩:=x
      have HC1:=hH hc1
      have HC2:=hH hc2
      clear hc1 hc2 hx
      have hlti:(i:Int)<(c.is.length:Int):=by omega
      go_upto_region 21 with(first|(with_reducible refine l_ld1 O_sIns M.out ?_))
      replace M:=hH M.out.drew
      refine tbh (fun y=>((CRd y c A1 A2 A3 (some ⟨b1,o1,none⟩)∧CRd y c B1 B2 B3 (some ⟨b2,o2,none⟩))∧Blk y g3 28 #[.slice B1 c.ps.length r1,.slice B2 c.gs.length r2,.slice B3 c.ss.length r3,.slice (some ⟨b2,o2,none⟩) c.is.length r4])∧Blk y g2 28 #[.slice A1 c.ps.length k1,.slice A2 c.gs.length k2,.slice A3 c.ss.length k3,.slice (some ⟨b1,o1,none⟩) c.is.length k4]) ⟨⟨M.out.now,M.out.blk (g3,28,#[.slice B1 c.ps.length r1,.slice B2 c.gs.length r2,.slice B3 c.ss.length r3,.slice (some ⟨b2,o2,none⟩) c.is.length r4]) (by repeat constructor)⟩,M.out.blk (g2,28,#[.slice A1 c.ps.length k1,.slice A2 c.gs.length k2,.slice A3 c.ss.length k3,.slice (some ⟨b1,o1,none⟩) c.is.length k4]) (by repeat constructor)⟩ fun hS=>?_
      refine tkp 0 rfl hS ?_
      refine tk 1 rfl hS (y_ld1 O_sIns _ g2 3 rfl _ _ (fun y h=>h.2) _ rfl) ?_
      refine tkp 2 rfl hS ?_
      refine tkp 3 rfl hS ?_
      refine tk 4 rfl hS (y_ldf F_Ins _ b1 (o1+i*7) rfl [.int .i64 e0,.int .i64 e1,.int .i64 e2,.int .i64 e3,.int .i64 e4,.string e5,.int .i64 e6] (fun y h=>HC1.out y h.1.1) rfl) ?_
      refine tkp 5 rfl hS ?_
      refine tk 6 rfl hS (y_ld1 O_sIns _ g3 3 rfl _ _ (fun y h=>h.1.2) _ rfl) ?_
      refine tkp 7 rfl hS ?_
      refine tkp 8 rfl hS ?_
      refine tk 9 rfl hS (y_ldf F_Ins _ b2 (o2+i*7) rfl [.int .i64 e0,.int .i64 e1,.int .i64 e2,.int .i64 e3,.int .i64 e4,.string e5,.int .i64 e6] (fun y h=>HC2.out y h.1.1) rfl) ?_
      refine tkp 10 rfl hS ?_ (v:=.bool false) (hv:=by intro w hS;go_simp)
      refine te ?_
      go_wp2
      go_roundg (c.is.length-(i+1))
      case measure=>rw [HGK.out];omega
      case rel=>exact⟨i+1,by omega,rfl,by go_num,M⟩
     obtain rfl:i=c.is.length:=by omega
     go_wp2_with (first|(with_reducible refine l_ld1 O_sIns M.out ?_))
     go_ret
     exact⟨rfl,M.out.bel0⟩
end

end Go.Proofs.YtjbdcjcfijjiiaaGreatDoor
