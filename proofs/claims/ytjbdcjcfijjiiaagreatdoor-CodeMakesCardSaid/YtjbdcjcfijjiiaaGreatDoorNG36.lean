/- NG36: Co, Zg joined. -/
import Derived.Test.YtjbdcjcfijjiiaaGreatDoorNG22
import Derived.Test.YtjbdcjcfijjiiaaGreatDoorNYp
import Derived.Test.YtjbdcjcfijjiiaaGreatDoorNZf
namespace Go.Proofs.YtjbdcjcfijjiiaaGreatDoor
open Go.RowKit
/- ref19: Query (printed by gen_co.py). -/
section
open Go.RowKit
set_option maxRecDepth 100000
set_option maxHeartbeats 2000000
theorem F_Flt :TyF Tryz.prog 31 2 #[.int .i64 0,.int .i64 0]:=⟨⟨_,Tryz.underlying31,rfl⟩,by kernel_rfl,by kernel_rfl⟩
theorem O_errno :OneF Tryz.prog 29:=⟨⟨_,Tryz.underlying29,rfl⟩,by kernel_rfl⟩
theorem results_2T {P:Program}{fn:Func}{p q:Tmp}{ty uy:TypeId}(h:fn.results=#[.cell p ty,.cell q uy])(tmps:Array Value)(w:World)(g k:Nat)(T U:TypeId)(cs ds:Array Value)(hp:tmps.getD p undef=.pointer (some ⟨g,0,none⟩))(hq:tmps.getD q undef=.pointer (some ⟨k,0,none⟩))(hg:Blk w g T cs)(hk:Blk w k U ds){n m:Nat}{z z':Array Value}(F:TyF P ty n z)(G:TyF P uy m z')(hn:cs.size=n)(hm:ds.size=m) :
  (results fn tmps).run P w=.ok (.tuple #[.agg cs,.agg ds]) w:=by
 obtain⟨d,hu,hd⟩:=F.u
 obtain⟨d',hu',hd'⟩:=G.u
 exact results_2 h tmps g k T U cs ds d d' hp hq hg hk hu hd hu' hd' n m F.s hn G.s hm
structure CRd (y:World)(c:CodeD)(A1 A2 A3 A4:Option Addr):Prop where
 p:Rdd y 3 A1 c.ps.length (c.ps.flatMap pathC)
 g:Rdd y 3 A2 c.gs.length (c.gs.flatMap segC)
 s:Rdd y 8 A3 c.ss.length (c.ss.flatMap selC)
 i:Rdd y 7 A4 c.is.length (c.is.flatMap insC)
theorem Own.addR4 {X:List Nat}{w0 w w':World}{L:List BlkE}{rs:List RowE}{J:World→Prop}{A1 A2 A3 A4 A5:Option Addr}{c:CodeD}{W:List (PathT×Value)}(M:Own X w0 w L rs J)(hb:Bel w.heap.size w w')(h:MRd w' c W A1 A2 A3 A4 A5)(f1:FrA w A1)(f2:FrA w A2)(f3:FrA w A3)(f4:FrA w A4):Own X w0 w' L rs (fun y=>J y∧CRd y c A1 A2 A3 A4) :=
 (M.bel hb).add fun _ hy =>
  have key:∀{k n:Nat} {A:Option Addr} {xs:List Value},Rdd w' k A n xs→FrA w A→Rdd _ k A n xs:=fun h hf=>h.kept hy fun a e _ hm=>Nat.lt_irrefl _ (Nat.lt_of_lt_of_le (M.ex_lt hm) (hf a e).1)
  ⟨key h.p f1,key h.g f2,key h.s f3,key h.i f4⟩
def RQueryP (l:List UInt8)(w:World)(e:Ending)(w':World):Prop :=
 match parseT false l with
 | .error (x,a)=>e=.returned (.tuple #[.agg #[.slice none 0 0,.slice none 0 0,.slice none 0 0,.slice none 0 0],.agg #[.int .i64 x,.int .i64 a]])∧Bel w.heap.size w w'
 | .ok p=>∃(A1 A2 A3 A4:Option Addr) (k1 k2 k3 k4:Nat),e=.returned (.tuple #[.agg #[.slice A1 (codeT p).ps.length k1,.slice A2 (codeT p).gs.length k2,.slice A3 (codeT p).ss.length k3,.slice A4 (codeT p).is.length k4],.agg #[.int .i64 0,.int .i64 0]])∧
  CRd w' (codeT p) A1 A2 A3 A4∧(FrA w A1∧FrA w A2∧FrA w A3∧FrA w A4)∧((codeT p).gs.length≤k2∧(codeT p).ss.length≤k3)∧Bel w.heap.size w w'
theorem tree_of_row {w y:World}{m:Nat}{p:PathT}{A:Option Addr}{c:Nat}(h:RowG (Fr w) 2 (RSeg (Fr w) m y) y (.slice A p.segs.length c) p.segs):TreeV y (p,.slice A p.segs.length c) :=
 SegsG.tree (p:=p) (SegsG.keep (K':=Lw y) (R':=ExR (Lw y) m y) h ⟨Nat.le_refl _,fun _ _ hb=>⟨hb,rfl⟩⟩ fun cs x hx=>ExR.keep ⟨Nat.le_refl _,fun _ _ hb=>⟨hb,rfl⟩⟩ m m (Nat.le_refl _) cs x hx)
theorem rquery_err (s:ByteArray)(w:World)(hs:s.size≤1000)(x a:Int)(hp:parseT false s.data.toList=.error (x,a)):Calls Tryz.prog 6 #[.string s] w (RQueryP s.data.toList w):=by
 have M:=hH (Own.start [] w (fun _=>True) fun _ _=>trivial)
 have hP:=fun w=>rparse_any s w (by omega)
 unfold RParseP at hP
 rw [hp] at hP
 have HP:=hH hP
 have hxb:(x != 0)=true:=bne_iff_ne.2 (err_ne hp)
 have HE:=hH (show ∀w',Bel w.heap.size w w'→RQueryP s.data.toList w (.returned (.tuple #[.agg #[.slice none 0 0,.slice none 0 0,.slice none 0 0,.slice none 0 0],.agg #[.int .i64 x,.int .i64 a]])) w' from fun w' hb=>by
  unfold RQueryP;rw [hp];exact⟨rfl,hb⟩)
 clear hP hp
 go_enter Tryz.func6, Tryz.ntmps6
 generalize hQ:bodyPost Tryz.prog Tryz.f6 _=Q
 have HQ:=hH hQ;clear hQ
 let qd:=bodyPost Tryz.prog Tryz.f6 (fun _ _=>True)
 go_upto_region 3 with(first|(with_reducible first|(refine l_al (d:=2) F_Code M.out ?_;clear M;intro g2 w' hg2 M)|(refine l_al (d:=3) F_Flt M.out ?_;clear M;intro g3 w' hg3 M)|(refine l_al (d:=4) F_Path M.out ?_;clear M;intro g4 w' hg4 M)|(refine l_al (d:=5) F_Flt M.out ?_;clear M;intro g5 w' hg5 M)|(refine l_st F_Path M.out ?_;clear M;intro w' M)|(refine l_st F_Flt M.out ?_;clear M;intro w' M)|refine l_ld1 O_errno M.out ?_)|(go_at_call 8;(with_reducible refine(HP.out _).mono ?_);rintro e w' ⟨rfl,hb⟩;replace M:=hH (M.out.bel hb);clear hb))
 replace M:=hH M.out.freeze
 replace M:=hH M.out.freeze
 replace M:=hH M.out.drew
 refine tbh (fun y=>(True∧Blk y g5 31 #[.int .i64 x,.int .i64 a])∧Blk y g4 37 #[.bool false,.slice none 0 0]) M.out.now fun hS=>?_
 refine tkp 0 rfl hS ?_
 refine tk 1 rfl hS (y_ld F_Flt _ _ rfl _ _ (fun y h=>h.1.2) rfl) ?_
 refine tr [2] ?_
 refine r_st F_Code (i:=2) rfl rfl rfl M.out ?_
 clear M;intro w' M;refine an M.out.now fun hS=>tn ?_
 refine tr [3] ?_
 refine r_st F_Flt (i:=3) rfl rfl rfl M.out ?_
 clear M;intro w' M;refine an M.out.now fun hS=>tn ?_
 refine te ?_
 go_wp2
 rw [←HQ.out]
 exact bodyPost_ret (results_2T Tryz.results6 _ _ g2 g3 _ _ _ _ rfl rfl (M.out.blk (g2,_,_) (by repeat constructor)) (M.out.blk (g3,_,_) (by repeat constructor)) F_Code F_Flt rfl rfl) rfl (HE.out _ M.out.bel0)
theorem rquery_ok (s:ByteArray)(w:World)(hs:s.size≤1000)(p:PathT)(hp:parseT false s.data.toList=.ok p):Calls Tryz.prog 6 #[.string s] w (RQueryP s.data.toList w):=by
 have M:=hH (Own.start [] w (fun _=>True) fun _ _=>trivial)
 have hP:=fun w=>rparse_any s w (by omega)
 unfold RParseP at hP
 rw [hp] at hP
 have HP:=hH hP
 have HWF:=hH (parse_wf hp)
 have HSZ:=hH (show s.data.toList.length≤1000 from by rw [len_toList];exact hs)
 have HE:=hH (show ∀e w',(∃(A1 A2 A3 A4:Option Addr) (k1 k2 k3 k4:Nat),e=.returned (.tuple #[.agg #[.slice A1 (codeT p).ps.length k1,.slice A2 (codeT p).gs.length k2,.slice A3 (codeT p).ss.length k3,.slice A4 (codeT p).is.length k4],.agg #[.int .i64 0,.int .i64 0]])∧CRd w' (codeT p) A1 A2 A3 A4∧(FrA w A1∧FrA w A2∧FrA w A3∧FrA w A4)∧((codeT p).gs.length≤k2∧(codeT p).ss.length≤k3)∧Bel w.heap.size w w')→RQueryP s.data.toList w e w' from fun e w' h=>by
  unfold RQueryP;rw [hp];exact h)
 clear hP hp
 go_enter Tryz.func6, Tryz.ntmps6
 generalize hQ:bodyPost Tryz.prog Tryz.f6 _=Q
 have HQ:=hH hQ;clear hQ
 let qd:=bodyPost Tryz.prog Tryz.f6 (fun _ _=>True)
 go_upto_region 4 with(first|(with_reducible first|(refine l_al (d:=2) F_Code M.out ?_;clear M;intro g2 w' hg2 M)|(refine l_al (d:=3) F_Flt M.out ?_;clear M;intro g3 w' hg3 M)|(refine l_al (d:=4) F_Path M.out ?_;clear M;intro g4 w' hg4 M)|(refine l_al (d:=5) F_Flt M.out ?_;clear M;intro g5 w' hg5 M)|(refine l_st F_Path M.out ?_;clear M;intro w' M)|(refine l_st F_Flt M.out ?_;clear M;intro w' M)|refine l_ld1 O_errno M.out ?_)|(go_at_call 8;(with_reducible refine(HP.out _).mono ?_);rintro e w' ⟨⟨m,A,c,rfl,hrow⟩,hb⟩;have Mn:=M.out.addK (G:=fun K y=>RowG K 2 (RSeg K m y) y (.slice A p.segs.length c) p.segs) (fun h hk=>RowG.keep h hk fun _ _ h=>RSeg_ok.keep h hk (Nat.le_refl _)) hb hrow;replace M:=hH Mn;clear Mn hb hrow))
 replace M:=hH M.out.freeze
 replace M:=hH M.out.freeze
 replace M:=hH M.out.drew
 refine tbh (fun y=>((True∧RowG (Fr w) 2 (RSeg (Fr w) m y) y (.slice A p.segs.length c) p.segs)∧Blk y g5 31 #[.int .i64 0,.int .i64 0])∧Blk y g4 37 #[.bool p.abs,.slice A p.segs.length c]) M.out.now fun hS=>?_
 refine tk 0 rfl hS (y_ld F_Path _ _ rfl _ _ (fun y h=>h.2) rfl) ?_
 refine tk 2 rfl hS (y_ld F_Flt _ _ rfl _ _ (fun y h=>h.1.2) rfl) ?_
 refine tr [1] ?_
 refine rdy_call (rmake_any (fun _=>True) p (.slice A p.segs.length c) _ (tree_of_row M.out.now.1.1.2) HWF.out.1 (by have:=HWF.out.2.1;have:=HSZ.out;omega)) (i:=1) (op:=.call _) rfl (by go_simp) ?_
 rintro e_ w' ⟨A1,A2,A3,A4,k1,k2,k3,k4,rfl,⟨W5,A5,hm⟩,⟨f1,f2,f3,f4⟩,hq,hb⟩;have Mn:=M.out.addR4 hb hm f1 f2 f3 f4;have HQQ:=hH hq;have HFF:=hH (show FrA w A1∧FrA w A2∧FrA w A3∧FrA w A4 from⟨f1.le M.out.size,f2.le M.out.size,f3.le M.out.size,f4.le M.out.size⟩);replace M:=hH Mn;clear Mn hb hm f1 f2 f3 f4 hq;refine⟨_,rfl,?_⟩;refine an M.out.now.1 fun hS=>tn ?_
 refine tr [3] ?_
 refine r_st F_Code (i:=3) rfl rfl rfl M.out ?_
 clear M;intro w' M;refine an M.out.now.1 fun hS=>tn ?_
 refine tr [4] ?_
 refine r_st F_Flt (i:=4) rfl rfl rfl M.out ?_
 clear M;intro w' M;refine an M.out.now.1 fun hS=>tn ?_
 refine te ?_
 go_wp2
 rw [←HQ.out]
 exact bodyPost_ret (results_2T Tryz.results6 _ _ g2 g3 _ _ _ _ rfl rfl (M.out.blk (g2,_,_) (by repeat constructor)) (M.out.blk (g3,_,_) (by repeat constructor)) F_Code F_Flt rfl rfl) rfl (HE.out _ _ ⟨A1,A2,A3,A4,k1,k2,k3,k4,rfl,M.out.now.2,HFF.out,HQQ.out,M.out.bel0⟩)
theorem rquery_any (s:ByteArray)(w:World)(hs:s.size≤1000):Calls Tryz.prog 6 #[.string s] w (RQueryP s.data.toList w):=by
 cases hp:parseT false s.data.toList with
 | error e=>exact rquery_err s w hs e.1 e.2 hp
 | ok p=>exact rquery_ok s w hs p hp
end
/- code: path of whatever tree, Make (printed by gen_zg.py). -/
section
open Go.RowKit
set_option maxRecDepth 100000
set_option maxHeartbeats 2000000
section
variable  {S:List UInt8→Prop}{w0:World}{n:Nat}
theorem selM_of {m:Nat}{cs:List Value}{x:SelT}(h:SelC (Lw w0) (ExR (Lw w0) m w0) w0 cs x)(hx:WfS S (WfN S n) x):∃q:Option Addr,cs=yC (x,q)∧FltM w0 n (x,q)∧(x.kind≠4→q=none):=by
 obtain⟨pv,rfl,hp⟩:=h
 cases hf:x.f with
 | none =>
  rw [hf] at hp
  refine⟨none,by rw [show pv=.pointer none from hp];rfl,fun e he=>?_,fun _=>rfl⟩
  have he:x.f=some e:=he
  rw [hf] at he;cases he
 | some e =>
  rw [hf] at hp
  obtain⟨b,off,cs,rfl,hK,hb,hl,hcs,hr⟩:=hp
  have hw:WfN S n e∧x.kind=4:=by
   rcases hx.flt with⟨h4,e',h1,h2⟩|⟨_,h1⟩
   ·rw [hf] at h1;obtain rfl:=Option.some.inj h1;exact⟨h2,h4⟩
   ·rw [hf] at h1;cases h1
  obtain⟨W,w1,w2,w3,_,w4⟩:=mexpr_all S w0 n e hw.1 m cs hr
  refine⟨some ⟨b,off,none⟩,rfl,fun e2 he=>?_,fun hk=>absurd hw.2 hk⟩
  have he:x.f=some e2:=he
  rw [hf] at he
  obtain rfl:=Option.some.inj he
  exact⟨b,off,cs,W,rfl,hb,hl,hcs,w1,w2,w4⟩
theorem segdM_of {m:Nat}{cs:List Value}{s:SegT}(h:SegC (Lw w0) (ExR (Lw w0) m w0) w0 cs s)(hs:∀y∈s.sels,WfS S (WfN S n) y):∃d:SgD,d.s=s∧cs=[.bool s.deep,.slice d.A d.Y.length d.c]∧d.Y.map (·.1)=s.sels∧Rdd w0 9 d.A d.Y.length (d.Y.flatMap yC)∧(∀z∈d.Y,FltM w0 n z∧(z.1.kind≠4→z.2=none))∧(0<d.Y.length→∀a,d.A=some a→a.spot=none):=by
 obtain⟨sv,rfl,A,cap,rfl,_,h3⟩:=h
 rcases h3 with h0|⟨b,off,rfl,hb,hb2,hc⟩
 ·refine⟨⟨s,A,cap,[]⟩,rfl,by rw [h0];rfl,by rw [h0];rfl,?_,fun z hz=>by simp at hz,fun h=>absurd h (by simp)⟩
  exact⟨rfl,fun h=>absurd h (by simp)⟩
 ·obtain⟨Y,hY,hq⟩:=listOf (fun i (y:SelT×Option Addr)=>s.sels[i]? = some y.1∧(∀(j:Nat) u,(yC y)[j]? = some u→w0.cell? ⟨b,off+i*9+j,none⟩=some u)∧FltM w0 n y∧(y.1.kind≠4→y.2=none)) s.sels.length fun i hi=>by
   have hx:=List.getElem?_eq_getElem hi
   obtain⟨cs,h1,h2,h3⟩:=hc i _ hx
   obtain⟨q,h4,h5,h6⟩:=selM_of h3 (hs _ (List.getElem_mem hi))
   exact⟨(_,q),hx,by rw [←h4];exact h2,h5,h6⟩
  have hk:Y.map (·.1)=s.sels:=by
   refine List.ext_getElem? fun i=>?_
   rw [List.getElem?_map]
   by_cases hi:i<Y.length
   ·rw [List.getElem?_eq_getElem hi]
    exact((hq i _ (List.getElem?_eq_getElem hi)).1).symm
   ·rw [List.getElem?_eq_none (by omega),List.getElem?_eq_none (by omega)];rfl
  refine⟨⟨s,some ⟨b,off,none⟩,cap,Y⟩,rfl,by rw [hY],hk,?_,fun z hz=>?_,fun _ a e=>by cases e;rfl⟩
  ·exact reads_flat yC 9 (fun _=>rfl) (by omega) w0 _ Y (.inr ⟨b,off,rfl,hb2,fun i x hx j u hu=>(hq i x hx).2.1 j u hu⟩)
  ·obtain⟨i,hi⟩:=List.mem_iff_getElem?.1 hz
   exact(hq i z hi).2.2
theorem segsM_of_tree {z:PathT×Value}(h:TreeV w0 z)(hw:WfP S (WfN S n) z.1):∃(qA:Option Addr) (qc:Nat) (G:List SgD),z.2=.slice qA G.length qc∧G.map (·.s)=z.1.segs∧
  (∀(i:Nat) (d:SgD),G[i]? = some d→∃b off,qA=some ⟨b,off,none⟩∧b<w0.heap.size∧w0.rangeAt b (off+i*2) [.bool d.s.deep,.slice d.A d.Y.length d.c]∧Rdd w0 9 d.A d.Y.length (d.Y.flatMap yC)∧∀a,d.A=some a→a.spot=none)∧
  (∀z∈ysD G,FltM w0 n z∧(z.1.kind≠4→z.2=none))∧(∀d∈G,d.Y.map (·.1)=d.s.sels):=by
 obtain⟨A,c,m,e,A',c',e',_,h3⟩:=h
 cases e'
 rcases h3 with h0|⟨b,off,rfl,hb,hb2,hc⟩
 ·refine⟨A,c,[],by rw [e,h0];rfl,by rw [h0];rfl,fun i d h=>by simp at h,fun z h=>by simp [ysD] at h,fun d h=>by simp at h⟩
 ·obtain⟨G,hG,hq⟩:=listOf (fun i (d:SgD)=>z.1.segs[i]? = some d.s∧w0.rangeAt b (off+i*2) [.bool d.s.deep,.slice d.A d.Y.length d.c]∧Rdd w0 9 d.A d.Y.length (d.Y.flatMap yC)∧(d.Y.map (·.1)=d.s.sels)∧(∀z∈d.Y,FltM w0 n z∧(z.1.kind≠4→z.2=none))∧∀a,d.A=some a→a.spot=none) z.1.segs.length fun i hi=>by
   have hx:=List.getElem?_eq_getElem hi
   obtain⟨cs,h1,h2,h3⟩:=hc i _ hx
   have hwi:=hw _ (List.getElem_mem hi)
   obtain⟨d,k1,k2,k3,k4,k5,k6⟩:=segdM_of h3 hwi.2
   have hne:0<d.Y.length:=by
    have:=List.length_pos_iff.2 hwi.1
    rw [←k3,List.length_map] at this
    exact this
   refine⟨d,by rw [k1];exact hx,?_,k4,by rw [k1];exact k3,k5,k6 hne⟩
   rw [k1,←k2]
   exact h2
  have hmem:∀d∈G,∃i,G[i]? = some d:=fun d hd=>List.mem_iff_getElem?.1 hd
  refine⟨some ⟨b,off,none⟩,c,G,by rw [e,hG],?_,fun i d hd=>⟨b,off,rfl,hb2,(hq i d hd).2.1,(hq i d hd).2.2.1,(hq i d hd).2.2.2.2.2⟩,fun z hz=>?_,fun d hd=>?_⟩
  ·refine List.ext_getElem? fun i=>?_
   rw [List.getElem?_map]
   by_cases hi:i<G.length
   ·rw [List.getElem?_eq_getElem hi]
    exact((hq i _ (List.getElem?_eq_getElem hi)).1).symm
   ·rw [List.getElem?_eq_none (by omega),List.getElem?_eq_none (by omega)];rfl
  ·obtain⟨d,hd,hz⟩:=List.mem_flatMap.1 hz
   obtain⟨i,hi⟩:=hmem d hd
   exact(hq i d hi).2.2.2.2.1 z hz
  ·obtain⟨i,hi⟩:=hmem d hd
   exact(hq i d hi).2.2.2.1
variable  {L:List BlkE}{rs:List RowE}{J:World→Prop}
theorem mpath_tree (g:Nat)(z:PathT×Value)(hz:TreeV w0 z)(hwf:WfP S (WfN S n) z.1)(c:CodeD)(W0:List (PathT×Value))(w:World)(h:MkS w0 w g L rs J c W0)(hsz:szC c≤10000)(hws:W0.length≤10000)(hp:wtP (wtN n) z.1≤10000) :
  Calls Tryz.prog 17 #[.pointer (some ⟨g,0,none⟩),.agg #[.bool z.1.abs,z.2]] w fun e w'=>e=.returned (.tuple #[])∧∃Wn:List (PathT×Value),MkS w0 w' g L rs J (layP n W0.length c z.1) (W0++Wn)∧Wn.map (·.1)=flW n (selsOf z.1.segs)∧∀z∈Wn,TreeV w0 z:=by
 obtain⟨qA,qc,G,hz2,hGs0,hG,hF,hGs⟩:=segsM_of_tree hz hwf
 have hsel:selsOf z.1.segs=(ysD G).map (·.1):=by rw [←hGs0];exact sels_map hGs
 have hcost:=path_cost n z.1 c.is.length W0.length hwf
 have hlen:z.1.segs.length=G.length:=by rw [←hGs0,List.length_map]
 have hS:∀y∈ysD G,WfS S (WfN S n) y.1:=fun y hy=>sels_wf hwf y.1 (by rw [hsel];exact List.mem_map.2 ⟨y,hy,rfl⟩)
 have hfw:(flW n (selsOf z.1.segs)).length≤((flW n (selsOf z.1.segs)).map (wtP (wtN n))).sum:=len_le_sum _ _ fun x _=>by unfold wtP;omega
 rw [hsel] at hcost hfw
 rw [hlen,List.length_map] at hcost
 have hBD:∀Pd Rd,ysD G=Pd++Rd→c.is.length+(flD n c.is.length W0.length (Pd.map (·.1))).2.length≤999980∧W0.length+(flW n (Pd.map (·.1))).length≤999990:=fun Pd Rd e=>by
  have h1:=flD_pre (N:=n) (Pd.map (·.1)) (Rd.map (·.1)) c.is.length W0.length
  have h2:(flW n (Pd.map (·.1))).length≤(flW n (Pd.map (·.1)++Rd.map (·.1))).length:=by rw [flW_app,List.length_append];omega
  rw [←List.map_append,←e] at h1 h2
  unfold szC at hsz
  omega
 unfold szC at hsz
 have ec:layP n W0.length c z.1=⟨c.ps++[⟨z.1.abs,c.gs.length,(c.gs.length+G.length:Nat)⟩],c.gs++gsD c.ss.length (G.map (·.s)),c.ss++(flD n c.is.length W0.length ((ysD G).map (·.1))).1,c.is++(flD n c.is.length W0.length ((ysD G).map (·.1))).2⟩:=by
  unfold layP;rw [hsel,←hlen,hGs0]
 rw [hz2,ec,hsel]
 exact mpath_one g c W0 z.1.abs qA qc G w h hG S n hS (fun z hz=>(hF z hz).1) (fun z hz=>(hF z hz).2) hGs (by omega) (by omega) (by omega) hBD
end
def CMakeP (c:CodeD)(w:World)(e:Ending)(w':World):Prop :=
 ∃(A1 A2 A3 A4:Option Addr) (k1 k2 k3 k4:Nat),e=.returned (.agg #[.slice A1 c.ps.length k1,.slice A2 c.gs.length k2,.slice A3 c.ss.length k3,.slice A4 c.is.length k4])∧
  CRd w' c A1 A2 A3 A4∧(FrA w A1∧FrA w A2∧FrA w A3∧FrA w A4)∧(c.gs.length≤k2∧c.ss.length≤k3)∧Bel w.heap.size w w'
theorem MkS.take {w0 w:World}{g:Nat}{L:List BlkE}{rs:List RowE}{J:World→Prop}{c:CodeD}{W:List (PathT×Value)}(h:MkS w0 w g L rs J c W):∃A1 A2 A3 A4 k1 k2 k3 k4 v5,Own [] w0 w ((g,61,#[.slice A1 c.ps.length k1,.slice A2 c.gs.length k2,.slice A3 c.ss.length k3,.slice A4 c.is.length k4,v5])::L) ((v5,37,2,W.length,W.flatMap wC)::rs) (fun y=>J y∧CRd y c A1 A2 A3 A4)∧(FrA w0 A1∧FrA w0 A2∧FrA w0 A3∧FrA w0 A4)∧(c.gs.length≤k2∧c.ss.length≤k3):=by
 obtain⟨v1,v2,v3,v4,v5,M⟩:=h
 unfold MkR at M
 obtain⟨A1,k1,rfl,_,f1,M⟩:=M.freezeRow
 obtain⟨A2,k2,rfl,q2,f2,M⟩:=M.freezeRow
 obtain⟨A3,k3,rfl,q3,f3,M⟩:=M.freezeRow
 obtain⟨A4,k4,rfl,_,f4,M⟩:=M.freezeRow
 exact⟨A1,A2,A3,A4,k1,k2,k3,k4,v5,M.imp fun y h=>⟨h.1.1.1.1,⟨h.1.1.1.2,h.1.1.2,h.1.2,h.2⟩⟩,⟨f1,f2,f3,f4⟩,q2.1,q3.1⟩
theorem make_any (S:List UInt8→Prop)(p:PathT)(v:Value)(w:World)(hz:TreeV w (p,v))(hwf:WfP S (WfN S 200) p)(hwt:wtP (wtN 200) p≤5000):Calls Tryz.prog 9 #[.agg #[.bool p.abs,v]] w (CMakeP (codeT p) w):=by
 have M:=hH (Own.start [] w (fun _=>True) fun _ _=>trivial)
 have HZ:=hH hz
 have HWP:=hH hwf
 have HWT:=hH hwt
 clear hz hwf hwt
 obtain⟨Ap,cp,mp,hv,_⟩:=HZ.out
 simp only at hv
 subst hv
 go_enter Tryz.func9, Tryz.ntmps9
 generalize hQ:bodyPost Tryz.prog Tryz.f9 _=Q
 have HQ:=hH hQ;clear hQ
 let qd:=bodyPost Tryz.prog Tryz.f9 (fun _ _=>True)
 go_upto_region 3 with(first|(with_reducible first|(refine l_al (d:=2) F_Code M.out ?_;clear M;intro g2 w' hg2 M)|(refine l_bx (d:=8) M.out ?_;clear M;intro g8 w' hg8 M))|((with_reducible refine l_bx (d:=1) M.out ?_);clear M;intro g1 w' hg1 M;replace M:=hH M.out.freeze)|((with_reducible refine g_ld 37 ?_);refine l_ldj F_Path rfl M.out (fun y h=>h.2) (by exact rfl) ?_)|((with_reducible refine g_bs 59 6 ?_);refine l_bs SL_sPath (cs:=#[.bool p.abs,.slice Ap p.segs.length cp]) (by kernel_rfl) M.out ?_;clear M;intro g6 w' hg6 M))
 replace M:=hH (((((M.out.swap2.rowOf 2 1 hg6 rfl (by unfold maxLen;omega)).rowNil 49 7).rowNil 47 8).rowNil 45 3).rowNil 43 3)
 replace M:=hH (show MkS w _ g8 [(g2,28,#[.slice none 0 0,.slice none 0 0,.slice none 0 0,.slice none 0 0])] [] (fun _=>True) code0 [(p,.slice Ap p.segs.length cp)] from MkS.of (M.out.imp fun _ _=>trivial) rfl)
 go_wp2
 go_loopg [4] 5000 (fun gk iv wr=>∃(c:CodeD) (W:List (PathT×Value)),gk=5000-c.ps.length∧iv=.int .i64 (c.ps.length:Nat)∧Hid (makeL 200 (5000-c.ps.length) c ((W.map (·.1)).drop c.ps.length)=codeT p∧c.ps.length≤W.length∧szC c+(((W.map (·.1)).drop c.ps.length).map (wtP (wtN 200))).sum≤5000)∧Hid (∀z∈W,TreeV w z∧WfP S (WfN S 200) z.1)∧Hid (MkS w wr g8 [(g2,28,#[.slice none 0 0,.slice none 0 0,.slice none 0 0,.slice none 0 0])] [] (fun _=>True) c W))
 case atStart=>exact⟨code0,[(p,.slice Ap p.segs.length cp)],rfl,rfl,hH ⟨rfl,Nat.zero_le _,by simpa [code0,szC] using HWT.out⟩,hH (fun z hz=>by rw [List.mem_singleton.1 hz];exact⟨HZ.out,HWP.out⟩),M⟩
 case round =>
  clear M
  obtain⟨c,W,hgk,rfl,HINV,HTW,M⟩:=hrel
  have HGK:=hH hgk
  clear hgk
  cases hdr:(W.map (·.1)).drop c.ps.length with
  | cons q r =>
   have hlt:c.ps.length<W.length:=by
    rcases Nat.lt_or_ge c.ps.length W.length with h|h
    ·exact h
    ·rw [List.drop_eq_nil_of_le (by rw [List.length_map];exact h)] at hdr;cases hdr
   obtain⟨z,hz⟩:∃z,W[c.ps.length]? = some z:=⟨_,List.getElem?_eq_getElem hlt⟩
   have hqz:q=z.1:=by
    have h1:=congrArg (fun l=>l[0]?) hdr
    simp only [List.getElem?_drop,Nat.add_zero,List.getElem?_map,hz,List.getElem?_cons_zero,Option.map_some] at h1
    exact(Option.some.inj h1).symm
   subst hqz
   have HDR:=hH hdr
   have HZI:=hH hz
   have HWF:=hH (HTW.out z (List.mem_of_getElem? hz)).2
   have hsz:=HINV.out.2.2
   rw [HDR.out,List.map_cons,List.sum_cons] at hsz
   have hw1:1≤wtP (wtN 200) z.1:=by unfold wtP;omega
   have hps:c.ps.length≤szC c:=by unfold szC;omega
   have hWl:W.length≤5000:=by
    have h1:=wt_len (n:=200) r
    have h2:=congrArg List.length HDR.out
    rw [List.length_drop,List.length_map,List.length_cons] at h2
    omega
   have HLY:=hH (show (layP 200 W.length c z.1).ps.length=c.ps.length+1 from by simp [layP])
   have hps5:c.ps.length<5000:=by omega
   have hltI:(c.ps.length:Int)<(W.length:Int):=by omega
   have HPC:=hH (fun (wz:World) (hm:MkS w wz g8 [(g2,28,#[.slice none 0 0,.slice none 0 0,.slice none 0 0,.slice none 0 0])] [] (fun _=>True) c W)=>mpath_tree (S:=S) (n:=200) g8 z (HTW.out z (List.mem_of_getElem? HZI.out)).1 HWF.out c W wz hm (by omega) (by omega) (by omega))
   have HM:=hH M.out
   obtain⟨A1,A2,A3,A4,A5,k1,k2,k3,k4,k5,hM⟩:=M.out.open_;unfold MkA at hM;(try dsimp only at hM);replace M:=hH hM;clear hM
   obtain⟨b5,c5,hv5,_⟩:=own_slice (n:=W.length) (M.out.row (.slice A5 W.length k5,_) (by repeat constructor)) (by omega)
   simp only [Value.slice.injEq,true_and] at hv5
   obtain⟨rfl,rfl⟩:=hv5
   obtain⟨A',c',e',_,_,hrd⟩:=own_reads (M.out.row (.slice (some ⟨b5,0,none⟩) W.length k5,_) (by repeat constructor))
   simp only [Value.slice.injEq,true_and] at e'
   obtain⟨rfl,rfl⟩:=e'
   have HRA:=hH (show World.rangeAt _ b5 (c.ps.length*2) [.bool z.1.abs,z.2] from fun j u hu=>by
    obtain⟨ad,e,_,hc⟩:=hrd.2 (by show 0<W.length;omega)
    cases e
    have hj:j<2:=(List.getElem?_eq_some_iff.1 hu).1
    have:=hc (c.ps.length*2+j) u (by show (W.flatMap wC)[c.ps.length*2+j]? = _;rw [flat_get wC 2 (fun _=>rfl) W c.ps.length j hj,HZI.out];exact hu)
    rw [add_lit] at this
    simpa using this)
   clear hrd hz hdr hsz hw1 hps
   go_wp2_with (first|(with_reducible refine l_ld1 O_sPath M.out ?_)|((with_reducible refine g_ld 37 ?_);refine l_ldf F_Path rfl HRA.out rfl ?_)|(go_at_call 17;(with_reducible refine(HPC.out _ HM.out).mono ?_);rintro e w' ⟨rfl,Wn,hm,hW1,hW2⟩;have HMN:=hH hm;have HWN:=hH (And.intro hW1 hW2);clear hm hW1 hW2))
   go_roundg (5000-(c.ps.length+1))
   case measure=>rw [HGK.out];omega
   case rel=>exact⟨layP 200 W.length c z.1,W++Wn,by rw [HLY.out],by rw [HLY.out];first|go_num|simp,hH (make_step HWN.out.1 HDR.out HINV.out HWF.out),hH (fun y hy=>(List.mem_append.1 hy).elim (HTW.out y) fun hy=>⟨HWN.out.2 y hy,flW_mem (sels_wf HWF.out) (by rw [←HWN.out.1];exact List.mem_map.2 ⟨y,hy,rfl⟩)⟩),HMN⟩
  | nil =>
   have hWc:W.length=c.ps.length:=by
    have:=congrArg List.length hdr
    rw [List.length_drop,List.length_map,List.length_nil] at this
    have:=HINV.out.2.1
    omega
   have HCO:=hH (show codeT p=c from by
    rw [←HINV.out.1,hdr]
    cases 5000-c.ps.length <;> rfl)
   have hnlt:¬(c.ps.length:Int)<(W.length:Int):=by omega
   have HWC:=hH hWc
   clear hdr hWc
   obtain⟨A1,A2,A3,A4,A5,k1,k2,k3,k4,k5,hM⟩:=M.out.open_;unfold MkA at hM;(try dsimp only at hM);replace M:=hH hM;clear hM
   go_upto_region 6 with(first|(with_reducible refine l_ld1 O_sPath M.out ?_))
   obtain⟨B1,B2,B3,B4,j1,j2,j3,j4,v5,M2,hf,hq⟩:=(MkS.shut M.out).take
   replace M:=hH M2
   have HF:=hH hf
   have HQ2:=hH hq
   clear M2 hf hq
   go_wp2_with (first|(with_reducible (refine l_st F_Code M.out ?_;clear M;intro w' M))|((with_reducible refine g_ld 28 ?_);refine l_ldm F_Code rfl M.out ?_))
   rw [←HQ.out]
   refine bodyPost_ret (results_1 Tryz.results9 _ _ g2 _ _ rfl (M.out.blk (g2,_,_) (by repeat constructor)) F_Code rfl) rfl ?_
   rw [HCO.out]
   exact⟨B1,B2,B3,B4,j1,j2,j3,j4,rfl,M.out.now.2,HF.out,HQ2.out,M.out.bel0⟩
end

end Go.Proofs.YtjbdcjcfijjiiaaGreatDoor
