/- ref19: path (printed by gen_ck.py). -/
import Derived.Test.YtjbdcjcfijjiiaaGreatDoorNCj
namespace Go.Proofs.YtjbdcjcfijjiiaaGreatDoor
open Go.RowKit
set_option maxRecDepth 100000
set_option maxHeartbeats 2000000
def pathC (x:PathD):List Value:=[.bool x.abs,.int .i64 x.fr,.int .i64 x.tt]
def segC (x:SegD):List Value:=[.bool x.deep,.int .i64 x.fr,.int .i64 x.tt]
def selC (x:SelD):List Value:=[.int .i64 x.kind,.string x.nm,.int .i64 x.a,.int .i64 x.b,.int .i64 x.c,.bool x.ha,.bool x.hb,.int .i64 x.at_]
theorem seg_one1 (l:List SegD):∀u∈l.flatMap segC,u.oneCell'=true:=by
 intro u hu
 obtain⟨x,_,hx⟩:=List.mem_flatMap.1 hu
 exact allOne_mem (cs:=segC x) rfl u hx
theorem sel_one1 (l:List SelD):∀u∈l.flatMap selC,u.oneCell'=true:=by
 intro u hu
 obtain⟨x,_,hx⟩:=List.mem_flatMap.1 hu
 exact allOne_mem (cs:=selC x) rfl u hx
structure SgD where
 s:SegT
 A:Option Addr
 c:Nat
 Y:List (SelT×Option Addr)
def yC (z:SelT×Option Addr):List Value:=selL z.1 (.pointer z.2)
def ysD (G:List SgD):List (SelT×Option Addr):=G.flatMap (·.Y)
theorem y_one1 (l:List (SelT×Option Addr)):∀u∈l.flatMap yC,u.oneCell'=true:=by
 intro u hu
 obtain⟨x,_,hx⟩:=List.mem_flatMap.1 hu
 exact allOne_mem (cs:=yC x) rfl u hx
def FrO (w:World)(A A':Option Addr):Prop:=∀a,A'=some a→(w.heap.size≤a.block∧a.spot=none)∨A=some a
theorem FrO.refl (w:World)(A:Option Addr):FrO w A A:=fun _ h=>.inr h
theorem FrA.o {w:World}{A A':Option Addr}(h:FrA w A'):FrO w A A':=fun a e=>.inl (h a e)
theorem gsD_app :∀(l r:List SegT) (a:Nat),gsD a (l++r)=gsD a l++gsD (a+(selsOf l).length) r
 | [],_,_=>rfl
 | s::l,r,a=>by
  rw [List.cons_append,gsD,gsD_app l r,gsD,List.cons_append]
  have e:(selsOf (s::l)).length=s.sels.length+(selsOf l).length:=by unfold selsOf;rw [List.flatMap_cons,List.length_append]
  rw [e,Nat.add_assoc]
theorem sels_map :∀{G:List SgD},(∀d∈G,d.Y.map (·.1)=d.s.sels)→selsOf (G.map (·.s))=(ysD G).map (·.1)
 | [],_=>rfl
 | d::r,h=>by
  have:=sels_map (G:=r) fun d hd=>h d (by simp [hd])
  unfold selsOf ysD at *
  rw [List.map_cons,List.flatMap_cons,List.flatMap_cons,List.map_append,this,h d (by simp)]
theorem sel_len {G:List SgD}(h:∀d∈G,d.Y.map (·.1)=d.s.sels):(selsOf (G.map (·.s))).length=(ysD G).length:=by rw [sels_map h,List.length_map]
theorem sel_snoc (xs l:List SelD)(s:SelD):(xs++(l++[s])).flatMap selC=(xs++l).flatMap selC++selC s:=by simp
theorem WfS.sum {S:List UInt8→Prop}{W:ExprT→Prop}{y:SelT}(h:WfS S W y) : -9223372036854775808≤y.index+y.fr∧y.index+y.fr≤9223372036854775807:=by
 cases h with
 | idx n a=>unfold okN at a;simp only;omega
 | slice a b c ha hb a1 a2 a3 a4 a5=>unfold okN at a1;simp only;omega
 | _=>simp
theorem WfS.flt {S:List UInt8→Prop}{W:ExprT→Prop}{y:SelT}(h:WfS S W y):(y.kind=4∧∃e,y.f=some e∧W e)∨(y.kind≠4∧y.f=none):=by
 cases h with
 | filt e a=>exact .inl ⟨rfl,e,rfl,a⟩
 | _=>right;simp
def FltOK (wT:World)(n:Nat)(z:SelT×Option Addr):Prop :=
 ∀e,z.1.f=some e→∃b off kc W,z.2=some ⟨b,off,none⟩∧b<wT.heap.size∧kc.length=17∧wT.rangeAt b off kc∧W.map (·.1)=waitN n e∧(∀u∈W,TreeV wT u)∧KidC wT n ⟨e,kc,W⟩
theorem flW_snoc (n:Nat)(y:SelT):∀l:List SelT,flW n (l++[y])=flW n l++(match y.f with|none=>[]|some e=>waitN n e)
 | []=>by rw [List.nil_append,flW,flW,flW,List.append_nil];rfl
 | x::l=>by rw [List.cons_append,flW,flW_snoc n y l,flW,List.append_assoc]
theorem flD_snoc_none {n:Nat}{y:SelT}(hy:y.f=none):∀(l:List SelT) (a b:Nat),flD n a b (l++[y])=((flD n a b l).1++[selD y 0],(flD n a b l).2)
 | [],a,b=>by simp [flD,hy]
 | x::l,a,b=>by
  rw [List.cons_append,flD,flD]
  cases x.f with
  | none=>simp only;rw [flD_snoc_none hy l];rfl
  | some e=>simp only;rw [flD_snoc_none hy l];rfl
theorem flD_snoc_some {n:Nat}{y:SelT}{e:ExprT}(hy:y.f=some e):∀(l:List SelT) (_:∀x∈l,∀e,x.f=some e→∀a b,(insN n a b e).length=lenN n e) (a b:Nat),flD n a b (l++[y])=((flD n a b l).1++[selD y ((a+(flD n a b l).2.length:Nat):Int)],(flD n a b l).2++(insN n (a+(flD n a b l).2.length) (b+(flW n l).length) e++[opD 5]))
 | [],_,a,b=>by simp [flD,hy,flW]
 | x::l,h,a,b=>by
  rw [List.cons_append,flD,flD,flW]
  have hl:=fun x hx=>h x (List.mem_cons_of_mem _ hx)
  cases hx:x.f with
  | none=>simp only;rw [flD_snoc_some hy l hl];simp
  | some e2 =>
   simp only
   rw [flD_snoc_some hy l hl]
   have h1:=h x (by simp) e2 hx a b
   simp only [List.length_append,List.length_cons,h1,List.cons_append,List.append_assoc]
   rw [show a+lenN n e2+1+(flD n (a+lenN n e2+1) (b+(waitN n e2).length) l).2.length=a+(lenN n e2+((flD n (a+lenN n e2+1) (b+(waitN n e2).length) l).2.length+1)) by omega,Nat.add_assoc b]
section
variable  (B3 A1 A2 A4 A5:Option Addr)(m3 d3 c1 c2 c4 c5 np ng n4 nw:Nat)(xp:List Value)(gs:List SegD)(w:World)
theorem rpath_one (qa:Bool)(qA:Option Addr)(qc:Nat)(G:List SgD)(xs:List SelD)(is:List InsD)(wl:List Value)(wT:World)(hw:Bel wT.heap.size wT w)(hG:∀(i:Nat) (d:SgD),G[i]? = some d→∃b off,qA=some ⟨b,off,none⟩∧b<wT.heap.size∧wT.rangeAt b (off+i*2) [.bool d.s.deep,.slice d.A d.Y.length d.c]∧Rdd wT 9 d.A d.Y.length (d.Y.flatMap yC))
  (S:List UInt8→Prop) (n:Nat) (hS:∀z∈ysD G,WfS S (WfN S n) z.1) (hF:∀z∈ysD G,FltOK wT n z) (hGs:∀d∈G,d.Y.map (·.1)=d.s.sels) (h1:Rdd w 3 A1 np xp) (h2:Rdd w 3 A2 ng (gs.flatMap segC)) (h3:Rdd w 8 B3 m3 (xs.flatMap selC)) (h4:Rdd w 7 A4 n4 (is.flatMap insC)) (h5:Rdd w 2 A5 nw wl) (hxp:∀u∈xp,u.oneCell'=true)
  (his:is.length=n4) (hwl:∀u∈wl,u.oneCell'=true) (hBD:∀Pd Rd,ysD G=Pd++Rd→n4+(flD n n4 nw (Pd.map (·.1))).2.length≤999990∧nw+(flW n (Pd.map (·.1))).length≤999990) (hl1:np≤999990) (hl2:ng+G.length≤999990) (hl3:m3+(ysD G).length≤999990) (hk2:ng≤c2):Calls Tryz.prog 23 #[.agg #[.slice A1 np c1,.slice A2 ng c2,.slice B3 m3 d3,.slice A4 n4 c4,.slice A5 nw c5],.agg #[.bool qa,.slice qA G.length qc]] w (fun e w'=>∃(A1':Option Addr) (k1:Nat) (A2':Option Addr) (k2:Nat) (A3':Option Addr) (k3:Nat) (A4':Option Addr) (k4:Nat) (A5':Option Addr) (k5:Nat) (W:List (PathT×Value)),e=.returned (.agg #[.slice A1' (np+1) k1,.slice A2' (ng+G.length) k2,.slice A3' (m3+(ysD G).length) k3,.slice A4' (n4+(flD n n4 nw ((ysD G).map (·.1))).2.length) k4,.slice A5' (nw+W.length) k5])∧(Rdd w' 3 A1' (np+1) (xp++pathC ⟨qa,ng,(ng+G.length:Nat)⟩)∧Rdd w' 3 A2' (ng+G.length) ((gs++gsD m3 (G.map (·.s))).flatMap segC)∧Rdd w' 8 A3' (m3+(ysD G).length) ((xs++(flD n n4 nw ((ysD G).map (·.1))).1).flatMap selC)∧Rdd w' 7 A4' (n4+(flD n n4 nw ((ysD G).map (·.1))).2.length) ((is++(flD n n4 nw ((ysD G).map (·.1))).2).flatMap insC)∧Rdd w' 2 A5' (nw+W.length) (wl++W.flatMap wC))∧(W.map (·.1)=flW n ((ysD G).map (·.1))∧∀z∈W,TreeV wT z)∧(FrA w A1'∧FrO w A2 A2'∧FrA w A3'∧FrO w A4 A4'∧FrO w A5 A5')∧(ng+G.length≤k2∧m3+(ysD G).length≤k3)∧Bel w.heap.size w w'):=by
 have M:=hH (Own.start [] w (fun y=>((Kept [] wT y∧(Rdd y 8 B3 m3 (xs.flatMap selC)∧Rdd y 7 A4 n4 (is.flatMap insC))∧Rdd y 2 A5 nw wl)∧Rdd y 3 A1 np xp)∧Rdd y 3 A2 ng (gs.flatMap segC)) fun y hy=>⟨⟨⟨⟨Nat.le_trans hw.size hy.1,fun b h1 h2=>(hy.2 b (Nat.lt_of_lt_of_le h1 hw.size) h2).trans (hw.block b h1)⟩,⟨h3.old hy,h4.old hy⟩,h5.old hy⟩,h1.old hy⟩,h2.old hy⟩)
 have HW:=hH hw
 have HGC:=hH hG
 have HL1:=hH hl1
 have HL2:=hH hl2
 have HL3:=hH hl3
 have HGS:=hH hGs
 have HIS:=hH his
 have HBD:=hH hBD
 have HSS:=hH hS
 have HFF:=hH hF
 obtain⟨A2o,hA2o⟩:∃A2o,A2=A2o:=⟨_,rfl⟩
 have HA2:=hH hA2o
 obtain⟨A4o,hA4o⟩:∃A4o,A4=A4o:=⟨_,rfl⟩
 obtain⟨A5o,hA5o⟩:∃A5o,A5=A5o:=⟨_,rfl⟩
 have HA4:=hH hA4o
 have HA5:=hH hA5o
 clear hA4o hA5o
 clear h1 h2 h3 h4 h5 hG hGs hA2o hw hS hF his hBD
 go_enter Tryz.func23, Tryz.ntmps23
 generalize hQ:bodyPost Tryz.prog Tryz.f23 _=Q
 have HQ:=hH hQ;clear hQ
 let qd:=bodyPost Tryz.prog Tryz.f23 (fun _ _=>True)
 have hg0:ng≤999990:=by omega
 go_upto_region 3 with(first|(with_reducible first|(refine l_bx (d:=2) M.out ?_;clear M;intro g2 w' hg2 M)|(refine l_al (d:=4) F_M M.out ?_;clear M;intro g4 w' hg4 M)|refine l_ld1 O_sCSel M.out ?_|refine l_ld1 O_sCSeg M.out ?_|(refine l_al (d:=6) F_CPath M.out ?_;clear M;intro g6 w' hg6 M))|((with_reducible refine l_bx (d:=3) M.out ?_);clear M;intro g3 w' hg3 M;replace M:=hH M.out.freeze)|((with_reducible refine g_ld 4 ?_);refine l_ld1j O_bool rfl M.out (fun y h=>h.2) (by exact rfl) ?_)|((with_reducible refine g_ld 35 ?_);refine l_ld1j O_sSeg rfl M.out (fun y h=>h.2) (by exact rfl) ?_)|((with_reducible refine l_st F_CPath M.out ?_);clear M;intro w' M;replace M:=hH M.out.freeze))
 (try simp only [Act.put,List.setIfInBounds_toArray,List.set_cons_zero,List.set_cons_succ])
 go_cut [33,34,35,36,37,38,39,40,41,42] (fun _ _ _ _ _ _ _ _ _ _ wx=>∃(AP:Option Addr) (cP:Nat),Hid (FrA w AP)∧Hid (Own [] w wx [(g4,68,#[.slice none 0 0,.slice none 0 0,.slice none 0 0,.slice none 0 0,.slice none 0 0]),(g2,68,#[.slice AP (np+1) cP,.slice A2 ng c2,.slice B3 m3 d3,.slice A4 n4 c4,.slice A5 nw c5])] [] (fun y=>(((Kept [] wT y∧(Rdd y 8 B3 m3 (xs.flatMap selC)∧Rdd y 7 A4 n4 (is.flatMap insC))∧Rdd y 2 A5 nw wl)∧Rdd y 3 AP (np+1) (xp++pathC ⟨qa,ng,(ng+G.length:Nat)⟩))∧Rdd y 3 A2 ng (gs.flatMap segC))∧Blk y g3 37 #[.bool qa,.slice qA G.length qc])))
 case first =>
  replace M:=hH M.out.drew
  refine tbh (fun y=>((((Kept [] wT y∧(Rdd y 8 B3 m3 (xs.flatMap selC)∧Rdd y 7 A4 n4 (is.flatMap insC))∧Rdd y 2 A5 nw wl)∧Rdd y 3 A1 np xp)∧Rdd y 3 A2 ng (gs.flatMap segC))∧Blk y g3 37 #[.bool qa,.slice qA G.length qc])∧Blk y g6 43 #[.bool qa,.int .i64 (ng:Int),.int .i64 ((ng:Int)+(G.length:Int))]) M.out.now fun hS=>?_
  refine tkp 1 rfl hS ?_
  refine tkp 2 rfl hS ?_
  refine tk 5 rfl hS (y_ld F_CPath _ _ rfl _ _ (fun _ h=>h.2) rfl) ?_
  repeat' (first|((with_reducible refine gR ?_);first|exact .nil|(refine r_bs0 SL_sCPath lit0_sCPath (i:=0) rfl M.out ?_ ?_;clear M;intro ga w' hga M;refine⟨M.out.now,tn ?_⟩)|(refine r_ld1 O_sCPath (i:=3) rfl rfl M.out ?_ ?_;refine⟨M.out.now,tn ?_⟩)|(refine r_apR SL_sCPath (i:=4) rfl rfl rfl M.out (M.out.now.1.1.1.2) (hxp) ?_ ?_;intro v1 w' Mn;have Mn:=Mn _ (by repeat constructor);simp only [Nat.zero_add,List.nil_append] at Mn;replace M:=hH Mn;clear Mn;refine⟨M.out.now,tn ?_⟩)|(refine r_bs SL_sCPath (i:=6) rfl (cs:=#[.bool qa,.int .i64 (ng:Int),.int .i64 ((ng:Int)+(G.length:Int))]) M.out ?_ ?_;clear M;intro gb w' hgb M;refine⟨M.out.now,tn ?_⟩)|(refine r_apB SL_sCPath (i:=7) rfl rfl M.out ?_ ?_;intro v2 w' Mn;have Mn:=Mn _ (by repeat constructor);obtain⟨Af,cf,hv,hcf,HFA,Mn2⟩:=Mn.freezeRow;clear Mn;subst hv;replace HFA:=hH HFA;have HCF:=hH hcf.1;replace M:=hH Mn2;clear Mn2 hcf;refine⟨M.out.now.1,tn ?_⟩)|(refine r_st1 O_sCPath (i:=10) rfl rfl rfl M.out ?_ ?_;clear M;intro w' M;refine⟨M.out.now.1,tn ?_⟩))|((with_reducible refine gW ?_);first|refine tkpd 8 rfl M.out.now.1 ?_|refine tkpd 9 rfl M.out.now.1 ?_|refine trd [0,3,6] ?_|refine trd [3,6] ?_|refine trd [4,6] ?_|refine trd [6] ?_|refine trd [7] ?_|refine trd [10] ?_|refine trd [4] ?_|refine trd [3] ?_|refine trd [0,6] ?_|refine trd [0] ?_|refine trd [0,3] ?_|refine ted ?_))
  all_goals
   go_wp2
   go_meet
   case rel=>exact⟨Af,cf,HFA,hH (M.out.drop.imp fun y h=>⟨⟨⟨h.1.1.1.1.1,h.2⟩,h.1.1.1.2⟩,h.1.1.2⟩)⟩
 case rest =>
  clear M
  obtain⟨AP,cP,HFP,M⟩:=hcut
  go_wp2
  go_loopg [7,8] G.length (fun gk v kk wr=>∃(Pd Rd:List SgD) (A2:Option Addr) (c2:Nat),gk=Rd.length∧Hid (G=Pd++Rd)∧kk=.int .i64 (Pd.length:Nat)∧Hid (FrO w A2o A2∧ng+Pd.length≤c2)∧Hid (Own [] w wr [(g4,68,#[.slice none 0 0,.slice none 0 0,.slice none 0 0,.slice none 0 0,.slice none 0 0]),(g2,68,#[.slice AP (np+1) cP,.slice A2 (ng+Pd.length) c2,.slice B3 m3 d3,.slice A4 n4 c4,.slice A5 nw c5])] [(v,85,9,(ysD Pd).length,(ysD Pd).flatMap yC)] (fun y=>(((Kept [] wT y∧(Rdd y 8 B3 m3 (xs.flatMap selC)∧Rdd y 7 A4 n4 (is.flatMap insC))∧Rdd y 2 A5 nw wl)∧Rdd y 3 AP (np+1) (xp++pathC ⟨qa,ng,(ng+G.length:Nat)⟩))∧Rdd y 3 A2 (ng+Pd.length) ((gs++gsD m3 (Pd.map (·.s))).flatMap segC))∧Blk y g3 37 #[.bool qa,.slice qA G.length qc])))
  case atStart=>exact⟨[],G,A2,c2,rfl,hH rfl,rfl,hH ⟨by rw [HA2.out];exact FrO.refl _ _,hk2⟩,hH (by
   have:=M.out.rowNil 85 9
   simpa [ysD,gsD] using this)⟩
  case round =>
   clear M
   obtain⟨Pd,Rd0,A2,c2,hgk,HD,rfl,HFO,M⟩:=hrel
   have HGK:=hH hgk
   cases Rd0 with
   | cons dk Rd =>
    have HI:=hH (show G[Pd.length]? = some dk from by rw [HD.out,List.getElem?_append_right (Nat.le_refl _),Nat.sub_self];rfl)
    obtain⟨b,off,hqA,hbT,hra,hrd⟩:=HGC.out _ _ HI.out
    subst hqA
    have HTR:=hH (show ∀y:World,(((Kept [] wT y∧(Rdd y 8 B3 m3 (xs.flatMap selC)∧Rdd y 7 A4 n4 (is.flatMap insC))∧Rdd y 2 A5 nw wl)∧Rdd y 3 AP (np+1) (xp++pathC ⟨qa,ng,(ng+G.length:Nat)⟩))∧Rdd y 3 A2 (ng+Pd.length) ((gs++gsD m3 (Pd.map (·.s))).flatMap segC))∧Blk y g3 37 #[.bool qa,.slice (some ⟨b,off,none⟩:Option Addr) G.length qc]→y.rangeAt b (off+Pd.length*2) [.bool dk.s.deep,.slice dk.A dk.Y.length dk.c]∧Rdd y 9 dk.A dk.Y.length (dk.Y.flatMap yC) from fun y h =>
     ⟨fun j v hv=>(World.cell?_of_block (h.1.1.1.1.2 b hbT (by simp))).trans (hra j v hv),hrd.old h.1.1.1.1⟩)
    clear hbT hra hrd
    have hlt:(Pd.length:Int)<(G.length:Int):=by have:=(List.getElem?_eq_some_iff.1 HI.out).1;omega
    have hmem:dk∈G:=List.mem_of_getElem? HI.out
    have hGl:Pd.length+1≤G.length:=by omega
    have hys:(ysD (Pd++[dk])).length≤(ysD G).length:=by
     rw [HD.out];unfold ysD;simp
    have hyd:(ysD (Pd++[dk])).length=(ysD Pd).length+dk.Y.length:=by unfold ysD;simp
    have hY0:m3+((ysD Pd).length+dk.Y.length)≤999990:=by omega
    obtain⟨Av,cv,hv,-⟩:=own_reads (M.out.row _ List.mem_cons_self)
    simp only at hv
    subst hv
    have HSO:=hH (show (selsOf (Pd.map (·.s))).length=(ysD Pd).length from sel_len fun d hd=>HGS.out d (by rw [HD.out];simp [hd]))
    have HE1:=hH hyd.symm
    have HE2:=hH (show (ysD Pd).flatMap yC++dk.Y.flatMap yC=(ysD (Pd++[dk])).flatMap yC from by unfold ysD;simp)
    have HE4:=hH (show ng+Pd.length+1=ng+(Pd++[dk]).length from by simp;omega)
    have HSE:=hH (show (#[.bool dk.s.deep,.int .i64 ((m3:Int)+((ysD Pd).length:Int)),.int .i64 ((m3:Int)+(((ysD Pd).length:Int)+(dk.Y.length:Int)))]:Array Value).toList=segC ⟨dk.s.deep,((m3+(ysD Pd).length:Nat):Int),((m3+(ysD Pd).length+dk.Y.length:Nat):Int)⟩ from by unfold segC;simp;omega)
    have HSL:=hH (show dk.s.sels.length=dk.Y.length from by rw [←HGS.out dk hmem,List.length_map])
    have HE3:=hH (show ((gs++gsD m3 (Pd.map (·.s))).flatMap segC)++(#[.bool dk.s.deep,.int .i64 ((m3:Int)+((ysD Pd).length:Int)),.int .i64 ((m3:Int)+(((ysD Pd).length:Int)+(dk.Y.length:Int)))]:Array Value).toList=((gs++gsD m3 ((Pd++[dk]).map (·.s))).flatMap segC) from by
     rw [HSE.out,List.map_append,gsD_app,HSO.out,List.map_cons,List.map_nil,gsD,gsD,HSL.out,←List.append_assoc,List.flatMap_append,List.flatMap_append,List.flatMap_append,List.flatMap_cons,List.flatMap_nil,List.append_nil])
    have hwr:IntKind.i64.wrap ((m3:Int)+(((ysD Pd).length:Int)+(dk.Y.length:Int)))=(m3:Int)+(((ysD Pd).length:Int)+(dk.Y.length:Int)):=IntWalk.i64_in _ (by omega)
    clear hmem HSE HSO HSL
    go_upto_region 11 with(first|(with_reducible (refine l_al (d:=9) F_Seg M.out ?_;clear M;intro g9 w' hg9 M))|((with_reducible refine g_ld 35 ?_);refine l_ld1j O_sSeg rfl M.out (fun y h=>h.2) (by exact rfl) ?_)|((with_reducible refine g_ld 79 ?_);refine l_ldf F_Seg rfl ((HTR.out _ M.out.now).1) rfl ?_)|((with_reducible refine l_st F_Seg M.out ?_);clear M;intro w' M;replace M:=hH M.out.freeze)|((with_reducible refine g_ld 77 ?_);refine l_ld1j O_sSel rfl M.out (fun y h=>h.2) (by exact rfl) ?_)|((with_reducible refine g_ap 77 62 ?_);refine l_apR SL_sSel rfl rfl M.out ((HTR.out _ M.out.now.1).2) (y_one1 _) ?_;intro v62 w' Mn;have Mn:=Mn _ (by repeat constructor);replace M:=hH Mn;clear Mn))
    obtain⟨Aw,cw,hv,-⟩:=own_reads (M.out.row _ List.mem_cons_self)
    simp only at hv
    subst hv
    replace M:=hH M.out.drew
    refine tbh (fun y=>((((Kept [] wT y∧(Rdd y 8 B3 m3 (xs.flatMap selC)∧Rdd y 7 A4 n4 (is.flatMap insC))∧Rdd y 2 A5 nw wl)∧Rdd y 3 AP (np+1) (xp++pathC ⟨qa,ng,(ng+G.length:Nat)⟩))∧Rdd y 3 A2 (ng+Pd.length) ((gs++gsD m3 (Pd.map (·.s))).flatMap segC))∧Blk y g3 37 #[.bool qa,.slice (some ⟨b,off,none⟩:Option Addr) G.length qc])∧Blk y g9 79 #[.bool dk.s.deep,.slice dk.A dk.Y.length dk.c]) M.out.now fun hS=>?_
    refine tkp 1 rfl hS ?_
    refine tkp 2 rfl hS ?_
    refine tkp 5 rfl hS ?_
    refine tk 6 rfl hS (y_ld1 O_bool _ _ _ rfl _ _ (fun _ h=>h.2) _ rfl) ?_
    refine tkp 7 rfl hS ?_
    refine tkp 8 rfl hS ?_
    refine tkp 9 rfl hS ?_
    refine tkp 10 rfl hS ?_
    refine tkp 11 rfl hS ?_
    refine tkp 12 rfl hS ?_
    repeat' (first|((with_reducible refine gR ?_);first|exact .nil|(refine r_bs0 SL_sCSeg lit0_sCSeg (i:=0) rfl M.out ?_ ?_;clear M;intro ga w' hga M;refine⟨M.out.now,tn ?_⟩)|(refine r_ld1 O_sCSeg (i:=3) rfl rfl M.out ?_ ?_;refine⟨M.out.now,tn ?_⟩)|(refine r_apR SL_sCSeg (i:=4) rfl rfl rfl M.out (M.out.now.1.1.2) (seg_one1 _) ?_ ?_;intro v1 w' Mn;have Mn:=Mn _ (by repeat constructor);simp only [Nat.zero_add,List.nil_append] at Mn;replace M:=hH Mn;clear Mn;refine⟨M.out.now,tn ?_⟩)|(refine r_bs SL_sCSeg (i:=13) rfl (cs:=#[.bool dk.s.deep,.int .i64 ((m3:Int)+((ysD Pd).length:Int)),.int .i64 ((m3:Int)+(((ysD Pd).length:Int)+(dk.Y.length:Int)))]) M.out ?_ ?_;clear M;intro gb w' hgb M;refine⟨M.out.now,tn ?_⟩)|(refine r_apB SL_sCSeg (i:=14) rfl rfl M.out ?_ ?_;intro v2 w' Mn;have Mn:=Mn _ (by repeat constructor);obtain⟨Af,cf,hv,hcf,HFA,Mn2⟩:=Mn.freezeRow;clear Mn;subst hv;replace HFA:=hH HFA;have HCF:=hH hcf.1;replace M:=hH Mn2;clear Mn2 hcf;refine⟨M.out.now.1,tn ?_⟩)|(refine r_st1 O_sCSeg (i:=17) rfl rfl rfl M.out ?_ ?_;clear M;intro w' M;refine⟨M.out.now.1,tn ?_⟩))|((with_reducible refine gW ?_);first|refine tkpd 15 rfl M.out.now.1 ?_|refine tkpd 16 rfl M.out.now.1 ?_|refine trd [0,3,13] ?_|refine trd [3,13] ?_|refine trd [4,13] ?_|refine trd [13] ?_|refine trd [14] ?_|refine trd [17] ?_|refine trd [4] ?_|refine trd [3] ?_|refine trd [0,13] ?_|refine trd [0] ?_|refine trd [0,3] ?_|refine ted ?_))
    all_goals
     go_wp2
     go_roundg Rd.length
     case measure=>first|(rw [HGK.out];simp;done)|(simp;done)
     case rel=>exact⟨Pd++[dk],Rd,Af,cf,rfl,hH (by rw [HD.out];simp),by first|go_num|simp,hH ⟨HFA.out.o,by rw [←HE4.out];exact HCF.out⟩,hH (by rw [←HE1.out,←HE2.out,←HE3.out,←HE4.out];exact M.out.drop.imp fun y h=>⟨⟨h.1.1.1.1,h.2⟩,h.1.1.2⟩)⟩
   | nil =>
    obtain rfl:G=Pd:=by simpa using HD.out
    have hnlt:¬(G.length:Int)<(G.length:Int):=by omega
    obtain⟨Ay,cy,hv,hcy,HFY,M2⟩:=M.out.freezeRow
    have HYF:=hH (row_form (M.out.row _ List.mem_cons_self) hv)
    subst hv
    replace M:=hH M2
    clear M2 HGK HD HFY
    go_wp2_with (first|(with_reducible refine l_ld1 O_sCSel M.out ?_)|((with_reducible refine g_ld 35 ?_);refine l_ld1j O_sSeg rfl M.out (fun y h=>h.1.2) (by exact rfl) ?_)|((with_reducible refine g_bs 25 80 ?_);refine l_bs0 SL_sCSel lit0_sCSel M.out ?_;clear M;intro g80 w' hg80 M)|((with_reducible refine g_ap 25 84 ?_);refine l_apR SL_sCSel rfl rfl M.out (M.out.now.1.1.1.1.2.1.1) (sel_one1 _) ?_;intro v84 w' Mn;have Mn:=Mn _ (by repeat constructor);simp only [Nat.zero_add,List.nil_append] at Mn;replace M:=hH Mn;clear Mn))
    go_loopg [11,12] (ysD G).length (fun gk v kk wr=>∃(Pd Rd:List (SelT×Option Addr)) (A4 A5:Option Addr) (c4 c5:Nat) (W:List (PathT×Value)),gk=Rd.length∧Hid (ysD G=Pd++Rd)∧kk=.int .i64 (Pd.length:Nat)∧Hid (W.map (·.1)=flW n (Pd.map (·.1))∧∀z∈W,TreeV wT z)∧Hid (FrO w A4o A4∧FrO w A5o A5)∧Hid (Own [] w wr [(g4,68,#[.slice none 0 0,.slice none 0 0,.slice none 0 0,.slice none 0 0,.slice none 0 0]),(g2,68,#[.slice AP (np+1) cP,.slice A2 (ng+G.length) c2,.slice B3 m3 d3,.slice A4 (n4+(flD n n4 nw (Pd.map (·.1))).2.length) c4,.slice A5 (nw+W.length) c5])] [(v,47,8,m3+Pd.length,((xs++(flD n n4 nw (Pd.map (·.1))).1).flatMap selC))] (fun y=>((((Kept [] wT y∧(Rdd y 8 B3 m3 (xs.flatMap selC)∧Rdd y 7 A4 (n4+(flD n n4 nw (Pd.map (·.1))).2.length) ((is++(flD n n4 nw (Pd.map (·.1))).2).flatMap insC))∧Rdd y 2 A5 (nw+W.length) (wl++W.flatMap wC))∧Rdd y 3 AP (np+1) (xp++pathC ⟨qa,ng,(ng+G.length:Nat)⟩))∧Rdd y 3 A2 (ng+G.length) ((gs++gsD m3 (G.map (·.s))).flatMap segC))∧Blk y g3 37 #[.bool qa,.slice qA G.length qc])∧Rdd y 9 Ay (ysD G).length ((ysD G).flatMap yC))))
    case atStart=>exact⟨[],ysD G,A4,A5,c4,c5,[],rfl,hH rfl,rfl,hH ⟨rfl,fun z h=>by simp at h⟩,hH ⟨by rw [HA4.out];exact FrO.refl _ _,by rw [HA5.out];exact FrO.refl _ _⟩,hH (by simpa [flD] using M.out)⟩
    case round =>
     clear M
     obtain⟨Pd,Rd0,A4,A5,c4,c5,W,hgk,HD,rfl,HWW,HFO4,M⟩:=hrel
     have HGK:=hH hgk
     cases Rd0 with
     | cons z Rd =>
      have HI:=hH (show (ysD G)[Pd.length]? = some z from by rw [HD.out,List.getElem?_append_right (Nat.le_refl _),Nat.sub_self];rfl)
      have hzm:z∈ysD G:=List.mem_of_getElem? HI.out
      have HZS:=hH (HSS.out z hzm)
      have HZF:=hH (HFF.out z hzm)
      have hltn:Pd.length<(ysD G).length:=(List.getElem?_eq_some_iff.1 HI.out).1
      have hlt:(Pd.length:Int)<((ysD G).length:Int):=by omega
      obtain⟨ad,hAy,_⟩:=M.out.now.2.2 (by omega)
      obtain⟨ga,rfl⟩:=HYF.out _ hAy
      subst hAy
      have HCL:=hH (show ∀y:World,((((Kept [] wT y∧(Rdd y 8 B3 m3 (xs.flatMap selC)∧Rdd y 7 A4 (n4+(flD n n4 nw (Pd.map (·.1))).2.length) ((is++(flD n n4 nw (Pd.map (·.1))).2).flatMap insC))∧Rdd y 2 A5 (nw+W.length) (wl++W.flatMap wC))∧Rdd y 3 AP (np+1) (xp++pathC ⟨qa,ng,(ng+G.length:Nat)⟩))∧Rdd y 3 A2 (ng+G.length) ((gs++gsD m3 (G.map (·.s))).flatMap segC))∧Blk y g3 37 #[.bool qa,.slice qA G.length qc])∧Rdd y 9 (some ⟨ga,0,none⟩:Option Addr) (ysD G).length ((ysD G).flatMap yC)→∀(j:Nat) (u:Value),(yC z)[j]? = some u→y.cell? ⟨ga,Pd.length*9+j,none⟩=some u from fun y h j u hu=>by
       obtain⟨ad,e,_,hc⟩:=h.2.2 (by omega)
       cases e
       have hj:j<9:=(List.getElem?_eq_some_iff.1 hu).1
       have:=hc (Pd.length*9+j) u (by rw [flat_get yC 9 (fun _=>rfl) (ysD G) Pd.length j hj,HI.out];exact hu)
       rw [add_lit] at this
       simpa using this)
      have hwr:IntKind.i64.wrap (z.1.index+z.1.fr)=z.1.index+z.1.fr:=IntWalk.i64_in _ HZS.out.sum
      clear hzm
      go_upto_region 16 with fail
      replace M:=hH M.out.drew
      refine tbh (fun y=>((((Kept [] wT y∧(Rdd y 8 B3 m3 (xs.flatMap selC)∧Rdd y 7 A4 (n4+(flD n n4 nw (Pd.map (·.1))).2.length) ((is++(flD n n4 nw (Pd.map (·.1))).2).flatMap insC))∧Rdd y 2 A5 (nw+W.length) (wl++W.flatMap wC))∧Rdd y 3 AP (np+1) (xp++pathC ⟨qa,ng,(ng+G.length:Nat)⟩))∧Rdd y 3 A2 (ng+G.length) ((gs++gsD m3 (G.map (·.s))).flatMap segC))∧Blk y g3 37 #[.bool qa,.slice qA G.length qc])∧Rdd y 9 (some ⟨ga,0,none⟩:Option Addr) (ysD G).length ((ysD G).flatMap yC)) M.out.now fun hS=>?_
      refine tkp 0 rfl hS ?_
      refine tkp 1 rfl hS ?_
      refine tkp 2 rfl hS ?_
      refine tkp 3 rfl hS ?_
      refine tk 4 rfl hS (y_ldc O_int _ _ _ rfl _ (fun y h=>HCL.out y h 0 _ rfl)) ?_
      refine tkp 5 rfl hS ?_
      refine tkp 6 rfl hS ?_
      refine tkp 7 rfl hS ?_
      refine tkp 8 rfl hS ?_
      refine tk 9 rfl hS (y_ldc O_str _ _ _ rfl _ (fun y h=>HCL.out y h 1 _ rfl)) ?_
      refine tkp 10 rfl hS ?_
      refine tkp 11 rfl hS ?_
      refine tkp 12 rfl hS ?_
      refine tkp 13 rfl hS ?_
      refine tk 14 rfl hS (y_ldc O_i64 _ _ _ rfl _ (fun y h=>HCL.out y h 2 _ rfl)) ?_
      refine tkp 15 rfl hS ?_
      refine tkp 16 rfl hS ?_
      refine tkp 17 rfl hS ?_
      refine tkp 18 rfl hS ?_
      refine tk 19 rfl hS (y_ldc O_i64 _ _ _ rfl _ (fun y h=>HCL.out y h 3 _ rfl)) ?_
      refine tkp 20 rfl hS ?_
      refine tkp 21 rfl hS ?_
      refine tkp 22 rfl hS ?_
      refine tkp 23 rfl hS ?_
      refine tkp 24 rfl hS ?_
      refine tk 25 rfl hS (y_ldc O_i64 _ _ _ rfl _ (fun y h=>HCL.out y h 4 _ rfl)) ?_
      refine tkp 26 rfl hS ?_
      refine tkp 27 rfl hS ?_
      refine tkp 28 rfl hS ?_
      refine tkp 29 rfl hS ?_
      refine tk 30 rfl hS (y_ldc O_i64 _ _ _ rfl _ (fun y h=>HCL.out y h 5 _ rfl)) ?_
      refine tkp 31 rfl hS ?_
      refine tkp 32 rfl hS ?_
      refine tkp 33 rfl hS ?_
      refine tkp 34 rfl hS ?_
      refine tk 35 rfl hS (y_ldc O_bool _ _ _ rfl _ (fun y h=>HCL.out y h 6 _ rfl)) ?_
      refine tkp 36 rfl hS ?_
      refine tkp 37 rfl hS ?_
      refine tkp 38 rfl hS ?_
      refine tkp 39 rfl hS ?_
      refine tk 40 rfl hS (y_ldc O_bool _ _ _ rfl _ (fun y h=>HCL.out y h 7 _ rfl)) ?_
      refine tkp 41 rfl hS ?_
      repeat' (first|((with_reducible refine gR ?_);first|exact .nil|(refine r_al F_CSel (i:=42) rfl M.out ?_ ?_;clear M;intro g13 w' hg13 M;refine⟨M.out.now,tn ?_⟩)|(refine r_st F_CSel (cs:=#[.int .i64 z.1.kind,.string (bs z.1.name),.int .i64 (z.1.index+z.1.fr),.int .i64 z.1.tt,.int .i64 z.1.step,.bool z.1.hf,.bool z.1.ht,.int .i64 0]) (i:=43) rfl rfl rfl M.out ?_ ?_;clear M;intro w' M;refine⟨M.out.now,tn ?_⟩))|((with_reducible refine gW ?_);first|refine trd [42] ?_|refine trd [43] ?_|refine ted ?_))
      all_goals
       rcases HZS.out.flt with⟨hk4,e,hze,hWe⟩|⟨hk4,hzn⟩
       ·have hkb:(z.1.kind==4)=true:=by rw [hk4];rfl
        obtain⟨b,off,kc,We,hz2,hbT,hkc,hra,hWe1,hWe2,hKC⟩:=HZF.out e hze
        have HN:=hH (show flD n n4 nw ((Pd++[z]).map (·.1))=((flD n n4 nw (Pd.map (·.1))).1++[selD z.1 ((n4+(flD n n4 nw (Pd.map (·.1))).2.length):Nat)],(flD n n4 nw (Pd.map (·.1))).2++(insN n (n4+(flD n n4 nw (Pd.map (·.1))).2.length) (nw+(flW n (Pd.map (·.1))).length) e++[opD 5])) from by
         rw [List.map_append]
         exact flD_snoc_some hze _ (fun x hx e he=>by
          obtain⟨z',hz',rfl⟩:=List.mem_map.1 hx
          have:=HSS.out z' (by rw [HD.out];simp [hz'])
          rcases this.flt with⟨_,e',h1,h2⟩|⟨_,h1⟩
          ·rw [he] at h1;obtain rfl:=Option.some.inj h1;exact insN_len n e h2
          ·rw [he] at h1;cases h1) _ _)
        have HPT:=hH (show (yC z)[8]? = some (.pointer (some ⟨b,off,none⟩)) from by unfold yC selL;rw [hz2];rfl)
        have HRA:=hH (show ∀y:World,((((Kept [] wT y∧(Rdd y 8 B3 m3 (xs.flatMap selC)∧Rdd y 7 A4 (n4+(flD n n4 nw (Pd.map (·.1))).2.length) ((is++(flD n n4 nw (Pd.map (·.1))).2).flatMap insC))∧Rdd y 2 A5 (nw+W.length) (wl++W.flatMap wC))∧Rdd y 3 AP (np+1) (xp++pathC ⟨qa,ng,(ng+G.length:Nat)⟩))∧Rdd y 3 A2 (ng+G.length) ((gs++gsD m3 (G.map (·.s))).flatMap segC))∧Blk y g3 37 #[.bool qa,.slice qA G.length qc])∧Rdd y 9 (some ⟨ga,0,none⟩:Option Addr) (ysD G).length ((ysD G).flatMap yC)→y.rangeAt b off kc from fun y h j v hv=>(World.cell?_of_block (h.1.1.1.1.1.2 b hbT (by simp))).trans (hra j v hv))
        have HKC:=hH hKC
        unfold KidC MoreP at HKC
        have HWE:=hH (And.intro hWe1 hWe2)
        clear hz2 hbT hra hWe1 hWe2 hKC
        have HIL:=hH (show (is++(flD n n4 nw (Pd.map (·.1))).2).length=(n4+(flD n n4 nw (Pd.map (·.1))).2.length) from by rw [List.length_append,HIS.out])
        have HWL:=hH (show ∀u∈wl++W.flatMap wC,u.oneCell'=true from fun u hu=>(List.mem_append.1 hu).elim (hwl u) fun hu=>by
         obtain⟨q,hq,hu⟩:=List.mem_flatMap.1 hu
         exact(HWW.out.2 q hq).one u hu)
        have HB:=hH (HBD.out (Pd++[z]) Rd (by rw [HD.out];simp))
        have hni:=insN_len n e hWe (n4+(flD n n4 nw (Pd.map (·.1))).2.length) (nw+W.length)
        have HWN:=hH (show W.length=(flW n (Pd.map (·.1))).length from by rw [←HWW.out.1,List.length_map])
        have HWT:=hH (show (W++We).map (·.1)=flW n ((Pd++[z]).map (·.1)) from by rw [List.map_append,List.map_append,List.map_cons,List.map_nil,flW_snoc,hze,HWW.out.1,HWE.out.1])
        have HB1:=hH (show (n4+(flD n n4 nw (Pd.map (·.1))).2.length)+lenN n e+1≤999990∧nw+W.length+We.length≤999990 from by
         have h1:=HB.out
         rw [HN.out,←HWT.out] at h1
         simp only [List.length_append,List.length_singleton,List.length_map,HWN.out] at h1
         rw [insN_len n e hWe] at h1
         have:=HWN.out
         omega)
        dsimp only at HKC
        clear HB
        go_upto_region 19 with(first|(with_reducible first|refine l_ld1 O_int M.out ?_|refine l_ld1 O_sIns M.out ?_)|((with_reducible refine g_st 3 ?_);refine l_st1 O_int rfl rfl M.out ?_;clear M;intro w' M))
        replace M:=hH M.out.drew
        refine tbh (fun y=>((((Kept [] wT y∧(Rdd y 8 B3 m3 (xs.flatMap selC)∧Rdd y 7 A4 (n4+(flD n n4 nw (Pd.map (·.1))).2.length) ((is++(flD n n4 nw (Pd.map (·.1))).2).flatMap insC))∧Rdd y 2 A5 (nw+W.length) (wl++W.flatMap wC))∧Rdd y 3 AP (np+1) (xp++pathC ⟨qa,ng,(ng+G.length:Nat)⟩))∧Rdd y 3 A2 (ng+G.length) ((gs++gsD m3 (G.map (·.s))).flatMap segC))∧Blk y g3 37 #[.bool qa,.slice qA G.length qc])∧Rdd y 9 (some ⟨ga,0,none⟩:Option Addr) (ysD G).length ((ysD G).flatMap yC)) M.out.now fun hS=>?_
        refine tkp 1 rfl hS ?_
        refine tkp 2 rfl hS ?_
        refine tkp 3 rfl hS ?_
        refine tkp 4 rfl hS ?_
        refine tk 5 rfl hS (y_ldc O_pex _ _ _ rfl _ (fun y h=>HCL.out y h 8 _ HPT.out)) ?_
        refine tkp 6 rfl hS ?_
        refine tk 7 rfl hS (y_ldf F_Ex _ _ _ rfl kc (fun y h=>HRA.out y h) hkc) ?_
        refine tkp 9 rfl hS ?_
        repeat' (first|((with_reducible refine gR ?_);first|exact .nil|(refine r_ld F_M (i:=0) rfl rfl M.out ?_ ?_;refine⟨M.out.now,tn ?_⟩)|(refine rdy_call (HKC.out AP A2 B3 A4 A5 (np+1) cP (ng+G.length) c2 m3 d3 c4 c5 (n4+(flD n n4 nw (Pd.map (·.1))).2.length) (nw+W.length) (is++(flD n n4 nw (Pd.map (·.1))).2) (wl++W.flatMap wC) _ HIL.out (HW.out.next M.out.bel0) (M.out.now.1.1.1.1.2.1.2) (M.out.now.1.1.1.1.2.2) HWL.out (by have:=HB1.out;omega) HB1.out.2) (i:=8) (op:=.call _) rfl (by go_simp) ?_ ?_;rintro e_ w' ⟨Ax,cx,Az,cz,rfl,hr4,hf4,hr5,hf5,hb⟩;have Mn:=(M.out.addRd hb hr4 hf4).add (J':=fun y=>Rdd y 2 Az _ _) (fun y hy=>hr5.kept hy fun a e _ hm=>Nat.lt_irrefl _ (Nat.lt_of_lt_of_le (M.out.ex_lt hm) ((hf5 a e).1)));have HF4:=hH (hf4.le M.out.size);have HF5:=hH (hf5.le M.out.size);replace M:=hH Mn;clear Mn hb hr4 hf4 hr5 hf5;refine⟨_,rfl,?_⟩;refine⟨M.out.now.1.1,tn ?_⟩)|(refine rdy_call (rput_any AP A2 B3 Ax Az (np+1) cP (ng+G.length) c2 m3 d3 cx (nw+W.length+We.length) cz _ ((n4+(flD n n4 nw (Pd.map (·.1))).2.length)+(insN n (n4+(flD n n4 nw (Pd.map (·.1))).2.length) (nw+W.length) e).length) ((is++(flD n n4 nw (Pd.map (·.1))).2).flatMap insC++(insN n (n4+(flD n n4 nw (Pd.map (·.1))).2.length) (nw+W.length) e).flatMap insC) ⟨5,0,0,0,0,⟨#[]⟩,0⟩ (by have:=HB1.out;omega) (fun u hu=>(List.mem_append.1 hu).elim (ins_one1 _ u) (ins_one1 _ u)) M.out.now.1.2) (i:=10) (op:=.call _) rfl (by go_simp) ?_ ?_;rintro e_ w' ⟨Aq,cq,rfl,hrd,hfr,hb⟩;have Mn:=M.out.addRd hb hrd hfr;have HF6:=hH (hfr.le M.out.size);replace M:=hH Mn;clear Mn hb hrd hfr;refine⟨_,rfl,?_⟩;refine⟨M.out.now.1.1.1,tn ?_⟩)|(refine r_st F_M (i:=11) rfl rfl rfl M.out ?_ ?_;clear M;intro w' M;refine⟨M.out.now.1.1.1,tn ?_⟩))|((with_reducible refine gW ?_);first|refine trd [0] ?_|refine trd [8] ?_|refine trd [10] ?_|refine trd [11] ?_|refine ted ?_))
        all_goals
         go_wp2_with (first|(with_reducible refine l_ld F_CSel M.out ?_)|((with_reducible refine g_bs 25 154 ?_);refine l_bs SL_sCSel (cs:=#[.int .i64 z.1.kind,.string (bs z.1.name),.int .i64 (z.1.index+z.1.fr),.int .i64 z.1.tt,.int .i64 z.1.step,.bool z.1.hf,.bool z.1.ht,.int .i64 (((n4+(flD n n4 nw (Pd.map (·.1))).2.length):Nat):Int)]) (by kernel_rfl) M.out ?_;clear M;intro g154 w' hg154 M)|((with_reducible refine g_ap 25 155 ?_);refine l_apB SL_sCSel rfl rfl M.out ?_;intro v155 w' Mn;have Mn:=Mn _ (by repeat constructor);replace M:=hH Mn;clear Mn))
         go_roundg Rd.length
         case measure=>first|(rw [HGK.out];simp;done)|(simp;done)
         case rel=>exact⟨Pd++[z],Rd,Aq,Az,cq,cz,W++We,rfl,hH (by rw [HD.out];simp),by first|go_num|simp,hH ⟨HWT.out,fun q hq=>(List.mem_append.1 hq).elim (HWW.out.2 q) (HWE.out.2 q)⟩,hH ⟨HF6.out.o,HF5.out.o⟩,hH (by
           have e1:(n4+(flD n n4 nw (Pd.map (·.1))).2.length)+(insN n (n4+(flD n n4 nw (Pd.map (·.1))).2.length) (nw+W.length) e).length+1=(n4+(flD n n4 nw ((Pd++[z]).map (·.1))).2.length):=by rw [HN.out,HWN.out];simp only [List.length_append,List.length_singleton];omega
           have e2:((is++(flD n n4 nw (Pd.map (·.1))).2).flatMap insC++(insN n (n4+(flD n n4 nw (Pd.map (·.1))).2.length) (nw+W.length) e).flatMap insC)++insC ⟨5,0,0,0,0,⟨#[]⟩,0⟩=(is++(flD n n4 nw ((Pd++[z]).map (·.1))).2).flatMap insC:=by rw [HN.out,HWN.out];simp only [List.flatMap_append,List.append_assoc,List.flatMap_cons,List.flatMap_nil,List.append_nil];rfl
           have e3:nw+W.length+We.length=nw+(W++We).length:=by rw [List.length_append];omega
           have e4:wl++W.flatMap wC++We.flatMap wC=wl++(W++We).flatMap wC:=by rw [List.flatMap_append,List.append_assoc]
           have e5:((xs++(flD n n4 nw (Pd.map (·.1))).1).flatMap selC)++selC (selD z.1 (((n4+(flD n n4 nw (Pd.map (·.1))).2.length):Nat):Int))=((xs++(flD n n4 nw ((Pd++[z]).map (·.1))).1).flatMap selC):=by rw [HN.out];simp only [sel_snoc]
           rw [←e1,←e2,←e3,←e4,←e5,List.length_append,List.length_singleton]
           exact M.out.drop.drop.imp fun y h=>⟨⟨⟨⟨⟨h.1.1.1.1.1.1.1.1,⟨h.1.1.1.1.1.1.1.2.1.1,h.2⟩,h.1.2⟩,h.1.1.1.1.1.1.2⟩,h.1.1.1.1.1.2⟩,h.1.1.1.1.2⟩,h.1.1.1.2⟩)⟩
       ·have hkb:(z.1.kind==4)=false:=beq_eq_false_iff_ne.2 hk4
        have HKB:=hH hkb
        have HN:=hH (show flD n n4 nw ((Pd++[z]).map (·.1))=((flD n n4 nw (Pd.map (·.1))).1++[selD z.1 0],(flD n n4 nw (Pd.map (·.1))).2) from by rw [List.map_append];exact flD_snoc_none hzn _ _ _)
        have HNW:=hH (show W.map (·.1)=flW n ((Pd++[z]).map (·.1)) from by rw [List.map_append,List.map_cons,List.map_nil,flW_snoc,hzn,HWW.out.1,List.append_nil])
        clear hkb hk4
        have hkb:(z.1.kind==4)=false:=HKB.out
        go_wp2_with (first|(with_reducible first|refine l_ld1 O_int M.out ?_|refine l_ld F_CSel M.out ?_)|((with_reducible refine g_bs 25 154 ?_);refine l_bs SL_sCSel (cs:=#[.int .i64 z.1.kind,.string (bs z.1.name),.int .i64 (z.1.index+z.1.fr),.int .i64 z.1.tt,.int .i64 z.1.step,.bool z.1.hf,.bool z.1.ht,.int .i64 0]) (by kernel_rfl) M.out ?_;clear M;intro g154 w' hg154 M)|((with_reducible refine g_ap 25 155 ?_);refine l_apB SL_sCSel rfl rfl M.out ?_;intro v155 w' Mn;have Mn:=Mn _ (by repeat constructor);replace M:=hH Mn;clear Mn))
        go_roundg Rd.length
        case measure=>first|(rw [HGK.out];simp;done)|(simp;done)
        case rel=>exact⟨Pd++[z],Rd,A4,A5,c4,c5,W,rfl,hH (by rw [HD.out];simp),by first|go_num|simp,hH ⟨HNW.out,HWW.out.2⟩,HFO4,hH (by
          simp only [HN.out,sel_snoc,List.length_append,List.length_singleton]
          exact M.out.drop.drop)⟩
     | nil =>
      obtain rfl:ysD G=Pd:=by simpa using HD.out
      have hnl2:¬((ysD G).length:Int)<((ysD G).length:Int):=by omega
      obtain⟨As,cs,hv,hcs,HFS,M2⟩:=M.out.freezeRow
      subst hv
      have HCS:=hH hcs.1
      replace M:=hH M2
      clear M2
      go_wp2_with (first|(with_reducible first|refine l_ld F_M M.out ?_|(refine l_st F_M M.out ?_;clear M;intro w' M))|((with_reducible refine g_st 25 ?_);refine l_st1 O_sCSel rfl rfl M.out ?_;clear M;intro w' M))
      rw [←HQ.out]
      exact bodyPost_ret (results_1 Tryz.results23 _ _ g4 _ _ rfl (M.out.blk (g4,_,_) (by repeat constructor)) F_M rfl) rfl ⟨_,_,_,_,_,_,_,_,_,_,W,rfl,⟨M.out.now.1.1.1.1.2,M.out.now.1.1.1.2,M.out.now.2,M.out.now.1.1.1.1.1.2.1.2,M.out.now.1.1.1.1.1.2.2⟩,HWW.out,⟨HFP.out,by rw [HA2.out];exact HFO.out.1,HFS,by rw [HA4.out];exact HFO4.out.1,by rw [HA5.out];exact HFO4.out.2⟩,⟨HFO.out.2,HCS.out⟩,M.out.bel0⟩
end
end Go.Proofs.YtjbdcjcfijjiiaaGreatDoor
