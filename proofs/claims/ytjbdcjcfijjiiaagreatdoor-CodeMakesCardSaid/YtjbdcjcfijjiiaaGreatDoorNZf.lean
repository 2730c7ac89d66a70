/- code: path (printed by gen_zf.py). -/
import Derived.Test.YtjbdcjcfijjiiaaGreatDoorNG20
namespace Go.Proofs.YtjbdcjcfijjiiaaGreatDoor
open Go.RowKit
set_option maxRecDepth 100000
set_option maxHeartbeats 2000000
def FltM (w0:World)(n:Nat)(z:SelT×Option Addr):Prop :=
 ∀e,z.1.f=some e→∃b off kc W,z.2=some ⟨b,off,none⟩∧b<w0.heap.size∧kc.length=17∧w0.rangeAt b off kc∧W.map (·.1)=waitN n e∧(∀u∈W,TreeV w0 u)∧KidM w0 n ⟨e,kc,W⟩
theorem ysD_app (a b:List SgD):ysD (a++b)=ysD a++ysD b:=by unfold ysD;rw [List.flatMap_append]
theorem sel_snoc2 (xs:List SelD)(s:SelD):(xs++[s]).flatMap selC=xs.flatMap selC++selC s:=by simp
theorem seg_snoc2 (xs:List SegD)(s:SegD):(xs++[s]).flatMap segC=xs.flatMap segC++segC s:=by simp
theorem path_snoc2 (xs:List PathD)(s:PathD):(xs++[s]).flatMap pathC=xs.flatMap pathC++pathC s:=by simp
section
variable  {w0:World}{L:List BlkE}{rs:List RowE}{J:World→Prop}
def MkA (A1 A2 A3 A4 A5:Option Addr)(k1 k2 k3 k4 k5:Nat)(ps:List PathD)(gs:List SegD)(ss:List SelD)(is:List InsD)(W:List (PathT×Value))(rs:List RowE):List RowE :=
 (.slice A1 ps.length k1,43,3,ps.length,ps.flatMap pathC)::(.slice A2 gs.length k2,45,3,gs.length,gs.flatMap segC)::(.slice A3 ss.length k3,47,8,ss.length,ss.flatMap selC)::(.slice A4 is.length k4,49,7,is.length,is.flatMap insC)::(.slice A5 W.length k5,37,2,W.length,W.flatMap wC)::rs
theorem MkS.open_ {w:World}{g:Nat}{c:CodeD}{W:List (PathT×Value)}(h:MkS w0 w g L rs J c W):∃A1 A2 A3 A4 A5 k1 k2 k3 k4 k5,Own [] w0 w ((g,61,#[.slice A1 c.ps.length k1,.slice A2 c.gs.length k2,.slice A3 c.ss.length k3,.slice A4 c.is.length k4,.slice A5 W.length k5])::L) (MkA A1 A2 A3 A4 A5 k1 k2 k3 k4 k5 c.ps c.gs c.ss c.is W rs) J:=by
 obtain⟨v1,v2,v3,v4,v5,M⟩:=h
 unfold MkR at M
 obtain⟨A1,k1,h1,_⟩:=own_reads (M.row (v1,_) (by repeat constructor))
 obtain⟨A2,k2,h2,_⟩:=own_reads (M.row (v2,_) (by repeat constructor))
 obtain⟨A3,k3,h3,_⟩:=own_reads (M.row (v3,_) (by repeat constructor))
 obtain⟨A4,k4,h4,_⟩:=own_reads (M.row (v4,_) (by repeat constructor))
 obtain⟨A5,k5,h5,_⟩:=own_reads (M.row (v5,_) (by repeat constructor))
 simp only at h1 h2 h3 h4 h5
 subst h1 h2 h3 h4 h5
 exact⟨A1,A2,A3,A4,A5,k1,k2,k3,k4,k5,M⟩
theorem MkS.shut {w:World}{g:Nat}{A1 A2 A3 A4 A5:Option Addr}{k1 k2 k3 k4 k5:Nat}{ps:List PathD}{gs:List SegD}{ss:List SelD}{is:List InsD}{W:List (PathT×Value)}(h:Own [] w0 w ((g,61,#[.slice A1 ps.length k1,.slice A2 gs.length k2,.slice A3 ss.length k3,.slice A4 is.length k4,.slice A5 W.length k5])::L) (MkA A1 A2 A3 A4 A5 k1 k2 k3 k4 k5 ps gs ss is W rs) J):MkS w0 w g L rs J ⟨ps,gs,ss,is⟩ W:=⟨_,_,_,_,_,h⟩
theorem MkS.of {w:World}{g:Nat}{c:CodeD}{W:List (PathT×Value)}{v1 v2 v3 v4 v5:Value}{rows:List RowE}(h:Own [] w0 w ((g,61,#[v1,v2,v3,v4,v5])::L) rows J)(hr:rows=MkR v1 v2 v3 v4 v5 c W rs):MkS w0 w g L rs J c W:=by
 subst hr
 exact⟨_,_,_,_,_,h⟩
theorem MkS.bel {w w':World}{g:Nat}{c:CodeD}{W:List (PathT×Value)}(h:MkS w0 w g L rs J c W)(hb:Bel w.heap.size w w'):MkS w0 w' g L rs J c W:=by
 obtain⟨v1,v2,v3,v4,v5,M⟩:=h
 exact⟨v1,v2,v3,v4,v5,M.bel hb⟩
theorem MkS.rowS {w:World}{g:Nat}{c:CodeD}{W:List (PathT×Value)}{v:Value}{T:TypeId}{k n:Nat}{xs:List Value}(h:MkS w0 w g L ((v,T,k,n,xs)::rs) J c W):∃A m,v=.slice A n m:=by
 obtain⟨v1,v2,v3,v4,v5,M⟩:=h
 obtain⟨A,m,h1,_⟩:=own_reads (M.row (v,T,k,n,xs) (by unfold MkR;simp))
 exact⟨A,m,h1⟩
theorem mpath_one (g:Nat)(c:CodeD)(W:List (PathT×Value))(qa:Bool)(qA:Option Addr)(qc:Nat)(G:List SgD)(w:World)(h:MkS w0 w g L rs J c W)(hG:∀(i:Nat) (d:SgD),G[i]? = some d→∃b off,qA=some ⟨b,off,none⟩∧b<w0.heap.size∧w0.rangeAt b (off+i*2) [.bool d.s.deep,.slice d.A d.Y.length d.c]∧Rdd w0 9 d.A d.Y.length (d.Y.flatMap yC)∧∀a,d.A=some a→a.spot=none)
  (S:List UInt8→Prop) (n:Nat) (hS:∀z∈ysD G,WfS S (WfN S n) z.1) (hF:∀z∈ysD G,FltM w0 n z) (hQ:∀z∈ysD G,z.1.kind≠4→z.2=none) (hGs:∀d∈G,d.Y.map (·.1)=d.s.sels) (hl1:c.ps.length≤999990) (hl2:c.gs.length+G.length≤999990) (hl3:c.ss.length+(ysD G).length≤999990) (hBD:∀Pd Rd,ysD G=Pd++Rd→c.is.length+(flD n c.is.length W.length (Pd.map (·.1))).2.length≤999980∧W.length+(flW n (Pd.map (·.1))).length≤999990) :
  Calls Tryz.prog 17 #[.pointer (some ⟨g,0,none⟩),.agg #[.bool qa,.slice qA G.length qc]] w fun e w'=>e=.returned (.tuple #[])∧∃Wn:List (PathT×Value),MkS w0 w' g L rs J ⟨c.ps++[⟨qa,c.gs.length,(c.gs.length+G.length:Nat)⟩],c.gs++gsD c.ss.length (G.map (·.s)),c.ss++(flD n c.is.length W.length ((ysD G).map (·.1))).1,c.is++(flD n c.is.length W.length ((ysD G).map (·.1))).2⟩ (W++Wn)∧Wn.map (·.1)=flW n ((ysD G).map (·.1))∧∀z∈Wn,TreeV w0 z:=by
 have M:=hH h
 have HGC:=hH hG
 have HSS:=hH hS
 have HQQ:=hH hQ
 have HFF:=hH hF
 have HBD:=hH hBD
 have HGS:=hH hGs
 have HL1:=hH hl1
 have HL2:=hH hl2
 have HL3:=hH hl3
 clear h hG hS hF hBD hQ hGs hl1 hl2 hl3
 obtain⟨A1,A2,A3,A4,A5,k1,k2,k3,k4,k5,hM⟩:=M.out.open_;unfold MkA at hM;(try dsimp only at hM);replace M:=hH hM;clear hM
 go_enter Tryz.func17, Tryz.ntmps17
 let qd:=bodyPost Tryz.prog Tryz.f17 (fun _ _=>True)
 go_upto_region 1 with(first|((with_reducible refine l_bx (d:=3) M.out ?_);clear M;intro g3 w' hg3 M;replace M:=hH M.out.freeze))
 (try simp only [Act.put,List.setIfInBounds_toArray,List.set_cons_zero,List.set_cons_succ])
 go_cut [4,14,15,16,17,18,19,20,21,22] (fun s4 _ _ _ _ _ _ _ _ _ wx=>∃g4:Nat,s4=.pointer (some ⟨g4,0,none⟩)∧Hid (Own [] w0 wx ((g,61,#[.slice A1 c.ps.length k1,.slice A2 c.gs.length k2,.slice A3 c.ss.length k3,.slice A4 c.is.length k4,.slice A5 W.length k5])::(g4,43,#[.bool qa,.int .i64 (c.gs.length:Int),.int .i64 0])::L) (MkA A1 A2 A3 A4 A5 k1 k2 k3 k4 k5 c.ps c.gs c.ss c.is W rs) (fun y=>J y∧Blk y g3 37 #[.bool qa,.slice qA G.length qc])))
 case first =>
  replace M:=hH M.out.drew
  refine tbh (fun y=>(J y∧Blk y g3 37 #[.bool qa,.slice qA G.length qc])∧Blk y g 61 #[.slice A1 c.ps.length k1,.slice A2 c.gs.length k2,.slice A3 c.ss.length k3,.slice A4 c.is.length k4,.slice A5 W.length k5]) ⟨M.out.now,M.out.blk (g,_,_) (by repeat constructor)⟩ fun hS=>?_
  refine tkp 0 rfl hS ?_
  refine tk 1 rfl hS (y_ld1 O_bool _ g3 0 rfl _ _ (fun y h=>h.1.2) _ rfl) ?_
  refine tkp 2 rfl hS ?_
  refine tkp 3 rfl hS ?_
  refine tkp 4 rfl hS ?_
  refine tkp 5 rfl hS ?_
  refine tk 6 rfl hS (y_ld1 O_sCSeg _ g 1 rfl _ _ (fun y h=>h.2) _ rfl) ?_
  refine tkp 7 rfl hS ?_
  refine tkp 8 rfl hS ?_
  refine tr [9] ?_
  refine r_al F_CPath (i:=9) rfl M.out ?_
  clear M;intro g4 w' hg4 M;refine an ⟨M.out.now,M.out.blk (g,_,_) (by repeat constructor)⟩ fun hS=>tn ?_
  refine tr [10] ?_
  refine r_st F_CPath (cs:=#[.bool qa,.int .i64 (c.gs.length:Int),.int .i64 0]) (i:=10) rfl rfl rfl M.out ?_
  clear M;intro w' M;refine an ⟨M.out.now,M.out.blk (g,_,_) (by repeat constructor)⟩ fun hS=>tn ?_
  refine te ?_
  go_wp2
  go_meet
  case rel=>exact⟨g4,rfl,hH M.out.swap2⟩
 case rest =>
  clear M
  obtain⟨g4,rfl,M⟩:=hcut
  unfold MkA at M
  go_upto_region 5 with(first|(with_reducible refine l_ld1 O_sCSel M.out ?_)|((with_reducible refine g_ld 35 ?_);refine l_ld1j O_sSeg rfl M.out (fun y h=>h.2) (by exact rfl) ?_))
  replace M:=hH ((MkS.shut M.out).imp (J':=J) fun y h=>h.1)
  replace M:=hH (M.out.row 83 1)
  go_wp2
  go_loopg [5,32] G.length (fun gk vF kk wr=>∃Pd Rd:List SgD,gk=Rd.length∧Hid (G=Pd++Rd)∧kk=.int .i64 (Pd.length:Nat)∧Hid (MkS w0 wr g ((g4,43,#[.bool qa,.int .i64 (c.gs.length:Int),.int .i64 0])::L) ((vF,83,1,(ysD Pd).length,(ysD Pd).map (fun (z:SelT×Option Addr)=>Value.pointer z.2))::rs) (J) ⟨c.ps,(c.gs++gsD c.ss.length (Pd.map (·.s))),(c.ss++(ysD Pd).map fun (z:SelT×Option Addr)=>selD z.1 0),c.is⟩ W))
  case atStart=>exact⟨[],G,rfl,hH rfl,rfl,hH (by simpa [ysD,gsD] using M.out)⟩
  case round =>
   clear M
   obtain⟨Pd,Rd0,hgk,HD,rfl,M⟩:=hrel
   have HGK:=hH hgk
   cases Rd0 with
   | cons dk Rd =>
    have HI:=hH (show G[Pd.length]? = some dk from by rw [HD.out,List.getElem?_append_right (Nat.le_refl _),Nat.sub_self];rfl)
    obtain⟨b,off,hqA,hbT,hra,hrd,hsp⟩:=HGC.out _ _ HI.out
    subst hqA
    obtain⟨dA,hdA⟩:∃dA,dk.A=dA:=⟨_,rfl⟩
    rw [hdA] at hra hrd hsp
    clear hdA
    have HRA:=hH hra
    have HRD:=hH hrd
    have HSP:=hH hsp
    have HBT:=hH hbT
    clear hra hrd hsp hbT
    have hmem:dk∈G:=List.mem_of_getElem? HI.out
    have hlt:(Pd.length:Int)<(G.length:Int):=by have:=(List.getElem?_eq_some_iff.1 HI.out).1;omega
    have hgb:G.length≤999990:=by have:=HL2.out;omega
    obtain⟨Af,mf,hvf⟩:=M.out.rowS
    subst hvf
    obtain⟨GS,hGS⟩:∃GS,(c.gs++gsD c.ss.length (Pd.map (·.s)))=GS:=⟨_,rfl⟩
    obtain⟨SS,hSS⟩:∃SS,(c.ss++(ysD Pd).map fun (z:SelT×Option Addr)=>selD z.1 0)=SS:=⟨_,rfl⟩
    rw [hGS,hSS] at M
    have HGE:=hH hGS
    have HSE:=hH hSS
    clear hGS hSS
    obtain⟨NF,hNF⟩:∃NF,(ysD Pd).length=NF:=⟨_,rfl⟩
    obtain⟨XF,hXF⟩:∃XF,(ysD Pd).map (fun (z:SelT×Option Addr)=>Value.pointer z.2)=XF:=⟨_,rfl⟩
    rw [hNF,hXF] at M
    rw [hNF]
    have HNF:=hH hNF
    have HXF:=hH hXF
    clear hNF hXF
    obtain⟨A1,A2,A3,A4,A5,k1,k2,k3,k4,k5,hM⟩:=M.out.open_;unfold MkA at hM;(try dsimp only at hM);replace M:=hH hM;clear hM
    have HZS:=hH (show (ysD (Pd++[dk])).length=NF+dk.Y.length∧(ysD (Pd++[dk])).length≤(ysD G).length from by
     constructor
     ·rw [ysD_app,List.length_append,HNF.out];simp [ysD]
     ·rw [HD.out];unfold ysD;simp)
    have HSL:=hH (show SS.length=c.ss.length+NF from by rw [←HSE.out,List.length_append,List.length_map,HNF.out])
    have hsl:SS.length+dk.Y.length≤999990:=by have:=HL3.out;have:=HZS.out;have:=HSL.out;omega
    have HGL:=hH (show GS.length=c.gs.length+Pd.length from by rw [←HGE.out,List.length_append,gsD_len,List.length_map])
    have hgl:GS.length≤999980+9:=by have:=HL2.out;have:=HGL.out;have:=(List.getElem?_eq_some_iff.1 HI.out).1;omega
    go_upto_region 7 with(first|(with_reducible (refine l_al (d:=8) F_Seg M.out ?_;clear M;intro g8 w' hg8 M))|((with_reducible refine g_ld 79 ?_);refine l_ldf F_Seg rfl (fun j v hv=>(World.cell?_of_block (M.out.bel0.block b HBT.out)).trans (HRA.out j v hv)) rfl ?_)|((with_reducible refine l_st F_Seg M.out ?_);clear M;intro w' M;replace M:=hH M.out.freeze))
    replace M:=hH M.out.drew
    refine tbh (fun y=>(J y∧Blk y g8 79 #[.bool dk.s.deep,.slice dA dk.Y.length dk.c])∧Blk y g 61 #[.slice A1 c.ps.length k1,.slice A2 GS.length k2,.slice A3 SS.length k3,.slice A4 c.is.length k4,.slice A5 W.length k5]) ⟨M.out.now,M.out.blk (g,_,_) (by repeat constructor)⟩ fun hS=>?_
    refine tkp 0 rfl hS ?_
    refine tk 1 rfl hS (y_ld1 O_bool _ g8 0 rfl _ _ (fun y h=>h.1.2) _ rfl) ?_
    refine tkp 2 rfl hS ?_
    refine tkp 3 rfl hS ?_
    refine tkp 4 rfl hS ?_
    refine tkp 5 rfl hS ?_
    refine tk 6 rfl hS (y_ld1 O_sCSel _ g 2 rfl _ _ (fun y h=>h.2) _ rfl) ?_
    refine tkp 7 rfl hS ?_
    refine tkp 8 rfl hS ?_
    repeat' (first|((with_reducible refine gR ?_);first|exact .nil|(refine r_al F_CSeg (i:=9) rfl M.out ?_ ?_;clear M;intro g9 w' hg9 M;refine⟨⟨M.out.now,M.out.blk (g,_,_) (by repeat constructor)⟩,tn ?_⟩)|(refine r_st F_CSeg (cs:=#[.bool dk.s.deep,.int .i64 (SS.length:Int),.int .i64 0]) (i:=10) rfl rfl rfl M.out ?_ ?_;clear M;intro w' M;refine⟨⟨M.out.now,M.out.blk (g,_,_) (by repeat constructor)⟩,tn ?_⟩))|((with_reducible refine gW ?_);first|refine trd [9] ?_|refine trd [10] ?_|refine ted ?_))
    all_goals
     go_upto_region 9 with(first|((with_reducible refine g_ld 77 ?_);refine l_ld1j O_sSel rfl M.out (fun y h=>h.2) (by exact rfl) ?_))
     replace M:=hH (MkS.shut (M.out.imp (J':=J) fun y h=>h.1).swap2)
     go_wp2
     go_loopg [5,48] dk.Y.length (fun gk vF kk wr=>∃Yd Yr:List (SelT×Option Addr),gk=Yr.length∧Hid (dk.Y=Yd++Yr)∧kk=.int .i64 (Yd.length:Nat)∧Hid (MkS w0 wr g ((g9,45,#[.bool dk.s.deep,.int .i64 (SS.length:Int),.int .i64 0])::(g4,43,#[.bool qa,.int .i64 (c.gs.length:Int),.int .i64 0])::L) ((vF,83,1,NF+Yd.length,XF++Yd.map (fun (z:SelT×Option Addr)=>Value.pointer z.2))::rs) (fun y=>J y) ⟨c.ps,GS,SS++Yd.map fun (z:SelT×Option Addr)=>selD z.1 0,c.is⟩ W))
     case atStart=>exact⟨[],dk.Y,rfl,hH rfl,rfl,hH (by simpa using M.out)⟩
     case round =>
      clear M
      obtain⟨Yd,Yr0,hgy,HY,rfl,M⟩:=hrel
      have HGY:=hH hgy
      clear hgy
      obtain⟨Ag,mg,hvg⟩:=M.out.rowS
      subst hvg
      cases Yr0 with
      | cons z Yr =>
       have HIz:=hH (show dk.Y[Yd.length]? = some z from by rw [HY.out,List.getElem?_append_right (Nat.le_refl _),Nat.sub_self];rfl)
       have hyl:Yd.length<dk.Y.length:=(List.getElem?_eq_some_iff.1 HIz.out).1
       have hyi:(Yd.length:Int)<(dk.Y.length:Int):=by omega
       have hzm:z∈ysD G:=by
        unfold ysD;exact List.mem_flatMap.2 ⟨dk,hmem,List.mem_of_getElem? HIz.out⟩
       have HZW:=hH (HSS.out z hzm)
       have HZQ:=hH (HQQ.out z hzm)
       obtain⟨ad,hA,hbl,hcel⟩:=HRD.out.2 (by omega)
       obtain⟨bY,oY,spY⟩:=ad
       obtain rfl:spY=none:=HSP.out _ hA
       have HRZ:=hH (show w0.rangeAt bY (oY+Yd.length*9) [.int .i64 z.1.kind,.string (bs z.1.name),.int .i64 z.1.index,.int .i64 z.1.fr,.int .i64 z.1.tt,.int .i64 z.1.step,.bool z.1.hf,.bool z.1.ht,.pointer z.2] from fun j u hu=>by
        have hj:j<9:=(List.getElem?_eq_some_iff.1 hu).1
        have:=hcel (Yd.length*9+j) u (by rw [flat_get yC 9 (fun _=>rfl) dk.Y Yd.length j hj,HIz.out];exact hu)
        rw [add_lit,←Nat.add_assoc] at this
        exact this)
       have HBY:=hH hbl
       have hwr:IntKind.i64.wrap (z.1.index+z.1.fr)=z.1.index+z.1.fr:=IntWalk.i64_in _ HZW.out.sum
       clear hcel hbl hzm
       subst hA
       obtain⟨SB,hSB⟩:∃SB,SS++Yd.map (fun (z:SelT×Option Addr)=>selD z.1 0)=SB:=⟨_,rfl⟩
       rw [hSB] at M
       have HSB:=hH hSB
       have hsb:SB.length≤999990:=by rw [←hSB,List.length_append,List.length_map];omega
       clear hSB
       have hnf:NF+Yd.length≤999990:=by have:=HSL.out;omega
       obtain⟨A1,A2,A3,A4,A5,k1,k2,k3,k4,k5,hM⟩:=M.out.open_;unfold MkA at hM;(try dsimp only at hM);replace M:=hH hM;clear hM
       go_upto_region 11 with(first|(with_reducible (refine l_al (d:=11) F_Sel M.out ?_;clear M;intro g11 w' hg11 M))|((with_reducible refine g_ld 85 ?_);refine l_ldf F_Sel rfl (fun j v hv=>(World.cell?_of_block (M.out.bel0.block bY HBY.out)).trans (HRZ.out j v hv)) rfl ?_)|((with_reducible refine l_st F_Sel M.out ?_);clear M;intro w' M;replace M:=hH M.out.freeze))
       replace M:=hH M.out.drew
       refine tbh (fun y=>J y∧Blk y g11 85 #[.int .i64 z.1.kind,.string (bs z.1.name),.int .i64 z.1.index,.int .i64 z.1.fr,.int .i64 z.1.tt,.int .i64 z.1.step,.bool z.1.hf,.bool z.1.ht,.pointer z.2]) M.out.now fun hS=>?_
       refine tkp 0 rfl hS ?_
       refine tkp 1 rfl hS ?_
       refine tkp 2 rfl hS ?_
       refine tkp 3 rfl hS ?_
       refine tkp 4 rfl hS ?_
       refine tk 6 rfl hS (y_ld F_Sel _ g11 rfl _ _ (fun y h=>h.2) rfl) ?_
       repeat' (first|((with_reducible refine gR ?_);first|exact .nil|(refine r_ld1 O_sCSel (i:=5) rfl rfl M.out ?_ ?_;refine⟨M.out.now,tn ?_⟩)|(refine rdy_call (msel_any HZW.out HZQ.out _) (i:=7) (op:=.call _) rfl (by go_simp;rfl) ?_ ?_;rintro e_ w' ⟨rfl,hb⟩;replace M:=hH (M.out.bel hb);clear hb;refine⟨_,rfl,?_⟩;refine⟨M.out.now,tn ?_⟩)|(refine r_bs SL_sCSel (i:=8) rfl (cs:=#[.int .i64 z.1.kind,.string (bs z.1.name),.int .i64 (z.1.index+z.1.fr),.int .i64 z.1.tt,.int .i64 z.1.step,.bool z.1.hf,.bool z.1.ht,.int .i64 0]) M.out ?_ ?_;clear M;intro gb w' hgb M;refine⟨M.out.now,tn ?_⟩)|(refine r_apB SL_sCSel (i:=9) rfl rfl M.out ?_ ?_;intro vn w' Mn;replace Mn:=Mn _ (by repeat constructor);replace M:=hH Mn;clear Mn;obtain⟨An,cn,hvn,-⟩:=own_reads (M.out.row (vn,_) (by repeat constructor));simp only at hvn;subst hvn;refine⟨M.out.now,tn ?_⟩)|(refine r_st1 O_sCSel (v:=.slice An (SB.length+1) cn) (i:=13) rfl rfl rfl M.out ?_ ?_;clear M;intro w' M;refine⟨M.out.now,tn ?_⟩))|((with_reducible refine gW ?_);first|refine tkpd 10 rfl M.out.now ?_|refine tkpd 11 rfl M.out.now ?_|refine tkpd 12 rfl M.out.now ?_|refine trd [5,7] ?_|refine trd [7] ?_|refine trd [8] ?_|refine trd [9] ?_|refine trd [13] ?_|refine trd [5,8] ?_|refine trd [5] ?_|refine ted ?_))
       all_goals
        replace M:=hH M.out.freeze
        go_wp2_with (first|((with_reducible refine g_ld 83 ?_);refine l_ld1j O_pex rfl M.out (fun y h=>h.1.2) (by exact rfl) ?_)|((with_reducible refine g_bs 82 68 ?_);refine l_bs SL_sPex (cs:=#[.pointer z.2]) (by kernel_rfl) M.out ?_;clear M;intro g68 w' hg68 M)|((with_reducible refine g_ap 82 69 ?_);refine l_apB SL_sPex rfl rfl M.out ?_;intro v69 w' Mn;replace Mn:=Mn _ (by repeat constructor);replace M:=hH Mn;clear Mn))
        go_roundg Yr.length
        case measure=>first|(rw [HGY.out];simp;done)|(simp;done)
        case rel=>exact⟨Yd++[z],Yr,rfl,hH (by rw [HY.out];simp),by first|go_num|simp,hH (by
          have h:=M.out.freeze.imp (J':=J) fun y h=>h.1.1.1
          have e1:SS++(Yd++[z]).map (fun (z:SelT×Option Addr)=>selD z.1 0)=SB++[selD z.1 0]:=by rw [←HSB.out];simp
          have e2:XF++(Yd++[z]).map (fun (z:SelT×Option Addr)=>Value.pointer z.2)=(XF++Yd.map (fun (z:SelT×Option Addr)=>Value.pointer z.2))++[.pointer z.2]:=by simp
          have e3:NF+(Yd++[z]).length=NF+Yd.length+1:=by simp;omega
          rw [e1,e2,e3]
          exact MkS.of h (by unfold MkR;dsimp only;rw [sel_snoc2,List.length_append,List.length_singleton];rfl))⟩
      | nil =>
       have hYd:Yd=dk.Y:=by simpa using HY.out.symm
       subst hYd
       have hnl:¬(dk.Y.length:Int)<(dk.Y.length:Int):=by omega
       obtain⟨SX,hSX⟩:∃SX,SS++dk.Y.map (fun (z:SelT×Option Addr)=>selD z.1 0)=SX:=⟨_,rfl⟩
       rw [hSX] at M
       have HSX:=hH hSX
       have hsx:SX.length=SS.length+dk.Y.length:=by rw [←hSX,List.length_append,List.length_map]
       have HSXL:=hH hsx
       clear hSX hsx
       obtain⟨A1,A2,A3,A4,A5,k1,k2,k3,k4,k5,hM⟩:=M.out.open_;unfold MkA at hM;(try dsimp only at hM);replace M:=hH hM;clear hM
       go_upto_region 15 with(first|(with_reducible refine l_ld1 O_sCSel M.out ?_)|((with_reducible refine g_st 3 ?_);refine l_st1 (v:=.int .i64 (SX.length:Int)) O_int rfl rfl M.out ?_;clear M;intro w' M))
       replace M:=hH M.out.swap2.freeze
       replace M:=hH M.out.drew
       refine tbh (fun y=>J y∧Blk y g9 45 #[.bool dk.s.deep,.int .i64 (SS.length:Int),.int .i64 (SX.length:Int)]) M.out.now fun hS=>?_
       refine tkp 0 rfl hS ?_
       refine tkp 1 rfl hS ?_
       refine tkp 2 rfl hS ?_
       refine tkp 3 rfl hS ?_
       refine tkp 4 rfl hS ?_
       refine tk 6 rfl hS (y_ld F_CSeg _ g9 rfl _ _ (fun y h=>h.2) rfl) ?_
       repeat' (first|((with_reducible refine gR ?_);first|exact .nil|(refine r_ld1 O_sCSeg (i:=5) rfl rfl M.out ?_ ?_;refine⟨M.out.now,tn ?_⟩)|(refine r_bs SL_sCSeg (i:=7) rfl (cs:=#[.bool dk.s.deep,.int .i64 (SS.length:Int),.int .i64 (SX.length:Int)]) M.out ?_ ?_;clear M;intro gb w' hgb M;refine⟨M.out.now,tn ?_⟩)|(refine r_apB SL_sCSeg (i:=8) rfl rfl M.out ?_ ?_;intro vn w' Mn;replace Mn:=Mn _ (by repeat constructor);replace M:=hH Mn;clear Mn;obtain⟨An,cn,hvn,-⟩:=own_reads (M.out.row (vn,_) (by repeat constructor));simp only at hvn;subst hvn;refine⟨M.out.now,tn ?_⟩)|(refine r_st1 O_sCSeg (v:=.slice An (GS.length+1) cn) (i:=12) rfl rfl rfl M.out ?_ ?_;clear M;intro w' M;refine⟨M.out.now,tn ?_⟩))|((with_reducible refine gW ?_);first|refine tkpd 9 rfl M.out.now ?_|refine tkpd 10 rfl M.out.now ?_|refine tkpd 11 rfl M.out.now ?_|refine trd [5,7] ?_|refine trd [7] ?_|refine trd [8] ?_|refine trd [12] ?_|refine trd [5] ?_|refine ted ?_))
       all_goals
        go_wp2
        go_roundg Rd.length
        case measure=>first|(rw [HGK.out];simp;done)|(simp;done)
        case rel=>exact⟨Pd++[dk],Rd,rfl,hH (by rw [HD.out];simp),by first|go_num|simp,hH (by
          have h:=M.out.freeze.imp (J':=J) fun y h=>h.1.1
          have e1:(c.gs++gsD c.ss.length ((Pd++[dk]).map (·.s)))=GS++[⟨dk.s.deep,(SS.length:Nat),(SX.length:Nat)⟩]:=by
           have hso:(selsOf (Pd.map (·.s))).length=NF:=by rw [sel_len fun d hd=>HGS.out d (by rw [HD.out];simp [hd]),HNF.out]
           have hsl:dk.s.sels.length=dk.Y.length:=by rw [←HGS.out dk hmem,List.length_map]
           rw [List.map_append,gsD_app,←List.append_assoc,HGE.out,hso,←HSL.out,List.map_cons,List.map_nil,gsD,gsD,hsl,←HSXL.out]
          have e2:(c.ss++(ysD (Pd++[dk])).map fun (z:SelT×Option Addr)=>selD z.1 0)=SX:=by rw [ysD_app,List.map_append,←List.append_assoc,HSE.out,←HSX.out];simp [ysD]
          have e4:(ysD (Pd++[dk])).map (fun (z:SelT×Option Addr)=>Value.pointer z.2)=XF++dk.Y.map (fun (z:SelT×Option Addr)=>Value.pointer z.2):=by rw [ysD_app,List.map_append,HXF.out];simp [ysD]
          rw [e1,e2,HZS.out.1,e4]
          exact MkS.of h (by unfold MkR;dsimp only;rw [seg_snoc2,List.length_append,List.length_singleton];rfl))⟩
   | nil =>
    obtain rfl:G=Pd:=by simpa using HD.out
    have hnlt:¬(G.length:Int)<(G.length:Int):=by omega
    obtain⟨Af,mf,hvf⟩:=M.out.rowS
    subst hvf
    obtain⟨GS,hGS⟩:∃GS,(c.gs++gsD c.ss.length (G.map (·.s)))=GS:=⟨_,rfl⟩
    obtain⟨SS,hSS⟩:∃SS,(c.ss++(ysD G).map fun (z:SelT×Option Addr)=>selD z.1 0)=SS:=⟨_,rfl⟩
    rw [hGS,hSS] at M
    have hgl:GS.length=c.gs.length+G.length:=by rw [←hGS,List.length_append,gsD_len,List.length_map]
    have HGL:=hH hgl
    have HGE:=hH hGS
    have HSE:=hH hSS
    clear hGS hSS HD hgl
    have hl1:=HL1.out
    obtain⟨A1,A2,A3,A4,A5,k1,k2,k3,k4,k5,hM⟩:=M.out.open_;unfold MkA at hM;(try dsimp only at hM);replace M:=hH hM;clear hM
    go_upto_region 18 with(first|(with_reducible refine l_ld1 O_sCSeg M.out ?_)|((with_reducible refine g_st 3 ?_);refine l_st1 (v:=.int .i64 (GS.length:Int)) O_int rfl rfl M.out ?_;clear M;intro w' M))
    replace M:=hH M.out.swap2.freeze
    (try simp only [Act.put])
    go_cut [98,99,100,101,102,103,104,105,106,107,108,109] (fun _ _ _ _ _ _ _ _ _ _ _ _ wx=>Hid (MkS w0 wx g L (((.slice Af (ysD G).length mf),83,1,(ysD G).length,(ysD G).map (fun (z:SelT×Option Addr)=>Value.pointer z.2))::rs) J ⟨c.ps++[⟨qa,(c.gs.length:Int),(GS.length:Int)⟩],GS,SS,c.is⟩ W))
    case first =>
     replace M:=hH M.out.drew
     refine tbh (fun y=>J y∧Blk y g4 43 #[.bool qa,.int .i64 (c.gs.length:Int),.int .i64 (GS.length:Int)]) M.out.now fun hS=>?_
     refine tkp 0 rfl hS ?_
     refine tkp 1 rfl hS ?_
     refine tkp 2 rfl hS ?_
     refine tkp 3 rfl hS ?_
     refine tkp 4 rfl hS ?_
     refine tk 6 rfl hS (y_ld F_CPath _ g4 rfl _ _ (fun y h=>h.2) rfl) ?_
     repeat' (first|((with_reducible refine gR ?_);first|exact .nil|(refine r_ld1 O_sCPath (i:=5) rfl rfl M.out ?_ ?_;refine⟨M.out.now,tn ?_⟩)|(refine r_bs SL_sCPath (i:=7) rfl (cs:=#[.bool qa,.int .i64 (c.gs.length:Int),.int .i64 (GS.length:Int)]) M.out ?_ ?_;clear M;intro gb w' hgb M;refine⟨M.out.now,tn ?_⟩)|(refine r_apB SL_sCPath (i:=8) rfl rfl M.out ?_ ?_;intro vn w' Mn;replace Mn:=Mn _ (by repeat constructor);replace M:=hH Mn;clear Mn;obtain⟨An,cn,hvn,-⟩:=own_reads (M.out.row (vn,_) (by repeat constructor));simp only at hvn;subst hvn;refine⟨M.out.now,tn ?_⟩)|(refine r_st1 O_sCPath (v:=.slice An (c.ps.length+1) cn) (i:=12) rfl rfl rfl M.out ?_ ?_;clear M;intro w' M;refine⟨M.out.now,tn ?_⟩))|((with_reducible refine gW ?_);first|refine tkpd 9 rfl M.out.now ?_|refine tkpd 10 rfl M.out.now ?_|refine tkpd 11 rfl M.out.now ?_|refine trd [5,7] ?_|refine trd [7] ?_|refine trd [8] ?_|refine trd [12] ?_|refine trd [5] ?_|refine ted ?_))
     all_goals
      go_wp2
      go_meet
      case rel=>exact hH (MkS.of (M.out.freeze.imp (J':=J) fun y h=>h.1.1) (by unfold MkR;dsimp only;rw [path_snoc2,List.length_append,List.length_singleton];rfl))
    case rest =>
     clear M
     have M:=hcut
     clear hcut
     obtain⟨AF,cF,hvF,hAF,_,M2⟩:=M.out.freeze
     simp only [Value.slice.injEq,true_and] at hvF
     obtain⟨rfl,rfl⟩:=hvF
     have HAF:=hH hAF
     replace M:=hH M2
     clear M2 hAF
     obtain⟨Y,hY⟩:∃Y,ysD G=Y:=⟨_,rfl⟩
     have HYG:=hH hY
     rw [hY] at M ⊢
     rw [hY] at HSE
     have hyb:Y.length≤999990:=by have:=HL3.out;rw [hY] at this;omega
     have hsb:c.ss.length+Y.length≤999990:=by have:=HL3.out;rw [hY] at this;omega
     clear hY
     obtain⟨PS,hPS⟩:∃PS,c.ps++[(⟨qa,(c.gs.length:Int),(GS.length:Int)⟩:PathD)]=PS:=⟨_,rfl⟩
     have HPS:=hH hPS
     rw [hPS] at M
     clear hPS
     go_wp2
     go_loopg [112] Y.length (fun gk kk wr=>∃(Yd Yr:List (SelT×Option Addr)) (Wk:List (PathT×Value)),gk=Yr.length∧Hid (Y=Yd++Yr)∧kk=.int .i64 (Yd.length:Nat)∧Hid (Wk.map (·.1)=flW n (Yd.map (·.1))∧∀z∈Wk,TreeV w0 z)∧Hid (MkS w0 wr g L rs (fun y=>J y∧Rdd y 1 Af Y.length (Y.map (fun (z:SelT×Option Addr)=>Value.pointer z.2))) ⟨PS,GS,c.ss++(flD n c.is.length W.length (Yd.map (·.1))).1++Yr.map (fun (z:SelT×Option Addr)=>selD z.1 0),c.is++(flD n c.is.length W.length (Yd.map (·.1))).2⟩ (W++Wk)))
     case atStart=>exact⟨[],Y,[],rfl,hH rfl,rfl,hH ⟨rfl,fun z h=>by simp at h⟩,hH (by simpa [flD,HSE.out] using M.out)⟩
     case round =>
      clear M
      obtain⟨Yd,Yr0,Wk,hgy,HY,rfl,HWK,M⟩:=hrel
      have HGY:=hH hgy
      clear hgy
      have HSM:=hH (show ∀z∈Y,WfS S (WfN S n) z.1∧FltM w0 n z∧(z.1.kind≠4→z.2=none) from fun z hz=>by
       rw [←HYG.out] at hz
       exact⟨HSS.out z hz,HFF.out z hz,HQQ.out z hz⟩)
      cases Yr0 with
      | cons z Yr =>
       have HIz:=hH (show Y[Yd.length]? = some z from by rw [HY.out,List.getElem?_append_right (Nat.le_refl _),Nat.sub_self];rfl)
       have hyl:Yd.length<Y.length:=(List.getElem?_eq_some_iff.1 HIz.out).1
       have hyi:(Yd.length:Int)<(Y.length:Int):=by omega
       obtain⟨hzw,hzf,hzq⟩:=HSM.out z (List.mem_of_getElem? HIz.out)
       obtain⟨ad,hA,_⟩:=M.out.now.2.2 (by omega)
       obtain⟨bF,rfl⟩:=HAF.out _ hA
       subst hA
       have HCP:=hH (show ∀y:World,Rdd y 1 (some ⟨bF,0,none⟩) Y.length (Y.map (fun (z:SelT×Option Addr)=>Value.pointer z.2))→y.cell? ⟨bF,Yd.length,none⟩=some (.pointer z.2) from fun y h=>by
        obtain⟨ad,e,_,hc⟩:=h.2 (by omega)
        cases e
        have:=hc Yd.length (.pointer z.2) (by rw [List.getElem?_map,HIz.out];rfl)
        rw [add_lit] at this
        simpa using this)
       rcases hzw.flt with⟨hk4,e,hze,hwe⟩|⟨hk4,hze⟩
       ·obtain⟨b,off,kc,We,hz2,hbT,hkc,hra,hWe1,hWe2,hKC⟩:=hzf e hze
        rw [hz2] at HCP
        have hlf:∀x∈Yd.map (·.1),∀e,x.f=some e→∀a b,(insN n a b e).length=lenN n e:=fun x hx e he=>by
         obtain⟨z',hz',rfl⟩:=List.mem_map.1 hx
         have:=(HSM.out z' (by rw [HY.out];simp [hz'])).1
         rcases this.flt with⟨_,e',h1,h2⟩|⟨_,h1⟩
         ·rw [he] at h1;obtain rfl:=Option.some.inj h1;exact insN_len n e h2
         ·rw [he] at h1;cases h1
        have hFD:=flD_snoc_some hze (Yd.map (·.1)) hlf c.is.length W.length
        have hfl:=flD_len n (Yd.map (·.1)) c.is.length W.length
        have hbd:=HBD.out (Yd++[z]) Yr (by rw [HYG.out,HY.out];simp)
        obtain⟨D1,D2,hD⟩:∃D1 D2,flD n c.is.length W.length (Yd.map (·.1))=(D1,D2):=⟨_,_,rfl⟩
        have hWl:(flW n (Yd.map (·.1))).length=Wk.length:=by rw [←HWK.out.1,List.length_map]
        rw [hD] at M hFD hfl
        simp only at M hFD hfl
        rw [List.length_map] at hfl
        have hWT:(Wk++We).map (·.1)=flW n (Yd.map (·.1)++[z.1]):=by rw [List.map_append,flW_snoc,hze,HWK.out.1,hWe1]
        rw [List.map_append,List.map_cons,List.map_nil] at hbd
        rw [hFD,←hWT,List.length_map,List.length_append,List.length_append,List.length_append,insN_len n e hwe,List.length_singleton] at hbd
        rw [hWl] at hFD
        obtain⟨IS,hIS⟩:∃IS,c.is++D2=IS:=⟨_,rfl⟩
        have hISl:IS.length=c.is.length+D2.length:=by rw [←hIS,List.length_append]
        rw [←hISl] at hFD
        obtain⟨SQ,hSQ⟩:∃SQ,c.ss++D1++(z::Yr).map (fun (z:SelT×Option Addr)=>selD z.1 0)=SQ:=⟨_,rfl⟩
        obtain⟨p,hp⟩:∃p,c.ss.length+Yd.length=p:=⟨_,rfl⟩
        have hSp:SQ[p]? = some (selD z.1 0):=by
         rw [←hSQ,←hp,List.map_cons,List.getElem?_append_right (by rw [List.length_append];omega),show c.ss.length+Yd.length-(c.ss++D1).length=0 by rw [List.length_append];omega];rfl
        have hpl:=(List.getElem?_eq_some_iff.1 hSp).1
        have hSs:SQ.set p (selD z.1 (IS.length:Int))=c.ss++(D1++[selD z.1 (IS.length:Int)])++Yr.map (fun (z:SelT×Option Addr)=>selD z.1 0):=by
         rw [←hSQ,←hp,List.map_cons,List.set_append_right _ _ (by rw [List.length_append];omega),show c.ss.length+Yd.length-(c.ss++D1).length=0 by rw [List.length_append];omega,List.set_cons_zero]
         simp
        have HSS2:=hH hSs
        have HFS:=hH (flat_set selC 8 (fun _=>rfl) 7 (by omega) (.int .i64 (IS.length:Int)) (selD z.1 (IS.length:Int)) SQ p (selD z.1 0) hSp rfl)
        rw [hIS,hSQ] at M
        have hpj:p*8+7<SQ.length*8:=by omega
        have hpI:(p:Int)<(SQ.length:Int):=by omega
        have hwr:IntKind.i64.wrap ((c.ss.length:Int)+(Yd.length:Int))=(p:Int):=by rw [←hp];exact IntWalk.i64_in _ (by omega)
        have HB1:=hH (show IS.length+lenN n e≤999990 from by omega)
        have HB2:=hH (show (W++Wk).length+We.length≤999990 from by rw [List.length_append];omega)
        have HB3:=hH (show (IS++insN n IS.length (W++Wk).length e).length≤999999 from by rw [List.length_append,insN_len n e hwe];omega)
        have HFN:=hH hFD
        have HWT:=hH hWT
        have HWA:=hH (show ∀u∈Wk++We,TreeV w0 u from fun u hu=>(List.mem_append.1 hu).elim (HWK.out.2 u) (hWe2 u))
        have HIS:=hH hIS
        have HRA:=hH hra
        have HBT:=hH hbT
        have HKN:=hH hkc
        unfold KidM at hKC
        have HKC:=hH hKC
        clear hSQ hSp hSs hIS hISl hFD hfl hbd hD hWl hWT hlf hra hbT hkc hKC hWe1 hWe2 hz2 hk4 hze hwe hzw hzf hzq hp
        obtain⟨v1,v2,v3,v4,v5,hM0⟩:=M.out
        unfold MkR at hM0
        obtain⟨g3r,c3r,hv3,_⟩:=own_slice (n:=SQ.length) (hM0.row (v3,_) (by repeat constructor)) (by omega)
        simp only at hv3
        subst hv3
        obtain⟨A4,k4,hv4,_⟩:=own_reads (hM0.row (v4,_) (by repeat constructor))
        simp only at hv4
        subst hv4
        replace M:=hH hM0
        clear hM0
        go_upto_region 23 with(first|((with_reducible refine g_ld 83 ?_);refine l_ldc O_pex rfl (HCP.out _ M.out.now.2) ?_))
        replace M:=hH M.out.drew
        refine tbh (fun y=>(J y∧Rdd y 1 (some ⟨bF,0,none⟩) Y.length (Y.map (fun (z:SelT×Option Addr)=>Value.pointer z.2)))∧Blk y g 61 #[v1,v2,.slice (some ⟨g3r,0,none⟩) SQ.length c3r,.slice A4 IS.length k4,v5]) ⟨M.out.now,M.out.blk (g,_,_) (by repeat constructor)⟩ fun hS=>?_
        refine tkp 0 rfl hS ?_
        refine tkp 1 rfl hS ?_
        refine tkp 2 rfl hS ?_
        refine tkp 3 rfl hS ?_
        refine tk 4 rfl hS (y_ld1 O_sCSel _ g 2 rfl _ _ (fun y h=>h.2) _ rfl) ?_
        refine tkp 5 rfl hS ?_
        refine tkp 6 rfl hS ?_
        refine tkp 7 rfl hS ?_
        refine tkp 8 rfl hS ?_
        refine tkp 9 rfl hS ?_
        refine tkp 10 rfl hS ?_
        refine tkp 11 rfl hS ?_
        refine tk 12 rfl hS (y_ld1 O_sIns _ g 3 rfl _ _ (fun y h=>h.2) _ rfl) ?_
        refine tkp 13 rfl hS ?_
        refine tkp 14 rfl hS ?_
        refine tkp 15 rfl hS ?_
        refine tr [16] ?_
        refine r_st1r O_int (v:=.int .i64 (IS.length:Int)) (i:=16) rfl rfl rfl M.out hpj ?_
        clear M;intro w' M;refine an ⟨M.out.now,M.out.blk (g,_,_) (by repeat constructor)⟩ fun hS=>tn ?_
        refine te ?_
        replace M:=hH (show MkS w0 _ g L rs _ ⟨PS,GS,SQ.set p (selD z.1 (IS.length:Int)),IS⟩ (W++Wk) from MkS.of M.out (by unfold MkR;dsimp only;rw [HFS.out,List.length_set]))
        go_wp2_with (first|((with_reducible refine g_ld 92 ?_);refine l_ldf F_Ex rfl (fun j v hv=>(World.cell?_of_block (M.out.bel0.block b HBT.out)).trans (HRA.out j v hv)) HKN.out ?_)|(go_at_call 32;(with_reducible refine(HKC.out _ g L rs _ _ _ M.out HB1.out HB2.out).mono ?_);rintro e w' ⟨rfl,hm⟩;replace M:=hH hm;clear hm)|(go_at_call 33;(with_reducible refine(mput_any g _ _ ⟨5,0,0,0,0,⟨#[]⟩,0⟩ _ M.out HB3.out).mono ?_);rintro e w' ⟨rfl,hm⟩;replace M:=hH hm;clear hm))
        go_roundg Yr.length
        case measure=>first|(rw [HGY.out];simp;done)|(simp;done)
        case rel=>exact⟨Yd++[z],Yr,Wk++We,rfl,hH (by rw [HY.out];simp),by first|go_num|simp,hH ⟨by rw [show (Yd++[z]).map (·.1)=Yd.map (·.1)++[z.1] from by simp];exact HWT.out,HWA.out⟩,hH (by
          have h:=M.out
          rw [HSS2.out] at h
          rw [List.map_append,List.map_cons,List.map_nil,HFN.out]
          rw [←HIS.out] at h ⊢
          rw [show opD 5=(⟨5,0,0,0,0,⟨#[]⟩,0⟩:InsD) from rfl]
          simpa using h)⟩
       ·have hz2:=hzq hk4
        rw [hz2] at HCP
        have HN:=hH (show flD n c.is.length W.length ((Yd++[z]).map (·.1))=((flD n c.is.length W.length (Yd.map (·.1))).1++[selD z.1 0],(flD n c.is.length W.length (Yd.map (·.1))).2) from by rw [List.map_append];exact flD_snoc_none hze _ _ _)
        have HNW:=hH (show Wk.map (·.1)=flW n ((Yd++[z]).map (·.1)) from by rw [List.map_append,List.map_cons,List.map_nil,flW_snoc,hze,HWK.out.1,List.append_nil])
        clear hz2 hk4 hze hzw hzf hzq
        go_wp2_with (first|((with_reducible refine g_ld 83 ?_);refine l_ldc O_pex rfl (HCP.out _ M.out.now.2) ?_))
        go_roundg Yr.length
        case measure=>first|(rw [HGY.out];simp;done)|(simp;done)
        case rel=>exact⟨Yd++[z],Yr,Wk,rfl,hH (by rw [HY.out];simp),by first|go_num|simp,hH ⟨HNW.out,HWK.out.2⟩,hH (by
          rw [HN.out]
          have h:=M.out
          simpa using h)⟩
      | nil =>
       obtain rfl:Y=Yd:=by simpa using HY.out
       have hnl:¬(Y.length:Int)<(Y.length:Int):=by omega
       go_wp2
       go_end0
       refine⟨rfl,Wk,?_,?_⟩
       ·have h:=M.out.imp (J':=J) fun y h=>h.1
        rw [←HPS.out,←HGE.out] at h
        rw [HYG.out]
        rw [HGE.out,HGL.out,←HGE.out] at h
        simpa using h
       ·rw [HYG.out];first|exact HWK.out|exact⟨HWK.out.1,fun a b h=>HWK.out.2 _ h⟩
end
end Go.Proofs.YtjbdcjcfijjiiaaGreatDoor
