/- NG12: Vp, Cf, Ca joined. -/
import Derived.Test.YtjbdcjcfijjiiaaGreatDoorNG03
import Derived.Test.YtjbdcjcfijjiiaaGreatDoorNOz
import Derived.Test.YtjbdcjcfijjiiaaGreatDoorNYk
import Derived.Test.YtjbdcjcfijjiiaaGreatDoorNG04
namespace Go.Proofs.YtjbdcjcfijjiiaaGreatDoor
open Go.RowKit
/- verify: sound code, on lists: plain (for the seat of laceworklaw20; no word of a dump in it). -/
section
structure PathD where
 abs:Bool
 fr:Int
 tt:Int
structure SegD where
 deep:Bool
 fr:Int
 tt:Int
structure SelD where
 kind:Int
 nm:ByteArray
 a:Int
 b:Int
 c:Int
 ha:Bool
 hb:Bool
 at_:Int
structure InsD where
 op:Int
 p:Int
 sign:Int
 kind:Int
 n:Int
 s:ByteArray
 tt:Int
structure CodeD where
 ps:List PathD
 gs:List SegD
 ss:List SelD
 is:List InsD
end
/- ref19: facts on types; put, meet (printed by gen_cf.py). -/
section
open Go.RowKit
set_option maxRecDepth 100000
set_option maxHeartbeats 2000000
theorem F_M :TyF Tryz.prog 68 5 #[.slice none 0 0,.slice none 0 0,.slice none 0 0,.slice none 0 0,.slice none 0 0]:=⟨⟨_,Tryz.underlying68,rfl⟩,by kernel_rfl,by kernel_rfl⟩
theorem F_Ins :TyF Tryz.prog 49 7 #[.int .i64 0,.int .i64 0,.int .i64 0,.int .i64 0,.int .i64 0,.string ⟨#[]⟩,.int .i64 0]:=⟨⟨_,Tryz.underlying49,rfl⟩,by kernel_rfl,by kernel_rfl⟩
theorem F_Path :TyF Tryz.prog 37 2 #[.bool false,.slice none 0 0]:=⟨⟨_,Tryz.underlying37,rfl⟩,by kernel_rfl,by kernel_rfl⟩
theorem F_Ex :TyF Tryz.prog 92 17 #[.int .i64 0,.slice none 0 0,.bool false,.slice none 0 0,.int .i64 0,.bool false,.int .i64 0,.int .i64 0,.string ⟨#[]⟩,.bool false,.slice none 0 0,.bool false,.int .i64 0,.int .i64 0,.string ⟨#[]⟩,.bool false,.slice none 0 0]:=⟨⟨_,Tryz.underlying92,rfl⟩,by kernel_rfl,by kernel_rfl⟩
theorem F_Code :TyF Tryz.prog 28 4 #[.slice none 0 0,.slice none 0 0,.slice none 0 0,.slice none 0 0]:=⟨⟨_,Tryz.underlying28,rfl⟩,by kernel_rfl,by kernel_rfl⟩
theorem F_CPath :TyF Tryz.prog 43 3 #[.bool false,.int .i64 0,.int .i64 0]:=⟨⟨_,Tryz.underlying43,rfl⟩,by kernel_rfl,by kernel_rfl⟩
theorem F_CSeg :TyF Tryz.prog 45 3 #[.bool false,.int .i64 0,.int .i64 0]:=⟨⟨_,Tryz.underlying45,rfl⟩,by kernel_rfl,by kernel_rfl⟩
theorem F_CSel :TyF Tryz.prog 47 8 #[.int .i64 0,.string ⟨#[]⟩,.int .i64 0,.int .i64 0,.int .i64 0,.bool false,.bool false,.int .i64 0]:=⟨⟨_,Tryz.underlying47,rfl⟩,by kernel_rfl,by kernel_rfl⟩
theorem F_Seg :TyF Tryz.prog 79 2 #[.bool false,.slice none 0 0]:=⟨⟨_,Tryz.underlying79,rfl⟩,by kernel_rfl,by kernel_rfl⟩
theorem F_Sel :TyF Tryz.prog 85 9 #[.int .i64 0,.string ⟨#[]⟩,.int .i64 0,.int .i64 0,.int .i64 0,.int .i64 0,.bool false,.bool false,.pointer none]:=⟨⟨_,Tryz.underlying85,rfl⟩,by kernel_rfl,by kernel_rfl⟩
theorem O_int :OneF Tryz.prog 3:=⟨⟨_,Tryz.underlying3,rfl⟩,by kernel_rfl⟩
theorem O_i64 :OneF Tryz.prog 2:=⟨⟨_,Tryz.underlying2,rfl⟩,by kernel_rfl⟩
theorem O_bool :OneF Tryz.prog 4:=⟨⟨_,Tryz.underlying4,rfl⟩,by kernel_rfl⟩
theorem O_str :OneF Tryz.prog 9:=⟨⟨_,Tryz.underlying9,rfl⟩,by kernel_rfl⟩
theorem O_pex :OneF Tryz.prog 83:=⟨⟨_,Tryz.underlying83,rfl⟩,by kernel_rfl⟩
theorem O_sIns :OneF Tryz.prog 26:=⟨⟨_,Tryz.underlying26,rfl⟩,by kernel_rfl⟩
theorem SL_sIns :SlF Tryz.prog 26 49 7 64 (.agg #[.int .i64 0,.int .i64 0,.int .i64 0,.int .i64 0,.int .i64 0,.string ⟨#[]⟩,.int .i64 0]):=⟨Tryz.underlying26,by kernel_rfl,rfl,by decide⟩
theorem lit0_sIns (w:World):(Instr.buildSlice 26 0 #[]).run Tryz.prog w=.ok (.slice (some ⟨w.heap.size,0,none⟩) 0 0) (w.alloc (.cells #[] 49)):=by kernel_rfl
theorem O_sPath :OneF Tryz.prog 59:=⟨⟨_,Tryz.underlying59,rfl⟩,by kernel_rfl⟩
theorem SL_sPath :SlF Tryz.prog 59 37 2 32 (.agg #[.bool false,.slice none 0 0]):=⟨Tryz.underlying59,by kernel_rfl,rfl,by decide⟩
theorem lit0_sPath (w:World):(Instr.buildSlice 59 0 #[]).run Tryz.prog w=.ok (.slice (some ⟨w.heap.size,0,none⟩) 0 0) (w.alloc (.cells #[] 37)):=by kernel_rfl
theorem O_sEx :OneF Tryz.prog 88:=⟨⟨_,Tryz.underlying88,rfl⟩,by kernel_rfl⟩
theorem O_sSeg :OneF Tryz.prog 35:=⟨⟨_,Tryz.underlying35,rfl⟩,by kernel_rfl⟩
theorem O_sSel :OneF Tryz.prog 77:=⟨⟨_,Tryz.underlying77,rfl⟩,by kernel_rfl⟩
theorem SL_sSel :SlF Tryz.prog 77 85 9 72 (.agg #[.int .i64 0,.string ⟨#[]⟩,.int .i64 0,.int .i64 0,.int .i64 0,.int .i64 0,.bool false,.bool false,.pointer none]):=⟨Tryz.underlying77,by kernel_rfl,rfl,by decide⟩
theorem O_sCPath :OneF Tryz.prog 23:=⟨⟨_,Tryz.underlying23,rfl⟩,by kernel_rfl⟩
theorem SL_sCPath :SlF Tryz.prog 23 43 3 24 (.agg #[.bool false,.int .i64 0,.int .i64 0]):=⟨Tryz.underlying23,by kernel_rfl,rfl,by decide⟩
theorem lit0_sCPath (w:World):(Instr.buildSlice 23 0 #[]).run Tryz.prog w=.ok (.slice (some ⟨w.heap.size,0,none⟩) 0 0) (w.alloc (.cells #[] 43)):=by kernel_rfl
theorem O_sCSeg :OneF Tryz.prog 24:=⟨⟨_,Tryz.underlying24,rfl⟩,by kernel_rfl⟩
theorem SL_sCSeg :SlF Tryz.prog 24 45 3 24 (.agg #[.bool false,.int .i64 0,.int .i64 0]):=⟨Tryz.underlying24,by kernel_rfl,rfl,by decide⟩
theorem lit0_sCSeg (w:World):(Instr.buildSlice 24 0 #[]).run Tryz.prog w=.ok (.slice (some ⟨w.heap.size,0,none⟩) 0 0) (w.alloc (.cells #[] 45)):=by kernel_rfl
theorem O_sCSel :OneF Tryz.prog 25:=⟨⟨_,Tryz.underlying25,rfl⟩,by kernel_rfl⟩
theorem SL_sCSel :SlF Tryz.prog 25 47 8 64 (.agg #[.int .i64 0,.string ⟨#[]⟩,.int .i64 0,.int .i64 0,.int .i64 0,.bool false,.bool false,.int .i64 0]):=⟨Tryz.underlying25,by kernel_rfl,rfl,by decide⟩
theorem lit0_sCSel (w:World):(Instr.buildSlice 25 0 #[]).run Tryz.prog w=.ok (.slice (some ⟨w.heap.size,0,none⟩) 0 0) (w.alloc (.cells #[] 47)):=by kernel_rfl
theorem SL_sint :SlF Tryz.prog 123 3 1 8 (.int .i64 0):=⟨Tryz.underlying123,by kernel_rfl,rfl,by decide⟩
def Rdd (w:World)(k:Nat)(A:Option Addr)(m:Nat)(xs:List Value):Prop:=Reads w w.heap.size k A m xs
theorem Rdd.kept {ex:List Nat}{w y:World}{k m:Nat}{A:Option Addr}{xs:List Value}(h:Rdd w k A m xs)(hy:Kept ex w y)(hx:∀a,A=some a→0<m→a.block ∉ ex):Rdd y k A m xs :=
 ⟨h.1,fun h0=>by
  obtain⟨ad,e,hlt,hc⟩:=h.2 h0
  refine⟨ad,e,Nat.lt_of_lt_of_le hlt hy.1,fun j u hu=>?_⟩
  have h1:(ad.add j).block=ad.block:=by unfold Addr.add;split <;> rfl
  rw [World.cell?_of_block (w:=w) (w':=y) (by rw [h1];exact hy.2 _ hlt (hx ad e h0))];exact hc j u hu⟩
theorem Rdd.bel {w w':World}{k m:Nat}{A:Option Addr}{xs:List Value}(h:Rdd w k A m xs)(hb:Bel w.heap.size w w'):Rdd w' k A m xs :=
 h.kept (ex:=[]) ⟨hb.size,fun b hl _=>hb.block b hl⟩ fun _ _ _=>List.not_mem_nil
theorem Rdd.old {w y:World}{k m:Nat}{A:Option Addr}{xs:List Value}(h:Rdd w k A m xs)(hy:Kept [] w y):Rdd y k A m xs:=h.kept hy fun _ _ _=>List.not_mem_nil
def FrA (w:World)(A:Option Addr):Prop:=∀a,A=some a→w.heap.size≤a.block∧a.spot=none
theorem FrA.le {w w':World}{A:Option Addr}(h:FrA w' A)(hs:w.heap.size≤w'.heap.size):FrA w A:=fun a e=>⟨Nat.le_trans hs (h a e).1,(h a e).2⟩
theorem own_reads {w:World}{base k n:Nat}{e:TypeId}{v:Value}{xs:List Value}(h:w.ownsRow base e k v n xs):∃A c,v=.slice A n c∧(n≤c∧c≤maxLen)∧(∀a,A=some a→base≤a.block∧a.spot=none)∧Rdd w k A n xs:=by
 rcases h.2 with⟨rfl,h0⟩|⟨g,cap,cur,rfl,hb,hg,hle,hm,_⟩
 ·subst h0
  exact⟨none,0,rfl,⟨Nat.le_refl _,by unfold maxLen;omega⟩,fun a e=>(by cases e),⟨h.1,fun h=>absurd h (by omega)⟩⟩
 ·refine⟨_,cap,rfl,⟨hle,hm⟩,fun a e=>(by cases e;exact⟨hb,rfl⟩),h.1,fun _=>⟨_,rfl,(Array.getElem?_eq_some_iff.1 hg).1,fun j u hu=>?_⟩⟩
  have:=h.cells (g:=g) rfl j u hu
  rw [add_lit];rw [add_lit] at this;simpa using this
theorem Own.addRd {X:List Nat}{w0 w w':World}{L:List BlkE}{rs:List RowE}{J:World→Prop}{k n:Nat}{A:Option Addr}{xs:List Value}(M:Own X w0 w L rs J)(hb:Bel w.heap.size w w')(h:Rdd w' k A n xs)(hf:FrA w A):Own X w0 w' L rs (fun y=>J y∧Rdd y k A n xs) :=
 (M.bel hb).add fun _ hy=>h.kept hy fun a e _ hm=>Nat.lt_irrefl _ (Nat.lt_of_lt_of_le (M.ex_lt hm) (hf a e).1)
def insC (x:InsD):List Value:=[.int .i64 x.op,.int .i64 x.p,.int .i64 x.sign,.int .i64 x.kind,.int .i64 x.n,.string x.s,.int .i64 x.tt]
theorem ins_one1 (l:List InsD):∀u∈l.flatMap insC,u.oneCell'=true:=by
 intro u hu
 obtain⟨x,_,hx⟩:=List.mem_flatMap.1 hu
 exact allOne_mem (cs:=insC x) rfl u hx
section
variable  (B1 B2 B3 A4 A5:Option Addr)(m1 d1 m2 d2 m3 d3 c4 n5 c5:Nat)(w:World)
theorem rput_any (n4:Nat)(xs:List Value)(x:InsD)(hl:n4≤1000000)(h1:∀u∈xs,u.oneCell'=true)(h:Rdd w 7 A4 n4 xs):Calls Tryz.prog 42 #[.agg #[.slice B1 m1 d1,.slice B2 m2 d2,.slice B3 m3 d3,.slice A4 n4 c4,.slice A5 n5 c5],.agg #[.int .i64 x.op,.int .i64 x.p,.int .i64 x.sign,.int .i64 x.kind,.int .i64 x.n,.string x.s,.int .i64 x.tt]] w fun e w'=>∃A' c',e=.returned (.agg #[.slice B1 m1 d1,.slice B2 m2 d2,.slice B3 m3 d3,.slice A' (n4+1) c',.slice A5 n5 c5])∧Rdd w' 7 A' (n4+1) (xs++insC x)∧FrA w A'∧Bel w.heap.size w w':=by
 have M:=hH (Own.start [] w (fun y=>Rdd y 7 A4 n4 xs) fun y hy=>h.old hy)
 clear h
 go_enter Tryz.func42, Tryz.ntmps42
 generalize hQ:bodyPost Tryz.prog Tryz.f42 (fun e w'=>∃A' c',e=.returned (.agg #[.slice B1 m1 d1,.slice B2 m2 d2,.slice B3 m3 d3,.slice A' (n4+1) c',.slice A5 n5 c5])∧Rdd w' 7 A' (n4+1) (xs++insC x)∧FrA w A'∧Bel w.heap.size w w')=Q
 have HQ:=hH hQ;clear hQ
 go_upto_region 1 with(first|(with_reducible first|(refine l_bx (d:=2) M.out ?_;clear M;intro g2 w' hg2 M)|(refine l_al (d:=4) F_M M.out ?_;clear M;intro g4 w' hg4 M))|((with_reducible refine l_bx (d:=3) M.out ?_);clear M;intro g3 w' hg3 M;replace M:=hH M.out.freeze))
 replace M:=hH M.out.drew
 refine tbh (fun y=>Rdd y 7 A4 n4 xs∧Blk y g3 49 #[.int .i64 x.op,.int .i64 x.p,.int .i64 x.sign,.int .i64 x.kind,.int .i64 x.n,.string x.s,.int .i64 x.tt]) M.out.now fun hS=>?_
 refine tkp 1 rfl hS ?_
 refine tkp 2 rfl hS ?_
 refine tk 5 rfl hS (y_ld F_Ins _ _ rfl _ _ (fun _ h=>h.2) rfl) ?_
 repeat' (first|((with_reducible refine gR ?_);first|exact .nil|(refine r_bs0 SL_sIns lit0_sIns (i:=0) rfl M.out ?_ ?_;clear M;intro g5 w' hg5 M;refine⟨M.out.now,tn ?_⟩)|(refine r_ld1 O_sIns (i:=3) rfl rfl M.out ?_ ?_;refine⟨M.out.now,tn ?_⟩)|(refine r_apR SL_sIns (i:=4) rfl rfl rfl M.out (M.out.now.1) (h1) ?_ ?_;intro v1 w' Mn;have Mn:=Mn _ (by repeat constructor);simp only [Nat.zero_add,List.nil_append] at Mn;replace M:=hH Mn;clear Mn;refine⟨M.out.now,tn ?_⟩)|(refine r_bs SL_sIns (i:=6) rfl (cs:=#[.int .i64 x.op,.int .i64 x.p,.int .i64 x.sign,.int .i64 x.kind,.int .i64 x.n,.string x.s,.int .i64 x.tt]) M.out ?_ ?_;clear M;intro g11 w' hg11 M;refine⟨M.out.now,tn ?_⟩)|(refine r_apB SL_sIns (i:=7) rfl rfl M.out ?_ ?_;intro v2 w' Mn;have Mn:=Mn _ (by repeat constructor);replace M:=hH Mn;clear Mn;obtain⟨Af,cf,hv,-⟩:=own_reads (M.out.row _ List.mem_cons_self);simp only at hv;subst hv;refine⟨M.out.now,tn ?_⟩)|(refine r_st1 O_sIns (i:=10) rfl rfl rfl M.out ?_ ?_;clear M;intro w' M;refine⟨M.out.now,tn ?_⟩))|((with_reducible refine gW ?_);first|refine tkpd 8 rfl M.out.now ?_|refine tkpd 9 rfl M.out.now ?_|refine trd [0,3,6] ?_|refine trd [3,6] ?_|refine trd [4,6] ?_|refine trd [6] ?_|refine trd [7] ?_|refine trd [10] ?_|refine trd [4] ?_|refine trd [3] ?_|refine trd [0,6] ?_|refine trd [0] ?_|refine trd [0,3] ?_|refine ted ?_))
 all_goals
  go_wp2_with (first|(with_reducible first|refine l_ld F_M M.out ?_|(refine l_st F_M M.out ?_;clear M;intro w' M)))
  obtain⟨Af2,cf2,hv,-,hfr,hrd⟩:=own_reads (M.out.row _ List.mem_cons_self)
  cases hv
  rw [←HQ.out]
  exact bodyPost_ret (results_1 Tryz.results42 _ _ g4 _ _ rfl (M.out.blk (g4,_,_) (by repeat constructor)) F_M rfl) rfl ⟨_,_,rfl,hrd,hfr,M.out.bel0⟩
theorem rmeet_any (n4:Nat)(wc:List Value)(b:Bool)(A:Option Addr)(n c:Nat)(hl:n5≤1000000)(h1:∀u∈wc,u.oneCell'=true)(h:Rdd w 2 A5 n5 wc):Calls Tryz.prog 63 #[.agg #[.slice B1 m1 d1,.slice B2 m2 d2,.slice B3 m3 d3,.slice A4 n4 c4,.slice A5 n5 c5],.agg #[.bool b,.slice A n c]] w fun e w'=>∃A' c',e=.returned (.agg #[.slice B1 m1 d1,.slice B2 m2 d2,.slice B3 m3 d3,.slice A4 n4 c4,.slice A' (n5+1) c'])∧Rdd w' 2 A' (n5+1) (wc++[.bool b,.slice A n c])∧FrA w A'∧Bel w.heap.size w w':=by
 have M:=hH (Own.start [] w (fun y=>Rdd y 2 A5 n5 wc) fun y hy=>h.old hy)
 clear h
 go_enter Tryz.func63, Tryz.ntmps63
 generalize hQ:bodyPost Tryz.prog Tryz.f63 (fun e w'=>∃A' c',e=.returned (.agg #[.slice B1 m1 d1,.slice B2 m2 d2,.slice B3 m3 d3,.slice A4 n4 c4,.slice A' (n5+1) c'])∧Rdd w' 2 A' (n5+1) (wc++[.bool b,.slice A n c])∧FrA w A'∧Bel w.heap.size w w')=Q
 have HQ:=hH hQ;clear hQ
 go_upto_region 1 with(first|(with_reducible first|(refine l_bx (d:=2) M.out ?_;clear M;intro g2 w' hg2 M)|(refine l_al (d:=4) F_M M.out ?_;clear M;intro g4 w' hg4 M))|((with_reducible refine l_bx (d:=3) M.out ?_);clear M;intro g3 w' hg3 M;replace M:=hH M.out.freeze))
 replace M:=hH M.out.drew
 refine tbh (fun y=>Rdd y 2 A5 n5 wc∧Blk y g3 37 #[.bool b,.slice A n c]) M.out.now fun hS=>?_
 refine tkp 1 rfl hS ?_
 refine tk 4 rfl hS (y_ld F_Path _ _ rfl _ _ (fun _ h=>h.2) rfl) ?_
 repeat' (first|((with_reducible refine gR ?_);first|exact .nil|(refine r_bs0 SL_sPath lit0_sPath (i:=0) rfl M.out ?_ ?_;clear M;intro g5 w' hg5 M;refine⟨M.out.now,tn ?_⟩)|(refine r_ld1 O_sPath (i:=2) rfl rfl M.out ?_ ?_;refine⟨M.out.now,tn ?_⟩)|(refine r_apR SL_sPath (i:=3) rfl rfl rfl M.out (M.out.now.1) (h1) ?_ ?_;intro v1 w' Mn;have Mn:=Mn _ (by repeat constructor);simp only [Nat.zero_add,List.nil_append] at Mn;replace M:=hH Mn;clear Mn;refine⟨M.out.now,tn ?_⟩)|(refine r_bs SL_sPath (i:=5) rfl (cs:=#[.bool b,.slice A n c]) M.out ?_ ?_;clear M;intro g11 w' hg11 M;refine⟨M.out.now,tn ?_⟩)|(refine r_apB SL_sPath (i:=6) rfl rfl M.out ?_ ?_;intro v2 w' Mn;have Mn:=Mn _ (by repeat constructor);replace M:=hH Mn;clear Mn;obtain⟨Af,cf,hv,-⟩:=own_reads (M.out.row _ List.mem_cons_self);simp only at hv;subst hv;refine⟨M.out.now,tn ?_⟩)|(refine r_st1 O_sPath (i:=8) rfl rfl rfl M.out ?_ ?_;clear M;intro w' M;refine⟨M.out.now,tn ?_⟩))|((with_reducible refine gW ?_);first|refine tkpd 7 rfl M.out.now ?_|refine trd [0,2,5] ?_|refine trd [2,5] ?_|refine trd [3,5] ?_|refine trd [5] ?_|refine trd [6] ?_|refine trd [8] ?_|refine trd [3] ?_|refine trd [2] ?_|refine trd [0,5] ?_|refine trd [0] ?_|refine trd [0,2] ?_|refine ted ?_))
 all_goals
  go_wp2_with (first|(with_reducible first|refine l_ld F_M M.out ?_|(refine l_st F_M M.out ?_;clear M;intro w' M)))
  obtain⟨Af2,cf2,hv,-,hfr,hrd⟩:=own_reads (M.out.row _ List.mem_cons_self)
  cases hv
  rw [←HQ.out]
  exact bodyPost_ret (results_1 Tryz.results63 _ _ g4 _ _ rfl (M.out.blk (g4,_,_) (by repeat constructor)) F_M rfl) rfl ⟨_,_,rfl,hrd,hfr,M.out.bel0⟩
end
end
/- Trees that are read without a fault: their shape, how great they are (plain; no word of a dump). -/
section
def okN (n:Int):Prop:=-9007199254740991≤n∧n≤9007199254740991
section
variable  (S:List UInt8→Prop)(W:ExprT→Prop)
inductive WfS :SelT→Prop
 | nm (s:List UInt8):S s→WfS ⟨0,s,0,0,0,0,false,false,none⟩
 | wild:WfS ⟨1,[],0,0,0,0,false,false,none⟩
 | idx (n:Int):okN n→WfS ⟨2,[],n,0,0,0,false,false,none⟩
 | slice (a b c:Int) (ha hb:Bool):okN a→okN b→okN c→(ha=false→a=0)→(hb=false→b=0)→WfS ⟨3,[],0,a,b,c,ha,hb,none⟩
 | filt (e:ExprT):W e→WfS ⟨4,[],0,0,0,0,false,false,some e⟩
def WfP (p:PathT):Prop:=∀s∈p.segs,s.sels≠[]∧∀y∈s.sels,WfS S W y
inductive WfSide :SideT→Prop
 | path (p:PathT):WfP S W p→WfSide ⟨false,0,0,[],p⟩
 | null:WfSide ⟨true,0,0,[],path0⟩
 | tru:WfSide ⟨true,1,1,[],path0⟩
 | fls:WfSide ⟨true,1,0,[],path0⟩
 | num (n:Int):okN n→WfSide ⟨true,2,n,[],path0⟩
 | str (s:List UInt8):S s→WfSide ⟨true,3,0,s,path0⟩
inductive WfX :ExprT→Prop
 | or (l:List ExprT):2≤l.length→(∀k∈l,W k)→WfX (mkE 0 l)
 | and (l:List ExprT):2≤l.length→(∀k∈l,W k)→WfX (mkE 1 l)
 | not (k:ExprT):W k→WfX (mkE 2 [k])
 | test (p:PathT):WfP S W p→WfX (tstE p)
 | cmp (op:Int) (a b:SideT):0≤op→op≤5→WfSide S W a→WfSide S W b→a.lit≠b.lit→singB (if a.lit then b.p else a.p)=true→WfX ⟨4,[],path0,op,a,b⟩
end
def WfN (S:List UInt8→Prop):Nat→ExprT→Prop
 | 0,_=>False
 | n+1,x=>WfX S (WfN S n) x
def wtS (w:ExprT→Nat)(y:SelT):Nat:=1+(match y.f with|none=>0|some e=>w e)
def wtG (w:ExprT→Nat)(s:SegT):Nat:=1+(s.sels.map (wtS w)).sum
def wtP (w:ExprT→Nat)(p:PathT):Nat:=1+(p.segs.map (wtG w)).sum
def wtN :Nat→ExprT→Nat
 | 0,_=>0
 | n+1,x=>1+(x.kids.map (wtN n)).sum+wtP (wtN n) x.q+wtP (wtN n) x.left.p+wtP (wtN n) x.right.p
section
variable  {S:List UInt8→Prop}{W W':ExprT→Prop}
theorem WfS.mono (h:∀e,W e→W' e){y:SelT}(k:WfS S W y):WfS S W' y:=by
 cases k with
 | nm s a=>exact .nm s a
 | wild=>exact .wild
 | idx n a=>exact .idx n a
 | slice a b c ha hb a1 a2 a3 a4 a5=>exact .slice a b c ha hb a1 a2 a3 a4 a5
 | filt e a=>exact .filt e (h e a)
theorem WfP.mono (h:∀e,W e→W' e){p:PathT}(k:WfP S W p):WfP S W' p:=fun s hs=>⟨(k s hs).1,fun y hy=>((k s hs).2 y hy).mono h⟩
theorem WfSide.mono (h:∀e,W e→W' e){x:SideT}(k:WfSide S W x):WfSide S W' x:=by
 cases k with
 | path p a=>exact .path p (a.mono h)
 | null=>exact .null
 | tru=>exact .tru
 | fls=>exact .fls
 | num n a=>exact .num n a
 | str s a=>exact .str s a
theorem WfX.mono (h:∀e,W e→W' e){x:ExprT}(k:WfX S W x):WfX S W' x:=by
 cases k with
 | or l a b=>exact .or l a fun k hk=>h k (b k hk)
 | and l a b=>exact .and l a fun k hk=>h k (b k hk)
 | not k a=>exact .not k (h k a)
 | test p a=>exact .test p (a.mono h)
 | cmp op a b a1 a2 a3 a4 a5 a6=>exact .cmp op a b a1 a2 (a3.mono h) (a4.mono h) a5 a6
theorem WfN.up :∀(n m:Nat),n≤m→∀x,WfN S n x→WfN S m x
 | 0,_,_,_,h=>h.elim
 | n+1,0,hn,_,_=>absurd hn (by omega)
 | n+1,m+1,hn,_,h=>WfX.mono (fun e he=>WfN.up n m (by omega) e he) h
theorem wtS_eq {w w':ExprT→Nat}(h:∀e,W e→w' e=w e){y:SelT}(k:WfS S W y):wtS w' y=wtS w y:=by
 cases k with
 | filt e a=>unfold wtS;simp only;rw [h e a]
 | _=>rfl
theorem wtP_eq {w w':ExprT→Nat}(h:∀e,W e→w' e=w e){p:PathT}(k:WfP S W p):wtP w' p=wtP w p:=by
 unfold wtP
 congr 2
 refine List.map_congr_left fun s hs=>?_
 unfold wtG
 congr 2
 exact List.map_congr_left fun y hy=>wtS_eq h ((k s hs).2 y hy)
theorem wtSd_eq {w w':ExprT→Nat}(h:∀e,W e→w' e=w e){x:SideT}(k:WfSide S W x):wtP w' x.p=wtP w x.p:=by
 cases k with
 | path p a=>exact wtP_eq h a
 | _=>rfl
theorem wtN_up :∀(n m:Nat),n≤m→∀x,WfN S n x→wtN m x=wtN n x
 | 0,_,_,_,h=>h.elim
 | n+1,0,hn,_,_=>absurd hn (by omega)
 | n+1,m+1,hn,x,h=>by
  have ih:∀e,WfN S n e→wtN m e=wtN n e:=fun e he=>wtN_up n m (by omega) e he
  have h':WfX S (WfN S n) x:=h
  rw [wtN,wtN]
  cases h' with
  | or l a b=>simp only [mkE];rw [List.map_congr_left fun k hk=>ih k (b k hk)];rfl
  | and l a b=>simp only [mkE];rw [List.map_congr_left fun k hk=>ih k (b k hk)];rfl
  | not k a=>simp only [mkE,List.map_cons,List.map_nil];rw [ih k a];rfl
  | test p a=>simp only [tstE];rw [wtP_eq ih a];rfl
  | cmp op a b a1 a2 a3 a4 a5 a6=>simp only;rw [wtSd_eq ih a3,wtSd_eq ih a4];rfl
end
def Tk (S:List UInt8→Prop)(t:PSt):Prop:=∀x∈t.toks,okN x.n∧(x.kind=2∨x.kind=4→S x.s)
section
variable  {S:List UInt8→Prop}{E:Int}{t:PSt}
theorem Tk.fail (h:Tk S t)(a e:Int):Tk S (failS a e t):=by unfold Tk;rw [failS_len];exact h
theorem Tk.form (h:Tk S t):Tk S (formS E t):=h.fail _ _
theorem Tk.next (h:Tk S t):Tk S (nextS E t):=by
 unfold nextS
 split
 ·split
  ·rename_i x r e
   intro y hy
   exact h y (by rw [e];exact List.mem_cons_of_mem _ hy)
  ·exact h.form
 ·exact h
theorem Tk.must (h:Tk S t)(l:List UInt8):Tk S (mustS E l t):=by
 unfold mustS;split
 ·exact h.next
 ·exact h.form
theorem Tk.opn (h:Tk S t)(d:Nat):Tk S (openS E d t):=by
 unfold openS;split
 ·exact(h.fail _ _).next
 ·exact h.next
theorem Tk.close (h:Tk S t):Tk S (closeS E t):=by
 unfold closeS;split
 ·exact h.form
 ·exact h
theorem ok_of {s s':PSt}(hb:s.fe≠0→s'=s)(h:s'.fe=0):s.fe=0:=Classical.byContradiction fun hs=>hs (by rw [←hb hs];exact h)
theorem next_ok (h:(nextS E t).fe=0):t.fe=0∧(nextS E t).toks.length+1=t.toks.length:=by
 have h0:=ok_of (s:=t) (fun hs=>nextS_bad (E:=E) hs) h
 refine⟨h0,?_⟩
 unfold nextS at h ⊢
 rw [if_pos h0] at h ⊢
 cases ht:t.toks with
 | nil=>rw [ht] at h;exact absurd h (formS_fe _ _)
 | cons x r=>simp
theorem must_ok {l:List UInt8}(h:(mustS E l t).fe=0):isS l t=true∧t.fe=0∧(mustS E l t).toks.length+1=t.toks.length:=by
 unfold mustS at h ⊢
 by_cases hi:isS l t=true
 ·rw [if_pos hi] at h ⊢
  exact⟨hi,next_ok h⟩
 ·rw [if_neg hi] at h;exact absurd h (formS_fe _ _)
theorem failS_fe {a e:Int}(he:e≠0):(failS a e t).fe≠0:=by
 unfold failS
 split
 ·exact he
 ·assumption
theorem open_ok {d:Nat}(h:(openS E d t).fe=0):t.fe=0∧d+1≤32∧(openS E d t).toks.length+1=t.toks.length:=by
 unfold openS at h ⊢
 by_cases hd:32<d+1
 ·rw [if_pos hd] at h
  exact absurd (next_ok h).1 (failS_fe (by decide))
 ·rw [if_neg hd] at h ⊢
  exact⟨(next_ok h).1,by omega,(next_ok h).2⟩
theorem head_ok (h:kindS t≠0):t.fe=0∧∃r,t.toks=hdT t::r:=by
 unfold kindS hdT at *
 by_cases hf:t.fe=0
 ·rw [if_pos hf] at h ⊢
  refine⟨hf,?_⟩
  cases ht:t.toks with
  | nil=>rw [ht] at h;exact absurd rfl h
  | cons x r=>exact⟨r,rfl⟩
 ·rw [if_neg hf] at h;exact absurd rfl h
theorem Tk.hd (h:Tk S t)(hk:kindS t≠0):okN (hdT t).n∧(kindS t=2∨kindS t=4→S (hdT t).s):=by
 obtain⟨_,r,hr⟩:=head_ok hk
 exact h (hdT t) (by rw [hr];simp)
theorem kind_lt (hk:kindS t≠0):(nextS E t).toks.length<t.toks.length:=by
 obtain⟨h1,r,hr⟩:=head_ok hk
 exact nextS_lt h1 (by rw [hr];simp)
theorem num_g (h:Tk S t):okN (numS E t).1∧((numS E t).2.1=false→(numS E t).1=0)∧Tk S (numS E t).2.2:=by
 unfold numS
 split
 ·rename_i hk
  exact⟨(h.hd (by rw [hk];decide)).1,fun h=>by simp at h,h.next⟩
 ·exact⟨by unfold okN;simp,fun _=>rfl,h⟩
theorem numbers_lt (h:kindS t=3∨isS [58] t=true):(numbersS E t).2.toks.length<t.toks.length:=by
 unfold numbersS
 by_cases hk:kindS t=3
 ·have e:(numS E t).2.2=nextS E t:=by unfold numS;rw [if_pos hk]
  have h1:=kind_lt (E:=E) (t:=t) (by rw [hk];decide)
  split
  ·have h2:=num2S_le (E:=E) (numS E t).1 (numS E t).2.1 (nextS E (numS E t).2.2)
   have h3:=nextS_le E (numS E t).2.2
   rw [e] at h2 h3 ⊢;omega
  ·simp only;rw [e];exact h1
 ·have e:numS E t=(0,false,t):=by unfold numS;rw [if_neg hk]
  have hi:=h.resolve_left hk
  rw [e]
  simp only
  rw [if_pos hi]
  have h2:=num2S_le (E:=E) 0 false (nextS E t)
  have h3:=is_lt (E:=E) hi
  omega
theorem num2_g {W:ExprT→Prop}(h:Tk S t)(n:Int)(ok:Bool)(hn:okN n)(hk:ok=false→n=0):Tk S (num2S E n ok t).2∧WfS S W (num2S E n ok t).1∧(num2S E n ok t).1.f=none:=by
 unfold num2S
 obtain⟨a1,a2,a3⟩:=num_g (E:=E) h
 split
 ·obtain⟨b1,b2,b3⟩:=num_g (E:=E) (a3.next (E:=E))
  refine⟨b3,.slice _ _ _ _ _ hn a1 ?_ hk a2,rfl⟩
  split
  ·exact b1
  ·unfold okN;omega
 ·exact⟨a3,.slice _ _ _ _ _ hn a1 (by unfold okN;omega) hk a2,rfl⟩
theorem numbers_g {W:ExprT→Prop}(h:Tk S t):Tk S (numbersS E t).2∧WfS S W (numbersS E t).1∧(numbersS E t).1.f=none:=by
 unfold numbersS
 obtain⟨a1,a2,a3⟩:=num_g (E:=E) h
 split
 ·exact num2_g a3.next _ _ a1 a2
 ·exact⟨a3,.idx _ a1,rfl⟩
theorem opS_le (t:PSt):opS t≤5:=by
 unfold opS
 split
 ·split
  ·rename_i i h
   have:=(List.findIdx?_eq_some_iff_getElem.1 h).1
   simp [opsL] at this
   omega
  ·decide
 ·decide
end
theorem wtS_none {w:ExprT→Nat}{y:SelT}(h:y.f=none):wtS w y=1:=by simp [wtS,h]
section
variable  {S:List UInt8→Prop}{E:Int}{P:Nat→PSt→ExprT×PSt}{n d:Nat}
def GP (S:List UInt8→Prop)(P:Nat→PSt→ExprT×PSt)(n d:Nat):Prop :=
 ∀d',d<d'→d'≤32→∀t,Tk S t→Tk S (P d' t).2∧((P d' t).2.fe=0→WfN S n (P d' t).1∧wtN n (P d' t).1+4*(P d' t).2.toks.length≤4*t.toks.length)
variable  (hP:GP S P n d)(hB:BadP P)
include hP hB
theorem call_g {t:PSt}(h:Tk S t):Tk S (P (d+1) (openS E d t)).2∧((P (d+1) (openS E d t)).2.fe=0→t.fe=0∧WfN S n (P (d+1) (openS E d t)).1∧wtN n (P (d+1) (openS E d t)).1+4+4*(P (d+1) (openS E d t)).2.toks.length≤4*t.toks.length):=by
 by_cases ho:(openS E d t).fe=0
 ·obtain⟨h1,h2,h3⟩:=open_ok ho
  obtain⟨k1,k2⟩:=hP (d+1) (by omega) h2 _ (h.opn d)
  refine⟨k1,fun he=>⟨h1,(k2 he).1,?_⟩⟩
  have:=(k2 he).2
  omega
 ·have e:=hB (d+1) _ ho
  rw [e]
  exact⟨h.opn d,fun he=>absurd he ho⟩
theorem sel_g {t:PSt}(h:Tk S t):Tk S (selF E P d t).2∧((selF E P d t).2.fe=0→WfS S (WfN S n) (selF E P d t).1∧wtS (wtN n) (selF E P d t).1+3+4*(selF E P d t).2.toks.length≤4*t.toks.length):=by
 unfold selF
 split
 ·rename_i hk
  refine⟨h.next,fun he=>⟨.nm _ ((h.hd (by rw [hk];decide)).2 (.inr hk)),?_⟩⟩
  have:=(next_ok he).2
  rw [wtS_none rfl];simp only at this ⊢;omega
 split
 ·refine⟨h.next,fun he=>⟨.wild,?_⟩⟩
  have:=(next_ok he).2
  rw [wtS_none rfl];simp only at this ⊢;omega
 split
 ·obtain⟨k1,k2⟩:=call_g (E:=E) hP hB h
  refine⟨k1,fun he=>⟨.filt _ (k2 he).2.1,?_⟩⟩
  have:=(k2 he).2.2
  unfold wtS;simp only;omega
 split
 ·rename_i hk
  obtain⟨k1,k2,k3⟩:=numbers_g (W:=WfN S n) (E:=E) h
  refine⟨k1,fun _=>⟨k2,?_⟩⟩
  have:=numbers_lt (E:=E) (t:=t) (by simpa using hk)
  rw [wtS_none k3];omega
 ·exact⟨h.form,fun he=>absurd he (formS_fe _ _)⟩
theorem selsL_g :∀(f:Nat) (t:PSt),Tk S t→Tk S (selsL E P d f t).2∧((selsL E P d f t).2.fe=0→(∀y∈(selsL E P d f t).1,WfS S (WfN S n) y)∧((selsL E P d f t).1.map (wtS (wtN n))).sum+4*(selsL E P d f t).2.toks.length≤4*t.toks.length)
 | 0,t,h=>⟨h,fun _=>⟨fun y hy=>by simp [selsL] at hy,by simp [selsL]⟩⟩
 | f+1,t,h=>by
  rw [selsL]
  split
  ·obtain⟨a1,a2⟩:=sel_g (E:=E) hP hB (h.next (E:=E))
   obtain⟨b1,b2⟩:=selsL_g f _ a1
   refine⟨b1,fun he=>?_⟩
   simp only at he ⊢
   have hs:=ok_of (fun hs=>by rw [selsL_bad f hs]) he
   obtain⟨c1,c2⟩:=a2 hs
   obtain⟨c3,c4⟩:=b2 he
   have c5:=nextS_le E t
   refine⟨fun y hy=>?_,?_⟩
   ·rcases List.mem_cons.1 hy with rfl|hy
    ·exact c1
    ·exact c3 y hy
   ·rw [List.map_cons,List.sum_cons];omega
  ·exact⟨h,fun _=>⟨fun y hy=>by simp at hy,by simp⟩⟩
theorem sels_g {t:PSt}(h:Tk S t):Tk S (selsF E P d t).2∧((selsF E P d t).2.fe=0→(selsF E P d t).1≠[]∧(∀y∈(selsF E P d t).1,WfS S (WfN S n) y)∧((selsF E P d t).1.map (wtS (wtN n))).sum+4+4*(selsF E P d t).2.toks.length≤4*t.toks.length):=by
 unfold selsF
 obtain⟨a1,a2⟩:=sel_g (E:=E) hP hB (h.must (E:=E) [91])
 obtain⟨b1,b2⟩:=selsL_g (E:=E) hP hB (selF E P d (mustS E [91] t)).2.toks.length _ a1
 refine⟨b1.must _,fun he=>?_⟩
 simp only at he ⊢
 obtain⟨-,m1,m2⟩:=must_ok he
 have hs:=ok_of (fun hs=>by rw [selsL_bad _ hs]) m1
 have hm:=ok_of (s:=mustS E [91] t) (fun hs=>by rw [selF_bd hs]) hs
 obtain⟨c1,c2⟩:=a2 hs
 obtain⟨c3,c4⟩:=b2 m1
 have c5:=(must_ok hm).2.2
 refine⟨by simp,fun y hy=>?_,?_⟩
 ·rcases List.mem_cons.1 hy with rfl|hy
  ·exact c1
  ·exact c3 y hy
 ·rw [List.map_cons,List.sum_cons];omega
theorem dot_g (dp:Bool){t:PSt}(h:Tk S t):Tk S (dotF E P d dp t).2∧((dotF E P d dp t).2.fe=0→((dotF E P d dp t).1.sels≠[]∧∀y∈(dotF E P d dp t).1.sels,WfS S (WfN S n) y)∧wtG (wtN n) (dotF E P d dp t).1+4*(dotF E P d dp t).2.toks.length≤4*t.toks.length):=by
 unfold dotF
 split
 ·obtain⟨a1,a2⟩:=sels_g (E:=E) hP hB h
  refine⟨a1,fun he=>?_⟩
  obtain⟨c1,c2,c3⟩:=a2 he
  exact⟨⟨c1,c2⟩,by unfold wtG;simp only;omega⟩
 split
 ·refine⟨h.next,fun he=>⟨⟨by simp,fun y hy=>by simp at hy;rw [hy];exact .wild⟩,?_⟩⟩
  have:=(next_ok he).2
  unfold wtG;simp [wtS];omega
 split
 ·rename_i hk
  refine⟨h.next,fun he=>⟨⟨by simp,fun y hy=>by simp at hy;rw [hy];exact .nm _ ((h.hd (by rw [hk];decide)).2 (.inl hk))⟩,?_⟩⟩
  have:=(next_ok he).2
  unfold wtG;simp [wtS];omega
 ·exact⟨h.form,fun he=>absurd he (formS_fe _ _)⟩
theorem seg_g {t:PSt}(h:Tk S t):Tk S (segF E P d t).2∧((segF E P d t).2.fe=0→((segF E P d t).1.sels≠[]∧∀y∈(segF E P d t).1.sels,WfS S (WfN S n) y)∧wtG (wtN n) (segF E P d t).1+4*(segF E P d t).2.toks.length≤4*t.toks.length):=by
 unfold segF
 split
 ·obtain⟨a1,a2⟩:=sels_g (E:=E) hP hB h
  refine⟨a1,fun he=>?_⟩
  obtain⟨c1,c2,c3⟩:=a2 he
  exact⟨⟨c1,c2⟩,by unfold wtG;simp only;omega⟩
 ·obtain⟨a1,a2⟩:=dot_g (E:=E) hP hB (isS [46,46] t) ((h.next (E:=E)).close (E:=E))
  refine⟨a1,fun he=>⟨(a2 he).1,?_⟩⟩
  have c1:=(a2 he).2
  have c2:=closeS_le E (nextS E t)
  have c3:=nextS_le E t
  omega
theorem segsL_g :∀(f:Nat) (t:PSt),Tk S t→Tk S (segsL E P d f t).2∧((segsL E P d f t).2.fe=0→(∀s∈(segsL E P d f t).1,s.sels≠[]∧∀y∈s.sels,WfS S (WfN S n) y)∧((segsL E P d f t).1.map (wtG (wtN n))).sum+4*(segsL E P d f t).2.toks.length≤4*t.toks.length)
 | 0,t,h=>⟨h,fun _=>⟨fun y hy=>by simp [segsL] at hy,by simp [segsL]⟩⟩
 | f+1,t,h=>by
  rw [segsL]
  split
  ·obtain⟨a1,a2⟩:=seg_g (E:=E) hP hB h
   obtain⟨b1,b2⟩:=segsL_g f _ a1
   refine⟨b1,fun he=>?_⟩
   simp only at he ⊢
   have hs:=ok_of (fun hs=>by rw [segsL_bad f hs]) he
   obtain⟨c1,c2⟩:=a2 hs
   obtain⟨c3,c4⟩:=b2 he
   refine⟨fun y hy=>?_,?_⟩
   ·rcases List.mem_cons.1 hy with rfl|hy
    ·exact c1
    ·exact c3 y hy
   ·rw [List.map_cons,List.sum_cons];omega
  ·exact⟨h,fun _=>⟨fun y hy=>by simp at hy,by simp⟩⟩
theorem path_g {t:PSt}(h:Tk S t):Tk S (pathF E P d t).2∧((pathF E P d t).2.fe=0→WfP S (WfN S n) (pathF E P d t).1∧wtP (wtN n) (pathF E P d t).1+3+4*(pathF E P d t).2.toks.length≤4*t.toks.length):=by
 unfold pathF
 obtain⟨a1,a2⟩:=segsL_g (E:=E) hP hB (nextS E t).toks.length _ (h.next (E:=E))
 refine⟨a1,fun he=>⟨(a2 he).1,?_⟩⟩
 have c1:=(a2 he).2
 simp only at he
 have c2:=(next_ok (ok_of (fun hs=>by rw [segsL_bad _ hs]) he)).2
 unfold wtP;simp only;omega
theorem side_g {t:PSt}(h:Tk S t):Tk S (sideF E P d t).2∧((sideF E P d t).2.fe=0→WfSide S (WfN S n) (sideF E P d t).1∧wtP (wtN n) (sideF E P d t).1.p+3+4*(sideF E P d t).2.toks.length≤4*t.toks.length):=by
 unfold sideF
 split
 ·obtain⟨a1,a2⟩:=path_g (E:=E) hP hB h
  exact⟨a1,fun he=>⟨.path _ (a2 he).1,(a2 he).2⟩⟩
 ·cases hl:litS t with
  | none=>exact⟨h.form,fun he=>absurd he (formS_fe _ _)⟩
  | some x =>
   refine⟨h.next,fun he=>?_⟩
   simp only at he ⊢
   have hx:WfSide S (WfN S n) x∧x.p=path0:=by
    unfold litS at hl
    split at hl
    ·rename_i hk
     obtain rfl:=Option.some.inj hl
     exact⟨.num _ (h.hd (by rw [hk];decide)).1,rfl⟩
    split at hl
    ·rename_i hk
     obtain rfl:=Option.some.inj hl
     exact⟨.str _ ((h.hd (by rw [hk];decide)).2 (.inr hk)),rfl⟩
    split at hl
    ·split at hl
     ·obtain rfl:=Option.some.inj hl;exact⟨.tru,rfl⟩
     split at hl
     ·obtain rfl:=Option.some.inj hl;exact⟨.fls,rfl⟩
     split at hl
     ·obtain rfl:=Option.some.inj hl;exact⟨.null,rfl⟩
     ·cases hl
    ·cases hl
   refine⟨hx.1,?_⟩
   have:=(next_ok he).2
   rw [hx.2]
   unfold wtP path0;simp;omega
theorem cmp_g {t:PSt}(h:Tk S t):Tk S (cmpF E P d t).2∧((cmpF E P d t).2.fe=0→WfN S (n+1) (cmpF E P d t).1∧wtN (n+1) (cmpF E P d t).1+4*(cmpF E P d t).2.toks.length≤4*t.toks.length):=by
 obtain⟨a1,a2⟩:=side_g (E:=E) hP hB h
 obtain⟨b1,b2⟩:=side_g (E:=E) hP hB (a1.next (E:=E))
 unfold cmpF
 have key:=cmp2_bad (E:=E) (P:=P) (d:=d) (t:=(sideF E P d t).2) (sideF E P d t).1
 unfold cmp2 at key ⊢
 split
 ·rename_i ho
  rw [if_pos ho] at key
  refine⟨by simp only;split;exact a1.form;exact a1,fun he=>?_⟩
  simp only at he
  cases hl:(sideF E P d t).1.lit
  ·rw [hl] at he
   simp only [Bool.false_eq_true,if_false] at he ⊢
   obtain⟨c1,c2⟩:=a2 he
   have hp:WfP S (WfN S n) (sideF E P d t).1.p:=by
    revert hl
    generalize (sideF E P d t).1=x at c1
    intro hl
    cases c1 with
    | path p a=>exact a
    | _=>cases hl
   refine⟨.test _ hp,?_⟩
   rw [wtN]
   simp [tstE,side0,path0,wtP] at c2 ⊢
   omega
  ·rw [hl] at he;exact absurd he (formS_fe _ _)
 ·rename_i ho
  rw [if_neg ho] at key
  by_cases hc:((sideF E P d t).1.lit==(sideF E P d (nextS E (sideF E P d t).2)).1.lit || !singB (if (sideF E P d t).1.lit=true then (sideF E P d (nextS E (sideF E P d t).2)).1.p else (sideF E P d t).1.p))=true
  ·rw [if_pos hc]
   exact⟨b1.fail _ _,fun he=>absurd he (failS_fe (by decide))⟩
  ·rw [if_neg hc] at key ⊢
   refine⟨b1,fun he=>?_⟩
   have h1:=ok_of (fun hs=>by rw [key hs]) he
   simp only at he ⊢
   obtain⟨c1,c2⟩:=a2 h1
   obtain⟨c3,c4⟩:=b2 he
   have c5:=nextS_le E (sideF E P d t).2
   rw [Bool.or_eq_true,not_or] at hc
   refine⟨.cmp _ _ _ (by omega) (opS_le _) c1 c3 (by simpa using hc.1) (by simpa using hc.2),?_⟩
   rw [wtN]
   simp only [List.map_nil,List.sum_nil]
   have:wtP (wtN n) path0=1:=by unfold wtP path0;simp
   omega
theorem round_g {t:PSt}(h:Tk S t):Tk S (roundF E P d t).2∧((roundF E P d t).2.fe=0→WfN S n (roundF E P d t).1∧wtN n (roundF E P d t).1+4*(roundF E P d t).2.toks.length≤4*t.toks.length):=by
 unfold roundF
 obtain⟨a1,a2⟩:=call_g (E:=E) hP hB h
 refine⟨a1.must _,fun he=>?_⟩
 simp only at he ⊢
 obtain⟨-,m1,m2⟩:=must_ok he
 obtain⟨-,c1,c2⟩:=a2 m1
 exact⟨c1,by omega⟩
end
section
variable  {S:List UInt8→Prop}{E:Int}{P:Nat→PSt→ExprT×PSt}{n:Nat}
theorem GP.le {d d':Nat}(h:GP S P n d)(hd:d≤d'):GP S P n d':=fun d2 h2=>h d2 (by omega)
theorem wt_up {m:Nat}{x:ExprT}(hn:n≤m)(h:WfN S n x):WfN S m x∧wtN m x=wtN n x:=⟨WfN.up n m hn x h,wtN_up n m hn x h⟩
theorem wt_mk (k:Int)(l:List ExprT)(n:Nat):wtN (n+1) (mkE k l)=4+(l.map (wtN n)).sum:=by
 rw [wtN];simp [mkE,side0,path0,wtP];omega
theorem not_g {m:Bool}{d:Nat}(hP:GP S P n d)(hB:BadP P){t:PSt}(h:Tk S t):Tk S (notF m E P d t).2∧((notF m E P d t).2.fe=0→WfN S (n+2) (notF m E P d t).1∧wtN (n+2) (notF m E P d t).1+4*(notF m E P d t).2.toks.length≤4*t.toks.length+4):=by
 unfold notF
 split
 ·obtain⟨a1,a2⟩:=round_g (E:=E) hP hB h
  refine⟨a1,fun he=>?_⟩
  obtain⟨c1,c2⟩:=a2 he
  obtain⟨u1,u2⟩:=wt_up (m:=n+1) (by omega) c1
  refine⟨.not _ u1,?_⟩
  rw [wt_mk,List.map_cons,List.map_nil,List.sum_cons,List.sum_nil,u2];simp only at c2 ⊢;omega
 split
 ·obtain⟨a1,a2⟩:=path_g (E:=E) hP hB h
  refine⟨a1,fun he=>?_⟩
  obtain⟨c1,c2⟩:=a2 he
  refine⟨.not _ (.test _ c1),?_⟩
  rw [wt_mk,List.map_cons,List.map_nil,List.sum_cons,List.sum_nil,wtN]
  simp [tstE,side0,path0,wtP] at c2 ⊢;omega
 ·exact⟨h.form,fun he=>absurd he (formS_fe _ _)⟩
theorem one_g {m:Bool}{d:Nat}(hP:GP S P n d)(hB:BadP P){t:PSt}(h:Tk S t):Tk S (oneF m E P d t).2∧((oneF m E P d t).2.fe=0→WfN S (n+2) (oneF m E P d t).1∧wtN (n+2) (oneF m E P d t).1+4*(oneF m E P d t).2.toks.length≤4*t.toks.length):=by
 unfold oneF
 split
 ·obtain⟨a1,a2⟩:=not_g (m:=m) (E:=E) (hP.le (Nat.le_add_right d 1)) hB (h.opn (E:=E) d)
  refine⟨a1,fun he=>?_⟩
  obtain⟨c1,c2⟩:=a2 he
  have c3:=(open_ok (ok_of (fun hs=>notF_bad m hs) he)).2.2
  exact⟨c1,by omega⟩
 split
 ·obtain⟨a1,a2⟩:=round_g (E:=E) hP hB h
  refine⟨a1,fun he=>?_⟩
  obtain⟨c1,c2⟩:=a2 he
  obtain⟨u1,u2⟩:=wt_up (m:=n+2) (by omega) c1
  exact⟨u1,by rw [u2];exact c2⟩
 ·obtain⟨a1,a2⟩:=cmp_g (E:=E) hP hB h
  refine⟨a1,fun he=>?_⟩
  obtain⟨c1,c2⟩:=a2 he
  obtain⟨u1,u2⟩:=wt_up (m:=n+2) (by omega) c1
  exact⟨u1,by rw [u2];exact c2⟩
def GF (S:List UInt8→Prop)(F:PSt→ExprT×PSt)(n:Nat):Prop:=∀t,Tk S t→Tk S (F t).2∧((F t).2.fe=0→WfN S n (F t).1∧wtN n (F t).1+4*(F t).2.toks.length≤4*t.toks.length)
theorem listL_g {F:PSt→ExprT×PSt}{sg:List UInt8}(hF:GF S F n)(hb:∀t,t.fe≠0→(F t).2=t):∀(f:Nat) (t:PSt),Tk S t→Tk S (listL E sg F f t).2∧((listL E sg F f t).2.fe=0→(∀y∈(listL E sg F f t).1,WfN S n y)∧((listL E sg F f t).1.map (wtN n)).sum+4*(listL E sg F f t).1.length+4*(listL E sg F f t).2.toks.length≤4*t.toks.length)
 | 0,t,h=>⟨h,fun _=>⟨fun y hy=>by simp [listL] at hy,by simp [listL]⟩⟩
 | f+1,t,h=>by
  rw [listL]
  split
  ·obtain⟨a1,a2⟩:=hF _ (h.next (E:=E))
   obtain⟨b1,b2⟩:=listL_g hF hb f _ a1
   refine⟨b1,fun he=>?_⟩
   simp only at he ⊢
   have hs:=ok_of (fun hs=>by rw [listL_bad f hs]) he
   obtain⟨c1,c2⟩:=a2 hs
   obtain⟨c3,c4⟩:=b2 he
   have c5:=(next_ok (ok_of (fun hs=>hb _ hs) hs)).2
   refine⟨fun y hy=>?_,?_⟩
   ·rcases List.mem_cons.1 hy with rfl|hy
    ·exact c1
    ·exact c3 y hy
   ·rw [List.map_cons,List.sum_cons,List.length_cons];omega
  ·exact⟨h,fun _=>⟨fun y hy=>by simp at hy,by simp⟩⟩
theorem list_g {F:PSt→ExprT×PSt}{sg:List UInt8}{k:Int}(hk:∀l:List ExprT,2≤l.length→(∀y∈l,WfN S n y)→WfN S (n+1) (mkE k l))(hF:GF S F n)(hb:∀t,t.fe≠0→(F t).2=t):GF S (listF E sg k F) (n+1):=fun t h=>by
 unfold listF
 obtain⟨a1,a2⟩:=hF t h
 obtain⟨b1,b2⟩:=listL_g (E:=E) (sg:=sg) hF hb (F t).2.toks.length _ a1
 refine⟨b1,fun he=>?_⟩
 simp only at he ⊢
 have hs:=ok_of (fun hs=>by rw [listL_bad _ hs]) he
 obtain⟨c1,c2⟩:=a2 hs
 obtain⟨c3,c4⟩:=b2 he
 unfold joinE
 split
 ·obtain⟨u1,u2⟩:=wt_up (m:=n+1) (by omega) c1
  rw [u2]
  exact⟨u1,by omega⟩
 ·rename_i hne
  have hl:0<(listL E sg F (F t).2.toks.length (F t).2).1.length:=List.length_pos_iff.2 hne
  refine⟨hk _ (by rw [List.length_cons];omega) fun y hy=>?_,?_⟩
  ·rcases List.mem_cons.1 hy with rfl|hy
   ·exact c1
   ·exact c3 y hy
  ·rw [wt_mk,List.map_cons,List.sum_cons];omega
theorem or_g {m:Bool}{d:Nat}(hP:GP S P n d)(hB:BadP P):GF S (orF m E P d) (n+4) :=
 list_g (fun l a b=>.or l a b) (list_g (n:=n+2) (fun l a b=>.and l a b) (fun _ h=>one_g hP hB h) (fun _ h=>oneF_bad m h)) (fun t h=>andF_bad m t h)
theorem orS_g (m:Bool)(E:Int):∀(n d:Nat),33≤n+d+1→GP S (orS m E n) (4*n) d
 | 0,d,hn=>fun d' h1 h2=>absurd h2 (by omega)
 | n+1,d,hn=>fun d' h1 h2 t h=>by
  have:=or_g (m:=m) (E:=E) (orS_g m E n d' (by omega)) (orS_bad m E n) t h
  rw [show 4*n+4=4*(n+1) by omega] at this
  exact this
theorem parse2_g {m:Bool}{t:PSt}{p:PathT}(h:Tk S t)(hp:parse2 m E t=.ok p):WfP S (WfN S 200) p∧wtP (wtN 200) p≤4*t.toks.length∧p.abs=true:=by
 unfold parse2 at hp
 have hfe:(if ovS (parse1 m E t).2 then (parse1 m E t).2 else formS E (parse1 m E t).2).fe=0∧(parse1 m E t).1=p:=by
  revert hp
  generalize (if ovS (parse1 m E t).2 then (parse1 m E t).2 else formS E (parse1 m E t).2)=u
  intro hp
  split at hp
  ·rename_i h0;exact⟨h0,Except.ok.inj hp⟩
  ·cases hp
 obtain⟨h0,rfl⟩:=hfe
 have h1:(parse1 m E t).2.fe=0:=by
  split at h0
  ·exact h0
  ·exact absurd h0 (formS_fe _ _)
 unfold parse1 at h1 ⊢
 have hG:=orS_g (S:=S) m E 34 0 (by omega)
 by_cases h36:isS [36] t=true
 ·rw [if_pos h36] at h1 ⊢
  obtain⟨-,a2⟩:=path_g (E:=E) hG (orS_bad m E 34) h
  obtain⟨c1,c2⟩:=a2 h1
  have hu:∀e,WfN S (4*34) e→WfN S 200 e:=fun e he=>WfN.up _ _ (by omega) e he
  refine⟨c1.mono hu,?_,h36⟩
  rw [wtP_eq (W:=WfN S (4*34)) (w:=wtN (4*34)) (w':=wtN 200) (fun e he=>wtN_up _ _ (by omega) e he) c1]
  omega
 ·rw [if_neg h36] at h1
  have:=ok_of (s:=formS E t) (fun hs=>by rw [pathF_bad hs]) h1
  exact absurd this (formS_fe _ _)
end
end

end Go.Proofs.YtjbdcjcfijjiiaaGreatDoor
