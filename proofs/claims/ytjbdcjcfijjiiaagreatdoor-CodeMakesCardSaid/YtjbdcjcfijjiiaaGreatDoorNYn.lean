/- ref17: cmp (printed by gen_yn.py). -/
import Derived.Test.YtjbdcjcfijjiiaaGreatDoorNOz
import Derived.Test.YtjbdcjcfijjiiaaGreatDoorNYm
import Derived.Test.YtjbdcjcfijjiiaaGreatDoorNYl
namespace Go.Proofs.YtjbdcjcfijjiiaaGreatDoor
open Go.RowKit
set_option maxRecDepth 100000
set_option maxHeartbeats 2000000
section
variable  {X:List Nat}{w0 w:World}{L L':List BlkE}{rs:List RowE}{J S:World→Prop}{ops:Array Oper}{rest:List Oper}{a:Act}{Q:Exit→Act→World→Prop}{dst:Option Tmp}{tt:TypeId}{pos:String}{af:Array Edge}{gd:Option (Nat×Bool)}
theorem range_side {g:Nat}{T:TypeId}{a0 a1 a2 a3 a4 a5:Value}(h:Blk w g T #[a0,a1,a2,a3,a4,a5]):w.rangeAt g 4 [a4,a5]:=by
 intro j v hv
 have:=h.cell (4+j)
 rw [this]
 match j,hv with
 | 0,hv=>exact hv
 | 1,hv=>exact hv
theorem gm_P {x:Operand}(h:wpList Tryz.prog ops Q (⟨dst,.load 37 x,tt,pos,af,gd⟩::rest) a w):wpList Tryz.prog ops Q (⟨dst,.load 37 x,tt,pos,af,gd⟩::rest) a w:=h
theorem ldm_P {x:Operand}{g:Nat}{T:TypeId}{a0 a1 a2 a3 a4 a5:Value}(hw:Region.wanted ⟨dst,.load 37 x,tt,pos,af,gd⟩ (yielded ops a.tmps)=true)(hx:a.eval x=.pointer (some ⟨g,4,none⟩))(M:Own X w0 w L rs J)
  (h:wpList Tryz.prog ops Q rest (a.put dst (.agg #[a4,a5])) w) (hm:(g,T,#[a0,a1,a2,a3,a4,a5])∈L:=by repeat constructor):wpList Tryz.prog ops Q (⟨dst,.load 37 x,tt,pos,af,gd⟩::rest) a w :=
 wpList_step fun K hK=>by
  rw [if_pos hw]
  exact wp_load_mid _ x rfl g 4 hx [a4,a5] _ (range_side (M.blk _ hm)) Tryz.underlying37 rfl isz_Path (hK _ _ h)
theorem ylm_P (x:Operand)(g:Nat)(hx:a.eval x=.pointer (some ⟨g,4,none⟩))(T:TypeId)(a0 a1 a2 a3 a4 a5:Value)(hS:∀w,S w→Blk w g T #[a0,a1,a2,a3,a4,a5]):YieldsIf Tryz.prog ops S ⟨dst,.load 37 x,tt,pos,af,none⟩ (.agg #[a4,a5]) a :=
 yieldsIf_load_mid (by simp [Region.wanted]) _ x rfl g 4 hx [a4,a5] _ (fun w h=>range_side (hS w h)) Tryz.underlying37 rfl isz_Path
theorem yl1_str (x:Operand)(g j:Nat)(hx:a.eval x=.pointer (some ⟨g,j,none⟩))(T:TypeId)(cs:Array Value)(hS:∀w,S w→Blk w g T cs)(v:Value)(hv:cs[j]? = some v):YieldsIf Tryz.prog ops S ⟨dst,.load 9 x,tt,pos,af,none⟩ v a :=
 .inl ⟨by simp [Region.wanted],fun w hw'=>by
  have hc:=((hS w hw').cell j).trans hv
  have hagg:(isAgg 9).run Tryz.prog w=.ok false w:=by
   unfold isAgg
   rw [Sem.run_bind,run_underlying Tryz.underlying9 w]
   rfl
  unfold execOp
  simp only [hx,Instr.loadAt,Instr.sureAddr,loadVar,Sem.run_bind,Sem.run_pure,Result.andThen_ok,hagg]
  simp [run_load,hc]⟩
theorem bso :Tryz.prog.builtSlice 9 6 [(0,.string ⟨#[61,61]⟩),(1,.string ⟨#[33,61]⟩),(2,.string ⟨#[60]⟩),(3,.string ⟨#[60,61]⟩),(4,.string ⟨#[62]⟩),(5,.string ⟨#[62,61]⟩)]=some #[.string ⟨#[61,61]⟩,.string ⟨#[33,61]⟩,.string ⟨#[60]⟩,.string ⟨#[60,61]⟩,.string ⟨#[62]⟩,.string ⟨#[62,61]⟩]:=by kernel_rfl
theorem go_ops (dst:Option Tmp)(h:wpList Tryz.prog ops Q (⟨dst,.buildSlice 104 6 #[(0,.const (.string ⟨#[61,61]⟩)),(1,.const (.string ⟨#[33,61]⟩)),(2,.const (.string ⟨#[60]⟩)),(3,.const (.string ⟨#[60,61]⟩)),(4,.const (.string ⟨#[62]⟩)),(5,.const (.string ⟨#[62,61]⟩))],tt,pos,af,none⟩::rest) a w):wpList Tryz.prog ops Q (⟨dst,.buildSlice 104 6 #[(0,.const (.string ⟨#[61,61]⟩)),(1,.const (.string ⟨#[33,61]⟩)),(2,.const (.string ⟨#[60]⟩)),(3,.const (.string ⟨#[60,61]⟩)),(4,.const (.string ⟨#[62]⟩)),(5,.const (.string ⟨#[62,61]⟩))],tt,pos,af,none⟩::rest) a w:=h
theorem bs_ops (dst:Option Tmp)(M:Own X w0 w L rs J)
  (h:∀g w',w0.heap.size≤g→Own X w0 w' ((g,9,#[.string ⟨#[61,61]⟩,.string ⟨#[33,61]⟩,.string ⟨#[60]⟩,.string ⟨#[60,61]⟩,.string ⟨#[62]⟩,.string ⟨#[62,61]⟩])::L) rs J→wpList Tryz.prog ops Q rest (a.put dst (.slice (some ⟨g,0,none⟩) 6 6)) w'):wpList Tryz.prog ops Q (⟨dst,.buildSlice 104 6 #[(0,.const (.string ⟨#[61,61]⟩)),(1,.const (.string ⟨#[33,61]⟩)),(2,.const (.string ⟨#[60]⟩)),(3,.const (.string ⟨#[60,61]⟩)),(4,.const (.string ⟨#[62]⟩)),(5,.const (.string ⟨#[62,61]⟩))],tt,pos,af,none⟩::rest) a w :=
 wpList_buildSlice_own rfl _ 9 6 _ rfl Tryz.underlying104 _ (by simp only [List.map_toArray,List.map_cons,List.map_nil];exact bso) M fun g w' hg _=>h g w' hg
end
def opW (t:PSt):Nat→Int
 | 0=>-1
 | i+1=>if isS (opsL.getD i []) t then (i:Int) else opW t i
theorem opW_6 (t:PSt):opW t 6=opS t:=by
 by_cases hk:kindS t=1
 ·obtain⟨s,hs⟩:∃s,(hdT t).s=s:=⟨_,rfl⟩
  have hi:∀l,isS l t=(s==l):=fun l=>by unfold isS;rw [hk,hs];simp
  unfold opS
  rw [if_pos hk,hs]
  simp only [opW,hi,opsL,List.getD_cons_zero,List.getD_cons_succ]
  by_cases h0:s=[61,61]
  ·subst h0;decide
  by_cases h1:s=[33,61]
  ·subst h1;decide
  by_cases h2:s=[60]
  ·subst h2;decide
  by_cases h3:s=[60,61]
  ·subst h3;decide
  by_cases h4:s=[62]
  ·subst h4;decide
  by_cases h5:s=[62,61]
  ·subst h5;decide
  have e:∀l:List UInt8,s≠l→(s==l)=false∧(l==s)=false:=fun l h=>⟨beq_eq_false_iff_ne.2 h,beq_eq_false_iff_ne.2 fun h'=>h h'.symm⟩
  simp [List.findIdx?_cons,e _ h0,e _ h1,e _ h2,e _ h3,e _ h4,e _ h5]
 ·have hi:∀l,isS l t=false:=fun l=>by unfold isS;rw [decide_eq_false hk];rfl
  unfold opS
  rw [if_neg hk]
  simp [opW,hi]
theorem opS_bd (t:PSt) : -1≤opS t∧opS t≤5:=by
 rw [←opW_6]
 have:∀i,i≤6→-1≤opW t i∧opW t i≤5:=by
  intro i
  induction i with
  | zero=>intro _;simp [opW]
  | succ i ih =>
   intro hi
   rw [opW]
   split
   ·omega
   ·exact ih (by omega)
 exact this 6 (Nat.le_refl _)
theorem exTst {K:Nat→Prop}{m:Nat}{w:World}{A1:Option Addr}{c1:Nat}{p:PathT}(h:RowG K 2 (RSeg K m w) w (.slice A1 p.segs.length c1) p.segs):ExR K (m+1) w (exL (tstE p) (.slice none 0 0) (.slice A1 p.segs.length c1) (.slice none 0 0) (.slice none 0 0)) (tstE p) :=
 ⟨_,_,_,_,rfl,⟨none,0,rfl,⟨Nat.le_refl _,by omega⟩,.inl rfl⟩,h,⟨none,0,rfl,⟨Nat.le_refl _,by omega⟩,.inl rfl⟩,⟨none,0,rfl,⟨Nat.le_refl _,by omega⟩,.inl rfl⟩⟩
theorem exCmp {K:Nat→Prop}{m n:Nat}{w:World}{A1 A2:Option Addr}{c1 c2:Nat}{a b:SideT}(o:Int)(h:RowG K 2 (RSeg K m w) w (.slice A1 a.p.segs.length c1) a.p.segs)(h':RowG K 2 (RSeg K n w) w (.slice A2 b.p.segs.length c2) b.p.segs) :
  ExR K (max m n+1) w (exL ⟨4,[],path0,o,a,b⟩ (.slice none 0 0) (.slice none 0 0) (.slice A1 a.p.segs.length c1) (.slice A2 b.p.segs.length c2)) ⟨4,[],path0,o,a,b⟩ :=
 ⟨_,_,_,_,rfl,⟨none,0,rfl,⟨Nat.le_refl _,by omega⟩,.inl rfl⟩,⟨none,0,rfl,⟨Nat.le_refl _,by omega⟩,.inl rfl⟩,h.keep (Kp.refl _ _) fun _ _ h=>RSeg_ok.keep h (Kp.refl _ _) (Nat.le_max_left _ _),h'.keep (Kp.refl _ _) fun _ _ h=>RSeg_ok.keep h (Kp.refl _ _) (Nat.le_max_right _ _)⟩
section
variable  (A:Option Addr)(all:List TokD)(c k:Nat)(E:Int)(P:Nat→PSt→ExprT×PSt)(t:PSt)(d:Nat)(dp:Int)(w:World)
section
variable  {X:List Nat}{w0 w:World}{L:List BlkE}{rs:List RowE}{J S:World→Prop}{ops:Array Oper}{a:Act}{Q:Exit→Act→World→Prop}{md:Region.Mode}{fuel i:Nat}{listed:Array Bool}{is:List Nat}{dst:Option Tmp}{tt:TypeId}{pos:String}{af:Array Edge}
theorem rl_R (x:Operand)(ho:ops[i]? = some ⟨dst,.load 54 x,tt,pos,af,none⟩){g:Nat}(hx:a.eval x=.pointer (some ⟨g,0,none⟩))(M:Own X w0 w L rs J){TT:TypeId}{cs:Array Value}
  (h:S w∧wpAnyH Tryz.prog md ops Q S fuel (listed.setIfInBounds i true) (a.put dst (.agg cs)) w) (hs:AllReadyH Tryz.prog md ops Q S fuel listed a w is:=by exact .nil) (hm:(g,TT,cs)∈L:=by repeat constructor) (hn:cs.size=6:=by exact rfl):AllReadyH Tryz.prog md ops Q S fuel listed a w (i::is):=by
 refine rdy ho (fun K hK=>?_) hs
 exact wp_load_row _ x rfl g hx TT cs (0,0) _ (M.blk _ hm) Tryz.underlying54 rfl (by rw [hn];exact isz_R) (hK.out _ _ h.1 fun _=>h.2)
end
theorem failS_ne {a e:Int}{t:PSt}(h:e≠0):(failS a e t).fe≠0:=by
 unfold failS
 split
 ·exact h
 ·assumption
theorem rsideF_bad {E:Int}{P:Nat→PSt→ExprT×PSt}{d:Nat}{t:PSt}(h:t.fe≠0):(sideF E P d t).2=t:=by
 have hk:kindS t=0:=by unfold kindS;rw [hdT_bad h];rfl
 unfold sideF isPath
 rw [isS_bad _ h,isS_bad _ h,Bool.false_or,ite_ff rfl]
 unfold litS
 rw [hk]
 exact formS_bad h
theorem res_cmp {X:List Nat}{w0 w:World}{L:List BlkE}{rs:List RowE}{J:World→Prop}{tmps:Array Value}{g k:Nat}{t u:TypeId}{a0 a1 a2 a3 a4 a5 b0 b1 b2 b3 b4 b5 b6 b7 b8 b9 b10 b11 b12 b13 b14 b15 b16:Value}(hp:tmps.getD 2 undef=.pointer (some ⟨g,0,none⟩))(hq:tmps.getD 3 undef=.pointer (some ⟨k,0,none⟩))(M:Own X w0 w L rs J)(hg:(g,t,#[a0,a1,a2,a3,a4,a5])∈L)(hk:(k,u,#[b0,b1,b2,b3,b4,b5,b6,b7,b8,b9,b10,b11,b12,b13,b14,b15,b16])∈L):(results Tryz.f115 tmps).run Tryz.prog w=.ok (.tuple #[.agg #[a0,a1,a2,a3,a4,a5],.agg #[b0,b1,b2,b3,b4,b5,b6,b7,b8,b9,b10,b11,b12,b13,b14,b15,b16]]) w :=
 results_2 Tryz.results115 _ g k _ _ _ _ _ _ hp hq (M.blk _ hg) (M.blk _ hk) Tryz.underlying54 rfl Tryz.underlying92 rfl 6 17 isz_R rfl isz_Expr rfl
theorem rcmp_any (hL:LeP P)(N:Nat)(hP:ROrC A all c E P N)(h:RIn all k t)(hT:TkR w A all)(hd:t.fe=0→dp=(d:Int))(hN:N≤d+1)(hdd:d≤33)(hf:d=33→t.fe≠0):Calls Tryz.prog 115 #[rv A all.length c k E t dp] w (RExP A all c E d w (cmpF E P d t)):=by
 have HS:=hH (fun W (hb:Bel w.heap.size w W)=>rside_any A all c k E P t d dp W hL N hP h (hT.bel hb) hd hN hdd hf)
 have HSS:=hH (fun k t dp W (hi:RIn all k t) (hb:Bel w.heap.size w W) hd hf=>rside_any A all c k E P t d dp W hL N hP hi (hT.bel hb) hd hN hdd hf)
 have HTT:=hH hT
 unfold cmpF
 obtain⟨⟨la,ka,na,sa,pa⟩,t2,hx⟩:∃sa t2,sideF E P d t=(sa,t2):=⟨_,_,rfl⟩
 have HX:=hH hx
 have HF2:=hH (show d=33→t2.fe≠0 from fun e=>by
  have hb:=hf e
  have h1:(sideF E P d t).2=t:=rsideF_bad hb
  rw [hx] at h1
  have h1:t2=t:=h1
  rw [h1];exact hb)
 rw [hx]
 unfold RSideP at HS HSS
 simp only
 clear h hf hT hd hx hP hL
 have M:=hH (Own.start [] w (fun _=>True) fun _ _=>trivial)
 go_enter Tryz.func115, Tryz.ntmps115
 generalize hQ:bodyPost Tryz.prog Tryz.f115 (RExP A all c E d w (cmp2 E P d ⟨la,ka,na,sa,pa⟩ t2))=Q
 have HQ:=hH hQ;clear hQ
 go_wp2_with (first|(with_reducible first|(refine bx_R (some 1) M.out ?_;clear M;intro g1 w' hg1 M)|(refine al_R (some 2) M.out ?_;clear M;intro g2 w' hg2 M)|(refine al_Expr (some 3) M.out ?_;clear M;intro g3 w' hg3 M)|(refine al_R (some 4) M.out ?_;clear M;intro g4 w' hg4 M)|(refine al_Side (some 5) M.out ?_;clear M;intro g5 w' hg5 M)|refine ld_R M.out ?_|(refine st_R M.out ?_;clear M;intro w' M)|(refine st_Side M.out ?_;clear M;intro w' M))|(go_at_call 119;(with_reducible refine(HS.out _ M.out.bel0).mono ?_);rintro e w' ⟨m1,A1,c1,k2,D2,rfl,hi2,hd2,hrow,hb⟩;rw [HX.out] at hi2 hd2 hrow ⊢;simp only at hi2 hd2 hrow ⊢;have Mn:=M.out.addK (G:=fun K y=>RowG K 2 (RSeg K m1 y) y (.slice A1 pa.segs.length c1) pa.segs) (fun h hk=>RowG.keep h hk fun _ _ h=>RSeg_ok.keep h hk (Nat.le_refl _)) hb hrow;replace M:=hH Mn;clear Mn hb hrow)|((with_reducible refine go_ops (some 16) ?_);refine bs_ops (some 16) M.out ?_;intro g16 w' hg16 Mn;replace M:=hH Mn;clear Mn))
 have HI2:=hH hi2
 have HD2:=hH hd2
 have HIS0:=hH (fun (l:ByteArray) W (hb:Bel w.heap.size w W)=>ris_any A all c k2 E t2 D2 W l hi2 (HTT.out.bel hb))
 clear hi2 hd2 HS
 go_loopg [7,8] 6 (fun gk opv iv wr=>∃(i:Nat),gk=6-i∧i≤6∧iv=.int .i64 (i:Nat)∧opv=.int .i64 (opW t2 i)∧Hid (Own [] w wr [(g16,9,#[.string ⟨#[61,61]⟩,.string ⟨#[33,61]⟩,.string ⟨#[60]⟩,.string ⟨#[60,61]⟩,.string ⟨#[62]⟩,.string ⟨#[62,61]⟩]),(g5,90,#[.bool la,.int .i64 ka,.int .i64 na,.string (bs sa),.bool pa.abs,.slice A1 pa.segs.length c1]),(g4,54,#[.slice A all.length c,.int .i64 (k2:Int),.int .i64 E,.int .i64 t2.fe,.int .i64 t2.fa,.int .i64 D2]),(g3,92,#[.int .i64 0,.slice none 0 0,.bool false,.slice none 0 0,.int .i64 0,.bool false,.int .i64 0,.int .i64 0,.string ⟨#[]⟩,.bool false,.slice none 0 0,.bool false,.int .i64 0,.int .i64 0,.string ⟨#[]⟩,.bool false,.slice none 0 0]),(g2,54,#[.slice none 0 0,.int .i64 0,.int .i64 0,.int .i64 0,.int .i64 0,.int .i64 0]),(g1,54,#[.slice A all.length c,.int .i64 (k:Int),.int .i64 E,.int .i64 t.fe,.int .i64 t.fa,.int .i64 dp])] [] (fun y=>True∧RowG (Fr w) 2 (RSeg (Fr w) m1 y) y (.slice A1 pa.segs.length c1) pa.segs)))
 case atStart=>exact⟨0,rfl,by omega,rfl,rfl,M⟩
 case round =>
  clear M
  obtain⟨i,hgk,hi6,rfl,rfl,M⟩:=hrel
  rcases Nat.lt_or_ge i 6 with hlt|hge
  ·obtain⟨bi,hbi⟩:∃bi,isS (opsL.getD i []) t2=bi:=⟨_,rfl⟩
   have HOW:=hH (show opW t2 (i+1)=if bi=true then (i:Int) else opW t2 i by rw [opW,hbi])
   match i,hlt with
   | 0,_ =>
    have HIS:=hH (fun W (hb:Bel w.heap.size w W)=>ris_at A all c k2 E t2 D2 W ⟨#[61,61]⟩ bi HI2.out (HTT.out.bel hb) (hH hbi))
    clear hbi
    go_upto_region 7 with(fail)
    replace M:=hH M.out.drew
    refine tbh (fun w'=>Blk w' g4 _ _∧Blk w' g16 _ _) (⟨M.out.b,M.out.b⟩) fun hS=>?_
    refine tk 0 rfl hS (yl_R _ _ rfl _ _ (fun _ h=>h.1) rfl) ?_
    refine tkp 1 rfl hS ?_
    refine tkp 2 rfl hS ?_
    refine tkp 3 rfl hS ?_
    refine tk 4 rfl hS (yl1_str _ _ 0 rfl _ _ (fun _ h=>h.2) _ rfl) ?_
    refine tr [5] ?_
    refine rdy_call (i:=5) (HIS.out _ M.out.bel0) (op:=.call _) rfl (by go_simp) ?_
    rintro e w' ⟨rfl,hb⟩
    replace M:=hH (M.out.bel hb);clear hb
    refine⟨_,rfl,?_⟩
    refine an ⟨M.out.b,M.out.b⟩ fun hS=>tn ?_
    refine te ?_
    cases bi with
    | true =>
     go_wp2
     go_roundg 5
     case measure=>omega
     case rel=>exact⟨1,rfl,by omega,by first|rfl|go_num,by rw [HOW.out];first|rfl|simp,M⟩
    | false =>
     go_wp2
     go_roundg 5
     case measure=>omega
     case rel=>exact⟨1,rfl,by omega,by first|rfl|go_num,by rw [HOW.out];first|rfl|simp,M⟩
   | 1,_ =>
    have HIS:=hH (fun W (hb:Bel w.heap.size w W)=>ris_at A all c k2 E t2 D2 W ⟨#[33,61]⟩ bi HI2.out (HTT.out.bel hb) (hH hbi))
    clear hbi
    go_upto_region 7 with(fail)
    replace M:=hH M.out.drew
    refine tbh (fun w'=>Blk w' g4 _ _∧Blk w' g16 _ _) (⟨M.out.b,M.out.b⟩) fun hS=>?_
    refine tk 0 rfl hS (yl_R _ _ rfl _ _ (fun _ h=>h.1) rfl) ?_
    refine tkp 1 rfl hS ?_
    refine tkp 2 rfl hS ?_
    refine tkp 3 rfl hS ?_
    refine tk 4 rfl hS (yl1_str _ _ 1 rfl _ _ (fun _ h=>h.2) _ rfl) ?_
    refine tr [5] ?_
    refine rdy_call (i:=5) (HIS.out _ M.out.bel0) (op:=.call _) rfl (by go_simp) ?_
    rintro e w' ⟨rfl,hb⟩
    replace M:=hH (M.out.bel hb);clear hb
    refine⟨_,rfl,?_⟩
    refine an ⟨M.out.b,M.out.b⟩ fun hS=>tn ?_
    refine te ?_
    cases bi with
    | true =>
     go_wp2
     go_roundg 4
     case measure=>omega
     case rel=>exact⟨2,rfl,by omega,by first|rfl|go_num,by rw [HOW.out];first|rfl|simp,M⟩
    | false =>
     go_wp2
     go_roundg 4
     case measure=>omega
     case rel=>exact⟨2,rfl,by omega,by first|rfl|go_num,by rw [HOW.out];first|rfl|simp,M⟩
   | 2,_ =>
    have HIS:=hH (fun W (hb:Bel w.heap.size w W)=>ris_at A all c k2 E t2 D2 W ⟨#[60]⟩ bi HI2.out (HTT.out.bel hb) (hH hbi))
    clear hbi
    go_upto_region 7 with(fail)
    replace M:=hH M.out.drew
    refine tbh (fun w'=>Blk w' g4 _ _∧Blk w' g16 _ _) (⟨M.out.b,M.out.b⟩) fun hS=>?_
    refine tk 0 rfl hS (yl_R _ _ rfl _ _ (fun _ h=>h.1) rfl) ?_
    refine tkp 1 rfl hS ?_
    refine tkp 2 rfl hS ?_
    refine tkp 3 rfl hS ?_
    refine tk 4 rfl hS (yl1_str _ _ 2 rfl _ _ (fun _ h=>h.2) _ rfl) ?_
    refine tr [5] ?_
    refine rdy_call (i:=5) (HIS.out _ M.out.bel0) (op:=.call _) rfl (by go_simp) ?_
    rintro e w' ⟨rfl,hb⟩
    replace M:=hH (M.out.bel hb);clear hb
    refine⟨_,rfl,?_⟩
    refine an ⟨M.out.b,M.out.b⟩ fun hS=>tn ?_
    refine te ?_
    cases bi with
    | true =>
     go_wp2
     go_roundg 3
     case measure=>omega
     case rel=>exact⟨3,rfl,by omega,by first|rfl|go_num,by rw [HOW.out];first|rfl|simp,M⟩
    | false =>
     go_wp2
     go_roundg 3
     case measure=>omega
     case rel=>exact⟨3,rfl,by omega,by first|rfl|go_num,by rw [HOW.out];first|rfl|simp,M⟩
   | 3,_ =>
    have HIS:=hH (fun W (hb:Bel w.heap.size w W)=>ris_at A all c k2 E t2 D2 W ⟨#[60,61]⟩ bi HI2.out (HTT.out.bel hb) (hH hbi))
    clear hbi
    go_upto_region 7 with(fail)
    replace M:=hH M.out.drew
    refine tbh (fun w'=>Blk w' g4 _ _∧Blk w' g16 _ _) (⟨M.out.b,M.out.b⟩) fun hS=>?_
    refine tk 0 rfl hS (yl_R _ _ rfl _ _ (fun _ h=>h.1) rfl) ?_
    refine tkp 1 rfl hS ?_
    refine tkp 2 rfl hS ?_
    refine tkp 3 rfl hS ?_
    refine tk 4 rfl hS (yl1_str _ _ 3 rfl _ _ (fun _ h=>h.2) _ rfl) ?_
    refine tr [5] ?_
    refine rdy_call (i:=5) (HIS.out _ M.out.bel0) (op:=.call _) rfl (by go_simp) ?_
    rintro e w' ⟨rfl,hb⟩
    replace M:=hH (M.out.bel hb);clear hb
    refine⟨_,rfl,?_⟩
    refine an ⟨M.out.b,M.out.b⟩ fun hS=>tn ?_
    refine te ?_
    cases bi with
    | true =>
     go_wp2
     go_roundg 2
     case measure=>omega
     case rel=>exact⟨4,rfl,by omega,by first|rfl|go_num,by rw [HOW.out];first|rfl|simp,M⟩
    | false =>
     go_wp2
     go_roundg 2
     case measure=>omega
     case rel=>exact⟨4,rfl,by omega,by first|rfl|go_num,by rw [HOW.out];first|rfl|simp,M⟩
   | 4,_ =>
    have HIS:=hH (fun W (hb:Bel w.heap.size w W)=>ris_at A all c k2 E t2 D2 W ⟨#[62]⟩ bi HI2.out (HTT.out.bel hb) (hH hbi))
    clear hbi
    go_upto_region 7 with(fail)
    replace M:=hH M.out.drew
    refine tbh (fun w'=>Blk w' g4 _ _∧Blk w' g16 _ _) (⟨M.out.b,M.out.b⟩) fun hS=>?_
    refine tk 0 rfl hS (yl_R _ _ rfl _ _ (fun _ h=>h.1) rfl) ?_
    refine tkp 1 rfl hS ?_
    refine tkp 2 rfl hS ?_
    refine tkp 3 rfl hS ?_
    refine tk 4 rfl hS (yl1_str _ _ 4 rfl _ _ (fun _ h=>h.2) _ rfl) ?_
    refine tr [5] ?_
    refine rdy_call (i:=5) (HIS.out _ M.out.bel0) (op:=.call _) rfl (by go_simp) ?_
    rintro e w' ⟨rfl,hb⟩
    replace M:=hH (M.out.bel hb);clear hb
    refine⟨_,rfl,?_⟩
    refine an ⟨M.out.b,M.out.b⟩ fun hS=>tn ?_
    refine te ?_
    cases bi with
    | true =>
     go_wp2
     go_roundg 1
     case measure=>omega
     case rel=>exact⟨5,rfl,by omega,by first|rfl|go_num,by rw [HOW.out];first|rfl|simp,M⟩
    | false =>
     go_wp2
     go_roundg 1
     case measure=>omega
     case rel=>exact⟨5,rfl,by omega,by first|rfl|go_num,by rw [HOW.out];first|rfl|simp,M⟩
   | 5,_ =>
    have HIS:=hH (fun W (hb:Bel w.heap.size w W)=>ris_at A all c k2 E t2 D2 W ⟨#[62,61]⟩ bi HI2.out (HTT.out.bel hb) (hH hbi))
    clear hbi
    go_upto_region 7 with(fail)
    replace M:=hH M.out.drew
    refine tbh (fun w'=>Blk w' g4 _ _∧Blk w' g16 _ _) (⟨M.out.b,M.out.b⟩) fun hS=>?_
    refine tk 0 rfl hS (yl_R _ _ rfl _ _ (fun _ h=>h.1) rfl) ?_
    refine tkp 1 rfl hS ?_
    refine tkp 2 rfl hS ?_
    refine tkp 3 rfl hS ?_
    refine tk 4 rfl hS (yl1_str _ _ 5 rfl _ _ (fun _ h=>h.2) _ rfl) ?_
    refine tr [5] ?_
    refine rdy_call (i:=5) (HIS.out _ M.out.bel0) (op:=.call _) rfl (by go_simp) ?_
    rintro e w' ⟨rfl,hb⟩
    replace M:=hH (M.out.bel hb);clear hb
    refine⟨_,rfl,?_⟩
    refine an ⟨M.out.b,M.out.b⟩ fun hS=>tn ?_
    refine te ?_
    cases bi with
    | true =>
     go_wp2
     go_roundg 0
     case measure=>omega
     case rel=>exact⟨6,rfl,by omega,by first|rfl|go_num,by rw [HOW.out];first|rfl|simp,M⟩
    | false =>
     go_wp2
     go_roundg 0
     case measure=>omega
     case rel=>exact⟨6,rfl,by omega,by first|rfl|go_num,by rw [HOW.out];first|rfl|simp,M⟩
  ·obtain rfl:i=6:=by omega
   rw [opW_6]
   have hob:=opS_bd t2
   obtain⟨o,ho⟩:∃o,opS t2=o:=⟨_,rfl⟩
   rw [ho] at hob ⊢
   by_cases ho0:o<0
   ·cases la with
    | true =>
     have HE:=hH (show cmp2 E P d ⟨true,ka,na,sa,pa⟩ t2=(tstE pa,(formS E t2)) by unfold cmp2;rw [ho,if_pos ho0];rfl)
     have HFO:=hH (fun W (hb:Bel w.heap.size w W)=>rform_any A all c k2 E t2 D2 W HI2.out (HTT.out.bel hb))
     clear ho
     go_upto_region 12 with(first|(with_reducible first|refine ld_R M.out ?_|(refine st_R M.out ?_;clear M;intro w' M)|refine ld1_bool M.out ?_)|(go_at_call 14;(with_reducible refine M.out.call (HFO.out _ M.out.bel0) ?_);clear M;intro w' M))
     replace M:=hH M.out.drew
     refine tbh (fun w'=>Blk w' g4 _ _∧Blk w' g5 _ _) (⟨M.out.b,M.out.b⟩) fun hS=>?_
     refine tk 0 rfl hS (yl_R _ _ rfl _ _ (fun _ h=>h.1) rfl) ?_
     refine tkp 1 rfl hS ?_
     refine tk 2 rfl hS (ylm_P _ _ rfl _ _ _ _ _ _ _ (fun _ h=>h.2)) ?_
     refine tkp 3 rfl hS ?_
     refine tr [4] ?_
     refine rs_R (i:=4) _ _ rfl rfl rfl M.out ?_
     clear M;intro w' M
     refine an ⟨M.out.b,M.out.b⟩ fun hS=>tn ?_
     refine tr [5] ?_
     refine rs_Expr (i:=5) _ _ rfl rfl rfl M.out ?_
     clear M;intro w' M
     refine an ⟨M.out.b,M.out.b⟩ fun hS=>tn ?_
     refine te ?_
     go_wp2
     rw [←HQ.out]
     refine bodyPost_ret (v:=.tuple #[rv A all.length c k2 E (formS E t2) D2,.agg #[.int .i64 3,.slice none 0 0,.bool pa.abs,.slice A1 pa.segs.length c1,.int .i64 0,.bool false,.int .i64 0,.int .i64 0,.string ⟨#[]⟩,.bool false,.slice none 0 0,.bool false,.int .i64 0,.int .i64 0,.string ⟨#[]⟩,.bool false,.slice none 0 0]]) (res_cmp rfl rfl M.out (by repeat constructor) (by repeat constructor)) rfl ?_
     rw [HE.out]
     exact⟨m1+1,none,0,A1,c1,none,0,none,0,k2,D2,rfl,(HI2.out.form E),(fun e=>absurd e (formS_fe E t2)),exTst (p:=pa) M.out.now.2,M.out.bel0⟩
   
    | false =>
     have HE:=hH (show cmp2 E P d ⟨false,ka,na,sa,pa⟩ t2=(tstE pa,t2) by unfold cmp2;rw [ho,if_pos ho0];rfl)
     skip
     clear ho
     go_upto_region 12 with(first|(with_reducible first|refine ld_R M.out ?_|(refine st_R M.out ?_;clear M;intro w' M)|refine ld1_bool M.out ?_))
     replace M:=hH M.out.drew
     refine tbh (fun w'=>Blk w' g4 _ _∧Blk w' g5 _ _) (⟨M.out.b,M.out.b⟩) fun hS=>?_
     refine tk 0 rfl hS (yl_R _ _ rfl _ _ (fun _ h=>h.1) rfl) ?_
     refine tkp 1 rfl hS ?_
     refine tk 2 rfl hS (ylm_P _ _ rfl _ _ _ _ _ _ _ (fun _ h=>h.2)) ?_
     refine tkp 3 rfl hS ?_
     refine tr [4] ?_
     refine rs_R (i:=4) _ _ rfl rfl rfl M.out ?_
     clear M;intro w' M
     refine an ⟨M.out.b,M.out.b⟩ fun hS=>tn ?_
     refine tr [5] ?_
     refine rs_Expr (i:=5) _ _ rfl rfl rfl M.out ?_
     clear M;intro w' M
     refine an ⟨M.out.b,M.out.b⟩ fun hS=>tn ?_
     refine te ?_
     go_wp2
     rw [←HQ.out]
     refine bodyPost_ret (v:=.tuple #[rv A all.length c k2 E t2 D2,.agg #[.int .i64 3,.slice none 0 0,.bool pa.abs,.slice A1 pa.segs.length c1,.int .i64 0,.bool false,.int .i64 0,.int .i64 0,.string ⟨#[]⟩,.bool false,.slice none 0 0,.bool false,.int .i64 0,.int .i64 0,.string ⟨#[]⟩,.bool false,.slice none 0 0]]) (res_cmp rfl rfl M.out (by repeat constructor) (by repeat constructor)) rfl ?_
     rw [HE.out]
     exact⟨m1+1,none,0,A1,c1,none,0,none,0,k2,D2,rfl,HI2.out,HD2.out,exTst (p:=pa) M.out.now.2,M.out.bel0⟩
   ·have HNX:=hH (fun W (hb:Bel w.heap.size w W)=>rnext_any A all c k2 E t2 D2 W HI2.out (HTT.out.bel hb))
    unfold RP at HNX
    obtain⟨⟨lb,kb,nb,sb,pb⟩,t3,hx3⟩:∃sb t3,sideF E P d (nextS E t2)=(sb,t3):=⟨_,_,rfl⟩
    have HX3:=hH hx3
    have HDN:=hH (show (nextS E t2).fe=0→D2=(d:Int) from fun e=>HD2.out (nextS_fe0 e))
    have HFN:=hH (show d=33→(nextS E t2).fe≠0 from fun e=>by rw [nextS_bad (HF2.out e)];exact HF2.out e)
    obtain⟨sg,hsg⟩:∃sg,singB (if la then pb else pa)=sg:=⟨_,rfl⟩
    have HC:=hH (show cmp2 E P d ⟨la,ka,na,sa,pa⟩ t2=(⟨4,[],path0,o,⟨la,ka,na,sa,pa⟩,⟨lb,kb,nb,sb,pb⟩⟩,if (la==lb || !sg) then failS (atS E t2) 8 t3 else t3) by unfold cmp2;rw [ho,if_neg ho0,hx3,←hsg])
    have HGA:=hH (show la=false→pa.segs.all segSg=sg from fun e=>by rw [e] at hsg;exact hsg)
    have HGB:=hH (show la=true→pb.segs.all segSg=sg from fun e=>by rw [e] at hsg;exact hsg)
    have ho1:0≤o:=by omega
    clear hx3 ho HIS0 hsg
    cases la <;> cases lb <;> cases sg
    all_goals
     go_upto_region 15 with(first|(with_reducible first|(refine al_R (some 9) M.out ?_;clear M;intro g9 w' hg9 M)|(refine al_Side (some 10) M.out ?_;clear M;intro g10 w' hg10 M)|refine ld_R M.out ?_|(refine st_R M.out ?_;clear M;intro w' M)|(refine st_Side M.out ?_;clear M;intro w' M)|refine ld1_bool M.out ?_)|((with_reducible refine h1_bool ?_);refine lg1_bool rfl rfl M.out ?_)|((with_reducible refine gm_P ?_);refine ldm_P rfl rfl M.out ?_)|(go_at_call 29;(with_reducible refine(HNX.out _ M.out.bel0).mono ?_);rintro e w' ⟨k4,rfl,hi4,hb⟩;have HS4:=hH (fun W hb=>HSS.out k4 (nextS E t2) D2 W hi4 hb HDN.out HFN.out);clear hi4;replace M:=hH (M.out.bel hb);clear hb)|(go_at_call 119;(with_reducible refine(HS4.out _ M.out.bel0).mono ?_);rintro e w' ⟨m2,A2,c2,k5,D5,rfl,hi5,hd5,hrow,hb⟩;rw [HX3.out] at hi5 hd5 hrow ⊢;simp only at hi5 hd5 hrow ⊢;have Mn:=M.out.addK (G:=fun K y=>RowG K 2 (RSeg K m2 y) y (.slice A2 pb.segs.length c2) pb.segs) (fun h hk=>RowG.keep h hk fun _ _ h=>RSeg_ok.keep h hk (Nat.le_refl _)) hb hrow;replace M:=hH Mn;clear Mn hb hrow)|(go_at_call 120;(with_reducible refine(rsing_any pa.abs pa.segs A1 c1 _ M.out.now.1.2).mono ?_);rw [HGA.out (by simp)];rintro e w' ⟨rfl,hb⟩;replace M:=hH (M.out.bel hb);clear hb)|(go_at_call 120;(with_reducible refine(rsing_any pb.abs pb.segs A2 c2 _ M.out.now.2).mono ?_);rw [HGB.out (by simp)];rintro e w' ⟨rfl,hb⟩;replace M:=hH (M.out.bel hb);clear hb))
     first
      | (
        replace M:=hH M.out.drew
        refine tbh (fun _=>True) (trivial) fun hS=>?_
        refine tr [0,1] ?_
        refine rl_R (i:=0) _ rfl rfl M.out ?_ ?_
        ·skip
         refine an trivial fun hS=>tn ?_
         refine tr [1] ?_
         refine rl_R (i:=1) _ rfl rfl M.out ?_
         skip
         refine an trivial fun hS=>tn ?_
         refine tr [2] ?_
         refine rdy_call (i:=2) (rat_any A all c k2 E t2 D2 _ HI2.out (HTT.out.bel M.out.bel0)) (op:=.call _) rfl (by go_simp) ?_
         rintro e w' ⟨rfl,hb⟩
         replace M:=hH (M.out.bel hb);clear hb
         refine⟨_,rfl,?_⟩
         refine an trivial fun hS=>tn ?_
         refine tr [3] ?_
         refine rdy_call (i:=3) (rfail_any A all c k5 E t3 D5 _ (atS E t2) 8) (op:=.call _) rfl (by go_simp) ?_
         rintro e w' ⟨rfl,hb⟩
         replace M:=hH (M.out.bel hb);clear hb
         refine⟨_,rfl,?_⟩
         refine an trivial fun hS=>tn ?_
         refine tr [4] ?_
         refine rs_R (i:=4) _ _ rfl rfl rfl M.out ?_
         clear M;intro w' M
         refine an trivial fun hS=>tn ?_
         refine te ?_
         go_upto_region 16 with(fail)
         replace M:=hH M.out.drew
         refine tbh (fun w'=>Blk w' g9 _ _∧Blk w' g5 _ _∧Blk w' g10 _ _) (⟨M.out.b,M.out.b,M.out.b⟩) fun hS=>?_
         refine tk 0 rfl hS (yl_R _ _ rfl _ _ (fun _ h=>h.1) rfl) ?_
         refine tk 1 rfl hS (yl_Side _ _ rfl _ _ (fun _ h=>h.2.1) rfl) ?_
         refine tkp 2 rfl hS ?_
         refine tk 3 rfl hS (yl_Side _ _ rfl _ _ (fun _ h=>h.2.2) rfl) ?_
         refine wpAnyH_take (i:=4) (oi:=⟨_,_,_,_,_,none⟩) (v:=?_) rfl (by kernel_rfl) (by kernel_rfl) (by kernel_rfl) (fun _ _ _ h=>h) (Or.inl ⟨by rfl,?_⟩) (⟨M.out.b,M.out.b,M.out.b⟩) ?_
         rotate_left
         ·intro w hS;go_simp;with_reducible rfl
         (try simp only [Act.put,List.setIfInBounds_toArray,List.set_cons_zero,List.set_cons_succ])
         refine tr [5] ?_
         refine rs_R (i:=5) _ _ rfl rfl rfl M.out ?_
         clear M;intro w' M
         refine an ⟨M.out.b,M.out.b,M.out.b⟩ fun hS=>tn ?_
         refine tr [6] ?_
         refine rs_Expr (i:=6) _ _ rfl rfl rfl M.out ?_
         clear M;intro w' M
         refine an ⟨M.out.b,M.out.b,M.out.b⟩ fun hS=>tn ?_
         refine te ?_
         go_wp2
         rw [←HQ.out]
         refine bodyPost_ret (v:=.tuple #[rv A all.length c k5 E (failS (atS E t2) 8 t3) D5,.agg #[.int .i64 4,.slice none 0 0,.bool false,.slice none 0 0,.int .i64 o,.bool _,.int .i64 ka,.int .i64 na,.string (bs sa),.bool pa.abs,.slice A1 pa.segs.length c1,.bool _,.int .i64 kb,.int .i64 nb,.string (bs sb),.bool pb.abs,.slice A2 pb.segs.length c2]]) (res_cmp rfl rfl M.out (by repeat constructor) (by repeat constructor)) rfl ?_
         rw [HC.out]
         exact⟨max m1 m2+1,none,0,none,0,A1,c1,A2,c2,k5,D5,rfl,(hi5.fail _ _),(fun e=>absurd e (failS_ne (by decide))),exCmp (a:=⟨_,ka,na,sa,pa⟩) (b:=⟨_,kb,nb,sb,pb⟩) o M.out.now.1.2 M.out.now.2,M.out.bel0⟩
        refine rl_R (i:=1) _ rfl rfl M.out ?_ ?_
        ·skip
         refine an trivial fun hS=>tn ?_
         refine tr [0,2] ?_
         refine rl_R (i:=0) _ rfl rfl M.out ?_ ?_
         ·skip
          refine an trivial fun hS=>tn ?_
          refine tr [2] ?_
          refine rdy_call (i:=2) (rat_any A all c k2 E t2 D2 _ HI2.out (HTT.out.bel M.out.bel0)) (op:=.call _) rfl (by go_simp) ?_
          rintro e w' ⟨rfl,hb⟩
          replace M:=hH (M.out.bel hb);clear hb
          refine⟨_,rfl,?_⟩
          refine an trivial fun hS=>tn ?_
          refine tr [3] ?_
          refine rdy_call (i:=3) (rfail_any A all c k5 E t3 D5 _ (atS E t2) 8) (op:=.call _) rfl (by go_simp) ?_
          rintro e w' ⟨rfl,hb⟩
          replace M:=hH (M.out.bel hb);clear hb
          refine⟨_,rfl,?_⟩
          refine an trivial fun hS=>tn ?_
          refine tr [4] ?_
          refine rs_R (i:=4) _ _ rfl rfl rfl M.out ?_
          clear M;intro w' M
          refine an trivial fun hS=>tn ?_
          refine te ?_
          go_upto_region 16 with(fail)
          replace M:=hH M.out.drew
          refine tbh (fun w'=>Blk w' g9 _ _∧Blk w' g5 _ _∧Blk w' g10 _ _) (⟨M.out.b,M.out.b,M.out.b⟩) fun hS=>?_
          refine tk 0 rfl hS (yl_R _ _ rfl _ _ (fun _ h=>h.1) rfl) ?_
          refine tk 1 rfl hS (yl_Side _ _ rfl _ _ (fun _ h=>h.2.1) rfl) ?_
          refine tkp 2 rfl hS ?_
          refine tk 3 rfl hS (yl_Side _ _ rfl _ _ (fun _ h=>h.2.2) rfl) ?_
          refine wpAnyH_take (i:=4) (oi:=⟨_,_,_,_,_,none⟩) (v:=?_) rfl (by kernel_rfl) (by kernel_rfl) (by kernel_rfl) (fun _ _ _ h=>h) (Or.inl ⟨by rfl,?_⟩) (⟨M.out.b,M.out.b,M.out.b⟩) ?_
          rotate_left
          ·intro w hS;go_simp;with_reducible rfl
          (try simp only [Act.put,List.setIfInBounds_toArray,List.set_cons_zero,List.set_cons_succ])
          refine tr [5] ?_
          refine rs_R (i:=5) _ _ rfl rfl rfl M.out ?_
          clear M;intro w' M
          refine an ⟨M.out.b,M.out.b,M.out.b⟩ fun hS=>tn ?_
          refine tr [6] ?_
          refine rs_Expr (i:=6) _ _ rfl rfl rfl M.out ?_
          clear M;intro w' M
          refine an ⟨M.out.b,M.out.b,M.out.b⟩ fun hS=>tn ?_
          refine te ?_
          go_wp2
          rw [←HQ.out]
          refine bodyPost_ret (v:=.tuple #[rv A all.length c k5 E (failS (atS E t2) 8 t3) D5,.agg #[.int .i64 4,.slice none 0 0,.bool false,.slice none 0 0,.int .i64 o,.bool _,.int .i64 ka,.int .i64 na,.string (bs sa),.bool pa.abs,.slice A1 pa.segs.length c1,.bool _,.int .i64 kb,.int .i64 nb,.string (bs sb),.bool pb.abs,.slice A2 pb.segs.length c2]]) (res_cmp rfl rfl M.out (by repeat constructor) (by repeat constructor)) rfl ?_
          rw [HC.out]
          exact⟨max m1 m2+1,none,0,none,0,A1,c1,A2,c2,k5,D5,rfl,(hi5.fail _ _),(fun e=>absurd e (failS_ne (by decide))),exCmp (a:=⟨_,ka,na,sa,pa⟩) (b:=⟨_,kb,nb,sb,pb⟩) o M.out.now.1.2 M.out.now.2,M.out.bel0⟩
         refine rdy_call (i:=2) (rat_any A all c k2 E t2 D2 _ HI2.out (HTT.out.bel M.out.bel0)) (op:=.call _) rfl (by go_simp) ?_ ?_
         ·rintro e w' ⟨rfl,hb⟩
          replace M:=hH (M.out.bel hb);clear hb
          refine⟨_,rfl,?_⟩
          refine an trivial fun hS=>tn ?_
          refine tr [0] ?_
          refine rl_R (i:=0) _ rfl rfl M.out ?_
          skip
          refine an trivial fun hS=>tn ?_
          refine tr [3] ?_
          refine rdy_call (i:=3) (rfail_any A all c k5 E t3 D5 _ (atS E t2) 8) (op:=.call _) rfl (by go_simp) ?_
          rintro e w' ⟨rfl,hb⟩
          replace M:=hH (M.out.bel hb);clear hb
          refine⟨_,rfl,?_⟩
          refine an trivial fun hS=>tn ?_
          refine tr [4] ?_
          refine rs_R (i:=4) _ _ rfl rfl rfl M.out ?_
          clear M;intro w' M
          refine an trivial fun hS=>tn ?_
          refine te ?_
          go_upto_region 16 with(fail)
          replace M:=hH M.out.drew
          refine tbh (fun w'=>Blk w' g9 _ _∧Blk w' g5 _ _∧Blk w' g10 _ _) (⟨M.out.b,M.out.b,M.out.b⟩) fun hS=>?_
          refine tk 0 rfl hS (yl_R _ _ rfl _ _ (fun _ h=>h.1) rfl) ?_
          refine tk 1 rfl hS (yl_Side _ _ rfl _ _ (fun _ h=>h.2.1) rfl) ?_
          refine tkp 2 rfl hS ?_
          refine tk 3 rfl hS (yl_Side _ _ rfl _ _ (fun _ h=>h.2.2) rfl) ?_
          refine wpAnyH_take (i:=4) (oi:=⟨_,_,_,_,_,none⟩) (v:=?_) rfl (by kernel_rfl) (by kernel_rfl) (by kernel_rfl) (fun _ _ _ h=>h) (Or.inl ⟨by rfl,?_⟩) (⟨M.out.b,M.out.b,M.out.b⟩) ?_
          rotate_left
          ·intro w hS;go_simp;with_reducible rfl
          (try simp only [Act.put,List.setIfInBounds_toArray,List.set_cons_zero,List.set_cons_succ])
          refine tr [5] ?_
          refine rs_R (i:=5) _ _ rfl rfl rfl M.out ?_
          clear M;intro w' M
          refine an ⟨M.out.b,M.out.b,M.out.b⟩ fun hS=>tn ?_
          refine tr [6] ?_
          refine rs_Expr (i:=6) _ _ rfl rfl rfl M.out ?_
          clear M;intro w' M
          refine an ⟨M.out.b,M.out.b,M.out.b⟩ fun hS=>tn ?_
          refine te ?_
          go_wp2
          rw [←HQ.out]
          refine bodyPost_ret (v:=.tuple #[rv A all.length c k5 E (failS (atS E t2) 8 t3) D5,.agg #[.int .i64 4,.slice none 0 0,.bool false,.slice none 0 0,.int .i64 o,.bool _,.int .i64 ka,.int .i64 na,.string (bs sa),.bool pa.abs,.slice A1 pa.segs.length c1,.bool _,.int .i64 kb,.int .i64 nb,.string (bs sb),.bool pb.abs,.slice A2 pb.segs.length c2]]) (res_cmp rfl rfl M.out (by repeat constructor) (by repeat constructor)) rfl ?_
          rw [HC.out]
          exact⟨max m1 m2+1,none,0,none,0,A1,c1,A2,c2,k5,D5,rfl,(hi5.fail _ _),(fun e=>absurd e (failS_ne (by decide))),exCmp (a:=⟨_,ka,na,sa,pa⟩) (b:=⟨_,kb,nb,sb,pb⟩) o M.out.now.1.2 M.out.now.2,M.out.bel0⟩
         exact .nil
        exact .nil)
      | (
        replace M:=hH M.out.drew
        refine tbh (fun w'=>Blk w' g9 _ _∧Blk w' g5 _ _∧Blk w' g10 _ _) (⟨M.out.b,M.out.b,M.out.b⟩) fun hS=>?_
        refine tk 0 rfl hS (yl_R _ _ rfl _ _ (fun _ h=>h.1) rfl) ?_
        refine tk 1 rfl hS (yl_Side _ _ rfl _ _ (fun _ h=>h.2.1) rfl) ?_
        refine tkp 2 rfl hS ?_
        refine tk 3 rfl hS (yl_Side _ _ rfl _ _ (fun _ h=>h.2.2) rfl) ?_
        refine wpAnyH_take (i:=4) (oi:=⟨_,_,_,_,_,none⟩) (v:=?_) rfl (by kernel_rfl) (by kernel_rfl) (by kernel_rfl) (fun _ _ _ h=>h) (Or.inl ⟨by rfl,?_⟩) (⟨M.out.b,M.out.b,M.out.b⟩) ?_
        rotate_left
        ·intro w hS;go_simp;with_reducible rfl
        (try simp only [Act.put,List.setIfInBounds_toArray,List.set_cons_zero,List.set_cons_succ])
        refine tr [5] ?_
        refine rs_R (i:=5) _ _ rfl rfl rfl M.out ?_ ?_
        ·clear M;intro w' M
         refine an ⟨M.out.b,M.out.b,M.out.b⟩ fun hS=>tn ?_
         refine tr [6] ?_
         refine rs_Expr (i:=6) _ _ rfl rfl rfl M.out ?_
         clear M;intro w' M
         refine an ⟨M.out.b,M.out.b,M.out.b⟩ fun hS=>tn ?_
         refine te ?_
         go_wp2
         rw [←HQ.out]
         refine bodyPost_ret (v:=.tuple #[rv A all.length c k5 E t3 D5,.agg #[.int .i64 4,.slice none 0 0,.bool false,.slice none 0 0,.int .i64 o,.bool _,.int .i64 ka,.int .i64 na,.string (bs sa),.bool pa.abs,.slice A1 pa.segs.length c1,.bool _,.int .i64 kb,.int .i64 nb,.string (bs sb),.bool pb.abs,.slice A2 pb.segs.length c2]]) (res_cmp rfl rfl M.out (by repeat constructor) (by repeat constructor)) rfl ?_
         rw [HC.out]
         exact⟨max m1 m2+1,none,0,none,0,A1,c1,A2,c2,k5,D5,rfl,hi5,hd5,exCmp (a:=⟨_,ka,na,sa,pa⟩) (b:=⟨_,kb,nb,sb,pb⟩) o M.out.now.1.2 M.out.now.2,M.out.bel0⟩
        exact .nil)
end
end Go.Proofs.YtjbdcjcfijjiiaaGreatDoor
