/- ref17: path (printed by gen_yj.py). -/
import Derived.Test.YtjbdcjcfijjiiaaGreatDoorNOz
import Derived.Test.YtjbdcjcfijjiiaaGreatDoorNYi
namespace Go.Proofs.YtjbdcjcfijjiiaaGreatDoor
open Go.RowKit
set_option maxRecDepth 100000
set_option maxHeartbeats 2000000
theorem ownsRow_one {w:World}{base:Nat}{e:TypeId}{size n:Nat}{v:Value}{xs:List Value}(h:w.ownsRow base e size v n xs):v.oneCell'=true:=by
 rcases h.2 with⟨h,_⟩|⟨g,cap,cur,h,_⟩ <;> (rw [h];rfl)
theorem rsegsL_yes {E:Int}{P:Nat→PSt→ExprT×PSt}{d f:Nat}{t:PSt}(h:isSeg t=true):segsL E P d (f+1) t=((segF E P d t).1::(segsL E P d f (segF E P d t).2).1,(segsL E P d f (segF E P d t).2).2):=by rw [segsL,ite_tt h]
theorem rsegsL_no {E:Int}{P:Nat→PSt→ExprT×PSt}{d f:Nat}{t:PSt}(h:isSeg t=false):segsL E P d f t=([],t):=by
 cases f with
 | zero=>rfl
 | succ f=>rw [segsL,ite_ff h]
def RPathP (A:Option Addr)(all:List TokD)(c:Nat)(E:Int)(d:Nat)(w:World)(r:PathT×PSt)(e:Ending)(w':World):Prop :=
 ∃m A1 c1 k' dp',e=.returned (.tuple #[rv A all.length c k' E r.2 dp',.agg #[.bool r.1.abs,.slice A1 r.1.segs.length c1]])∧RIn all k' r.2∧(r.2.fe=0→dp'=(d:Int))∧RowG (Fr w) 2 (RSeg (Fr w) m w') w' (.slice A1 r.1.segs.length c1) r.1.segs∧Bel w.heap.size w w'
theorem res_path {X:List Nat}{w0 w:World}{L:List BlkE}{rs:List RowE}{J:World→Prop}{tmps:Array Value}{g k:Nat}{t u:TypeId}{a0 a1 a2 a3 a4 a5 b0 b1:Value}(hp:tmps.getD 2 undef=.pointer (some ⟨g,0,none⟩))(hq:tmps.getD 3 undef=.pointer (some ⟨k,0,none⟩))(M:Own X w0 w L rs J)(hg:(g,t,#[a0,a1,a2,a3,a4,a5])∈L)(hk:(k,u,#[b0,b1])∈L):(results Tryz.f15 tmps).run Tryz.prog w=.ok (.tuple #[.agg #[a0,a1,a2,a3,a4,a5],.agg #[b0,b1]]) w :=
 results_2 Tryz.results15 _ g k _ _ _ _ _ _ hp hq (M.blk _ hg) (M.blk _ hk) Tryz.underlying54 rfl Tryz.underlying37 rfl 6 2 isz_R rfl isz_Path rfl
section
variable  (A:Option Addr)(all:List TokD)(c k:Nat)(E:Int)(P:Nat→PSt→ExprT×PSt)(t:PSt)(d:Nat)(dp:Int)(w:World)
theorem seg_deep {t:PSt}{d:Nat}(hs:isSeg t=true)(hdd:d≤33)(hf:d=33→t.fe≠0):d≤32:=by
 have:∃l,isS l t=true:=by
  unfold isSeg at hs;rw [Bool.or_eq_true,Bool.or_eq_true] at hs
  rcases hs with(hs|hs)|hs
  ·exact⟨_,hs⟩
  ·exact⟨_,hs⟩
  ·exact⟨_,hs⟩
 obtain⟨l,hl⟩:=this
 exact is_deep hl hdd hf
theorem own_path {w w':World}{a b q:BlkE}{e1 e2 e3 e4:BlkE}{rs:List RowE}{J:World→Prop}(M:Own [] w w' (a::b::q::e1::e2::e3::e4::[]) rs J):Own [] w w' [e1,e2,e3,e4] rs J:=M.drop.drop.drop
theorem rpath_any (hL:LeP P)(N:Nat)(hP:ROrC A all c E P N)(h:RIn all k t)(hT:TkR w A all)(hd:t.fe=0→dp=(d:Int))(hN:N≤d+1)(hdd:d≤33)(hf:d=33→t.fe≠0):Calls Tryz.prog 15 #[rv A all.length c k E t dp] w (RPathP A all c E d w (pathF E P d t)):=by
 obtain⟨ab,hab⟩:∃ab,isS [36] t=ab:=⟨_,rfl⟩
 have HAB:=hH hab
 have HI:=hH (fun W (hb:Bel w.heap.size w W)=>ris_at A all c k E t dp W ⟨#[36]⟩ ab h (hT.bel hb) HAB)
 have HN:=hH (fun W (hb:Bel w.heap.size w W)=>rnext_any A all c k E t dp W h (hT.bel hb))
 unfold RP at HN
 have HS:=hH (fun k t dp W (hi:RIn all k t) (hb:Bel w.heap.size w W) hd hs hf=>rseg_any A all c k E P t d dp W hL N hP hi (hT.bel hb) hd hN hdd hs hf)
 have HTT:=hH hT
 have HD1:=hH (show (nextS E t).fe=0→dp=(d:Int) from fun e=>hd (nextS_fe0 e))
 have HF2:=hH (show d=33→(nextS E t).fe≠0 from fun e=>by rw [nextS_bad (hf e)];exact hf e)
 unfold pathF
 rw [hab]
 obtain⟨t2,ht2⟩:∃t2,nextS E t=t2:=⟨_,rfl⟩
 rw [ht2] at HN HD1 HF2 ⊢
 unfold RSegP at HS
 clear h hf hP hT hd hab ht2
 have M:=hH (Own.start [] w (fun _=>True) fun _ _=>trivial)
 go_enter Tryz.func15, Tryz.ntmps15
 generalize hQ:bodyPost Tryz.prog Tryz.f15 (RPathP A all c E d w (⟨ab,(segsL E P d t2.toks.length t2).1⟩,(segsL E P d t2.toks.length t2).2))=Q
 have HQ:=hH hQ;clear hQ
 go_wp2_with (first|(with_reducible first|(refine bx_R (some 1) M.out ?_;clear M;intro g1 w' hg1 M)|(refine al_R (some 2) M.out ?_;clear M;intro g2 w' hg2 M)|(refine al_Path (some 3) M.out ?_;clear M;intro g3 w' hg3 M)|(refine al_Path (some 4) M.out ?_;clear M;intro g4 w' hg4 M)|refine ld_R M.out ?_|(refine st_R M.out ?_;clear M;intro w' M)|(refine st_Path M.out ?_;clear M;intro w' M))|(go_at_call 13;(with_reducible refine M.out.call (HI.out _ M.out.bel0) ?_);clear M;intro w' M)|(go_at_call 29;(with_reducible refine(HN.out _ M.out.bel0).mono ?_);rintro e w' ⟨k2,rfl,hi2,hb⟩;have HI2:=hH hi2;clear hi2;replace M:=hH (M.out.bel hb);clear hb))
 have HR0:=hH ((M.out.rowNil 79 2).imp (J':=fun y=>Els 2 RSeg w 0 [] [] y) fun y _=>Els.nil 2 RSeg w 0 y)
 have hb1:=HI2.out.bound
 clear M HN HI
 go_loopg [5] t2.toks.length (fun gk kk wr=>∃(t':PSt) (l:List SegT) (css:List (List Value)) (m f k' j:Nat) (D:Int) (v:Value),gk=t'.toks.length∧t'.toks.length≤f∧kk=.int .i64 (j:Nat)∧l.length=j∧l.length+t'.toks.length≤4096∧Hid (RIn all k' t')∧Hid (t'.fe=0→D=(d:Int))∧Hid (Own [] w wr [(g4,37,#[.bool ab,v]),(g3,37,#[.bool false,.slice none 0 0]),(g2,54,#[.slice none 0 0,.int .i64 0,.int .i64 0,.int .i64 0,.int .i64 0,.int .i64 0]),(g1,54,#[.slice A all.length c,.int .i64 (k':Int),.int .i64 E,.int .i64 t'.fe,.int .i64 t'.fa,.int .i64 D])] [(v,79,2,l.length,css.flatten)] (fun y=>Els 2 RSeg w m css l y))∧Hid (d=33→t'.fe≠0)∧Hid ((((⟨ab,(segsL E P d t2.toks.length t2).1⟩:PathT),(segsL E P d t2.toks.length t2).2):PathT×PSt)=(⟨ab,l++(segsL E P d f t').1⟩,(segsL E P d f t').2)))
 case atStart=>exact⟨t2,[],[],0,t2.toks.length,k2,0,dp,_,rfl,Nat.le_refl _,rfl,rfl,by simp;omega,HI2,HD1,HR0,HF2,hH rfl⟩
 case round =>
  clear HR0 HF2 HI2 HD1 hb1
  obtain⟨t',l,css,m,f,k',j,D,v,hgk,hfl,rfl,hlj,hll,HIN,HDD,M,HFE,HEQ⟩:=hrel
  have HGK:=hH hgk;clear hgk
  have HLJ:=hH hlj
  have hj5:(j:Int)<5000:=by omega
  have hln:l.length≤1000000:=by omega
  cases hH91:isS [91] t' with
  | true =>
   have H91:=hH (fun W (hw:Bel w.heap.size w W)=>ris_at A all c k' E t' D W ⟨#[91]⟩ true HIN.out (HTT.out.bel hw) (hH hH91))
   have hsg:isSeg t'=true:=by unfold isSeg;rw [hH91];rfl
   have hd32:=seg_deep hsg hdd HFE.out
   have hlt:=segF_lt hL d (E:=E) hsg
   obtain⟨f',rfl⟩:∃f',f=f'+1:=⟨f-1,by omega⟩
   have HEQ:=hH (HEQ.out.trans (by rw [rsegsL_yes hsg]))
   have HS4:=hH (fun W hb=>HS.out k' t' D W HIN.out hb HDD.out hsg (fun e=>absurd e (by omega)))
   obtain⟨sg,t3,hx3⟩:∃sg t3,segF E P d t'=(sg,t3):=⟨_,_,rfl⟩
   have HX3:=hH hx3
   rw [hx3] at HEQ hlt
   simp only at HEQ hlt
   have HLT:=hH hlt
   clear hx3 hlt hsg hlj hH91
   go_wp2_with (first|(with_reducible first|(refine al_R (some 6) M.out ?_;clear M;intro g6 w' hg6 M)|(refine al_Seg (some 7) M.out ?_;clear M;intro g7 w' hg7 M)|refine ld_R M.out ?_|refine ld_Seg M.out ?_|refine ld1_segs M.out ?_|(refine st_R M.out ?_;clear M;intro w' M)|(refine st_Seg M.out ?_;clear M;intro w' M)|(refine bsl_Seg (some 38) M.out ?_;clear M;intro g38 w' hg38 M))|((with_reducible refine gg_R ?_);refine ldg_R rfl rfl M.out ?_)|((with_reducible refine gp_Seg ?_);refine ap_Seg rfl rfl M.out ?_;intro v' w' Mn;have Mn:=Mn _ (by repeat constructor);replace M:=hH Mn;clear Mn;have HVO:=hH (ownsRow_one (M.out.row _ List.mem_cons_self));skip)|(first|((with_reducible refine gs1_Segs ?_);refine st1_Segs rfl rfl rfl M.out ?_;intro w' Mn;replace M:=hH Mn;clear Mn)|((with_reducible refine gs1_Segs ?_);refine st1_Segs rfl rfl HVO.out M.out ?_;intro w' Mn;replace M:=hH Mn;clear Mn))|(go_at_call 13;(with_reducible refine M.out.call (H91.out _ M.out.bel0) ?_);clear M;intro w' M)|(go_at_call 13;(with_reducible refine M.out.call (H46.out _ M.out.bel0) ?_);clear M;intro w' M)|(go_at_call 13;(with_reducible refine M.out.call (H47.out _ M.out.bel0) ?_);clear M;intro w' M)|(go_at_call 30;(with_reducible refine(HS4.out _ M.out.bel0).mono ?_);rintro e w' ⟨mn,A1,c1,k5,D5,rfl,hi5,hd5,hrow,hb⟩;rw [HX3.out] at hi5 hd5 hrow ⊢;simp only at hi5 hd5 hrow ⊢;have Mn:=M.out.addR RSeg_ok hb (show RSeg (Fr _) mn _ [.bool sg.deep,.slice A1 sg.sels.length c1] sg from⟨_,rfl,hrow⟩);replace M:=hH Mn;clear Mn hb hrow))
   go_roundg t3.toks.length
   case measure=>have:=HGK.out;have:=HLT.out;simp;omega
   case rel=>exact⟨t3,l++[sg],css++[[.bool sg.deep,.slice A1 sg.sels.length c1]],max m mn,f',k5,j+1,D5,_,rfl,by have:=HLT.out;omega,by go_num,by simp;exact HLJ.out,by have:=HLT.out;simp;omega,hH hi5,hH hd5,hH (by
    have e1:(l++[sg]).length=l.length+1:=by simp
    have e2:(css++[[Value.bool sg.deep,.slice A1 sg.sels.length c1]]).flatten=css.flatten++[.bool sg.deep,.slice A1 sg.sels.length c1]:=by simp
    rw [e1,e2]
    exact(own_path M.out).imp fun y h=>Els.snoc RSeg_ok h.1 h.2),hH (fun e=>absurd e (by omega)),hH (by rw [HEQ.out,List.append_assoc];rfl)⟩
  | false =>
   have H91:=hH (fun W (hw:Bel w.heap.size w W)=>ris_at A all c k' E t' D W ⟨#[91]⟩ false HIN.out (HTT.out.bel hw) (hH hH91))
   cases hH46:isS [46] t' with
   | true =>
    have H46:=hH (fun W (hw:Bel w.heap.size w W)=>ris_at A all c k' E t' D W ⟨#[46]⟩ true HIN.out (HTT.out.bel hw) (hH hH46))
    have hsg:isSeg t'=true:=by unfold isSeg;rw [hH91,hH46];rfl
    have hd32:=seg_deep hsg hdd HFE.out
    have hlt:=segF_lt hL d (E:=E) hsg
    obtain⟨f',rfl⟩:∃f',f=f'+1:=⟨f-1,by omega⟩
    have HEQ:=hH (HEQ.out.trans (by rw [rsegsL_yes hsg]))
    have HS4:=hH (fun W hb=>HS.out k' t' D W HIN.out hb HDD.out hsg (fun e=>absurd e (by omega)))
    obtain⟨sg,t3,hx3⟩:∃sg t3,segF E P d t'=(sg,t3):=⟨_,_,rfl⟩
    have HX3:=hH hx3
    rw [hx3] at HEQ hlt
    simp only at HEQ hlt
    have HLT:=hH hlt
    clear hx3 hlt hsg hlj hH91 hH46
    go_wp2_with (first|(with_reducible first|(refine al_R (some 6) M.out ?_;clear M;intro g6 w' hg6 M)|(refine al_Seg (some 7) M.out ?_;clear M;intro g7 w' hg7 M)|refine ld_R M.out ?_|refine ld_Seg M.out ?_|refine ld1_segs M.out ?_|(refine st_R M.out ?_;clear M;intro w' M)|(refine st_Seg M.out ?_;clear M;intro w' M)|(refine bsl_Seg (some 38) M.out ?_;clear M;intro g38 w' hg38 M))|((with_reducible refine gg_R ?_);refine ldg_R rfl rfl M.out ?_)|((with_reducible refine gp_Seg ?_);refine ap_Seg rfl rfl M.out ?_;intro v' w' Mn;have Mn:=Mn _ (by repeat constructor);replace M:=hH Mn;clear Mn;have HVO:=hH (ownsRow_one (M.out.row _ List.mem_cons_self));skip)|(first|((with_reducible refine gs1_Segs ?_);refine st1_Segs rfl rfl rfl M.out ?_;intro w' Mn;replace M:=hH Mn;clear Mn)|((with_reducible refine gs1_Segs ?_);refine st1_Segs rfl rfl HVO.out M.out ?_;intro w' Mn;replace M:=hH Mn;clear Mn))|(go_at_call 13;(with_reducible refine M.out.call (H91.out _ M.out.bel0) ?_);clear M;intro w' M)|(go_at_call 13;(with_reducible refine M.out.call (H46.out _ M.out.bel0) ?_);clear M;intro w' M)|(go_at_call 13;(with_reducible refine M.out.call (H47.out _ M.out.bel0) ?_);clear M;intro w' M)|(go_at_call 30;(with_reducible refine(HS4.out _ M.out.bel0).mono ?_);rintro e w' ⟨mn,A1,c1,k5,D5,rfl,hi5,hd5,hrow,hb⟩;rw [HX3.out] at hi5 hd5 hrow ⊢;simp only at hi5 hd5 hrow ⊢;have Mn:=M.out.addR RSeg_ok hb (show RSeg (Fr _) mn _ [.bool sg.deep,.slice A1 sg.sels.length c1] sg from⟨_,rfl,hrow⟩);replace M:=hH Mn;clear Mn hb hrow))
    go_roundg t3.toks.length
    case measure=>have:=HGK.out;have:=HLT.out;simp;omega
    case rel=>exact⟨t3,l++[sg],css++[[.bool sg.deep,.slice A1 sg.sels.length c1]],max m mn,f',k5,j+1,D5,_,rfl,by have:=HLT.out;omega,by go_num,by simp;exact HLJ.out,by have:=HLT.out;simp;omega,hH hi5,hH hd5,hH (by
     have e1:(l++[sg]).length=l.length+1:=by simp
     have e2:(css++[[Value.bool sg.deep,.slice A1 sg.sels.length c1]]).flatten=css.flatten++[.bool sg.deep,.slice A1 sg.sels.length c1]:=by simp
     rw [e1,e2]
     exact(own_path M.out).imp fun y h=>Els.snoc RSeg_ok h.1 h.2),hH (fun e=>absurd e (by omega)),hH (by rw [HEQ.out,List.append_assoc];rfl)⟩
   | false =>
    have H46:=hH (fun W (hw:Bel w.heap.size w W)=>ris_at A all c k' E t' D W ⟨#[46]⟩ false HIN.out (HTT.out.bel hw) (hH hH46))
    cases hH47:isS [46,46] t' with
    | true =>
     have H47:=hH (fun W (hw:Bel w.heap.size w W)=>ris_at A all c k' E t' D W ⟨#[46,46]⟩ true HIN.out (HTT.out.bel hw) (hH hH47))
     have hsg:isSeg t'=true:=by unfold isSeg;rw [hH91,hH46,hH47];rfl
     have hd32:=seg_deep hsg hdd HFE.out
     have hlt:=segF_lt hL d (E:=E) hsg
     obtain⟨f',rfl⟩:∃f',f=f'+1:=⟨f-1,by omega⟩
     have HEQ:=hH (HEQ.out.trans (by rw [rsegsL_yes hsg]))
     have HS4:=hH (fun W hb=>HS.out k' t' D W HIN.out hb HDD.out hsg (fun e=>absurd e (by omega)))
     obtain⟨sg,t3,hx3⟩:∃sg t3,segF E P d t'=(sg,t3):=⟨_,_,rfl⟩
     have HX3:=hH hx3
     rw [hx3] at HEQ hlt
     simp only at HEQ hlt
     have HLT:=hH hlt
     clear hx3 hlt hsg hlj hH91 hH46 hH47
     go_wp2_with (first|(with_reducible first|(refine al_R (some 6) M.out ?_;clear M;intro g6 w' hg6 M)|(refine al_Seg (some 7) M.out ?_;clear M;intro g7 w' hg7 M)|refine ld_R M.out ?_|refine ld_Seg M.out ?_|refine ld1_segs M.out ?_|(refine st_R M.out ?_;clear M;intro w' M)|(refine st_Seg M.out ?_;clear M;intro w' M)|(refine bsl_Seg (some 38) M.out ?_;clear M;intro g38 w' hg38 M))|((with_reducible refine gg_R ?_);refine ldg_R rfl rfl M.out ?_)|((with_reducible refine gp_Seg ?_);refine ap_Seg rfl rfl M.out ?_;intro v' w' Mn;have Mn:=Mn _ (by repeat constructor);replace M:=hH Mn;clear Mn;have HVO:=hH (ownsRow_one (M.out.row _ List.mem_cons_self));skip)|(first|((with_reducible refine gs1_Segs ?_);refine st1_Segs rfl rfl rfl M.out ?_;intro w' Mn;replace M:=hH Mn;clear Mn)|((with_reducible refine gs1_Segs ?_);refine st1_Segs rfl rfl HVO.out M.out ?_;intro w' Mn;replace M:=hH Mn;clear Mn))|(go_at_call 13;(with_reducible refine M.out.call (H91.out _ M.out.bel0) ?_);clear M;intro w' M)|(go_at_call 13;(with_reducible refine M.out.call (H46.out _ M.out.bel0) ?_);clear M;intro w' M)|(go_at_call 13;(with_reducible refine M.out.call (H47.out _ M.out.bel0) ?_);clear M;intro w' M)|(go_at_call 30;(with_reducible refine(HS4.out _ M.out.bel0).mono ?_);rintro e w' ⟨mn,A1,c1,k5,D5,rfl,hi5,hd5,hrow,hb⟩;rw [HX3.out] at hi5 hd5 hrow ⊢;simp only at hi5 hd5 hrow ⊢;have Mn:=M.out.addR RSeg_ok hb (show RSeg (Fr _) mn _ [.bool sg.deep,.slice A1 sg.sels.length c1] sg from⟨_,rfl,hrow⟩);replace M:=hH Mn;clear Mn hb hrow))
     go_roundg t3.toks.length
     case measure=>have:=HGK.out;have:=HLT.out;simp;omega
     case rel=>exact⟨t3,l++[sg],css++[[.bool sg.deep,.slice A1 sg.sels.length c1]],max m mn,f',k5,j+1,D5,_,rfl,by have:=HLT.out;omega,by go_num,by simp;exact HLJ.out,by have:=HLT.out;simp;omega,hH hi5,hH hd5,hH (by
      have e1:(l++[sg]).length=l.length+1:=by simp
      have e2:(css++[[Value.bool sg.deep,.slice A1 sg.sels.length c1]]).flatten=css.flatten++[.bool sg.deep,.slice A1 sg.sels.length c1]:=by simp
      rw [e1,e2]
      exact(own_path M.out).imp fun y h=>Els.snoc RSeg_ok h.1 h.2),hH (fun e=>absurd e (by omega)),hH (by rw [HEQ.out,List.append_assoc];rfl)⟩
    | false =>
     have H47:=hH (fun W (hw:Bel w.heap.size w W)=>ris_at A all c k' E t' D W ⟨#[46,46]⟩ false HIN.out (HTT.out.bel hw) (hH hH47))
     have HE:=hH (HEQ.out.trans (by rw [rsegsL_no (show isSeg t'=false by unfold isSeg;rw [hH91,hH46,hH47];rfl),List.append_nil]))
     obtain⟨A1,c1,hv,_⟩:=M.out.now.done (M.out.row _ List.mem_cons_self)
     simp only at hv
     subst hv
     clear hH91 hH46 hH47 hlj
     go_upto_region 9 with(first|(with_reducible first|refine ld_R M.out ?_|(refine st_R M.out ?_;clear M;intro w' M))|((with_reducible refine gg_R ?_);refine ldg_R rfl rfl M.out ?_)|(go_at_call 13;(with_reducible refine M.out.call (H91.out _ M.out.bel0) ?_);clear M;intro w' M)|(go_at_call 13;(with_reducible refine M.out.call (H46.out _ M.out.bel0) ?_);clear M;intro w' M)|(go_at_call 13;(with_reducible refine M.out.call (H47.out _ M.out.bel0) ?_);clear M;intro w' M))
     replace M:=hH M.out.drew
     refine tbh (fun w'=>Blk w' g1 _ _∧Blk w' g4 _ _) (⟨M.out.b,M.out.b⟩) fun hS=>?_
     refine tk 0 rfl hS (yl_R _ _ rfl _ _ (fun _ h=>h.1) rfl) ?_
     refine tk 1 rfl hS (yl_Path _ _ rfl _ _ (fun _ h=>h.2) rfl) ?_
     refine tr [2] ?_
     refine rs_R (i:=2) _ _ rfl rfl rfl M.out ?_
     clear M;intro w' M
     refine an ⟨M.out.b,M.out.b⟩ fun hS=>tn ?_
     refine tr [3] ?_
     refine rs_Path (i:=3) _ _ rfl rfl rfl M.out ?_
     clear M;intro w' M
     refine an ⟨M.out.b,M.out.b⟩ fun hS=>tn ?_
     refine te ?_
     go_wp2
     obtain⟨A2,c2,hv,hrow⟩:=M.out.now.done (M.out.row _ List.mem_cons_self)
     cases hv
     rw [←HQ.out]
     refine bodyPost_ret (v:=.tuple #[rv A all.length c k' E t' D,.agg #[.bool ab,.slice A1 l.length c1]]) (res_path rfl rfl M.out (by repeat constructor) (by repeat constructor)) rfl ?_
     rw [HE.out]
     exact⟨m,A1,c1,k',D,rfl,HIN.out,HDD.out,hrow,M.out.bel0⟩
end
end Go.Proofs.YtjbdcjcfijjiiaaGreatDoor
