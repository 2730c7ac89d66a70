/- ref17: sel, slices and filters; sel whole (printed by gen_yg.py). -/
import Derived.Test.YtjbdcjcfijjiiaaGreatDoorNOz
import Derived.Test.YtjbdcjcfijjiiaaGreatDoorNYk
import Derived.Test.YtjbdcjcfijjiiaaGreatDoorNG22
namespace Go.Proofs.YtjbdcjcfijjiiaaGreatDoor
open Go.RowKit
set_option maxRecDepth 100000
set_option maxHeartbeats 2000000
theorem isz_i :(Tryz.prog.info? 2).map (·.size)=some 1:=by kernel_rfl
theorem res_sel {X:List Nat}{w0 w:World}{L:List BlkE}{rs:List RowE}{J:World→Prop}{tmps:Array Value}{g k:Nat}{t u:TypeId}{a0 a1 a2 a3 a4 a5 b0 b1 b2 b3 b4 b5 b6 b7 b8:Value}(hp:tmps.getD 2 undef=.pointer (some ⟨g,0,none⟩))(hq:tmps.getD 3 undef=.pointer (some ⟨k,0,none⟩))(M:Own X w0 w L rs J)(hg:(g,t,#[a0,a1,a2,a3,a4,a5])∈L)(hk:(k,u,#[b0,b1,b2,b3,b4,b5,b6,b7,b8])∈L):(results Tryz.f68 tmps).run Tryz.prog w=.ok (.tuple #[.agg #[a0,a1,a2,a3,a4,a5],.agg #[b0,b1,b2,b3,b4,b5,b6,b7,b8]]) w :=
 results_2 Tryz.results68 _ g k _ _ _ _ _ _ hp hq (M.blk _ hg) (M.blk _ hk) Tryz.underlying54 rfl Tryz.underlying85 rfl 6 9 isz_R rfl isz_Sel rfl
section
variable  (A:Option Addr)(all:List TokD)(c k:Nat)(E:Int)(P:Nat→PSt→ExprT×PSt)(t:PSt)(d:Nat)(dp:Int)(w:World)
theorem rsel_slice_a (h:RIn all k t)(hT:TkR w A all)(hd:t.fe=0→dp=(d:Int))(k4:kindS t≠4)(h42:isS [42] t=false)(h63:isS [63] t=false)(k3:kindS t=3)(n1:Int)(ok:Bool)(t1:PSt)(h1:numS E t=(n1,ok,t1))(hs:isS [58] t1=true)(m1:Int)(has:Bool)(t3:PSt)(h2:numS E (nextS E t1)=(m1,has,t3))(hs2:isS [58] t3=false):Calls Tryz.prog 68 #[rv A all.length c k E t dp] w (RSelP A all c E d w (selF E P d t)):=by
 obtain⟨q,hq⟩:∃q,kindS t=q:=⟨_,rfl⟩
 have hq4:(q==4)=false:=by rw [beq_eq_false_iff_ne,←hq];exact k4
 have hq3:(q != 3)=false:=by rw [←hq,k3];rfl
 have HK:=hH (fun W (hb:Bel w.heap.size w W)=>rkind_at A all c k E t dp W q h (hT.bel hb) (hH hq))
 have HI:=hH (fun W (hb:Bel w.heap.size w W)=>ris_at A all c k E t dp W ⟨#[42]⟩ false h (hT.bel hb) (hH h42))
 have HJ:=hH (fun W (hb:Bel w.heap.size w W)=>ris_at A all c k E t dp W ⟨#[63]⟩ false h (hT.bel hb) (hH h63))
 have HN:=hH (fun W (hb:Bel w.heap.size w W)=>rnumber_any A all c k E t dp W h (hT.bel hb))
 have HD:=hH hd
 have HTT:=hH hT
 unfold RNumP at HN
 rw [h1] at HN
 have HE:=hH (show selF E P d t=(⟨3,[],0,n1,m1,1,ok,has,none⟩,t3) by unfold selF;rw [if_neg k4,ite_ff h42,ite_ff h63,decide_eq_true k3,Bool.true_or,if_pos rfl];unfold numbersS;rw [h1];simp only;rw [ite_tt hs];unfold num2S;rw [h2];simp only;rw [ite_ff hs2])
 have HF1:=hH (show t3.fe=0→t.fe=0 from fun e=>Classical.byContradiction fun hf=>by
  rw [numS_bad hf] at h1
  simp only [Prod.mk.injEq] at h1
  rw [←h1.2.2,nextS_bad hf,numS_bad hf] at h2
  simp only [Prod.mk.injEq] at h2
  rw [←h2.2.2] at e
  exact hf e)
 have HSG:=hH hs
 have HSQ:=hH (hH hs2)
 have HNS:=hH h2
 clear h hT hq k4 h42 h63 k3 hd h1 hs h2 hs2
 have M:=hH (Own.start [] w (fun _=>True) fun _ _=>trivial)
 go_enter Tryz.func68, Tryz.ntmps68
 generalize hQ:bodyPost Tryz.prog Tryz.f68 (RSelP A all c E d w (selF E P d t))=Q
 have HQ:=hH hQ;clear hQ
 go_upto_region 16 with(first|(with_reducible first|(refine bx_R (some 1) M.out ?_;clear M;intro g1 w' hg1 M)|(refine al_R (some 2) M.out ?_;clear M;intro g2 w' hg2 M)|(refine al_Sel (some 3) M.out ?_;clear M;intro g3 w' hg3 M)|refine ld_R M.out ?_|refine ld_Sel M.out ?_|refine ld_Expr M.out ?_|(refine st_R M.out ?_;clear M;intro w' M)|(refine st_Sel M.out ?_;clear M;intro w' M)|(refine st_Expr M.out ?_;clear M;intro w' M)|(refine al_R (some 6) M.out ?_;clear M;intro g6 w' hg6 M)|(refine al_R (some 9) M.out ?_;clear M;intro g9 w' hg9 M)|(refine al_Sel (some 12) M.out ?_;clear M;intro g12 w' hg12 M)|(refine al_R (some 13) M.out ?_;clear M;intro g13 w' hg13 M))|((with_reducible refine gg_R ?_);refine ldg_R rfl rfl M.out ?_)|(go_at_call 26;(with_reducible refine M.out.call (HK.out _ M.out.bel0) ?_);clear M;intro w' M)|(go_at_call 13;(with_reducible refine M.out.call (HI.out _ M.out.bel0) ?_);clear M;intro w' M)|(go_at_call 13;(with_reducible refine M.out.call (HJ.out _ M.out.bel0) ?_);clear M;intro w' M)|(go_at_call 13;(with_reducible refine M.out.call (HM2.out _ M.out.bel0) ?_);clear M;intro w' M)|(go_at_call 13;(with_reducible refine M.out.call (HM3.out _ M.out.bel0) ?_);clear M;intro w' M)|(go_at_call 88;(with_reducible refine(HN.out _ M.out.bel0).mono ?_);rintro e w' ⟨k1,rfl,hi2,hb⟩;have HM2:=hH (fun W (hb:Bel w.heap.size w W)=>ris_at A all c k1 E t1 dp W ⟨#[58]⟩ true hi2 (HTT.out.bel hb) HSG);have HX2:=hH (fun W (hb:Bel w.heap.size w W)=>rnext_any A all c k1 E t1 dp W hi2 (HTT.out.bel hb));clear hi2;replace M:=hH (M.out.bel hb);clear hb)|(go_at_call 29;(with_reducible refine(HX2.out _ M.out.bel0).mono ?_);rintro e w' ⟨k2,rfl,hi3,hb⟩;have HN3:=hH (fun W (hb:Bel w.heap.size w W)=>rnumber_any A all c k2 E (nextS E t1) dp W hi3 (HTT.out.bel hb));rw [HNS.out] at HN3;unfold RNumP at HN3;clear hi3;replace M:=hH (M.out.bel hb);clear hb)|(go_at_call 88;(with_reducible refine(HN3.out _ M.out.bel0).mono ?_);rintro e w' ⟨k3,rfl,hi4,hb⟩;have HI4:=hH hi4;have HM3:=hH (fun W (hb:Bel w.heap.size w W)=>ris_at A all c k3 E t3 dp W ⟨#[58]⟩ false hi4 (HTT.out.bel hb) HSQ.out);clear hi4;replace M:=hH (M.out.bel hb);clear hb))
 replace M:=hH M.out.drew
 refine tbh (fun w'=>Blk w' g9 _ _∧Blk w' g12 _ _) (⟨M.out.b,M.out.b⟩) fun hS=>?_
 refine tk 0 rfl hS (yl_R _ _ rfl _ _ (fun _ h=>h.1) rfl) ?_
 refine tk 1 rfl hS (yl_Sel _ _ rfl _ _ (fun _ h=>h.2) rfl) ?_
 refine tr [2] ?_
 refine rs_R (i:=2) _ _ rfl rfl rfl M.out ?_
 clear M;intro w' M
 refine an ⟨M.out.b,M.out.b⟩ fun hS=>tn ?_
 refine tr [3] ?_
 refine rs_Sel (i:=3) _ _ rfl rfl rfl M.out ?_
 clear M;intro w' M
 refine an ⟨M.out.b,M.out.b⟩ fun hS=>tn ?_
 refine te ?_
 go_wp2
 rw [←HQ.out]
 exact bodyPost_ret (v:=.tuple #[rv A all.length c k3 E t3 dp,selV ⟨3,[],0,n1,m1,1,ok,has,none⟩ (.pointer none)]) (res_sel rfl rfl M.out (by repeat constructor) (by repeat constructor)) rfl (RSelP.plain HE.out rfl HI4.out (fun e=>HD.out (HF1.out e)) M.out.bel0)
theorem rsel_slice_ac (h:RIn all k t)(hT:TkR w A all)(hd:t.fe=0→dp=(d:Int))(k4:kindS t≠4)(h42:isS [42] t=false)(h63:isS [63] t=false)(k3:kindS t=3)(n1:Int)(ok:Bool)(t1:PSt)(h1:numS E t=(n1,ok,t1))(hs:isS [58] t1=true)(m1:Int)(has:Bool)(t3:PSt)(h2:numS E (nextS E t1)=(m1,has,t3))(hs2:isS [58] t3=true)(s1:Int)(t5:PSt)(h3:numS E (nextS E t3)=(s1,false,t5)):Calls Tryz.prog 68 #[rv A all.length c k E t dp] w (RSelP A all c E d w (selF E P d t)):=by
 obtain⟨q,hq⟩:∃q,kindS t=q:=⟨_,rfl⟩
 have hq4:(q==4)=false:=by rw [beq_eq_false_iff_ne,←hq];exact k4
 have hq3:(q != 3)=false:=by rw [←hq,k3];rfl
 have HK:=hH (fun W (hb:Bel w.heap.size w W)=>rkind_at A all c k E t dp W q h (hT.bel hb) (hH hq))
 have HI:=hH (fun W (hb:Bel w.heap.size w W)=>ris_at A all c k E t dp W ⟨#[42]⟩ false h (hT.bel hb) (hH h42))
 have HJ:=hH (fun W (hb:Bel w.heap.size w W)=>ris_at A all c k E t dp W ⟨#[63]⟩ false h (hT.bel hb) (hH h63))
 have HN:=hH (fun W (hb:Bel w.heap.size w W)=>rnumber_any A all c k E t dp W h (hT.bel hb))
 have HD:=hH hd
 have HTT:=hH hT
 unfold RNumP at HN
 rw [h1] at HN
 have HE:=hH (show selF E P d t=(⟨3,[],0,n1,m1,1,ok,has,none⟩,t5) by unfold selF;rw [if_neg k4,ite_ff h42,ite_ff h63,decide_eq_true k3,Bool.true_or,if_pos rfl];unfold numbersS;rw [h1];simp only;rw [ite_tt hs];unfold num2S;rw [h2];simp only;rw [ite_tt hs2,h3];simp only;rw [if_neg (by simp)])
 have HF1:=hH (show t5.fe=0→t.fe=0 from fun e=>Classical.byContradiction fun hf=>by
  rw [numS_bad hf] at h1
  simp only [Prod.mk.injEq] at h1
  rw [←h1.2.2,nextS_bad hf,numS_bad hf] at h2
  simp only [Prod.mk.injEq] at h2
  rw [←h2.2.2,nextS_bad hf,numS_bad hf] at h3
  simp only [Prod.mk.injEq] at h3
  rw [←h3.2.2] at e
  exact hf e)
 have HSG:=hH hs
 have HSQ:=hH (hH hs2)
 have HNS:=hH h2
 have HNT:=hH h3
 clear h hT hq k4 h42 h63 k3 hd h1 hs h2 hs2 h3
 have M:=hH (Own.start [] w (fun _=>True) fun _ _=>trivial)
 go_enter Tryz.func68, Tryz.ntmps68
 generalize hQ:bodyPost Tryz.prog Tryz.f68 (RSelP A all c E d w (selF E P d t))=Q
 have HQ:=hH hQ;clear hQ
 go_upto_region 20 with(first|(with_reducible first|(refine bx_R (some 1) M.out ?_;clear M;intro g1 w' hg1 M)|(refine al_R (some 2) M.out ?_;clear M;intro g2 w' hg2 M)|(refine al_Sel (some 3) M.out ?_;clear M;intro g3 w' hg3 M)|refine ld_R M.out ?_|refine ld_Sel M.out ?_|refine ld_Expr M.out ?_|(refine st_R M.out ?_;clear M;intro w' M)|(refine st_Sel M.out ?_;clear M;intro w' M)|(refine st_Expr M.out ?_;clear M;intro w' M)|(refine al_R (some 6) M.out ?_;clear M;intro g6 w' hg6 M)|(refine al_R (some 9) M.out ?_;clear M;intro g9 w' hg9 M)|(refine al_Sel (some 12) M.out ?_;clear M;intro g12 w' hg12 M)|(refine al_R (some 13) M.out ?_;clear M;intro g13 w' hg13 M))|((with_reducible refine gg_R ?_);refine ldg_R rfl rfl M.out ?_)|(go_at_call 26;(with_reducible refine M.out.call (HK.out _ M.out.bel0) ?_);clear M;intro w' M)|(go_at_call 13;(with_reducible refine M.out.call (HI.out _ M.out.bel0) ?_);clear M;intro w' M)|(go_at_call 13;(with_reducible refine M.out.call (HJ.out _ M.out.bel0) ?_);clear M;intro w' M)|(go_at_call 13;(with_reducible refine M.out.call (HM2.out _ M.out.bel0) ?_);clear M;intro w' M)|(go_at_call 13;(with_reducible refine M.out.call (HM3.out _ M.out.bel0) ?_);clear M;intro w' M)|(go_at_call 88;(with_reducible refine(HN.out _ M.out.bel0).mono ?_);rintro e w' ⟨k1,rfl,hi2,hb⟩;have HM2:=hH (fun W (hb:Bel w.heap.size w W)=>ris_at A all c k1 E t1 dp W ⟨#[58]⟩ true hi2 (HTT.out.bel hb) HSG);have HX2:=hH (fun W (hb:Bel w.heap.size w W)=>rnext_any A all c k1 E t1 dp W hi2 (HTT.out.bel hb));clear hi2;replace M:=hH (M.out.bel hb);clear hb)|(go_at_call 29;(with_reducible refine(HX2.out _ M.out.bel0).mono ?_);rintro e w' ⟨k2,rfl,hi3,hb⟩;have HN3:=hH (fun W (hb:Bel w.heap.size w W)=>rnumber_any A all c k2 E (nextS E t1) dp W hi3 (HTT.out.bel hb));rw [HNS.out] at HN3;unfold RNumP at HN3;clear hi3;replace M:=hH (M.out.bel hb);clear hb)|(go_at_call 88;(with_reducible refine(HN3.out _ M.out.bel0).mono ?_);rintro e w' ⟨k3,rfl,hi4,hb⟩;have HI4:=hH hi4;have HM3:=hH (fun W (hb:Bel w.heap.size w W)=>ris_at A all c k3 E t3 dp W ⟨#[58]⟩ true hi4 (HTT.out.bel hb) HSQ.out);have HX4:=hH (fun W (hb:Bel w.heap.size w W)=>rnext_any A all c k3 E t3 dp W hi4 (HTT.out.bel hb));clear hi4;replace M:=hH (M.out.bel hb);clear hb)|(go_at_call 29;(with_reducible refine(HX4.out _ M.out.bel0).mono ?_);rintro e w' ⟨k4,rfl,hi5,hb⟩;have HN5:=hH (fun W (hb:Bel w.heap.size w W)=>rnumber_any A all c k4 E (nextS E t3) dp W hi5 (HTT.out.bel hb));rw [HNT.out] at HN5;unfold RNumP at HN5;clear hi5;replace M:=hH (M.out.bel hb);clear hb)|(go_at_call 88;(with_reducible refine(HN5.out _ M.out.bel0).mono ?_);rintro e w' ⟨k5,rfl,hi6,hb⟩;have HI6:=hH hi6;clear hi6;replace M:=hH (M.out.bel hb);clear hb))
 replace M:=hH M.out.drew
 refine tbh (fun w'=>Blk w' g13 _ _∧Blk w' g12 _ _) (⟨M.out.b,M.out.b⟩) fun hS=>?_
 refine tk 0 rfl hS (yl_R _ _ rfl _ _ (fun _ h=>h.1) rfl) ?_
 refine tk 1 rfl hS (yl_Sel _ _ rfl _ _ (fun _ h=>h.2) rfl) ?_
 refine tr [2] ?_
 refine rs_R (i:=2) _ _ rfl rfl rfl M.out ?_
 clear M;intro w' M
 refine an ⟨M.out.b,M.out.b⟩ fun hS=>tn ?_
 refine tr [3] ?_
 refine rs_Sel (i:=3) _ _ rfl rfl rfl M.out ?_
 clear M;intro w' M
 refine an ⟨M.out.b,M.out.b⟩ fun hS=>tn ?_
 refine te ?_
 go_wp2
 rw [←HQ.out]
 exact bodyPost_ret (v:=.tuple #[rv A all.length c k5 E t5 dp,selV ⟨3,[],0,n1,m1,1,ok,has,none⟩ (.pointer none)]) (res_sel rfl rfl M.out (by repeat constructor) (by repeat constructor)) rfl (RSelP.plain HE.out rfl HI6.out (fun e=>HD.out (HF1.out e)) M.out.bel0)
theorem rsel_slice_ad (h:RIn all k t)(hT:TkR w A all)(hd:t.fe=0→dp=(d:Int))(k4:kindS t≠4)(h42:isS [42] t=false)(h63:isS [63] t=false)(k3:kindS t=3)(n1:Int)(ok:Bool)(t1:PSt)(h1:numS E t=(n1,ok,t1))(hs:isS [58] t1=true)(m1:Int)(has:Bool)(t3:PSt)(h2:numS E (nextS E t1)=(m1,has,t3))(hs2:isS [58] t3=true)(s1:Int)(t5:PSt)(h3:numS E (nextS E t3)=(s1,true,t5)):Calls Tryz.prog 68 #[rv A all.length c k E t dp] w (RSelP A all c E d w (selF E P d t)):=by
 obtain⟨q,hq⟩:∃q,kindS t=q:=⟨_,rfl⟩
 have hq4:(q==4)=false:=by rw [beq_eq_false_iff_ne,←hq];exact k4
 have hq3:(q != 3)=false:=by rw [←hq,k3];rfl
 have HK:=hH (fun W (hb:Bel w.heap.size w W)=>rkind_at A all c k E t dp W q h (hT.bel hb) (hH hq))
 have HI:=hH (fun W (hb:Bel w.heap.size w W)=>ris_at A all c k E t dp W ⟨#[42]⟩ false h (hT.bel hb) (hH h42))
 have HJ:=hH (fun W (hb:Bel w.heap.size w W)=>ris_at A all c k E t dp W ⟨#[63]⟩ false h (hT.bel hb) (hH h63))
 have HN:=hH (fun W (hb:Bel w.heap.size w W)=>rnumber_any A all c k E t dp W h (hT.bel hb))
 have HD:=hH hd
 have HTT:=hH hT
 unfold RNumP at HN
 rw [h1] at HN
 have HE:=hH (show selF E P d t=(⟨3,[],0,n1,m1,s1,ok,has,none⟩,t5) by unfold selF;rw [if_neg k4,ite_ff h42,ite_ff h63,decide_eq_true k3,Bool.true_or,if_pos rfl];unfold numbersS;rw [h1];simp only;rw [ite_tt hs];unfold num2S;rw [h2];simp only;rw [ite_tt hs2,h3];simp only;rw [if_pos trivial])
 have HF1:=hH (show t5.fe=0→t.fe=0 from fun e=>Classical.byContradiction fun hf=>by
  rw [numS_bad hf] at h1
  simp only [Prod.mk.injEq] at h1
  rw [←h1.2.2,nextS_bad hf,numS_bad hf] at h2
  simp only [Prod.mk.injEq] at h2
  rw [←h2.2.2,nextS_bad hf,numS_bad hf] at h3
  simp only [Prod.mk.injEq] at h3
  rw [←h3.2.2] at e
  exact hf e)
 have HSG:=hH hs
 have HSQ:=hH (hH hs2)
 have HNS:=hH h2
 have HNT:=hH h3
 clear h hT hq k4 h42 h63 k3 hd h1 hs h2 hs2 h3
 have M:=hH (Own.start [] w (fun _=>True) fun _ _=>trivial)
 go_enter Tryz.func68, Tryz.ntmps68
 generalize hQ:bodyPost Tryz.prog Tryz.f68 (RSelP A all c E d w (selF E P d t))=Q
 have HQ:=hH hQ;clear hQ
 go_upto_region 20 with(first|(with_reducible first|(refine bx_R (some 1) M.out ?_;clear M;intro g1 w' hg1 M)|(refine al_R (some 2) M.out ?_;clear M;intro g2 w' hg2 M)|(refine al_Sel (some 3) M.out ?_;clear M;intro g3 w' hg3 M)|refine ld_R M.out ?_|refine ld_Sel M.out ?_|refine ld_Expr M.out ?_|(refine st_R M.out ?_;clear M;intro w' M)|(refine st_Sel M.out ?_;clear M;intro w' M)|(refine st_Expr M.out ?_;clear M;intro w' M)|(refine al_R (some 6) M.out ?_;clear M;intro g6 w' hg6 M)|(refine al_R (some 9) M.out ?_;clear M;intro g9 w' hg9 M)|(refine al_Sel (some 12) M.out ?_;clear M;intro g12 w' hg12 M)|(refine al_R (some 13) M.out ?_;clear M;intro g13 w' hg13 M))|((with_reducible refine gg_R ?_);refine ldg_R rfl rfl M.out ?_)|(go_at_call 26;(with_reducible refine M.out.call (HK.out _ M.out.bel0) ?_);clear M;intro w' M)|(go_at_call 13;(with_reducible refine M.out.call (HI.out _ M.out.bel0) ?_);clear M;intro w' M)|(go_at_call 13;(with_reducible refine M.out.call (HJ.out _ M.out.bel0) ?_);clear M;intro w' M)|(go_at_call 13;(with_reducible refine M.out.call (HM2.out _ M.out.bel0) ?_);clear M;intro w' M)|(go_at_call 13;(with_reducible refine M.out.call (HM3.out _ M.out.bel0) ?_);clear M;intro w' M)|(go_at_call 88;(with_reducible refine(HN.out _ M.out.bel0).mono ?_);rintro e w' ⟨k1,rfl,hi2,hb⟩;have HM2:=hH (fun W (hb:Bel w.heap.size w W)=>ris_at A all c k1 E t1 dp W ⟨#[58]⟩ true hi2 (HTT.out.bel hb) HSG);have HX2:=hH (fun W (hb:Bel w.heap.size w W)=>rnext_any A all c k1 E t1 dp W hi2 (HTT.out.bel hb));clear hi2;replace M:=hH (M.out.bel hb);clear hb)|(go_at_call 29;(with_reducible refine(HX2.out _ M.out.bel0).mono ?_);rintro e w' ⟨k2,rfl,hi3,hb⟩;have HN3:=hH (fun W (hb:Bel w.heap.size w W)=>rnumber_any A all c k2 E (nextS E t1) dp W hi3 (HTT.out.bel hb));rw [HNS.out] at HN3;unfold RNumP at HN3;clear hi3;replace M:=hH (M.out.bel hb);clear hb)|(go_at_call 88;(with_reducible refine(HN3.out _ M.out.bel0).mono ?_);rintro e w' ⟨k3,rfl,hi4,hb⟩;have HI4:=hH hi4;have HM3:=hH (fun W (hb:Bel w.heap.size w W)=>ris_at A all c k3 E t3 dp W ⟨#[58]⟩ true hi4 (HTT.out.bel hb) HSQ.out);have HX4:=hH (fun W (hb:Bel w.heap.size w W)=>rnext_any A all c k3 E t3 dp W hi4 (HTT.out.bel hb));clear hi4;replace M:=hH (M.out.bel hb);clear hb)|(go_at_call 29;(with_reducible refine(HX4.out _ M.out.bel0).mono ?_);rintro e w' ⟨k4,rfl,hi5,hb⟩;have HN5:=hH (fun W (hb:Bel w.heap.size w W)=>rnumber_any A all c k4 E (nextS E t3) dp W hi5 (HTT.out.bel hb));rw [HNT.out] at HN5;unfold RNumP at HN5;clear hi5;replace M:=hH (M.out.bel hb);clear hb)|(go_at_call 88;(with_reducible refine(HN5.out _ M.out.bel0).mono ?_);rintro e w' ⟨k5,rfl,hi6,hb⟩;have HI6:=hH hi6;clear hi6;replace M:=hH (M.out.bel hb);clear hb)|(refine wpList_store1_own _ _ _ rfl _ 5 rfl _ rfl rfl M.out _ _ isz_i ?_;intro w' Mn;replace M:=hH Mn;clear Mn))
 replace M:=hH M.out.drew
 refine tbh (fun w'=>Blk w' g13 _ _∧Blk w' g12 _ _) (⟨M.out.b,M.out.b⟩) fun hS=>?_
 refine tk 0 rfl hS (yl_R _ _ rfl _ _ (fun _ h=>h.1) rfl) ?_
 refine tk 1 rfl hS (yl_Sel _ _ rfl _ _ (fun _ h=>h.2) rfl) ?_
 refine tr [2] ?_
 refine rs_R (i:=2) _ _ rfl rfl rfl M.out ?_
 clear M;intro w' M
 refine an ⟨M.out.b,M.out.b⟩ fun hS=>tn ?_
 refine tr [3] ?_
 refine rs_Sel (i:=3) _ _ rfl rfl rfl M.out ?_
 clear M;intro w' M
 refine an ⟨M.out.b,M.out.b⟩ fun hS=>tn ?_
 refine te ?_
 go_wp2
 rw [←HQ.out]
 exact bodyPost_ret (v:=.tuple #[rv A all.length c k5 E t5 dp,selV ⟨3,[],0,n1,m1,s1,ok,has,none⟩ (.pointer none)]) (res_sel rfl rfl M.out (by repeat constructor) (by repeat constructor)) rfl (RSelP.plain HE.out rfl HI6.out (fun e=>HD.out (HF1.out e)) M.out.bel0)
theorem rsel_slice_b (h:RIn all k t)(hT:TkR w A all)(hd:t.fe=0→dp=(d:Int))(k4:kindS t≠4)(h42:isS [42] t=false)(h63:isS [63] t=false)(k3:kindS t≠3)(h58:isS [58] t=true)(n1:Int)(ok:Bool)(t1:PSt)(h1:numS E t=(n1,ok,t1))(hs:isS [58] t1=true)(m1:Int)(has:Bool)(t3:PSt)(h2:numS E (nextS E t1)=(m1,has,t3))(hs2:isS [58] t3=false):Calls Tryz.prog 68 #[rv A all.length c k E t dp] w (RSelP A all c E d w (selF E P d t)):=by
 obtain⟨q,hq⟩:∃q,kindS t=q:=⟨_,rfl⟩
 have hq4:(q==4)=false:=by rw [beq_eq_false_iff_ne,←hq];exact k4
 have hq3:(q != 3)=true:=by rw [bne_iff_ne,←hq];exact k3
 have HK:=hH (fun W (hb:Bel w.heap.size w W)=>rkind_at A all c k E t dp W q h (hT.bel hb) (hH hq))
 have HI:=hH (fun W (hb:Bel w.heap.size w W)=>ris_at A all c k E t dp W ⟨#[42]⟩ false h (hT.bel hb) (hH h42))
 have HJ:=hH (fun W (hb:Bel w.heap.size w W)=>ris_at A all c k E t dp W ⟨#[63]⟩ false h (hT.bel hb) (hH h63))
 have HM:=hH (fun W (hb:Bel w.heap.size w W)=>ris_at A all c k E t dp W ⟨#[58]⟩ true h (hT.bel hb) (hH h58))
 have HN:=hH (fun W (hb:Bel w.heap.size w W)=>rnumber_any A all c k E t dp W h (hT.bel hb))
 have HD:=hH hd
 have HTT:=hH hT
 unfold RNumP at HN
 rw [h1] at HN
 have HE:=hH (show selF E P d t=(⟨3,[],0,n1,m1,1,ok,has,none⟩,t3) by unfold selF;rw [if_neg k4,ite_ff h42,ite_ff h63,h58,Bool.or_true,if_pos rfl];unfold numbersS;rw [h1];simp only;rw [ite_tt hs];unfold num2S;rw [h2];simp only;rw [ite_ff hs2])
 have HF1:=hH (show t3.fe=0→t.fe=0 from fun e=>Classical.byContradiction fun hf=>by
  rw [numS_bad hf] at h1
  simp only [Prod.mk.injEq] at h1
  rw [←h1.2.2,nextS_bad hf,numS_bad hf] at h2
  simp only [Prod.mk.injEq] at h2
  rw [←h2.2.2] at e
  exact hf e)
 have HSG:=hH hs
 have HSQ:=hH (hH hs2)
 have HNS:=hH h2
 clear h hT hq k4 h42 h63 k3 hd h1 hs h2 hs2 h58
 have M:=hH (Own.start [] w (fun _=>True) fun _ _=>trivial)
 go_enter Tryz.func68, Tryz.ntmps68
 generalize hQ:bodyPost Tryz.prog Tryz.f68 (RSelP A all c E d w (selF E P d t))=Q
 have HQ:=hH hQ;clear hQ
 go_upto_region 16 with(first|(with_reducible first|(refine bx_R (some 1) M.out ?_;clear M;intro g1 w' hg1 M)|(refine al_R (some 2) M.out ?_;clear M;intro g2 w' hg2 M)|(refine al_Sel (some 3) M.out ?_;clear M;intro g3 w' hg3 M)|refine ld_R M.out ?_|refine ld_Sel M.out ?_|refine ld_Expr M.out ?_|(refine st_R M.out ?_;clear M;intro w' M)|(refine st_Sel M.out ?_;clear M;intro w' M)|(refine st_Expr M.out ?_;clear M;intro w' M)|(refine al_R (some 6) M.out ?_;clear M;intro g6 w' hg6 M)|(refine al_R (some 9) M.out ?_;clear M;intro g9 w' hg9 M)|(refine al_Sel (some 12) M.out ?_;clear M;intro g12 w' hg12 M)|(refine al_R (some 13) M.out ?_;clear M;intro g13 w' hg13 M))|((with_reducible refine gg_R ?_);refine ldg_R rfl rfl M.out ?_)|(go_at_call 26;(with_reducible refine M.out.call (HK.out _ M.out.bel0) ?_);clear M;intro w' M)|(go_at_call 13;(with_reducible refine M.out.call (HI.out _ M.out.bel0) ?_);clear M;intro w' M)|(go_at_call 13;(with_reducible refine M.out.call (HJ.out _ M.out.bel0) ?_);clear M;intro w' M)|(go_at_call 13;(with_reducible refine M.out.call (HM2.out _ M.out.bel0) ?_);clear M;intro w' M)|(go_at_call 13;(with_reducible refine M.out.call (HM3.out _ M.out.bel0) ?_);clear M;intro w' M)|(go_at_call 13;(with_reducible refine M.out.call (HM.out _ M.out.bel0) ?_);clear M;intro w' M)|(go_at_call 88;(with_reducible refine(HN.out _ M.out.bel0).mono ?_);rintro e w' ⟨k1,rfl,hi2,hb⟩;have HM2:=hH (fun W (hb:Bel w.heap.size w W)=>ris_at A all c k1 E t1 dp W ⟨#[58]⟩ true hi2 (HTT.out.bel hb) HSG);have HX2:=hH (fun W (hb:Bel w.heap.size w W)=>rnext_any A all c k1 E t1 dp W hi2 (HTT.out.bel hb));clear hi2;replace M:=hH (M.out.bel hb);clear hb)|(go_at_call 29;(with_reducible refine(HX2.out _ M.out.bel0).mono ?_);rintro e w' ⟨k2,rfl,hi3,hb⟩;have HN3:=hH (fun W (hb:Bel w.heap.size w W)=>rnumber_any A all c k2 E (nextS E t1) dp W hi3 (HTT.out.bel hb));rw [HNS.out] at HN3;unfold RNumP at HN3;clear hi3;replace M:=hH (M.out.bel hb);clear hb)|(go_at_call 88;(with_reducible refine(HN3.out _ M.out.bel0).mono ?_);rintro e w' ⟨k3,rfl,hi4,hb⟩;have HI4:=hH hi4;have HM3:=hH (fun W (hb:Bel w.heap.size w W)=>ris_at A all c k3 E t3 dp W ⟨#[58]⟩ false hi4 (HTT.out.bel hb) HSQ.out);clear hi4;replace M:=hH (M.out.bel hb);clear hb))
 replace M:=hH M.out.drew
 refine tbh (fun w'=>Blk w' g9 _ _∧Blk w' g12 _ _) (⟨M.out.b,M.out.b⟩) fun hS=>?_
 refine tk 0 rfl hS (yl_R _ _ rfl _ _ (fun _ h=>h.1) rfl) ?_
 refine tk 1 rfl hS (yl_Sel _ _ rfl _ _ (fun _ h=>h.2) rfl) ?_
 refine tr [2] ?_
 refine rs_R (i:=2) _ _ rfl rfl rfl M.out ?_
 clear M;intro w' M
 refine an ⟨M.out.b,M.out.b⟩ fun hS=>tn ?_
 refine tr [3] ?_
 refine rs_Sel (i:=3) _ _ rfl rfl rfl M.out ?_
 clear M;intro w' M
 refine an ⟨M.out.b,M.out.b⟩ fun hS=>tn ?_
 refine te ?_
 go_wp2
 rw [←HQ.out]
 exact bodyPost_ret (v:=.tuple #[rv A all.length c k3 E t3 dp,selV ⟨3,[],0,n1,m1,1,ok,has,none⟩ (.pointer none)]) (res_sel rfl rfl M.out (by repeat constructor) (by repeat constructor)) rfl (RSelP.plain HE.out rfl HI4.out (fun e=>HD.out (HF1.out e)) M.out.bel0)
theorem rsel_slice_bc (h:RIn all k t)(hT:TkR w A all)(hd:t.fe=0→dp=(d:Int))(k4:kindS t≠4)(h42:isS [42] t=false)(h63:isS [63] t=false)(k3:kindS t≠3)(h58:isS [58] t=true)(n1:Int)(ok:Bool)(t1:PSt)(h1:numS E t=(n1,ok,t1))(hs:isS [58] t1=true)(m1:Int)(has:Bool)(t3:PSt)(h2:numS E (nextS E t1)=(m1,has,t3))(hs2:isS [58] t3=true)(s1:Int)(t5:PSt)(h3:numS E (nextS E t3)=(s1,false,t5)):Calls Tryz.prog 68 #[rv A all.length c k E t dp] w (RSelP A all c E d w (selF E P d t)):=by
 obtain⟨q,hq⟩:∃q,kindS t=q:=⟨_,rfl⟩
 have hq4:(q==4)=false:=by rw [beq_eq_false_iff_ne,←hq];exact k4
 have hq3:(q != 3)=true:=by rw [bne_iff_ne,←hq];exact k3
 have HK:=hH (fun W (hb:Bel w.heap.size w W)=>rkind_at A all c k E t dp W q h (hT.bel hb) (hH hq))
 have HI:=hH (fun W (hb:Bel w.heap.size w W)=>ris_at A all c k E t dp W ⟨#[42]⟩ false h (hT.bel hb) (hH h42))
 have HJ:=hH (fun W (hb:Bel w.heap.size w W)=>ris_at A all c k E t dp W ⟨#[63]⟩ false h (hT.bel hb) (hH h63))
 have HM:=hH (fun W (hb:Bel w.heap.size w W)=>ris_at A all c k E t dp W ⟨#[58]⟩ true h (hT.bel hb) (hH h58))
 have HN:=hH (fun W (hb:Bel w.heap.size w W)=>rnumber_any A all c k E t dp W h (hT.bel hb))
 have HD:=hH hd
 have HTT:=hH hT
 unfold RNumP at HN
 rw [h1] at HN
 have HE:=hH (show selF E P d t=(⟨3,[],0,n1,m1,1,ok,has,none⟩,t5) by unfold selF;rw [if_neg k4,ite_ff h42,ite_ff h63,h58,Bool.or_true,if_pos rfl];unfold numbersS;rw [h1];simp only;rw [ite_tt hs];unfold num2S;rw [h2];simp only;rw [ite_tt hs2,h3];simp only;rw [if_neg (by simp)])
 have HF1:=hH (show t5.fe=0→t.fe=0 from fun e=>Classical.byContradiction fun hf=>by
  rw [numS_bad hf] at h1
  simp only [Prod.mk.injEq] at h1
  rw [←h1.2.2,nextS_bad hf,numS_bad hf] at h2
  simp only [Prod.mk.injEq] at h2
  rw [←h2.2.2,nextS_bad hf,numS_bad hf] at h3
  simp only [Prod.mk.injEq] at h3
  rw [←h3.2.2] at e
  exact hf e)
 have HSG:=hH hs
 have HSQ:=hH (hH hs2)
 have HNS:=hH h2
 have HNT:=hH h3
 clear h hT hq k4 h42 h63 k3 hd h1 hs h2 hs2 h58 h3
 have M:=hH (Own.start [] w (fun _=>True) fun _ _=>trivial)
 go_enter Tryz.func68, Tryz.ntmps68
 generalize hQ:bodyPost Tryz.prog Tryz.f68 (RSelP A all c E d w (selF E P d t))=Q
 have HQ:=hH hQ;clear hQ
 go_upto_region 20 with(first|(with_reducible first|(refine bx_R (some 1) M.out ?_;clear M;intro g1 w' hg1 M)|(refine al_R (some 2) M.out ?_;clear M;intro g2 w' hg2 M)|(refine al_Sel (some 3) M.out ?_;clear M;intro g3 w' hg3 M)|refine ld_R M.out ?_|refine ld_Sel M.out ?_|refine ld_Expr M.out ?_|(refine st_R M.out ?_;clear M;intro w' M)|(refine st_Sel M.out ?_;clear M;intro w' M)|(refine st_Expr M.out ?_;clear M;intro w' M)|(refine al_R (some 6) M.out ?_;clear M;intro g6 w' hg6 M)|(refine al_R (some 9) M.out ?_;clear M;intro g9 w' hg9 M)|(refine al_Sel (some 12) M.out ?_;clear M;intro g12 w' hg12 M)|(refine al_R (some 13) M.out ?_;clear M;intro g13 w' hg13 M))|((with_reducible refine gg_R ?_);refine ldg_R rfl rfl M.out ?_)|(go_at_call 26;(with_reducible refine M.out.call (HK.out _ M.out.bel0) ?_);clear M;intro w' M)|(go_at_call 13;(with_reducible refine M.out.call (HI.out _ M.out.bel0) ?_);clear M;intro w' M)|(go_at_call 13;(with_reducible refine M.out.call (HJ.out _ M.out.bel0) ?_);clear M;intro w' M)|(go_at_call 13;(with_reducible refine M.out.call (HM2.out _ M.out.bel0) ?_);clear M;intro w' M)|(go_at_call 13;(with_reducible refine M.out.call (HM3.out _ M.out.bel0) ?_);clear M;intro w' M)|(go_at_call 13;(with_reducible refine M.out.call (HM.out _ M.out.bel0) ?_);clear M;intro w' M)|(go_at_call 88;(with_reducible refine(HN.out _ M.out.bel0).mono ?_);rintro e w' ⟨k1,rfl,hi2,hb⟩;have HM2:=hH (fun W (hb:Bel w.heap.size w W)=>ris_at A all c k1 E t1 dp W ⟨#[58]⟩ true hi2 (HTT.out.bel hb) HSG);have HX2:=hH (fun W (hb:Bel w.heap.size w W)=>rnext_any A all c k1 E t1 dp W hi2 (HTT.out.bel hb));clear hi2;replace M:=hH (M.out.bel hb);clear hb)|(go_at_call 29;(with_reducible refine(HX2.out _ M.out.bel0).mono ?_);rintro e w' ⟨k2,rfl,hi3,hb⟩;have HN3:=hH (fun W (hb:Bel w.heap.size w W)=>rnumber_any A all c k2 E (nextS E t1) dp W hi3 (HTT.out.bel hb));rw [HNS.out] at HN3;unfold RNumP at HN3;clear hi3;replace M:=hH (M.out.bel hb);clear hb)|(go_at_call 88;(with_reducible refine(HN3.out _ M.out.bel0).mono ?_);rintro e w' ⟨k3,rfl,hi4,hb⟩;have HI4:=hH hi4;have HM3:=hH (fun W (hb:Bel w.heap.size w W)=>ris_at A all c k3 E t3 dp W ⟨#[58]⟩ true hi4 (HTT.out.bel hb) HSQ.out);have HX4:=hH (fun W (hb:Bel w.heap.size w W)=>rnext_any A all c k3 E t3 dp W hi4 (HTT.out.bel hb));clear hi4;replace M:=hH (M.out.bel hb);clear hb)|(go_at_call 29;(with_reducible refine(HX4.out _ M.out.bel0).mono ?_);rintro e w' ⟨k4,rfl,hi5,hb⟩;have HN5:=hH (fun W (hb:Bel w.heap.size w W)=>rnumber_any A all c k4 E (nextS E t3) dp W hi5 (HTT.out.bel hb));rw [HNT.out] at HN5;unfold RNumP at HN5;clear hi5;replace M:=hH (M.out.bel hb);clear hb)|(go_at_call 88;(with_reducible refine(HN5.out _ M.out.bel0).mono ?_);rintro e w' ⟨k5,rfl,hi6,hb⟩;have HI6:=hH hi6;clear hi6;replace M:=hH (M.out.bel hb);clear hb))
 replace M:=hH M.out.drew
 refine tbh (fun w'=>Blk w' g13 _ _∧Blk w' g12 _ _) (⟨M.out.b,M.out.b⟩) fun hS=>?_
 refine tk 0 rfl hS (yl_R _ _ rfl _ _ (fun _ h=>h.1) rfl) ?_
 refine tk 1 rfl hS (yl_Sel _ _ rfl _ _ (fun _ h=>h.2) rfl) ?_
 refine tr [2] ?_
 refine rs_R (i:=2) _ _ rfl rfl rfl M.out ?_
 clear M;intro w' M
 refine an ⟨M.out.b,M.out.b⟩ fun hS=>tn ?_
 refine tr [3] ?_
 refine rs_Sel (i:=3) _ _ rfl rfl rfl M.out ?_
 clear M;intro w' M
 refine an ⟨M.out.b,M.out.b⟩ fun hS=>tn ?_
 refine te ?_
 go_wp2
 rw [←HQ.out]
 exact bodyPost_ret (v:=.tuple #[rv A all.length c k5 E t5 dp,selV ⟨3,[],0,n1,m1,1,ok,has,none⟩ (.pointer none)]) (res_sel rfl rfl M.out (by repeat constructor) (by repeat constructor)) rfl (RSelP.plain HE.out rfl HI6.out (fun e=>HD.out (HF1.out e)) M.out.bel0)
theorem rsel_slice_bd (h:RIn all k t)(hT:TkR w A all)(hd:t.fe=0→dp=(d:Int))(k4:kindS t≠4)(h42:isS [42] t=false)(h63:isS [63] t=false)(k3:kindS t≠3)(h58:isS [58] t=true)(n1:Int)(ok:Bool)(t1:PSt)(h1:numS E t=(n1,ok,t1))(hs:isS [58] t1=true)(m1:Int)(has:Bool)(t3:PSt)(h2:numS E (nextS E t1)=(m1,has,t3))(hs2:isS [58] t3=true)(s1:Int)(t5:PSt)(h3:numS E (nextS E t3)=(s1,true,t5)):Calls Tryz.prog 68 #[rv A all.length c k E t dp] w (RSelP A all c E d w (selF E P d t)):=by
 obtain⟨q,hq⟩:∃q,kindS t=q:=⟨_,rfl⟩
 have hq4:(q==4)=false:=by rw [beq_eq_false_iff_ne,←hq];exact k4
 have hq3:(q != 3)=true:=by rw [bne_iff_ne,←hq];exact k3
 have HK:=hH (fun W (hb:Bel w.heap.size w W)=>rkind_at A all c k E t dp W q h (hT.bel hb) (hH hq))
 have HI:=hH (fun W (hb:Bel w.heap.size w W)=>ris_at A all c k E t dp W ⟨#[42]⟩ false h (hT.bel hb) (hH h42))
 have HJ:=hH (fun W (hb:Bel w.heap.size w W)=>ris_at A all c k E t dp W ⟨#[63]⟩ false h (hT.bel hb) (hH h63))
 have HM:=hH (fun W (hb:Bel w.heap.size w W)=>ris_at A all c k E t dp W ⟨#[58]⟩ true h (hT.bel hb) (hH h58))
 have HN:=hH (fun W (hb:Bel w.heap.size w W)=>rnumber_any A all c k E t dp W h (hT.bel hb))
 have HD:=hH hd
 have HTT:=hH hT
 unfold RNumP at HN
 rw [h1] at HN
 have HE:=hH (show selF E P d t=(⟨3,[],0,n1,m1,s1,ok,has,none⟩,t5) by unfold selF;rw [if_neg k4,ite_ff h42,ite_ff h63,h58,Bool.or_true,if_pos rfl];unfold numbersS;rw [h1];simp only;rw [ite_tt hs];unfold num2S;rw [h2];simp only;rw [ite_tt hs2,h3];simp only;rw [if_pos trivial])
 have HF1:=hH (show t5.fe=0→t.fe=0 from fun e=>Classical.byContradiction fun hf=>by
  rw [numS_bad hf] at h1
  simp only [Prod.mk.injEq] at h1
  rw [←h1.2.2,nextS_bad hf,numS_bad hf] at h2
  simp only [Prod.mk.injEq] at h2
  rw [←h2.2.2,nextS_bad hf,numS_bad hf] at h3
  simp only [Prod.mk.injEq] at h3
  rw [←h3.2.2] at e
  exact hf e)
 have HSG:=hH hs
 have HSQ:=hH (hH hs2)
 have HNS:=hH h2
 have HNT:=hH h3
 clear h hT hq k4 h42 h63 k3 hd h1 hs h2 hs2 h58 h3
 have M:=hH (Own.start [] w (fun _=>True) fun _ _=>trivial)
 go_enter Tryz.func68, Tryz.ntmps68
 generalize hQ:bodyPost Tryz.prog Tryz.f68 (RSelP A all c E d w (selF E P d t))=Q
 have HQ:=hH hQ;clear hQ
 go_upto_region 20 with(first|(with_reducible first|(refine bx_R (some 1) M.out ?_;clear M;intro g1 w' hg1 M)|(refine al_R (some 2) M.out ?_;clear M;intro g2 w' hg2 M)|(refine al_Sel (some 3) M.out ?_;clear M;intro g3 w' hg3 M)|refine ld_R M.out ?_|refine ld_Sel M.out ?_|refine ld_Expr M.out ?_|(refine st_R M.out ?_;clear M;intro w' M)|(refine st_Sel M.out ?_;clear M;intro w' M)|(refine st_Expr M.out ?_;clear M;intro w' M)|(refine al_R (some 6) M.out ?_;clear M;intro g6 w' hg6 M)|(refine al_R (some 9) M.out ?_;clear M;intro g9 w' hg9 M)|(refine al_Sel (some 12) M.out ?_;clear M;intro g12 w' hg12 M)|(refine al_R (some 13) M.out ?_;clear M;intro g13 w' hg13 M))|((with_reducible refine gg_R ?_);refine ldg_R rfl rfl M.out ?_)|(go_at_call 26;(with_reducible refine M.out.call (HK.out _ M.out.bel0) ?_);clear M;intro w' M)|(go_at_call 13;(with_reducible refine M.out.call (HI.out _ M.out.bel0) ?_);clear M;intro w' M)|(go_at_call 13;(with_reducible refine M.out.call (HJ.out _ M.out.bel0) ?_);clear M;intro w' M)|(go_at_call 13;(with_reducible refine M.out.call (HM2.out _ M.out.bel0) ?_);clear M;intro w' M)|(go_at_call 13;(with_reducible refine M.out.call (HM3.out _ M.out.bel0) ?_);clear M;intro w' M)|(go_at_call 13;(with_reducible refine M.out.call (HM.out _ M.out.bel0) ?_);clear M;intro w' M)|(go_at_call 88;(with_reducible refine(HN.out _ M.out.bel0).mono ?_);rintro e w' ⟨k1,rfl,hi2,hb⟩;have HM2:=hH (fun W (hb:Bel w.heap.size w W)=>ris_at A all c k1 E t1 dp W ⟨#[58]⟩ true hi2 (HTT.out.bel hb) HSG);have HX2:=hH (fun W (hb:Bel w.heap.size w W)=>rnext_any A all c k1 E t1 dp W hi2 (HTT.out.bel hb));clear hi2;replace M:=hH (M.out.bel hb);clear hb)|(go_at_call 29;(with_reducible refine(HX2.out _ M.out.bel0).mono ?_);rintro e w' ⟨k2,rfl,hi3,hb⟩;have HN3:=hH (fun W (hb:Bel w.heap.size w W)=>rnumber_any A all c k2 E (nextS E t1) dp W hi3 (HTT.out.bel hb));rw [HNS.out] at HN3;unfold RNumP at HN3;clear hi3;replace M:=hH (M.out.bel hb);clear hb)|(go_at_call 88;(with_reducible refine(HN3.out _ M.out.bel0).mono ?_);rintro e w' ⟨k3,rfl,hi4,hb⟩;have HI4:=hH hi4;have HM3:=hH (fun W (hb:Bel w.heap.size w W)=>ris_at A all c k3 E t3 dp W ⟨#[58]⟩ true hi4 (HTT.out.bel hb) HSQ.out);have HX4:=hH (fun W (hb:Bel w.heap.size w W)=>rnext_any A all c k3 E t3 dp W hi4 (HTT.out.bel hb));clear hi4;replace M:=hH (M.out.bel hb);clear hb)|(go_at_call 29;(with_reducible refine(HX4.out _ M.out.bel0).mono ?_);rintro e w' ⟨k4,rfl,hi5,hb⟩;have HN5:=hH (fun W (hb:Bel w.heap.size w W)=>rnumber_any A all c k4 E (nextS E t3) dp W hi5 (HTT.out.bel hb));rw [HNT.out] at HN5;unfold RNumP at HN5;clear hi5;replace M:=hH (M.out.bel hb);clear hb)|(go_at_call 88;(with_reducible refine(HN5.out _ M.out.bel0).mono ?_);rintro e w' ⟨k5,rfl,hi6,hb⟩;have HI6:=hH hi6;clear hi6;replace M:=hH (M.out.bel hb);clear hb)|(refine wpList_store1_own _ _ _ rfl _ 5 rfl _ rfl rfl M.out _ _ isz_i ?_;intro w' Mn;replace M:=hH Mn;clear Mn))
 replace M:=hH M.out.drew
 refine tbh (fun w'=>Blk w' g13 _ _∧Blk w' g12 _ _) (⟨M.out.b,M.out.b⟩) fun hS=>?_
 refine tk 0 rfl hS (yl_R _ _ rfl _ _ (fun _ h=>h.1) rfl) ?_
 refine tk 1 rfl hS (yl_Sel _ _ rfl _ _ (fun _ h=>h.2) rfl) ?_
 refine tr [2] ?_
 refine rs_R (i:=2) _ _ rfl rfl rfl M.out ?_
 clear M;intro w' M
 refine an ⟨M.out.b,M.out.b⟩ fun hS=>tn ?_
 refine tr [3] ?_
 refine rs_Sel (i:=3) _ _ rfl rfl rfl M.out ?_
 clear M;intro w' M
 refine an ⟨M.out.b,M.out.b⟩ fun hS=>tn ?_
 refine te ?_
 go_wp2
 rw [←HQ.out]
 exact bodyPost_ret (v:=.tuple #[rv A all.length c k5 E t5 dp,selV ⟨3,[],0,n1,m1,s1,ok,has,none⟩ (.pointer none)]) (res_sel rfl rfl M.out (by repeat constructor) (by repeat constructor)) rfl (RSelP.plain HE.out rfl HI6.out (fun e=>HD.out (HF1.out e)) M.out.bel0)
theorem SelC.own {w W:World}{m g:Nat}{T:TypeId}{x:ExprT}{cs:Array Value}(hb:Blk W g T cs)(hg:w.heap.size≤g)(hn:cs.size=17)(h:ExR (Fr w) m W cs.toList x):SelC (Fr w) (ExR (Fr w) m W) W (selL ⟨4,[],0,0,0,0,false,false,some x⟩ (.pointer (some ⟨g,0,none⟩))) ⟨4,[],0,0,0,0,false,false,some x⟩ :=
 ⟨_,rfl,g,0,cs.toList,rfl,hg,hb.lt,by simpa using hn,fun j u hu=>by rw [Nat.zero_add,hb.cell j];simpa using hu,h⟩
theorem rsel_filter (N:Nat)(hP:ROrC A all c E P N)(h:RIn all k t)(hT:TkR w A all)(hd:t.fe=0→dp=(d:Int))(hN:N≤d+1)(hdd:d≤32)(k4:kindS t≠4)(h42:isS [42] t=false)(h63:isS [63] t=true):Calls Tryz.prog 68 #[rv A all.length c k E t dp] w (RSelP A all c E d w (selF E P d t)):=by
 obtain⟨q,hq⟩:∃q,kindS t=q:=⟨_,rfl⟩
 have hq4:(q==4)=false:=by rw [beq_eq_false_iff_ne,←hq];exact k4
 have HK:=hH (fun W (hb:Bel w.heap.size w W)=>rkind_at A all c k E t dp W q h (hT.bel hb) (hH hq))
 have HI:=hH (fun W (hb:Bel w.heap.size w W)=>ris_at A all c k E t dp W ⟨#[42]⟩ false h (hT.bel hb) (hH h42))
 have HJ:=hH (fun W (hb:Bel w.heap.size w W)=>ris_at A all c k E t dp W ⟨#[63]⟩ true h (hT.bel hb) (hH h63))
 have HO:=hH (fun W (hb:Bel w.heap.size w W)=>ropen_any A all c k E t d dp W h (hT.bel hb) hd (by omega))
 have HP:=hH (fun W (hb:Bel w.heap.size w W) k D hi hD=>hP (d+1) k (openS E d t) D W hi (hT.bel hb) hD (by omega) (fun e=>openS_33 (by omega)) hN)
 have HE:=hH (show selF E P d t=(⟨4,[],0,0,0,0,false,false,some (P (d+1) (openS E d t)).1⟩,(P (d+1) (openS E d t)).2) by unfold selF;rw [if_neg k4,ite_ff h42,ite_tt h63])
 obtain⟨x,t2,hx2⟩:∃x t2,P (d+1) (openS E d t)=(x,t2):=⟨_,_,rfl⟩
 rw [HE.out]
 rw [hx2] at HP ⊢
 unfold RExP at HP
 simp only at HP ⊢
 clear h hd hx2 hP hT k4 h42 h63 hq HE
 have M:=hH (Own.start [] w (fun _=>True) fun _ _=>trivial)
 go_enter Tryz.func68, Tryz.ntmps68
 generalize hQ:bodyPost Tryz.prog Tryz.f68 (RSelP A all c E d w (⟨4,[],0,0,0,0,false,false,some x⟩,t2))=Q
 have HQ:=hH hQ;clear hQ
 go_wp2_with (first|(with_reducible first|(refine bx_R (some 1) M.out ?_;clear M;intro g1 w' hg1 M)|(refine al_R (some 2) M.out ?_;clear M;intro g2 w' hg2 M)|(refine al_Sel (some 3) M.out ?_;clear M;intro g3 w' hg3 M)|refine ld_R M.out ?_|refine ld_Sel M.out ?_|refine ld_Expr M.out ?_|(refine st_R M.out ?_;clear M;intro w' M)|(refine st_Sel M.out ?_;clear M;intro w' M)|(refine st_Expr M.out ?_;clear M;intro w' M)|(refine al_R (some 4) M.out ?_;clear M;intro g4 w' hg4 M)|(refine al_Expr (some 5) M.out ?_;clear M;intro g5 w' hg5 M))|((with_reducible refine gg_R ?_);refine ldg_R rfl rfl M.out ?_)|(go_at_call 26;(with_reducible refine M.out.call (HK.out _ M.out.bel0) ?_);clear M;intro w' M)|(go_at_call 13;(with_reducible refine M.out.call (HI.out _ M.out.bel0) ?_);clear M;intro w' M)|(go_at_call 13;(with_reducible refine M.out.call (HJ.out _ M.out.bel0) ?_);clear M;intro w' M)|(go_at_call 85;(with_reducible refine(HO.out _ M.out.bel0).mono ?_);rintro e w' ⟨k1,D,rfl,hi1,hD1,hb⟩;have HP1:=hH (fun W hb=>HP.out W hb k1 D hi1 hD1);clear hi1 hD1;replace M:=hH (M.out.bel hb);clear hb)|(go_at_call 86;(with_reducible refine(HP1.out _ M.out.bel0).mono ?_);rintro e w' ⟨m,A1,q1,A2,q2,A3,q3,A4,q4,k2,D2,rfl,hi2,hD2,hex,hb⟩;have HI2:=hH hi2;have HD2:=hH (show t2.fe=0→wrap64 (D2-1)=(d:Int) from fun e=>by rw [hD2 e,wrap_in (by omega) (by omega)];omega);have Mn:=M.out.addEx hb hex;replace M:=hH Mn;clear Mn hb hex hi2 hD2)|(go_at_call 87;(with_reducible refine M.out.call (rshut_any A all c k2 E t2 D2 _) ?_);clear M;intro w' M))
 rw [←HQ.out]
 exact bodyPost_ret (v:=.tuple #[rv A all.length c k2 E t2 (wrap64 (D2-1)),selV ⟨4,[],0,0,0,0,false,false,some x⟩ (.pointer (some ⟨g5,0,none⟩))]) (res_sel rfl rfl M.out (by repeat constructor) (by repeat constructor)) rfl (⟨m,_,k2,_,rfl,HI2.out,HD2.out,SelC.own (M.out.blk (g5,_,_) (by repeat constructor)) hg5 rfl M.out.now.2,M.out.bel0⟩)
theorem rsel_any (N:Nat)(hP:ROrC A all c E P N)(h:RIn all k t)(hT:TkR w A all)(hd:t.fe=0→dp=(d:Int))(hN:N≤d+1)(hdd:d≤33)(hf:d=33→t.fe≠0):Calls Tryz.prog 68 #[rv A all.length c k E t dp] w (RSelP A all c E d w (selF E P d t)):=by
 by_cases k4:kindS t=4
 ·exact rsel_name A all c k E P t d dp w h hT hd k4
 ·cases h42:isS [42] t with
  | true=>exact rsel_wild A all c k E P t d dp w h hT hd k4 h42
  | false =>
   cases h63:isS [63] t with
   | true=>exact rsel_filter A all c k E P t d dp w N hP h hT hd hN (is_deep h63 hdd hf) k4 h42 h63
   | false =>
    obtain⟨n1,ok,t1,h1⟩:∃n1 ok t1,numS E t=(n1,ok,t1):=⟨_,_,_,rfl⟩
    obtain⟨m1,has,t3,h2⟩:∃m1 has t3,numS E (nextS E t1)=(m1,has,t3):=⟨_,_,_,rfl⟩
    obtain⟨s1,b3,t5,h3⟩:∃s1 b3 t5,numS E (nextS E t3)=(s1,b3,t5):=⟨_,_,_,rfl⟩
    by_cases k3:kindS t=3
    ·cases hs:isS [58] t1 with
     | false=>exact rsel_index_a A all c k E P t d dp w h hT hd k4 h42 h63 k3 n1 ok t1 h1 hs
     | true =>
      cases hs2:isS [58] t3 with
      | false=>exact rsel_slice_a A all c k E P t d dp w h hT hd k4 h42 h63 k3 n1 ok t1 h1 hs m1 has t3 h2 hs2
      | true =>
       cases b3 with
       | false=>exact rsel_slice_ac A all c k E P t d dp w h hT hd k4 h42 h63 k3 n1 ok t1 h1 hs m1 has t3 h2 hs2 s1 t5 h3
       | true=>exact rsel_slice_ad A all c k E P t d dp w h hT hd k4 h42 h63 k3 n1 ok t1 h1 hs m1 has t3 h2 hs2 s1 t5 h3
    ·cases h58:isS [58] t with
     | false=>exact rsel_form A all c k E P t d dp w h hT k4 h42 h63 k3 h58
     | true =>
      cases hs:isS [58] t1 with
      | false=>exact rsel_index_b A all c k E P t d dp w h hT hd k4 h42 h63 k3 h58 n1 ok t1 h1 hs
      | true =>
       cases hs2:isS [58] t3 with
       | false=>exact rsel_slice_b A all c k E P t d dp w h hT hd k4 h42 h63 k3 h58 n1 ok t1 h1 hs m1 has t3 h2 hs2
       | true =>
        cases b3 with
        | false=>exact rsel_slice_bc A all c k E P t d dp w h hT hd k4 h42 h63 k3 h58 n1 ok t1 h1 hs m1 has t3 h2 hs2 s1 t5 h3
        | true=>exact rsel_slice_bd A all c k E P t d dp w h hT hd k4 h42 h63 k3 h58 n1 ok t1 h1 hs m1 has t3 h2 hs2 s1 t5 h3
end
end Go.Proofs.YtjbdcjcfijjiiaaGreatDoor
