/- ref17: and, or (printed by gen_yl.py). -/
import Derived.Test.YtjbdcjcfijjiiaaGreatDoorNOz
import Derived.Test.YtjbdcjcfijjiiaaGreatDoorNYj
namespace Go.Proofs.YtjbdcjcfijjiiaaGreatDoor
open Go.RowKit
set_option maxRecDepth 100000
set_option maxHeartbeats 2000000
theorem rlistL_yes {E:Int}{sg:List UInt8}{F:PSt→ExprT×PSt}{f:Nat}{t:PSt}(h:isS sg t=true):listL E sg F (f+1) t=((F (nextS E t)).1::(listL E sg F f (F (nextS E t)).2).1,(listL E sg F f (F (nextS E t)).2).2):=by rw [listL,ite_tt h]
theorem rlistL_no {E:Int}{sg:List UInt8}{F:PSt→ExprT×PSt}{f:Nat}{t:PSt}(h:isS sg t=false):listL E sg F f t=([],t):=by
 cases f with
 | zero=>rfl
 | succ f=>rw [listL,ite_ff h]
theorem exMk {K:Nat→Prop}{m:Nat}{w:World}{A1:Option Addr}{c1:Nat}{l:List ExprT}(h:RowG K 17 (REx K m w) w (.slice A1 l.length c1) l)(k:Int):ExR K (m+1) w (exL (mkE k l) (.slice A1 l.length c1) (.slice none 0 0) (.slice none 0 0) (.slice none 0 0)) (mkE k l) :=
 ⟨_,_,_,_,rfl,h,⟨none,0,rfl,⟨Nat.le_refl _,by omega⟩,.inl rfl⟩,⟨none,0,rfl,⟨Nat.le_refl _,by omega⟩,.inl rfl⟩,⟨none,0,rfl,⟨Nat.le_refl _,by omega⟩,.inl rfl⟩⟩
def RFC (f:Nat)(A:Option Addr)(all:List TokD)(c:Nat)(E:Int)(F:PSt→ExprT×PSt)(d:Nat):Prop :=
 ∀(k:Nat) (t:PSt) (dp:Int) (w:World),RIn all k t→TkR w A all→(t.fe=0→dp=(d:Int))→(d=33→t.fe≠0)→Calls Tryz.prog f #[rv A all.length c k E t dp] w (RExP A all c E d w (F t))
theorem res_and {X:List Nat}{w0 w:World}{L:List BlkE}{rs:List RowE}{J:World→Prop}{tmps:Array Value}{g k:Nat}{t u:TypeId}{a0 a1 a2 a3 a4 a5 b0 b1 b2 b3 b4 b5 b6 b7 b8 b9 b10 b11 b12 b13 b14 b15 b16:Value}(hp:tmps.getD 2 undef=.pointer (some ⟨g,0,none⟩))(hq:tmps.getD 3 undef=.pointer (some ⟨k,0,none⟩))(M:Own X w0 w L rs J)(hg:(g,t,#[a0,a1,a2,a3,a4,a5])∈L)(hk:(k,u,#[b0,b1,b2,b3,b4,b5,b6,b7,b8,b9,b10,b11,b12,b13,b14,b15,b16])∈L):(results Tryz.f101 tmps).run Tryz.prog w=.ok (.tuple #[.agg #[a0,a1,a2,a3,a4,a5],.agg #[b0,b1,b2,b3,b4,b5,b6,b7,b8,b9,b10,b11,b12,b13,b14,b15,b16]]) w :=
 results_2 Tryz.results101 _ g k _ _ _ _ _ _ hp hq (M.blk _ hg) (M.blk _ hk) Tryz.underlying54 rfl Tryz.underlying92 rfl 6 17 isz_R rfl isz_Expr rfl
theorem res_or {X:List Nat}{w0 w:World}{L:List BlkE}{rs:List RowE}{J:World→Prop}{tmps:Array Value}{g k:Nat}{t u:TypeId}{a0 a1 a2 a3 a4 a5 b0 b1 b2 b3 b4 b5 b6 b7 b8 b9 b10 b11 b12 b13 b14 b15 b16:Value}(hp:tmps.getD 2 undef=.pointer (some ⟨g,0,none⟩))(hq:tmps.getD 3 undef=.pointer (some ⟨k,0,none⟩))(M:Own X w0 w L rs J)(hg:(g,t,#[a0,a1,a2,a3,a4,a5])∈L)(hk:(k,u,#[b0,b1,b2,b3,b4,b5,b6,b7,b8,b9,b10,b11,b12,b13,b14,b15,b16])∈L):(results Tryz.f86 tmps).run Tryz.prog w=.ok (.tuple #[.agg #[a0,a1,a2,a3,a4,a5],.agg #[b0,b1,b2,b3,b4,b5,b6,b7,b8,b9,b10,b11,b12,b13,b14,b15,b16]]) w :=
 results_2 Tryz.results86 _ g k _ _ _ _ _ _ hp hq (M.blk _ hg) (M.blk _ hk) Tryz.underlying54 rfl Tryz.underlying92 rfl 6 17 isz_R rfl isz_Expr rfl
section
variable  (A:Option Addr)(all:List TokD)(c k:Nat)(E:Int)(F:PSt→ExprT×PSt)(t:PSt)(d:Nat)(dp:Int)(w:World)
theorem rand_of (hLF:∀t,(F t).2.toks.length≤t.toks.length)(hBF:∀t,t.fe≠0→(F t).2=t)(hF:RFC 111 A all c E F d)(h:RIn all k t)(hT:TkR w A all)(hd:t.fe=0→dp=(d:Int))(hdd:d≤33)(hf:d=33→t.fe≠0):Calls Tryz.prog 101 #[rv A all.length c k E t dp] w (RExP A all c E d w (listF E [38,38] 1 F t)):=by
 have HF:=hH (fun k t dp W (hi:RIn all k t) (hb:Bel w.heap.size w W) hd hf=>hF k t dp W hi (hT.bel hb) hd hf)
 have HTT:=hH hT
 have HF0:=hH (fun W (hb:Bel w.heap.size w W)=>HF.out k t dp W h hb hd hf)
 have HF2:=hH (show d=33→(F t).2.fe≠0 from fun e=>by rw [hBF t (hf e)];exact hf e)
 have HLE:=hH hLF
 unfold listF
 obtain⟨x0,t2,hx0⟩:∃x0 t2,F t=(x0,t2):=⟨_,_,rfl⟩
 have HX0:=hH hx0
 rw [hx0] at HF2 ⊢
 simp only at HF2 ⊢
 unfold RExP at HF HF0
 clear h hf hT hd hx0 hF hLF hBF
 have M:=hH (Own.start [] w (fun _=>True) fun _ _=>trivial)
 go_enter Tryz.func101, Tryz.ntmps101
 generalize hQ:bodyPost Tryz.prog Tryz.f101 (RExP A all c E d w (joinE 1 x0 (listL E [38,38] F t2.toks.length t2).1,(listL E [38,38] F t2.toks.length t2).2))=Q
 have HQ:=hH hQ;clear hQ
 go_wp2_with (first|(with_reducible first|(refine bx_R (some 1) M.out ?_;clear M;intro g1 w' hg1 M)|(refine al_R (some 2) M.out ?_;clear M;intro g2 w' hg2 M)|(refine al_Expr (some 3) M.out ?_;clear M;intro g3 w' hg3 M)|(refine al_R (some 4) M.out ?_;clear M;intro g4 w' hg4 M)|(refine al_Expr (some 5) M.out ?_;clear M;intro g5 w' hg5 M)|refine ld_R M.out ?_|refine ld_Expr M.out ?_|(refine st_R M.out ?_;clear M;intro w' M)|(refine st_Expr M.out ?_;clear M;intro w' M)|(refine bsl_Expr (some 16) M.out ?_;clear M;intro g16 w' hg16 M))|(go_at_call 111;(with_reducible refine(HF0.out _ M.out.bel0).mono ?_);rintro e w' ⟨mn,aA1,aq1,aA2,aq2,aA3,aq3,aA4,aq4,k2,D2,rfl,hi2,hd2,hex,hb⟩;rw [HX0.out] at hi2 hd2 hex ⊢;simp only at hi2 hd2 hex ⊢;have Mn:=M.out.addR REx_ok hb (show REx (Fr _) mn _ _ x0 from hex);replace M:=hH Mn;clear Mn hb hex))
 have HR0:=hH ((M.out.rowOf 17 1 hg16 rfl (by unfold maxLen;omega)).imp (J':=fun y=>Els 17 REx w mn [(exL x0 (.slice aA1 x0.kids.length aq1) (.slice aA2 x0.q.segs.length aq2) (.slice aA3 x0.left.p.segs.length aq3) (.slice aA4 x0.right.p.segs.length aq4))] [x0] y∧ExR (Fr w) mn y (exL x0 (.slice aA1 x0.kids.length aq1) (.slice aA2 x0.q.segs.length aq2) (.slice aA3 x0.left.p.segs.length aq3) (.slice aA4 x0.right.p.segs.length aq4)) x0) fun y h=>⟨Els.one REx_ok h.2,h.2⟩)
 have hb1:=hi2.bound
 have HI2:=hH hi2
 have HD2:=hH hd2
 obtain⟨m0,hm0⟩:∃m0,mn=m0:=⟨_,rfl⟩
 rw [hm0] at HR0
 clear M hi2 hd2 HF0 hm0
 go_loopg [6,7] t2.toks.length (fun gk v kk wr=>∃(t':PSt) (l:List ExprT) (css:List (List Value)) (m f k' j:Nat) (D:Int),gk=t'.toks.length∧t'.toks.length≤f∧kk=.int .i64 (j:Nat)∧l.length=j+1∧l.length+t'.toks.length≤4097∧Hid (RIn all k' t')∧Hid (t'.fe=0→D=(d:Int))∧Hid (Own [] w wr [(g5,92,#[.int .i64 x0.kind,.slice aA1 x0.kids.length aq1,.bool x0.q.abs,.slice aA2 x0.q.segs.length aq2,.int .i64 x0.op,.bool x0.left.lit,.int .i64 x0.left.kind,.int .i64 x0.left.n,.string (bs x0.left.s),.bool x0.left.p.abs,.slice aA3 x0.left.p.segs.length aq3,.bool x0.right.lit,.int .i64 x0.right.kind,.int .i64 x0.right.n,.string (bs x0.right.s),.bool x0.right.p.abs,.slice aA4 x0.right.p.segs.length aq4]),(g4,54,#[.slice A all.length c,.int .i64 (k':Int),.int .i64 E,.int .i64 t'.fe,.int .i64 t'.fa,.int .i64 D]),(g3,92,#[.int .i64 0,.slice none 0 0,.bool false,.slice none 0 0,.int .i64 0,.bool false,.int .i64 0,.int .i64 0,.string ⟨#[]⟩,.bool false,.slice none 0 0,.bool false,.int .i64 0,.int .i64 0,.string ⟨#[]⟩,.bool false,.slice none 0 0]),(g2,54,#[.slice none 0 0,.int .i64 0,.int .i64 0,.int .i64 0,.int .i64 0,.int .i64 0]),(g1,54,#[.slice A all.length c,.int .i64 (k:Int),.int .i64 E,.int .i64 t.fe,.int .i64 t.fa,.int .i64 dp])] [(v,92,17,l.length,css.flatten)] (fun y=>Els 17 REx w m css l y∧ExR (Fr w) m0 y (exL x0 (.slice aA1 x0.kids.length aq1) (.slice aA2 x0.q.segs.length aq2) (.slice aA3 x0.left.p.segs.length aq3) (.slice aA4 x0.right.p.segs.length aq4)) x0))∧Hid (d=33→t'.fe≠0)∧Hid (∃r,l=x0::r∧((joinE 1 x0 (listL E [38,38] F t2.toks.length t2).1,(listL E [38,38] F t2.toks.length t2).2):ExprT×PSt)=(joinE 1 x0 (r++(listL E [38,38] F f t').1),(listL E [38,38] F f t').2)))
 case atStart=>exact⟨t2,[x0],[(exL x0 (.slice aA1 x0.kids.length aq1) (.slice aA2 x0.q.segs.length aq2) (.slice aA3 x0.left.p.segs.length aq3) (.slice aA4 x0.right.p.segs.length aq4))],m0,t2.toks.length,k2,0,D2,rfl,Nat.le_refl _,rfl,rfl,by simp;omega,HI2,HD2,HR0,HF2,hH ⟨[],rfl,rfl⟩⟩
 case round =>
  clear HR0 HF2 HI2 HD2 hb1
  obtain⟨t',l,css,m,f,k',j,D,hgk,hfl,rfl,hlj,hll,HIN,HDD,M,HFE,HEQ⟩:=hrel
  have HGK:=hH hgk;clear hgk
  have HLJ:=hH hlj
  have hj5:(j:Int)<5000:=by omega
  have hln:l.length≤1000000:=by omega
  cases hb:isS [38,38] t' with
  | true =>
   have hd32:=is_deep hb hdd HFE.out
   have hlt:=is_lt (E:=E) hb
   obtain⟨f',rfl⟩:∃f',f=f'+1:=⟨f-1,by omega⟩
   obtain⟨r,hlr,heq⟩:=HEQ.out
   have HLR:=hH hlr
   have HEQ:=hH (heq.trans (by rw [rlistL_yes hb]))
   clear heq hlr
   have HIS:=hH (fun W (hw:Bel w.heap.size w W)=>ris_at A all c k' E t' D W ⟨#[38,38]⟩ true HIN.out (HTT.out.bel hw) (hH hb))
   have HNX:=hH (fun W (hw:Bel w.heap.size w W)=>rnext_any A all c k' E t' D W HIN.out (HTT.out.bel hw))
   unfold RP at HNX
   have HLE2:=hH (HLE.out (nextS E t'))
   obtain⟨x,t3,hx3⟩:∃x t3,F (nextS E t')=(x,t3):=⟨_,_,rfl⟩
   have HX3:=hH hx3
   have HDN:=hH (show (nextS E t').fe=0→D=(d:Int) from fun e=>HDD.out (nextS_fe0 e))
   rw [hx3] at HEQ HLE2
   simp only at HEQ HLE2
   have HLT:=hH hlt
   clear hb hx3 hlt HLE hlj
   go_wp2_with (first|(with_reducible first|(refine al_R (some 8) M.out ?_;clear M;intro g8 w' hg8 M)|(refine al_Expr (some 9) M.out ?_;clear M;intro g9 w' hg9 M)|refine ld_R M.out ?_|refine ld_Expr M.out ?_|(refine st_R M.out ?_;clear M;intro w' M)|(refine st_Expr M.out ?_;clear M;intro w' M)|(refine bsl_Expr (some 34) M.out ?_;clear M;intro g34 w' hg34 M))|((with_reducible refine gg_R ?_);refine ldg_R rfl rfl M.out ?_)|((with_reducible refine gp_Expr ?_);refine ap_Expr rfl rfl M.out ?_;intro v' w' Mn;have Mn:=Mn _ (by repeat constructor);replace M:=hH Mn;clear Mn;skip)|(go_at_call 13;(with_reducible refine M.out.call (HIS.out _ M.out.bel0) ?_);clear M;intro w' M)|(go_at_call 29;(with_reducible refine(HNX.out _ M.out.bel0).mono ?_);rintro e w' ⟨k4,rfl,hi4,hb⟩;have HF4:=hH (fun W hb=>HF.out k4 (nextS E t') D W hi4 hb HDN.out (fun e=>absurd e (by omega)));clear hi4;replace M:=hH (M.out.bel hb);clear hb)|(go_at_call 111;(with_reducible refine(HF4.out _ M.out.bel0).mono ?_);rintro e w' ⟨mn,bA1,bq1,bA2,bq2,bA3,bq3,bA4,bq4,k5,D5,rfl,hi5,hd5,hex,hb⟩;rw [HX3.out] at hi5 hd5 hex ⊢;simp only at hi5 hd5 hex ⊢;have Mn:=M.out.addR REx_ok hb (show REx (Fr _) mn _ _ x from hex);replace M:=hH Mn;clear Mn hb hex))
   go_roundg t3.toks.length
   case measure=>have:=HGK.out;have:=HLT.out;have:=HLE2.out;simp;omega
   case rel=>exact⟨t3,l++[x],css++[(exL x (.slice bA1 x.kids.length bq1) (.slice bA2 x.q.segs.length bq2) (.slice bA3 x.left.p.segs.length bq3) (.slice bA4 x.right.p.segs.length bq4))],max m mn,f',k5,j+1,D5,rfl,by have:=HLT.out;have:=HLE2.out;omega,by go_num,by simp;exact HLJ.out,by have:=HLT.out;have:=HLE2.out;simp;omega,hH hi5,hH hd5,hH (by
     have e1:(l++[x]).length=l.length+1:=by simp
     have e2:(css++[(exL x (.slice bA1 x.kids.length bq1) (.slice bA2 x.q.segs.length bq2) (.slice bA3 x.left.p.segs.length bq3) (.slice bA4 x.right.p.segs.length bq4))]).flatten=css.flatten++(exL x (.slice bA1 x.kids.length bq1) (.slice bA2 x.q.segs.length bq2) (.slice bA3 x.left.p.segs.length bq3) (.slice bA4 x.right.p.segs.length bq4)):=by simp
     rw [e1,e2]
     exact M.out.drop.drop.drop.imp fun y h=>⟨Els.snoc REx_ok h.1.1 h.2,h.1.2⟩),hH (fun e=>absurd e (by omega)),hH ⟨r++[x],by rw [HLR.out];rfl,by rw [HEQ.out,List.append_assoc];rfl⟩⟩
  | false =>
   have HIS:=hH (fun W (hw:Bel w.heap.size w W)=>ris_at A all c k' E t' D W ⟨#[38,38]⟩ false HIN.out (HTT.out.bel hw) (hH hb))
   obtain⟨r,hlr,heq⟩:=HEQ.out
   have HE:=hH (heq.trans (by rw [rlistL_no hb,List.append_nil]))
   obtain⟨A1,c1,hv,_⟩:=M.out.now.1.done (M.out.row _ List.mem_cons_self)
   simp only at hv
   subst hv
   clear hb heq
   by_cases hr:r=[]
   ·have HE:=hH (HE.out.trans (show (joinE 1 x0 r,t')=(x0,t') by rw [hr];rfl))
    have hl1:((l.length:Int)==1)=true:=by rw [hlr,hr];rfl
    clear hlj hlr hr
    go_upto_region 10 with(first|(with_reducible refine ld_R M.out ?_)|((with_reducible refine gg_R ?_);refine ldg_R rfl rfl M.out ?_)|(go_at_call 13;(with_reducible refine M.out.call (HIS.out _ M.out.bel0) ?_);clear M;intro w' M))
    replace M:=hH M.out.drew
    refine tbh (fun w'=>Blk w' g4 _ _∧Blk w' g5 _ _) (⟨M.out.b,M.out.b⟩) fun hS=>?_
    refine tk 0 rfl hS (yl_R _ _ rfl _ _ (fun _ h=>h.1) rfl) ?_
    refine tk 1 rfl hS (yl_Expr _ _ rfl _ _ (fun _ h=>h.2) rfl) ?_
    refine tr [2] ?_
    refine rs_R (i:=2) _ _ rfl rfl rfl M.out ?_
    clear M;intro w' M
    refine an ⟨M.out.b,M.out.b⟩ fun hS=>tn ?_
    refine tr [3] ?_
    refine rs_Expr (i:=3) _ _ rfl rfl rfl M.out ?_
    clear M;intro w' M
    refine an ⟨M.out.b,M.out.b⟩ fun hS=>tn ?_
    refine te ?_
    go_wp2
    rw [←HQ.out]
    refine bodyPost_ret (v:=.tuple #[rv A all.length c k' E t' D,.agg #[.int .i64 x0.kind,.slice aA1 x0.kids.length aq1,.bool x0.q.abs,.slice aA2 x0.q.segs.length aq2,.int .i64 x0.op,.bool x0.left.lit,.int .i64 x0.left.kind,.int .i64 x0.left.n,.string (bs x0.left.s),.bool x0.left.p.abs,.slice aA3 x0.left.p.segs.length aq3,.bool x0.right.lit,.int .i64 x0.right.kind,.int .i64 x0.right.n,.string (bs x0.right.s),.bool x0.right.p.abs,.slice aA4 x0.right.p.segs.length aq4]]) (res_and rfl rfl M.out (by repeat constructor) (by repeat constructor)) rfl ?_
    rw [HE.out]
    exact⟨_,aA1,aq1,aA2,aq2,aA3,aq3,aA4,aq4,k',D,rfl,HIN.out,HDD.out,(M.out.now.2:ExR (Fr w) m0 _ _ _),M.out.bel0⟩
   ·have HE:=hH (HE.out.trans (show (joinE 1 x0 r,t')=(mkE 1 l,t') by unfold joinE;rw [if_neg hr,hlr]))
    have hl1:((l.length:Int)==1)=false:=by
     rw [beq_eq_false_iff_ne,hlr]
     cases r with
     | nil=>exact absurd rfl hr
     | cons y r=>simp;omega
    clear hlj hlr hr
    go_wp2_with (first|(with_reducible first|refine ld_R M.out ?_|(refine st_R M.out ?_;clear M;intro w' M)|(refine st_Expr M.out ?_;clear M;intro w' M))|((with_reducible refine gg_R ?_);refine ldg_R rfl rfl M.out ?_)|(go_at_call 13;(with_reducible refine M.out.call (HIS.out _ M.out.bel0) ?_);clear M;intro w' M))
    obtain⟨A2,c2,hv,hrow⟩:=M.out.now.1.done (M.out.row _ List.mem_cons_self)
    cases hv
    rw [←HQ.out]
    refine bodyPost_ret (v:=.tuple #[rv A all.length c k' E t' D,.agg #[.int .i64 1,.slice A1 l.length c1,.bool false,.slice none 0 0,.int .i64 0,.bool false,.int .i64 0,.int .i64 0,.string ⟨#[]⟩,.bool false,.slice none 0 0,.bool false,.int .i64 0,.int .i64 0,.string ⟨#[]⟩,.bool false,.slice none 0 0]]) (res_and rfl rfl M.out (by repeat constructor) (by repeat constructor)) rfl ?_
    rw [HE.out]
    exact⟨m+1,A1,c1,none,0,none,0,none,0,k',D,rfl,HIN.out,HDD.out,exMk hrow 1,M.out.bel0⟩
theorem ror_of (hLF:∀t,(F t).2.toks.length≤t.toks.length)(hBF:∀t,t.fe≠0→(F t).2=t)(hF:RFC 101 A all c E F d)(h:RIn all k t)(hT:TkR w A all)(hd:t.fe=0→dp=(d:Int))(hdd:d≤33)(hf:d=33→t.fe≠0):Calls Tryz.prog 86 #[rv A all.length c k E t dp] w (RExP A all c E d w (listF E [124,124] 0 F t)):=by
 have HF:=hH (fun k t dp W (hi:RIn all k t) (hb:Bel w.heap.size w W) hd hf=>hF k t dp W hi (hT.bel hb) hd hf)
 have HTT:=hH hT
 have HF0:=hH (fun W (hb:Bel w.heap.size w W)=>HF.out k t dp W h hb hd hf)
 have HF2:=hH (show d=33→(F t).2.fe≠0 from fun e=>by rw [hBF t (hf e)];exact hf e)
 have HLE:=hH hLF
 unfold listF
 obtain⟨x0,t2,hx0⟩:∃x0 t2,F t=(x0,t2):=⟨_,_,rfl⟩
 have HX0:=hH hx0
 rw [hx0] at HF2 ⊢
 simp only at HF2 ⊢
 unfold RExP at HF HF0
 clear h hf hT hd hx0 hF hLF hBF
 have M:=hH (Own.start [] w (fun _=>True) fun _ _=>trivial)
 go_enter Tryz.func86, Tryz.ntmps86
 generalize hQ:bodyPost Tryz.prog Tryz.f86 (RExP A all c E d w (joinE 0 x0 (listL E [124,124] F t2.toks.length t2).1,(listL E [124,124] F t2.toks.length t2).2))=Q
 have HQ:=hH hQ;clear hQ
 go_wp2_with (first|(with_reducible first|(refine bx_R (some 1) M.out ?_;clear M;intro g1 w' hg1 M)|(refine al_R (some 2) M.out ?_;clear M;intro g2 w' hg2 M)|(refine al_Expr (some 3) M.out ?_;clear M;intro g3 w' hg3 M)|(refine al_R (some 4) M.out ?_;clear M;intro g4 w' hg4 M)|(refine al_Expr (some 5) M.out ?_;clear M;intro g5 w' hg5 M)|refine ld_R M.out ?_|refine ld_Expr M.out ?_|(refine st_R M.out ?_;clear M;intro w' M)|(refine st_Expr M.out ?_;clear M;intro w' M)|(refine bsl_Expr (some 16) M.out ?_;clear M;intro g16 w' hg16 M))|(go_at_call 101;(with_reducible refine(HF0.out _ M.out.bel0).mono ?_);rintro e w' ⟨mn,aA1,aq1,aA2,aq2,aA3,aq3,aA4,aq4,k2,D2,rfl,hi2,hd2,hex,hb⟩;rw [HX0.out] at hi2 hd2 hex ⊢;simp only at hi2 hd2 hex ⊢;have Mn:=M.out.addR REx_ok hb (show REx (Fr _) mn _ _ x0 from hex);replace M:=hH Mn;clear Mn hb hex))
 have HR0:=hH ((M.out.rowOf 17 1 hg16 rfl (by unfold maxLen;omega)).imp (J':=fun y=>Els 17 REx w mn [(exL x0 (.slice aA1 x0.kids.length aq1) (.slice aA2 x0.q.segs.length aq2) (.slice aA3 x0.left.p.segs.length aq3) (.slice aA4 x0.right.p.segs.length aq4))] [x0] y∧ExR (Fr w) mn y (exL x0 (.slice aA1 x0.kids.length aq1) (.slice aA2 x0.q.segs.length aq2) (.slice aA3 x0.left.p.segs.length aq3) (.slice aA4 x0.right.p.segs.length aq4)) x0) fun y h=>⟨Els.one REx_ok h.2,h.2⟩)
 have hb1:=hi2.bound
 have HI2:=hH hi2
 have HD2:=hH hd2
 obtain⟨m0,hm0⟩:∃m0,mn=m0:=⟨_,rfl⟩
 rw [hm0] at HR0
 clear M hi2 hd2 HF0 hm0
 go_loopg [6,7] t2.toks.length (fun gk v kk wr=>∃(t':PSt) (l:List ExprT) (css:List (List Value)) (m f k' j:Nat) (D:Int),gk=t'.toks.length∧t'.toks.length≤f∧kk=.int .i64 (j:Nat)∧l.length=j+1∧l.length+t'.toks.length≤4097∧Hid (RIn all k' t')∧Hid (t'.fe=0→D=(d:Int))∧Hid (Own [] w wr [(g5,92,#[.int .i64 x0.kind,.slice aA1 x0.kids.length aq1,.bool x0.q.abs,.slice aA2 x0.q.segs.length aq2,.int .i64 x0.op,.bool x0.left.lit,.int .i64 x0.left.kind,.int .i64 x0.left.n,.string (bs x0.left.s),.bool x0.left.p.abs,.slice aA3 x0.left.p.segs.length aq3,.bool x0.right.lit,.int .i64 x0.right.kind,.int .i64 x0.right.n,.string (bs x0.right.s),.bool x0.right.p.abs,.slice aA4 x0.right.p.segs.length aq4]),(g4,54,#[.slice A all.length c,.int .i64 (k':Int),.int .i64 E,.int .i64 t'.fe,.int .i64 t'.fa,.int .i64 D]),(g3,92,#[.int .i64 0,.slice none 0 0,.bool false,.slice none 0 0,.int .i64 0,.bool false,.int .i64 0,.int .i64 0,.string ⟨#[]⟩,.bool false,.slice none 0 0,.bool false,.int .i64 0,.int .i64 0,.string ⟨#[]⟩,.bool false,.slice none 0 0]),(g2,54,#[.slice none 0 0,.int .i64 0,.int .i64 0,.int .i64 0,.int .i64 0,.int .i64 0]),(g1,54,#[.slice A all.length c,.int .i64 (k:Int),.int .i64 E,.int .i64 t.fe,.int .i64 t.fa,.int .i64 dp])] [(v,92,17,l.length,css.flatten)] (fun y=>Els 17 REx w m css l y∧ExR (Fr w) m0 y (exL x0 (.slice aA1 x0.kids.length aq1) (.slice aA2 x0.q.segs.length aq2) (.slice aA3 x0.left.p.segs.length aq3) (.slice aA4 x0.right.p.segs.length aq4)) x0))∧Hid (d=33→t'.fe≠0)∧Hid (∃r,l=x0::r∧((joinE 0 x0 (listL E [124,124] F t2.toks.length t2).1,(listL E [124,124] F t2.toks.length t2).2):ExprT×PSt)=(joinE 0 x0 (r++(listL E [124,124] F f t').1),(listL E [124,124] F f t').2)))
 case atStart=>exact⟨t2,[x0],[(exL x0 (.slice aA1 x0.kids.length aq1) (.slice aA2 x0.q.segs.length aq2) (.slice aA3 x0.left.p.segs.length aq3) (.slice aA4 x0.right.p.segs.length aq4))],m0,t2.toks.length,k2,0,D2,rfl,Nat.le_refl _,rfl,rfl,by simp;omega,HI2,HD2,HR0,HF2,hH ⟨[],rfl,rfl⟩⟩
 case round =>
  clear HR0 HF2 HI2 HD2 hb1
  obtain⟨t',l,css,m,f,k',j,D,hgk,hfl,rfl,hlj,hll,HIN,HDD,M,HFE,HEQ⟩:=hrel
  have HGK:=hH hgk;clear hgk
  have HLJ:=hH hlj
  have hj5:(j:Int)<5000:=by omega
  have hln:l.length≤1000000:=by omega
  cases hb:isS [124,124] t' with
  | true =>
   have hd32:=is_deep hb hdd HFE.out
   have hlt:=is_lt (E:=E) hb
   obtain⟨f',rfl⟩:∃f',f=f'+1:=⟨f-1,by omega⟩
   obtain⟨r,hlr,heq⟩:=HEQ.out
   have HLR:=hH hlr
   have HEQ:=hH (heq.trans (by rw [rlistL_yes hb]))
   clear heq hlr
   have HIS:=hH (fun W (hw:Bel w.heap.size w W)=>ris_at A all c k' E t' D W ⟨#[124,124]⟩ true HIN.out (HTT.out.bel hw) (hH hb))
   have HNX:=hH (fun W (hw:Bel w.heap.size w W)=>rnext_any A all c k' E t' D W HIN.out (HTT.out.bel hw))
   unfold RP at HNX
   have HLE2:=hH (HLE.out (nextS E t'))
   obtain⟨x,t3,hx3⟩:∃x t3,F (nextS E t')=(x,t3):=⟨_,_,rfl⟩
   have HX3:=hH hx3
   have HDN:=hH (show (nextS E t').fe=0→D=(d:Int) from fun e=>HDD.out (nextS_fe0 e))
   rw [hx3] at HEQ HLE2
   simp only at HEQ HLE2
   have HLT:=hH hlt
   clear hb hx3 hlt HLE hlj
   go_wp2_with (first|(with_reducible first|(refine al_R (some 8) M.out ?_;clear M;intro g8 w' hg8 M)|(refine al_Expr (some 9) M.out ?_;clear M;intro g9 w' hg9 M)|refine ld_R M.out ?_|refine ld_Expr M.out ?_|(refine st_R M.out ?_;clear M;intro w' M)|(refine st_Expr M.out ?_;clear M;intro w' M)|(refine bsl_Expr (some 34) M.out ?_;clear M;intro g34 w' hg34 M))|((with_reducible refine gg_R ?_);refine ldg_R rfl rfl M.out ?_)|((with_reducible refine gp_Expr ?_);refine ap_Expr rfl rfl M.out ?_;intro v' w' Mn;have Mn:=Mn _ (by repeat constructor);replace M:=hH Mn;clear Mn;skip)|(go_at_call 13;(with_reducible refine M.out.call (HIS.out _ M.out.bel0) ?_);clear M;intro w' M)|(go_at_call 29;(with_reducible refine(HNX.out _ M.out.bel0).mono ?_);rintro e w' ⟨k4,rfl,hi4,hb⟩;have HF4:=hH (fun W hb=>HF.out k4 (nextS E t') D W hi4 hb HDN.out (fun e=>absurd e (by omega)));clear hi4;replace M:=hH (M.out.bel hb);clear hb)|(go_at_call 101;(with_reducible refine(HF4.out _ M.out.bel0).mono ?_);rintro e w' ⟨mn,bA1,bq1,bA2,bq2,bA3,bq3,bA4,bq4,k5,D5,rfl,hi5,hd5,hex,hb⟩;rw [HX3.out] at hi5 hd5 hex ⊢;simp only at hi5 hd5 hex ⊢;have Mn:=M.out.addR REx_ok hb (show REx (Fr _) mn _ _ x from hex);replace M:=hH Mn;clear Mn hb hex))
   go_roundg t3.toks.length
   case measure=>have:=HGK.out;have:=HLT.out;have:=HLE2.out;simp;omega
   case rel=>exact⟨t3,l++[x],css++[(exL x (.slice bA1 x.kids.length bq1) (.slice bA2 x.q.segs.length bq2) (.slice bA3 x.left.p.segs.length bq3) (.slice bA4 x.right.p.segs.length bq4))],max m mn,f',k5,j+1,D5,rfl,by have:=HLT.out;have:=HLE2.out;omega,by go_num,by simp;exact HLJ.out,by have:=HLT.out;have:=HLE2.out;simp;omega,hH hi5,hH hd5,hH (by
     have e1:(l++[x]).length=l.length+1:=by simp
     have e2:(css++[(exL x (.slice bA1 x.kids.length bq1) (.slice bA2 x.q.segs.length bq2) (.slice bA3 x.left.p.segs.length bq3) (.slice bA4 x.right.p.segs.length bq4))]).flatten=css.flatten++(exL x (.slice bA1 x.kids.length bq1) (.slice bA2 x.q.segs.length bq2) (.slice bA3 x.left.p.segs.length bq3) (.slice bA4 x.right.p.segs.length bq4)):=by simp
     rw [e1,e2]
     exact M.out.drop.drop.drop.imp fun y h=>⟨Els.snoc REx_ok h.1.1 h.2,h.1.2⟩),hH (fun e=>absurd e (by omega)),hH ⟨r++[x],by rw [HLR.out];rfl,by rw [HEQ.out,List.append_assoc];rfl⟩⟩
  | false =>
   have HIS:=hH (fun W (hw:Bel w.heap.size w W)=>ris_at A all c k' E t' D W ⟨#[124,124]⟩ false HIN.out (HTT.out.bel hw) (hH hb))
   obtain⟨r,hlr,heq⟩:=HEQ.out
   have HE:=hH (heq.trans (by rw [rlistL_no hb,List.append_nil]))
   obtain⟨A1,c1,hv,_⟩:=M.out.now.1.done (M.out.row _ List.mem_cons_self)
   simp only at hv
   subst hv
   clear hb heq
   by_cases hr:r=[]
   ·have HE:=hH (HE.out.trans (show (joinE 0 x0 r,t')=(x0,t') by rw [hr];rfl))
    have hl1:((l.length:Int)==1)=true:=by rw [hlr,hr];rfl
    clear hlj hlr hr
    go_upto_region 10 with(first|(with_reducible refine ld_R M.out ?_)|((with_reducible refine gg_R ?_);refine ldg_R rfl rfl M.out ?_)|(go_at_call 13;(with_reducible refine M.out.call (HIS.out _ M.out.bel0) ?_);clear M;intro w' M))
    replace M:=hH M.out.drew
    refine tbh (fun w'=>Blk w' g4 _ _∧Blk w' g5 _ _) (⟨M.out.b,M.out.b⟩) fun hS=>?_
    refine tk 0 rfl hS (yl_R _ _ rfl _ _ (fun _ h=>h.1) rfl) ?_
    refine tk 1 rfl hS (yl_Expr _ _ rfl _ _ (fun _ h=>h.2) rfl) ?_
    refine tr [2] ?_
    refine rs_R (i:=2) _ _ rfl rfl rfl M.out ?_
    clear M;intro w' M
    refine an ⟨M.out.b,M.out.b⟩ fun hS=>tn ?_
    refine tr [3] ?_
    refine rs_Expr (i:=3) _ _ rfl rfl rfl M.out ?_
    clear M;intro w' M
    refine an ⟨M.out.b,M.out.b⟩ fun hS=>tn ?_
    refine te ?_
    go_wp2
    rw [←HQ.out]
    refine bodyPost_ret (v:=.tuple #[rv A all.length c k' E t' D,.agg #[.int .i64 x0.kind,.slice aA1 x0.kids.length aq1,.bool x0.q.abs,.slice aA2 x0.q.segs.length aq2,.int .i64 x0.op,.bool x0.left.lit,.int .i64 x0.left.kind,.int .i64 x0.left.n,.string (bs x0.left.s),.bool x0.left.p.abs,.slice aA3 x0.left.p.segs.length aq3,.bool x0.right.lit,.int .i64 x0.right.kind,.int .i64 x0.right.n,.string (bs x0.right.s),.bool x0.right.p.abs,.slice aA4 x0.right.p.segs.length aq4]]) (res_or rfl rfl M.out (by repeat constructor) (by repeat constructor)) rfl ?_
    rw [HE.out]
    exact⟨_,aA1,aq1,aA2,aq2,aA3,aq3,aA4,aq4,k',D,rfl,HIN.out,HDD.out,(M.out.now.2:ExR (Fr w) m0 _ _ _),M.out.bel0⟩
   ·have HE:=hH (HE.out.trans (show (joinE 0 x0 r,t')=(mkE 0 l,t') by unfold joinE;rw [if_neg hr,hlr]))
    have hl1:((l.length:Int)==1)=false:=by
     rw [beq_eq_false_iff_ne,hlr]
     cases r with
     | nil=>exact absurd rfl hr
     | cons y r=>simp;omega
    clear hlj hlr hr
    go_wp2_with (first|(with_reducible first|refine ld_R M.out ?_|(refine st_R M.out ?_;clear M;intro w' M)|(refine st_Expr M.out ?_;clear M;intro w' M))|((with_reducible refine gg_R ?_);refine ldg_R rfl rfl M.out ?_)|(go_at_call 13;(with_reducible refine M.out.call (HIS.out _ M.out.bel0) ?_);clear M;intro w' M))
    obtain⟨A2,c2,hv,hrow⟩:=M.out.now.1.done (M.out.row _ List.mem_cons_self)
    cases hv
    rw [←HQ.out]
    refine bodyPost_ret (v:=.tuple #[rv A all.length c k' E t' D,.agg #[.int .i64 0,.slice A1 l.length c1,.bool false,.slice none 0 0,.int .i64 0,.bool false,.int .i64 0,.int .i64 0,.string ⟨#[]⟩,.bool false,.slice none 0 0,.bool false,.int .i64 0,.int .i64 0,.string ⟨#[]⟩,.bool false,.slice none 0 0]]) (res_or rfl rfl M.out (by repeat constructor) (by repeat constructor)) rfl ?_
    rw [HE.out]
    exact⟨m+1,A1,c1,none,0,none,0,none,0,k',D,rfl,HIN.out,HDD.out,exMk hrow 0,M.out.bel0⟩
end
end Go.Proofs.YtjbdcjcfijjiiaaGreatDoor
