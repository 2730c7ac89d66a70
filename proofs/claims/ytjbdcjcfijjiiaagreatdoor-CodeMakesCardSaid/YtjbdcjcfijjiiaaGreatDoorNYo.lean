/- ref17: one, and expressions whole (printed by gen_yo.py). -/
import Derived.Test.YtjbdcjcfijjiiaaGreatDoorNOz
import Derived.Test.YtjbdcjcfijjiiaaGreatDoorNYn
namespace Go.Proofs.YtjbdcjcfijjiiaaGreatDoor
open Go.RowKit
set_option maxRecDepth 100000
set_option maxHeartbeats 2000000
theorem isS_ne {a b:List UInt8}{t:PSt}(h:isS a t=true)(hn:a≠b):isS b t=false:=by
 obtain⟨h1,x,r,h2,h3,h4⟩:=isS_ok h
 unfold isS hdT
 rw [if_pos h1,h2]
 simp only [h4]
 rw [beq_eq_false_iff_ne.2 hn,Bool.and_false]
theorem ex0 (K:Nat→Prop)(w:World):ExR K 1 w (exL expr0 (.slice none 0 0) (.slice none 0 0) (.slice none 0 0) (.slice none 0 0)) expr0 :=
 ⟨_,_,_,_,rfl,⟨none,0,rfl,⟨Nat.le_refl _,by omega⟩,.inl rfl⟩,⟨none,0,rfl,⟨Nat.le_refl _,by omega⟩,.inl rfl⟩,⟨none,0,rfl,⟨Nat.le_refl _,by omega⟩,.inl rfl⟩,⟨none,0,rfl,⟨Nat.le_refl _,by omega⟩,.inl rfl⟩⟩
theorem res_one {X:List Nat}{w0 w:World}{L:List BlkE}{rs:List RowE}{J:World→Prop}{tmps:Array Value}{g k:Nat}{t u:TypeId}{a0 a1 a2 a3 a4 a5 b0 b1 b2 b3 b4 b5 b6 b7 b8 b9 b10 b11 b12 b13 b14 b15 b16:Value}(hp:tmps.getD 2 undef=.pointer (some ⟨g,0,none⟩))(hq:tmps.getD 3 undef=.pointer (some ⟨k,0,none⟩))(M:Own X w0 w L rs J)(hg:(g,t,#[a0,a1,a2,a3,a4,a5])∈L)(hk:(k,u,#[b0,b1,b2,b3,b4,b5,b6,b7,b8,b9,b10,b11,b12,b13,b14,b15,b16])∈L):(results Tryz.f111 tmps).run Tryz.prog w=.ok (.tuple #[.agg #[a0,a1,a2,a3,a4,a5],.agg #[b0,b1,b2,b3,b4,b5,b6,b7,b8,b9,b10,b11,b12,b13,b14,b15,b16]]) w :=
 results_2 Tryz.results111 _ g k _ _ _ _ _ _ hp hq (M.blk _ hg) (M.blk _ hk) Tryz.underlying54 rfl Tryz.underlying92 rfl 6 17 isz_R rfl isz_Expr rfl
section
variable  (A:Option Addr)(all:List TokD)(c k:Nat)(E:Int)(P:Nat→PSt→ExprT×PSt)(t:PSt)(d:Nat)(dp:Int)(w:World)
theorem rone_a (_hL:LeP P)(N:Nat)(hP:ROrC A all c E P N)(h:RIn all k t)(hT:TkR w A all)(hd:t.fe=0→dp=(d:Int))(hN:N≤d+1)(hdd:d≤33)(hf:d=33→t.fe≠0)(h40:isS [40] t=true):Calls Tryz.prog 111 #[rv A all.length c k E t dp] w (RExP A all c E d w (oneF false E P d t)):=by
 have HI:=hH (fun W (hb:Bel w.heap.size w W)=>ris_at A all c k E t dp W ⟨#[40]⟩ true h (hT.bel hb) (hH h40))
 have HR:=hH (fun W (hb:Bel w.heap.size w W)=>rround_any A all c k E P t d dp W N hP h (hT.bel hb) hd hN (is_deep h40 hdd hf))
 have hE:oneF false E P d t=roundF E P d t:=by unfold oneF;rw [ite_ff (isS_ne h40 (by decide)),ite_tt h40]
 rw [hE]
 obtain⟨x,t5,hx⟩:∃x t5,roundF E P d t=(x,t5):=⟨_,_,rfl⟩
 rw [hx] at HR ⊢
 unfold RExP at HR
 simp only at HR ⊢
 clear h hT hd hf h40 hP hx hE
 have M:=hH (Own.start [] w (fun _=>True) fun _ _=>trivial)
 go_enter Tryz.func111, Tryz.ntmps111
 generalize hQ:bodyPost Tryz.prog Tryz.f111 (RExP A all c E d w (x,t5))=Q
 have HQ:=hH hQ;clear hQ
 go_wp2_with (first|(with_reducible first|(refine bx_R (some 1) M.out ?_;clear M;intro g1 w' hg1 M)|(refine al_R (some 2) M.out ?_;clear M;intro g2 w' hg2 M)|(refine al_Expr (some 3) M.out ?_;clear M;intro g3 w' hg3 M)|refine ld_R M.out ?_|refine ld_Expr M.out ?_|(refine st_R M.out ?_;clear M;intro w' M)|(refine st_Expr M.out ?_;clear M;intro w' M))|((with_reducible refine gg_R ?_);refine ldg_R rfl rfl M.out ?_)|(go_at_call 13;(with_reducible refine M.out.call (HI.out _ M.out.bel0) ?_);clear M;intro w' M)|(go_at_call 114;(with_reducible refine(HR.out _ M.out.bel0).mono ?_);rintro e w' ⟨m,A1,q1,A2,q2,A3,q3,A4,q4,k5,D5,rfl,hi5,hd5,hex,hb⟩;have HI5:=hH hi5;have HD5:=hH hd5;have Mn:=M.out.addR REx_ok hb (show REx (Fr _) m _ _ x from hex);replace M:=hH Mn;clear Mn hb hex hi5 hd5))
 rw [←HQ.out]
 exact bodyPost_ret (v:=.tuple #[rv A all.length c k5 E t5 D5,.agg #[.int .i64 x.kind,.slice A1 x.kids.length q1,.bool x.q.abs,.slice A2 x.q.segs.length q2,.int .i64 x.op,.bool x.left.lit,.int .i64 x.left.kind,.int .i64 x.left.n,.string (bs x.left.s),.bool x.left.p.abs,.slice A3 x.left.p.segs.length q3,.bool x.right.lit,.int .i64 x.right.kind,.int .i64 x.right.n,.string (bs x.right.s),.bool x.right.p.abs,.slice A4 x.right.p.segs.length q4]]) (res_one rfl rfl M.out (by repeat constructor) (by repeat constructor)) rfl ⟨m,A1,q1,A2,q2,A3,q3,A4,q4,k5,D5,rfl,HI5.out,HD5.out,M.out.now.2,M.out.bel0⟩
theorem rone_b (hL:LeP P)(N:Nat)(hP:ROrC A all c E P N)(h:RIn all k t)(hT:TkR w A all)(hd:t.fe=0→dp=(d:Int))(hN:N≤d+1)(hdd:d≤33)(hf:d=33→t.fe≠0)(h40:isS [40] t=false)(h33:isS [33] t=false):Calls Tryz.prog 111 #[rv A all.length c k E t dp] w (RExP A all c E d w (oneF false E P d t)):=by
 have HI:=hH (fun W (hb:Bel w.heap.size w W)=>ris_at A all c k E t dp W ⟨#[40]⟩ false h (hT.bel hb) (hH h40))
 have HJ:=hH (fun W (hb:Bel w.heap.size w W)=>ris_at A all c k E t dp W ⟨#[33]⟩ false h (hT.bel hb) (hH h33))
 have HR:=hH (fun W (hb:Bel w.heap.size w W)=>rcmp_any A all c k E P t d dp W hL N hP h (hT.bel hb) hd hN hdd hf)
 have hE:oneF false E P d t=cmpF E P d t:=by unfold oneF;rw [ite_ff h33,ite_ff h40]
 rw [hE]
 obtain⟨x,t5,hx⟩:∃x t5,cmpF E P d t=(x,t5):=⟨_,_,rfl⟩
 rw [hx] at HR ⊢
 unfold RExP at HR
 simp only at HR ⊢
 clear h hT hd hf h40 hP hL h33 hx hE
 have M:=hH (Own.start [] w (fun _=>True) fun _ _=>trivial)
 go_enter Tryz.func111, Tryz.ntmps111
 generalize hQ:bodyPost Tryz.prog Tryz.f111 (RExP A all c E d w (x,t5))=Q
 have HQ:=hH hQ;clear hQ
 go_wp2_with (first|(with_reducible first|(refine bx_R (some 1) M.out ?_;clear M;intro g1 w' hg1 M)|(refine al_R (some 2) M.out ?_;clear M;intro g2 w' hg2 M)|(refine al_Expr (some 3) M.out ?_;clear M;intro g3 w' hg3 M)|refine ld_R M.out ?_|refine ld_Expr M.out ?_|(refine st_R M.out ?_;clear M;intro w' M)|(refine st_Expr M.out ?_;clear M;intro w' M))|((with_reducible refine gg_R ?_);refine ldg_R rfl rfl M.out ?_)|(go_at_call 13;(with_reducible refine M.out.call (HI.out _ M.out.bel0) ?_);clear M;intro w' M)|(go_at_call 13;(with_reducible refine M.out.call (HJ.out _ M.out.bel0) ?_);clear M;intro w' M)|(go_at_call 115;(with_reducible refine(HR.out _ M.out.bel0).mono ?_);rintro e w' ⟨m,A1,q1,A2,q2,A3,q3,A4,q4,k5,D5,rfl,hi5,hd5,hex,hb⟩;have HI5:=hH hi5;have HD5:=hH hd5;have Mn:=M.out.addR REx_ok hb (show REx (Fr _) m _ _ x from hex);replace M:=hH Mn;clear Mn hb hex hi5 hd5))
 rw [←HQ.out]
 exact bodyPost_ret (v:=.tuple #[rv A all.length c k5 E t5 D5,.agg #[.int .i64 x.kind,.slice A1 x.kids.length q1,.bool x.q.abs,.slice A2 x.q.segs.length q2,.int .i64 x.op,.bool x.left.lit,.int .i64 x.left.kind,.int .i64 x.left.n,.string (bs x.left.s),.bool x.left.p.abs,.slice A3 x.left.p.segs.length q3,.bool x.right.lit,.int .i64 x.right.kind,.int .i64 x.right.n,.string (bs x.right.s),.bool x.right.p.abs,.slice A4 x.right.p.segs.length q4]]) (res_one rfl rfl M.out (by repeat constructor) (by repeat constructor)) rfl ⟨m,A1,q1,A2,q2,A3,q3,A4,q4,k5,D5,rfl,HI5.out,HD5.out,M.out.now.2,M.out.bel0⟩
end
section
variable  (A:Option Addr)(all:List TokD)(c k:Nat)(E:Int)(P:Nat→PSt→ExprT×PSt)(t:PSt)(d:Nat)(dp:Int)(w:World)
theorem rone_c (_hL:LeP P)(N:Nat)(hP:ROrC A all c E P N)(h:RIn all k t)(hT:TkR w A all)(hd:t.fe=0→dp=(d:Int))(hN:N≤d+1)(hdd:d≤33)(hf:d=33→t.fe≠0)(h33:isS [33] t=true)(t1:PSt)(ht1:openS E d t=t1)(g40:isS [40] t1=true):Calls Tryz.prog 111 #[rv A all.length c k E t dp] w (RExP A all c E d w (oneF false E P d t)):=by
 have hd32:=is_deep h33 hdd hf
 have hne:d=32→t1.fe≠0:=fun e=>by rw [←ht1];exact openS_33 e
 have HI:=hH (fun W (hb:Bel w.heap.size w W)=>ris_at A all c k E t dp W ⟨#[40]⟩ false h (hT.bel hb) (hH (isS_ne h33 (by decide))))
 have HJ:=hH (fun W (hb:Bel w.heap.size w W)=>ris_at A all c k E t dp W ⟨#[33]⟩ true h (hT.bel hb) (hH h33))
 have HO:=hH (fun W (hb:Bel w.heap.size w W)=>ropen_any A all c k E t d dp W h (hT.bel hb) hd (by omega))
 rw [ht1] at HO
 have HTT:=hH hT
 have hd31:d+1≤32:=by
  rcases Nat.lt_or_ge d 32 with h1|h1
  ·omega
  ·exact absurd (isS_ok g40).1 (hne (by omega))
 have HR0:=hH (fun k D W (hi:RIn all k t1) (hb:Bel w.heap.size w W) hD=>rround_any A all c k E P t1 (d+1) D W N hP hi (hT.bel hb) hD (by omega) hd31)
 have hE:oneF false E P d t=(mkE 2 [(roundF E P (d+1) t1).1],(roundF E P (d+1) t1).2):=by unfold oneF;rw [ite_tt h33,ht1];unfold notF;rw [ite_tt g40]
 obtain⟨x,t5,hx⟩:∃x t5,roundF E P (d+1) t1=(x,t5):=⟨_,_,rfl⟩
 rw [hE]
 rw [hx] at HR0 ⊢
 unfold RExP at HR0
 simp only at HR0 ⊢
 have G40:=hH g40
 clear h hT hd hf h33 hP hE ht1 g40 hx
 have M:=hH (Own.start [] w (fun _=>True) fun _ _=>trivial)
 go_enter Tryz.func111, Tryz.ntmps111
 generalize hQ:bodyPost Tryz.prog Tryz.f111 (RExP A all c E d w (mkE 2 [x],t5))=Q
 have HQ:=hH hQ;clear hQ
 go_upto_region 8 with(first|(with_reducible first|(refine bx_R (some 1) M.out ?_;clear M;intro g1 w' hg1 M)|(refine al_R (some 2) M.out ?_;clear M;intro g2 w' hg2 M)|(refine al_Expr (some 3) M.out ?_;clear M;intro g3 w' hg3 M)|refine ld_R M.out ?_|refine ld_Expr M.out ?_|(refine st_R M.out ?_;clear M;intro w' M)|(refine st_Expr M.out ?_;clear M;intro w' M)|(refine al_R (some 4) M.out ?_;clear M;intro g4 w' hg4 M)|(refine al_R (some 5) M.out ?_;clear M;intro g5 w' hg5 M)|(refine al_Expr (some 6) M.out ?_;clear M;intro g6 w' hg6 M))|((with_reducible refine gg_R ?_);refine ldg_R rfl rfl M.out ?_)|(go_at_call 13;(with_reducible refine M.out.call (HI.out _ M.out.bel0) ?_);clear M;intro w' M)|(go_at_call 13;(with_reducible refine M.out.call (HJ.out _ M.out.bel0) ?_);clear M;intro w' M)|(go_at_call 85;(with_reducible refine(HO.out _ M.out.bel0).mono ?_);rintro e w' ⟨k1,D,rfl,hi1,hD1,hb⟩;have HI1:=hH hi1;have H40:=hH (fun W (hb:Bel w.heap.size w W)=>ris_at A all c k1 E t1 D W ⟨#[40]⟩ true hi1 (HTT.out.bel hb) G40);have HR:=hH (fun W hb=>HR0.out k1 D W hi1 hb hD1);clear hi1 hD1;replace M:=hH (M.out.bel hb);clear hb)|(go_at_call 13;(with_reducible refine M.out.call (H40.out _ M.out.bel0) ?_);clear M;intro w' M)|(go_at_call 114;(with_reducible refine(HR.out _ M.out.bel0).mono ?_);rintro e w' ⟨m,A1,q1,A2,q2,A3,q3,A4,q4,k5,D5,rfl,hi5,hd5,hex,hb⟩;have HI5:=hH hi5;have HD5:=hH hd5;have HDS:=hH (show t5.fe=0→wrap64 (D5-1)=(d:Int) from fun e=>by rw [hd5 e,wrap_in (by omega) (by omega)];omega);have Mn:=M.out.addR REx_ok hb (show REx (Fr _) m _ _ x from hex);replace M:=hH Mn;clear Mn hb hex hi5 hd5))
 replace M:=hH M.out.drew
 refine tbh (fun w'=>Blk w' g5 _ _∧Blk w' g6 _ _) (⟨M.out.b,M.out.b⟩) fun hS=>?_
 refine tk 0 rfl hS (yl_R _ _ rfl _ _ (fun _ h=>h.1) rfl) ?_
 refine tk 2 rfl hS (yl_Expr _ _ rfl _ _ (fun _ h=>h.2) rfl) ?_
 repeat' (first|((with_reducible refine gR ?_);first|exact .nil|(refine rdy_call (i:=1) (rshut_any A all c k5 E t5 D5 _) (op:=.call _) rfl (by go_simp) ?_ ?_;rintro e w' ⟨rfl,hb⟩;replace M:=hH (M.out.bel hb);clear hb;refine⟨_,rfl,?_⟩;refine⟨⟨M.out.b,M.out.b⟩,tn ?_⟩)|(refine rbs_Expr (i:=3) rfl rfl M.out ?_ ?_;clear M;intro g34 w' hg34 M;refine⟨⟨M.out.b,M.out.b⟩,tn ?_⟩)|(refine rs_R (i:=5) _ _ rfl rfl rfl M.out ?_ ?_;clear M;intro w' M;refine⟨⟨M.out.b,M.out.b⟩,tn ?_⟩)|(refine rs_Expr (i:=6) _ _ rfl rfl rfl M.out ?_ ?_;clear M;intro w' M;refine⟨⟨M.out.b,M.out.b⟩,tn ?_⟩))|((with_reducible refine gW ?_);first|refine tkpd 4 rfl (⟨M.out.b,M.out.b⟩) ?_|refine trd [1,3] ?_|refine trd [3,5] ?_|refine trd [5] ?_|refine trd [6] ?_|refine trd [3] ?_|refine trd [1] ?_|refine ted ?_))
 all_goals
  go_wp2
  rw [←HQ.out]
  exact bodyPost_ret (v:=.tuple #[rv A all.length c k5 E t5 (wrap64 (D5-1)),.agg #[.int .i64 2,.slice (some ⟨g34,0,none⟩) 1 1,.bool false,.slice none 0 0,.int .i64 0,.bool false,.int .i64 0,.int .i64 0,.string ⟨#[]⟩,.bool false,.slice none 0 0,.bool false,.int .i64 0,.int .i64 0,.string ⟨#[]⟩,.bool false,.slice none 0 0]]) (res_one rfl rfl M.out (by repeat constructor) (by repeat constructor)) rfl ⟨m+1,_,1,none,0,none,0,none,0,k5,_,rfl,HI5.out,HDS.out,exMk (l:=[x]) (RowG.own (M.out.blk (g34,_,_) (by repeat constructor)) hg34 rfl M.out.now.2) 2,M.out.bel0⟩
theorem rone_d (hL:LeP P)(N:Nat)(hP:ROrC A all c E P N)(h:RIn all k t)(hT:TkR w A all)(hd:t.fe=0→dp=(d:Int))(hN:N≤d+1)(hdd:d≤33)(hf:d=33→t.fe≠0)(h33:isS [33] t=true)(t1:PSt)(ht1:openS E d t=t1)(g40:isS [40] t1=false)(g64:isS [64] t1=true):Calls Tryz.prog 111 #[rv A all.length c k E t dp] w (RExP A all c E d w (oneF false E P d t)):=by
 have hd32:=is_deep h33 hdd hf
 have hne:d=32→t1.fe≠0:=fun e=>by rw [←ht1];exact openS_33 e
 have HI:=hH (fun W (hb:Bel w.heap.size w W)=>ris_at A all c k E t dp W ⟨#[40]⟩ false h (hT.bel hb) (hH (isS_ne h33 (by decide))))
 have HJ:=hH (fun W (hb:Bel w.heap.size w W)=>ris_at A all c k E t dp W ⟨#[33]⟩ true h (hT.bel hb) (hH h33))
 have HO:=hH (fun W (hb:Bel w.heap.size w W)=>ropen_any A all c k E t d dp W h (hT.bel hb) hd (by omega))
 rw [ht1] at HO
 have HTT:=hH hT
 have HR0:=hH (fun k D W (hi:RIn all k t1) (hb:Bel w.heap.size w W) hD=>rpath_any A all c k E P t1 (d+1) D W hL N hP hi (hT.bel hb) hD (by omega) (by omega) (fun e=>hne (by omega)))
 have hE:oneF false E P d t=(mkE 2 [tstE (pathF E P (d+1) t1).1],(pathF E P (d+1) t1).2):=by unfold oneF;rw [ite_tt h33,ht1];unfold notF;unfold isPath;rw [ite_ff g40,g64];rfl
 obtain⟨pp,t5,hx⟩:∃pp t5,pathF E P (d+1) t1=(pp,t5):=⟨_,_,rfl⟩
 rw [hE]
 rw [hx] at HR0 ⊢
 unfold RPathP at HR0
 simp only at HR0 ⊢
 have G40:=hH g40
 have G64:=hH g64
 clear h hT hd hf h33 hP hL hE ht1 g40 hx g64
 have M:=hH (Own.start [] w (fun _=>True) fun _ _=>trivial)
 go_enter Tryz.func111, Tryz.ntmps111
 generalize hQ:bodyPost Tryz.prog Tryz.f111 (RExP A all c E d w (mkE 2 [tstE pp],t5))=Q
 have HQ:=hH hQ;clear hQ
 go_upto_region 12 with(first|(with_reducible first|(refine bx_R (some 1) M.out ?_;clear M;intro g1 w' hg1 M)|(refine al_R (some 2) M.out ?_;clear M;intro g2 w' hg2 M)|(refine al_Expr (some 3) M.out ?_;clear M;intro g3 w' hg3 M)|refine ld_R M.out ?_|refine ld_Expr M.out ?_|(refine st_R M.out ?_;clear M;intro w' M)|(refine st_Expr M.out ?_;clear M;intro w' M)|(refine al_R (some 4) M.out ?_;clear M;intro g4 w' hg4 M)|(refine al_R (some 7) M.out ?_;clear M;intro g7 w' hg7 M)|(refine al_Path (some 8) M.out ?_;clear M;intro g8 w' hg8 M)|(refine st_Path M.out ?_;clear M;intro w' M))|((with_reducible refine gg_R ?_);refine ldg_R rfl rfl M.out ?_)|(go_at_call 13;(with_reducible refine M.out.call (HI.out _ M.out.bel0) ?_);clear M;intro w' M)|(go_at_call 13;(with_reducible refine M.out.call (HJ.out _ M.out.bel0) ?_);clear M;intro w' M)|(go_at_call 85;(with_reducible refine(HO.out _ M.out.bel0).mono ?_);rintro e w' ⟨k1,D,rfl,hi1,hD1,hb⟩;have HI1:=hH hi1;have H40:=hH (fun W (hb:Bel w.heap.size w W)=>ris_at A all c k1 E t1 D W ⟨#[40]⟩ false hi1 (HTT.out.bel hb) G40);have H64:=hH (fun W (hb:Bel w.heap.size w W)=>ris_at A all c k1 E t1 D W ⟨#[64]⟩ true hi1 (HTT.out.bel hb) G64);have HR:=hH (fun W hb=>HR0.out k1 D W hi1 hb hD1);clear hi1 hD1;replace M:=hH (M.out.bel hb);clear hb)|(go_at_call 13;(with_reducible refine M.out.call (H40.out _ M.out.bel0) ?_);clear M;intro w' M)|(go_at_call 13;(with_reducible refine M.out.call (H64.out _ M.out.bel0) ?_);clear M;intro w' M)|(go_at_call 15;(with_reducible refine(HR.out _ M.out.bel0).mono ?_);rintro e w' ⟨m,A1,c1,k5,D5,rfl,hi5,hd5,hrow,hb⟩;have HI5:=hH hi5;have HDS:=hH (show t5.fe=0→wrap64 (D5-1)=(d:Int) from fun e=>by rw [hd5 e,wrap_in (by omega) (by omega)];omega);have Mn:=M.out.addK (G:=fun K y=>RowG K 2 (RSeg K m y) y (.slice A1 pp.segs.length c1) pp.segs) (fun h hk=>RowG.keep h hk fun _ _ h=>RSeg_ok.keep h hk (Nat.le_refl _)) hb hrow;replace M:=hH Mn;clear Mn hb hrow hi5 hd5))
 replace M:=hH M.out.drew
 refine tbh (fun w'=>Blk w' g7 _ _∧Blk w' g8 _ _) (⟨M.out.b,M.out.b⟩) fun hS=>?_
 refine tk 0 rfl hS (yl_R _ _ rfl _ _ (fun _ h=>h.1) rfl) ?_
 refine tk 2 rfl hS (yl_Path _ _ rfl _ _ (fun _ h=>h.2) rfl) ?_
 refine tkp 3 rfl hS ?_
 repeat' (first|((with_reducible refine gR ?_);first|exact .nil|(refine rdy_call (i:=1) (rshut_any A all c k5 E t5 D5 _) (op:=.call _) rfl (by go_simp) ?_ ?_;rintro e w' ⟨rfl,hb⟩;replace M:=hH (M.out.bel hb);clear hb;refine⟨_,rfl,?_⟩;refine⟨⟨M.out.b,M.out.b⟩,tn ?_⟩)|(refine rbs_Expr (i:=4) rfl rfl M.out ?_ ?_;clear M;intro g56 w' hg56 M;refine⟨⟨M.out.b,M.out.b⟩,tn ?_⟩)|(refine rs_R (i:=6) _ _ rfl rfl rfl M.out ?_ ?_;clear M;intro w' M;refine⟨⟨M.out.b,M.out.b⟩,tn ?_⟩)|(refine rs_Expr (i:=7) _ _ rfl rfl rfl M.out ?_ ?_;clear M;intro w' M;refine⟨⟨M.out.b,M.out.b⟩,tn ?_⟩))|((with_reducible refine gW ?_);first|refine tkpd 5 rfl (⟨M.out.b,M.out.b⟩) ?_|refine trd [1,4] ?_|refine trd [4,6] ?_|refine trd [6] ?_|refine trd [7] ?_|refine trd [4] ?_|refine trd [1] ?_|refine ted ?_))
 all_goals
  go_wp2
  rw [←HQ.out]
  exact bodyPost_ret (v:=.tuple #[rv A all.length c k5 E t5 (wrap64 (D5-1)),.agg #[.int .i64 2,.slice (some ⟨g56,0,none⟩) 1 1,.bool false,.slice none 0 0,.int .i64 0,.bool false,.int .i64 0,.int .i64 0,.string ⟨#[]⟩,.bool false,.slice none 0 0,.bool false,.int .i64 0,.int .i64 0,.string ⟨#[]⟩,.bool false,.slice none 0 0]]) (res_one rfl rfl M.out (by repeat constructor) (by repeat constructor)) rfl ⟨m+1+1,_,1,none,0,none,0,none,0,k5,_,rfl,HI5.out,HDS.out,exMk (l:=[tstE pp]) (RowG.own (M.out.blk (g56,_,_) (by repeat constructor)) hg56 rfl (exTst (p:=pp) M.out.now.2)) 2,M.out.bel0⟩
theorem rone_e (hL:LeP P)(N:Nat)(hP:ROrC A all c E P N)(h:RIn all k t)(hT:TkR w A all)(hd:t.fe=0→dp=(d:Int))(hN:N≤d+1)(hdd:d≤33)(hf:d=33→t.fe≠0)(h33:isS [33] t=true)(t1:PSt)(ht1:openS E d t=t1)(g40:isS [40] t1=false)(g64:isS [64] t1=false)(g36:isS [36] t1=true):Calls Tryz.prog 111 #[rv A all.length c k E t dp] w (RExP A all c E d w (oneF false E P d t)):=by
 have hd32:=is_deep h33 hdd hf
 have hne:d=32→t1.fe≠0:=fun e=>by rw [←ht1];exact openS_33 e
 have HI:=hH (fun W (hb:Bel w.heap.size w W)=>ris_at A all c k E t dp W ⟨#[40]⟩ false h (hT.bel hb) (hH (isS_ne h33 (by decide))))
 have HJ:=hH (fun W (hb:Bel w.heap.size w W)=>ris_at A all c k E t dp W ⟨#[33]⟩ true h (hT.bel hb) (hH h33))
 have HO:=hH (fun W (hb:Bel w.heap.size w W)=>ropen_any A all c k E t d dp W h (hT.bel hb) hd (by omega))
 rw [ht1] at HO
 have HTT:=hH hT
 have HR0:=hH (fun k D W (hi:RIn all k t1) (hb:Bel w.heap.size w W) hD=>rpath_any A all c k E P t1 (d+1) D W hL N hP hi (hT.bel hb) hD (by omega) (by omega) (fun e=>hne (by omega)))
 have hE:oneF false E P d t=(mkE 2 [tstE (pathF E P (d+1) t1).1],(pathF E P (d+1) t1).2):=by unfold oneF;rw [ite_tt h33,ht1];unfold notF;unfold isPath;rw [ite_ff g40,g64,g36];rfl
 obtain⟨pp,t5,hx⟩:∃pp t5,pathF E P (d+1) t1=(pp,t5):=⟨_,_,rfl⟩
 rw [hE]
 rw [hx] at HR0 ⊢
 unfold RPathP at HR0
 simp only at HR0 ⊢
 have G40:=hH g40
 have G64:=hH g64
 have G36:=hH g36
 clear h hT hd hf h33 hP hL hE ht1 g40 hx g64 g36
 have M:=hH (Own.start [] w (fun _=>True) fun _ _=>trivial)
 go_enter Tryz.func111, Tryz.ntmps111
 generalize hQ:bodyPost Tryz.prog Tryz.f111 (RExP A all c E d w (mkE 2 [tstE pp],t5))=Q
 have HQ:=hH hQ;clear hQ
 go_upto_region 12 with(first|(with_reducible first|(refine bx_R (some 1) M.out ?_;clear M;intro g1 w' hg1 M)|(refine al_R (some 2) M.out ?_;clear M;intro g2 w' hg2 M)|(refine al_Expr (some 3) M.out ?_;clear M;intro g3 w' hg3 M)|refine ld_R M.out ?_|refine ld_Expr M.out ?_|(refine st_R M.out ?_;clear M;intro w' M)|(refine st_Expr M.out ?_;clear M;intro w' M)|(refine al_R (some 4) M.out ?_;clear M;intro g4 w' hg4 M)|(refine al_R (some 7) M.out ?_;clear M;intro g7 w' hg7 M)|(refine al_Path (some 8) M.out ?_;clear M;intro g8 w' hg8 M)|(refine st_Path M.out ?_;clear M;intro w' M))|((with_reducible refine gg_R ?_);refine ldg_R rfl rfl M.out ?_)|(go_at_call 13;(with_reducible refine M.out.call (HI.out _ M.out.bel0) ?_);clear M;intro w' M)|(go_at_call 13;(with_reducible refine M.out.call (HJ.out _ M.out.bel0) ?_);clear M;intro w' M)|(go_at_call 85;(with_reducible refine(HO.out _ M.out.bel0).mono ?_);rintro e w' ⟨k1,D,rfl,hi1,hD1,hb⟩;have HI1:=hH hi1;have H40:=hH (fun W (hb:Bel w.heap.size w W)=>ris_at A all c k1 E t1 D W ⟨#[40]⟩ false hi1 (HTT.out.bel hb) G40);have H64:=hH (fun W (hb:Bel w.heap.size w W)=>ris_at A all c k1 E t1 D W ⟨#[64]⟩ false hi1 (HTT.out.bel hb) G64);have H36:=hH (fun W (hb:Bel w.heap.size w W)=>ris_at A all c k1 E t1 D W ⟨#[36]⟩ true hi1 (HTT.out.bel hb) G36);have HR:=hH (fun W hb=>HR0.out k1 D W hi1 hb hD1);clear hi1 hD1;replace M:=hH (M.out.bel hb);clear hb)|(go_at_call 13;(with_reducible refine M.out.call (H40.out _ M.out.bel0) ?_);clear M;intro w' M)|(go_at_call 13;(with_reducible refine M.out.call (H64.out _ M.out.bel0) ?_);clear M;intro w' M)|(go_at_call 13;(with_reducible refine M.out.call (H36.out _ M.out.bel0) ?_);clear M;intro w' M)|(go_at_call 15;(with_reducible refine(HR.out _ M.out.bel0).mono ?_);rintro e w' ⟨m,A1,c1,k5,D5,rfl,hi5,hd5,hrow,hb⟩;have HI5:=hH hi5;have HDS:=hH (show t5.fe=0→wrap64 (D5-1)=(d:Int) from fun e=>by rw [hd5 e,wrap_in (by omega) (by omega)];omega);have Mn:=M.out.addK (G:=fun K y=>RowG K 2 (RSeg K m y) y (.slice A1 pp.segs.length c1) pp.segs) (fun h hk=>RowG.keep h hk fun _ _ h=>RSeg_ok.keep h hk (Nat.le_refl _)) hb hrow;replace M:=hH Mn;clear Mn hb hrow hi5 hd5))
 replace M:=hH M.out.drew
 refine tbh (fun w'=>Blk w' g7 _ _∧Blk w' g8 _ _) (⟨M.out.b,M.out.b⟩) fun hS=>?_
 refine tk 0 rfl hS (yl_R _ _ rfl _ _ (fun _ h=>h.1) rfl) ?_
 refine tk 2 rfl hS (yl_Path _ _ rfl _ _ (fun _ h=>h.2) rfl) ?_
 refine tkp 3 rfl hS ?_
 repeat' (first|((with_reducible refine gR ?_);first|exact .nil|(refine rdy_call (i:=1) (rshut_any A all c k5 E t5 D5 _) (op:=.call _) rfl (by go_simp) ?_ ?_;rintro e w' ⟨rfl,hb⟩;replace M:=hH (M.out.bel hb);clear hb;refine⟨_,rfl,?_⟩;refine⟨⟨M.out.b,M.out.b⟩,tn ?_⟩)|(refine rbs_Expr (i:=4) rfl rfl M.out ?_ ?_;clear M;intro g56 w' hg56 M;refine⟨⟨M.out.b,M.out.b⟩,tn ?_⟩)|(refine rs_R (i:=6) _ _ rfl rfl rfl M.out ?_ ?_;clear M;intro w' M;refine⟨⟨M.out.b,M.out.b⟩,tn ?_⟩)|(refine rs_Expr (i:=7) _ _ rfl rfl rfl M.out ?_ ?_;clear M;intro w' M;refine⟨⟨M.out.b,M.out.b⟩,tn ?_⟩))|((with_reducible refine gW ?_);first|refine tkpd 5 rfl (⟨M.out.b,M.out.b⟩) ?_|refine trd [1,4] ?_|refine trd [4,6] ?_|refine trd [6] ?_|refine trd [7] ?_|refine trd [4] ?_|refine trd [1] ?_|refine ted ?_))
 all_goals
  go_wp2
  rw [←HQ.out]
  exact bodyPost_ret (v:=.tuple #[rv A all.length c k5 E t5 (wrap64 (D5-1)),.agg #[.int .i64 2,.slice (some ⟨g56,0,none⟩) 1 1,.bool false,.slice none 0 0,.int .i64 0,.bool false,.int .i64 0,.int .i64 0,.string ⟨#[]⟩,.bool false,.slice none 0 0,.bool false,.int .i64 0,.int .i64 0,.string ⟨#[]⟩,.bool false,.slice none 0 0]]) (res_one rfl rfl M.out (by repeat constructor) (by repeat constructor)) rfl ⟨m+1+1,_,1,none,0,none,0,none,0,k5,_,rfl,HI5.out,HDS.out,exMk (l:=[tstE pp]) (RowG.own (M.out.blk (g56,_,_) (by repeat constructor)) hg56 rfl (exTst (p:=pp) M.out.now.2)) 2,M.out.bel0⟩
theorem rone_f (_hL:LeP P)(N:Nat)(_hP:ROrC A all c E P N)(h:RIn all k t)(hT:TkR w A all)(hd:t.fe=0→dp=(d:Int))(_hN:N≤d+1)(hdd:d≤33)(hf:d=33→t.fe≠0)(h33:isS [33] t=true)(t1:PSt)(ht1:openS E d t=t1)(g40:isS [40] t1=false)(g64:isS [64] t1=false)(g36:isS [36] t1=false):Calls Tryz.prog 111 #[rv A all.length c k E t dp] w (RExP A all c E d w (oneF false E P d t)):=by
 have hd32:=is_deep h33 hdd hf
 have hne:d=32→t1.fe≠0:=fun e=>by rw [←ht1];exact openS_33 e
 have HI:=hH (fun W (hb:Bel w.heap.size w W)=>ris_at A all c k E t dp W ⟨#[40]⟩ false h (hT.bel hb) (hH (isS_ne h33 (by decide))))
 have HJ:=hH (fun W (hb:Bel w.heap.size w W)=>ris_at A all c k E t dp W ⟨#[33]⟩ true h (hT.bel hb) (hH h33))
 have HO:=hH (fun W (hb:Bel w.heap.size w W)=>ropen_any A all c k E t d dp W h (hT.bel hb) hd (by omega))
 rw [ht1] at HO
 have HTT:=hH hT
 have hE:oneF false E P d t=(expr0,formS E t1):=by unfold oneF;rw [ite_tt h33,ht1];unfold notF;unfold isPath;rw [ite_ff g40,g64,g36];rfl
 rw [hE]
 have G40:=hH g40
 have G64:=hH g64
 have G36:=hH g36
 clear h hT hd hf h33 hE ht1 g40 g64 g36
 have M:=hH (Own.start [] w (fun _=>True) fun _ _=>trivial)
 go_enter Tryz.func111, Tryz.ntmps111
 generalize hQ:bodyPost Tryz.prog Tryz.f111 (RExP A all c E d w (expr0,formS E t1))=Q
 have HQ:=hH hQ;clear hQ
 go_wp2_with (first|(with_reducible first|(refine bx_R (some 1) M.out ?_;clear M;intro g1 w' hg1 M)|(refine al_R (some 2) M.out ?_;clear M;intro g2 w' hg2 M)|(refine al_Expr (some 3) M.out ?_;clear M;intro g3 w' hg3 M)|refine ld_R M.out ?_|refine ld_Expr M.out ?_|(refine st_R M.out ?_;clear M;intro w' M)|(refine st_Expr M.out ?_;clear M;intro w' M)|(refine al_R (some 4) M.out ?_;clear M;intro g4 w' hg4 M))|((with_reducible refine gg_R ?_);refine ldg_R rfl rfl M.out ?_)|(go_at_call 13;(with_reducible refine M.out.call (HI.out _ M.out.bel0) ?_);clear M;intro w' M)|(go_at_call 13;(with_reducible refine M.out.call (HJ.out _ M.out.bel0) ?_);clear M;intro w' M)|(go_at_call 85;(with_reducible refine(HO.out _ M.out.bel0).mono ?_);rintro e w' ⟨k1,D,rfl,hi1,hD1,hb⟩;have HI1:=hH hi1;have H40:=hH (fun W (hb:Bel w.heap.size w W)=>ris_at A all c k1 E t1 D W ⟨#[40]⟩ false hi1 (HTT.out.bel hb) G40);have H64:=hH (fun W (hb:Bel w.heap.size w W)=>ris_at A all c k1 E t1 D W ⟨#[64]⟩ false hi1 (HTT.out.bel hb) G64);have H36:=hH (fun W (hb:Bel w.heap.size w W)=>ris_at A all c k1 E t1 D W ⟨#[36]⟩ false hi1 (HTT.out.bel hb) G36);have HF:=hH (fun W (hb:Bel w.heap.size w W)=>rform_any A all c k1 E t1 D W hi1 (HTT.out.bel hb));clear hi1 hD1;replace M:=hH (M.out.bel hb);clear hb)|(go_at_call 13;(with_reducible refine M.out.call (H40.out _ M.out.bel0) ?_);clear M;intro w' M)|(go_at_call 13;(with_reducible refine M.out.call (H64.out _ M.out.bel0) ?_);clear M;intro w' M)|(go_at_call 13;(with_reducible refine M.out.call (H36.out _ M.out.bel0) ?_);clear M;intro w' M)|(go_at_call 14;(with_reducible refine M.out.call (HF.out _ M.out.bel0) ?_);clear M;intro w' M))
 rw [←HQ.out]
 exact bodyPost_ret (v:=.tuple #[rv A all.length c k1 E (formS E t1) D,.agg #[.int .i64 0,.slice none 0 0,.bool false,.slice none 0 0,.int .i64 0,.bool false,.int .i64 0,.int .i64 0,.string ⟨#[]⟩,.bool false,.slice none 0 0,.bool false,.int .i64 0,.int .i64 0,.string ⟨#[]⟩,.bool false,.slice none 0 0]]) (res_one rfl rfl M.out (by repeat constructor) (by repeat constructor)) rfl ⟨1,none,0,none,0,none,0,none,0,k1,D,rfl,HI1.out.form E,fun e=>absurd e (formS_fe E t1),ex0 _ _,M.out.bel0⟩
theorem rone_any (hL:LeP P)(N:Nat)(hP:ROrC A all c E P N)(h:RIn all k t)(hT:TkR w A all)(hd:t.fe=0→dp=(d:Int))(hN:N≤d+1)(hdd:d≤33)(hf:d=33→t.fe≠0):Calls Tryz.prog 111 #[rv A all.length c k E t dp] w (RExP A all c E d w (oneF false E P d t)):=by
 cases h40:isS [40] t with
 | true=>exact rone_a A all c k E P t d dp w hL N hP h hT hd hN hdd hf h40
 | false =>
  cases h33:isS [33] t with
  | false=>exact rone_b A all c k E P t d dp w hL N hP h hT hd hN hdd hf h40 h33
  | true =>
   obtain⟨t1,ht1⟩:∃t1,openS E d t=t1:=⟨_,rfl⟩
   cases g40:isS [40] t1 with
   | true=>exact rone_c A all c k E P t d dp w hL N hP h hT hd hN hdd hf h33 t1 ht1 g40
   | false =>
    cases g64:isS [64] t1 with
    | true=>exact rone_d A all c k E P t d dp w hL N hP h hT hd hN hdd hf h33 t1 ht1 g40 g64
    | false =>
     cases g36:isS [36] t1 with
     | true=>exact rone_e A all c k E P t d dp w hL N hP h hT hd hN hdd hf h33 t1 ht1 g40 g64 g36
     | false=>exact rone_f A all c k E P t d dp w hL N hP h hT hd hN hdd hf h33 t1 ht1 g40 g64 g36
end
theorem rorC_succ (A:Option Addr)(all:List TokD)(c:Nat)(E:Int)(P:Nat→PSt→ExprT×PSt)(hL:LeP P)(N:Nat)(hP:ROrC A all c E P (N+1)):ROrC A all c E (orF false E P) N:=by
 intro d k t dp w h hT hd hdd hf hN
 exact ror_of A all c k E (andF false E P d) t d dp w (fun t=>andF_le hL d t) (fun t h=>andF_bad false t h)
  (fun k t dp w h hT hd hf=>rand_of A all c k E (oneF false E P d) t d dp w (fun t=>oneF_le hL d false t) (fun t h=>oneF_bad false h)
   (fun k t dp w h hT hd hf=>rone_any A all c k E P t d dp w hL (N+1) hP h hT hd (by omega) hdd hf) h hT hd hdd hf) h hT hd hdd hf
theorem rorC_all (A:Option Addr)(all:List TokD)(c:Nat)(E:Int):∀n,n≤34→ROrC A all c E (orS false E n) (34-n)
 | 0,_=>fun d _ _ _ _ _ _ _ hd _ hN=>absurd hN (by omega)
 | n+1,hn=>by
  have h:=rorC_all A all c E n (by omega)
  rw [show 34-n=34-(n+1)+1 by omega] at h
  exact rorC_succ A all c E (orS false E n) (orS_le false E n) (34-(n+1)) h
theorem rpath_all (A:Option Addr)(all:List TokD)(c k:Nat)(E:Int)(t:PSt)(dp:Int)(w:World)(h:RIn all k t)(hT:TkR w A all)(hd:t.fe=0→dp=((0:Nat):Int)):Calls Tryz.prog 15 #[rv A all.length c k E t dp] w (RPathP A all c E 0 w (pathF E (orS false E 34) 0 t)) :=
 rpath_any A all c k E (orS false E 34) t 0 dp w (orS_le false E 34) 0 (rorC_all A all c E 34 (Nat.le_refl _)) h hT hd (by omega) (by omega) (fun e=>absurd e (by omega))
end Go.Proofs.YtjbdcjcfijjiiaaGreatDoor
