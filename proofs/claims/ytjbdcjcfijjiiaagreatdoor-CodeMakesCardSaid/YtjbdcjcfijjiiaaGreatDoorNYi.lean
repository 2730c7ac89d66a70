/- ref17: seg (printed by gen_yi.py). -/
import Derived.Test.YtjbdcjcfijjiiaaGreatDoorNOz
import Derived.Test.YtjbdcjcfijjiiaaGreatDoorNYh
namespace Go.Proofs.YtjbdcjcfijjiiaaGreatDoor
open Go.RowKit
set_option maxRecDepth 100000
set_option maxHeartbeats 2000000
section
variable  {X:List Nat}{w0 w:World}{L L':List BlkE}{rs:List RowE}{J S:World→Prop}{ops:Array Oper}{rest:List Oper}{a:Act}{Q:Exit→Act→World→Prop}{dst:Option Tmp}{tt:TypeId}{pos:String}{af:Array Edge}
theorem isz_sels :(Tryz.prog.info? 77).map (·.size)=some 1:=by kernel_rfl
theorem isz_segs :(Tryz.prog.info? 35).map (·.size)=some 1:=by kernel_rfl
theorem gs1_Sels {x y:Operand}(h:wpList Tryz.prog ops Q (⟨dst,.store 77 x y,tt,pos,af,none⟩::rest) a w):wpList Tryz.prog ops Q (⟨dst,.store 77 x y,tt,pos,af,none⟩::rest) a w:=h
theorem st1_Sels {x y:Operand}{g:Nat}{v a0 a1:Value}(hx:a.eval x=.pointer (some ⟨g,1,none⟩))(hy:a.eval y=v)(M:Own X w0 w L rs J)
  (h:∀w',Own X w0 w' L' rs J→wpList Tryz.prog ops Q rest (a.put dst undef) w') (h1:v.oneCell'=true:=by exact rfl) (hm:Upd g #[a0,a1] #[a0,v] L L':=by repeat constructor):wpList Tryz.prog ops Q (⟨dst,.store 77 x y,tt,pos,af,none⟩::rest) a w :=
 wpList_store1_own _ x y rfl g 1 hx v hy h1 M _ _ (hm:=hm) isz_sels h
theorem gs1_Segs {x y:Operand}(h:wpList Tryz.prog ops Q (⟨dst,.store 35 x y,tt,pos,af,none⟩::rest) a w):wpList Tryz.prog ops Q (⟨dst,.store 35 x y,tt,pos,af,none⟩::rest) a w:=h
theorem st1_Segs {x y:Operand}{g:Nat}{v a0 a1:Value}(hx:a.eval x=.pointer (some ⟨g,1,none⟩))(hy:a.eval y=v)(h1:v.oneCell'=true)(M:Own X w0 w L rs J)
  (h:∀w',Own X w0 w' L' rs J→wpList Tryz.prog ops Q rest (a.put dst undef) w') (hm:Upd g #[a0,a1] #[a0,v] L L':=by repeat constructor):wpList Tryz.prog ops Q (⟨dst,.store 35 x y,tt,pos,af,none⟩::rest) a w :=
 wpList_store1_own _ x y rfl g 1 hx v hy h1 M _ _ (hm:=hm) isz_segs h
end
section
variable  {X:List Nat}{w0 w:World}{L:List BlkE}{rs:List RowE}{J:World→Prop}{ops:Array Oper}{rest:List Oper}{a:Act}{Q:Exit→Act→World→Prop}{dst:Option Tmp}{tt:TypeId}{pos:String}{af:Array Edge}
theorem g1_bool {x:Operand}(h:wpList Tryz.prog ops Q (⟨dst,.load 4 x,tt,pos,af,none⟩::rest) a w):wpList Tryz.prog ops Q (⟨dst,.load 4 x,tt,pos,af,none⟩::rest) a w:=h
theorem h1_bool {gd:Nat×Bool}{x:Operand}(h:wpList Tryz.prog ops Q (⟨dst,.load 4 x,tt,pos,af,some gd⟩::rest) a w):wpList Tryz.prog ops Q (⟨dst,.load 4 x,tt,pos,af,some gd⟩::rest) a w:=h
theorem ld1_bool {x:Operand}{g j:Nat}{T:TypeId}{cs:Array Value}{v:Value}(M:Own X w0 w L rs J)
  (h:wpList Tryz.prog ops Q rest (a.put dst v) w) (hx:a.eval x=.pointer (some ⟨g,j,none⟩):=by with_unfolding_all exact rfl) (hm:(g,T,cs)∈L:=by with_unfolding_all repeat constructor) (hv:cs[j]? = some v:=by with_unfolding_all exact rfl):wpList Tryz.prog ops Q (⟨dst,.load 4 x,tt,pos,af,none⟩::rest) a w:=wpList_load1_own rfl _ x rfl g j hx M T cs hm v hv _ Tryz.underlying4 rfl h
theorem lg1_bool {gd:Nat×Bool}{x:Operand}{g j:Nat}{T:TypeId}{cs:Array Value}{v:Value}(hw:Region.wanted ⟨dst,.load 4 x,tt,pos,af,some gd⟩ (yielded ops a.tmps)=true)(hx:a.eval x=.pointer (some ⟨g,j,none⟩))(M:Own X w0 w L rs J)
  (h:wpList Tryz.prog ops Q rest (a.put dst v) w) (hm:(g,T,cs)∈L:=by repeat constructor) (hv:cs[j]? = some v:=by exact rfl):wpList Tryz.prog ops Q (⟨dst,.load 4 x,tt,pos,af,some gd⟩::rest) a w:=wpList_load1_own hw _ x rfl g j hx M T cs hm v hv _ Tryz.underlying4 rfl h
theorem g1_segs {x:Operand}(h:wpList Tryz.prog ops Q (⟨dst,.load 35 x,tt,pos,af,none⟩::rest) a w):wpList Tryz.prog ops Q (⟨dst,.load 35 x,tt,pos,af,none⟩::rest) a w:=h
theorem ld1_segs {x:Operand}{g j:Nat}{T:TypeId}{cs:Array Value}{v:Value}(M:Own X w0 w L rs J)
  (h:wpList Tryz.prog ops Q rest (a.put dst v) w) (hx:a.eval x=.pointer (some ⟨g,j,none⟩):=by with_unfolding_all exact rfl) (hm:(g,T,cs)∈L:=by with_unfolding_all repeat constructor) (hv:cs[j]? = some v:=by with_unfolding_all exact rfl):wpList Tryz.prog ops Q (⟨dst,.load 35 x,tt,pos,af,none⟩::rest) a w:=wpList_load1_own rfl _ x rfl g j hx M T cs hm v hv _ Tryz.underlying35 rfl h
end
theorem RowG.own {α:Type}{K:Nat→Prop}{k:Nat}{R:List Value→α→Prop}{W:World}{g:Nat}{T:TypeId}{cs:Array Value}{x:α}(hb:Blk W g T cs)(hg:K g)(hn:cs.size=k)(h:R cs.toList x):RowG K k R W (.slice (some ⟨g,0,none⟩) 1 1) [x]:=by
 refine⟨_,1,rfl,⟨by simp,by omega⟩,.inr ⟨g,0,rfl,hg,hb.lt,fun i y hy=>?_⟩⟩
 cases i with
 | zero =>
  cases hy
  exact⟨cs.toList,by simpa using hn,fun j u hu=>by rw [show 0+0*k+j=j by omega,hb.cell j];simpa using hu,h⟩
 | succ i=>simp at hy
theorem RIn.tok {all:List TokD}{k:Nat}{t:PSt}(hi:RIn all k t)(ho:ovS t=false):all[k]? = some (hdT t)∧k<all.length:=by
 obtain⟨h1,h2⟩:=hi.ov_no ho
 obtain⟨x,hx,_⟩:=hi.head h1
 exact⟨by rw [hi.hd hx h2];exact hx,h1⟩
def RSegP (A:Option Addr)(all:List TokD)(c:Nat)(E:Int)(d:Nat)(w:World)(r:SegT×PSt)(e:Ending)(w':World):Prop :=
 ∃m A1 c1 k' dp',e=.returned (.tuple #[rv A all.length c k' E r.2 dp',.agg #[.bool r.1.deep,.slice A1 r.1.sels.length c1]])∧RIn all k' r.2∧(r.2.fe=0→dp'=(d:Int))∧RowG (Fr w) 9 (RSel (Fr w) m w') w' (.slice A1 r.1.sels.length c1) r.1.sels∧Bel w.heap.size w w'
theorem RSegP.one {A:Option Addr}{all:List TokD}{c:Nat}{E:Int}{d k' g:Nat}{dp':Int}{w w':World}{r:SegT×PSt}{x:SelT}{t':PSt}{b:Bool}{T:TypeId}{cs:Array Value}(h:r=(⟨b,[x]⟩,t'))(hf:x.f=none)(h1:RIn all k' t')(h2:t'.fe=0→dp'=(d:Int))(hb:Blk w' g T cs)(hg:w.heap.size≤g)(hcs:cs.toList=selL x (.pointer none))(hl:Bel w.heap.size w w') :
  RSegP A all c E d w r (.returned (.tuple #[rv A all.length c k' E t' dp',.agg #[.bool b,.slice (some ⟨g,0,none⟩) 1 1]])) w':=by
 subst h
 refine⟨0,_,_,k',dp',rfl,h1,h2,RowG.own hb hg (by have:=congrArg List.length hcs;simpa [selL] using this) ?_,hl⟩
 rw [hcs]
 exact⟨_,rfl,by rw [hf];rfl⟩
theorem RSegP.none_ {A:Option Addr}{all:List TokD}{c:Nat}{E:Int}{d k':Nat}{dp':Int}{w w':World}{r:SegT×PSt}{t':PSt}{b:Bool}(h:r=(⟨b,[]⟩,t'))(h1:RIn all k' t')(h2:t'.fe=0→dp'=(d:Int))(hl:Bel w.heap.size w w') :
  RSegP A all c E d w r (.returned (.tuple #[rv A all.length c k' E t' dp',.agg #[.bool b,.slice none 0 0]])) w':=by
 subst h
 exact⟨0,_,_,k',dp',rfl,h1,h2,⟨none,0,rfl,⟨by simp,by omega⟩,.inl rfl⟩,hl⟩
theorem res_seg {X:List Nat}{w0 w:World}{L:List BlkE}{rs:List RowE}{J:World→Prop}{tmps:Array Value}{g k:Nat}{t u:TypeId}{a0 a1 a2 a3 a4 a5 b0 b1:Value}(hp:tmps.getD 2 undef=.pointer (some ⟨g,0,none⟩))(hq:tmps.getD 3 undef=.pointer (some ⟨k,0,none⟩))(M:Own X w0 w L rs J)(hg:(g,t,#[a0,a1,a2,a3,a4,a5])∈L)(hk:(k,u,#[b0,b1])∈L):(results Tryz.f30 tmps).run Tryz.prog w=.ok (.tuple #[.agg #[a0,a1,a2,a3,a4,a5],.agg #[b0,b1]]) w :=
 results_2 Tryz.results30 _ g k _ _ _ _ _ _ hp hq (M.blk _ hg) (M.blk _ hk) Tryz.underlying54 rfl Tryz.underlying79 rfl 6 2 isz_R rfl isz_Seg rfl
section
variable  (A:Option Addr)(all:List TokD)(c k:Nat)(E:Int)(P:Nat→PSt→ExprT×PSt)(t:PSt)(d:Nat)(dp:Int)(w:World)
theorem rseg_br (hL:LeP P)(N:Nat)(hP:ROrC A all c E P N)(h:RIn all k t)(hT:TkR w A all)(hd:t.fe=0→dp=(d:Int))(hN:N≤d+1)(hdd:d≤33)(hf:d=33→t.fe≠0)(h91:isS [91] t=true):Calls Tryz.prog 30 #[rv A all.length c k E t dp] w (RSegP A all c E d w (segF E P d t)):=by
 have HI:=hH (fun W (hb:Bel w.heap.size w W)=>ris_at A all c k E t dp W ⟨#[91]⟩ true h (hT.bel hb) (hH h91))
 have HS:=hH (fun W (hb:Bel w.heap.size w W)=>rsels_any A all c k E P t d dp W hL N hP h (hT.bel hb) hd hN hdd hf)
 have HE:=hH (show segF E P d t=(⟨false,(selsF E P d t).1⟩,(selsF E P d t).2) by unfold segF;rw [ite_tt h91])
 obtain⟨l,t2,hx⟩:∃l t2,selsF E P d t=(l,t2):=⟨_,_,rfl⟩
 rw [HE.out]
 rw [hx] at HS ⊢
 unfold RSelsP at HS
 simp only at HS ⊢
 clear h hT hd hf h91 hP hx HE
 have M:=hH (Own.start [] w (fun _=>True) fun _ _=>trivial)
 go_enter Tryz.func30, Tryz.ntmps30
 generalize hQ:bodyPost Tryz.prog Tryz.f30 (RSegP A all c E d w (⟨false,l⟩,t2))=Q
 have HQ:=hH hQ;clear hQ
 go_wp2_with (first|(with_reducible first|(refine bx_R (some 1) M.out ?_;clear M;intro g1 w' hg1 M)|(refine al_R (some 2) M.out ?_;clear M;intro g2 w' hg2 M)|(refine al_Seg (some 3) M.out ?_;clear M;intro g3 w' hg3 M)|refine ld_R M.out ?_|refine ld_Seg M.out ?_|(refine st_R M.out ?_;clear M;intro w' M)|(refine st_Seg M.out ?_;clear M;intro w' M)|refine ld1_bool M.out ?_|(refine al_R (some 4) M.out ?_;clear M;intro g4 w' hg4 M))|((with_reducible refine gg_R ?_);refine ldg_R rfl rfl M.out ?_)|(go_at_call 13;(with_reducible refine M.out.call (HI.out _ M.out.bel0) ?_);clear M;intro w' M)|(go_at_call 46;(with_reducible refine(HS.out _ M.out.bel0).mono ?_);rintro e w' ⟨m,A1,c1,k5,D5,rfl,hi5,hd5,hrow,hb⟩;have HI5:=hH hi5;have HD5:=hH hd5;have Mn:=M.out.addK (G:=fun K y=>RowG K 9 (RSel K m y) y (.slice A1 l.length c1) l) (fun h hk=>RowG.keep h hk fun _ _ h=>RSel_ok.keep h hk (Nat.le_refl _)) hb hrow;replace M:=hH Mn;clear Mn hb hrow hi5 hd5))
 rw [←HQ.out]
 exact bodyPost_ret (v:=.tuple #[rv A all.length c k5 E t2 D5,.agg #[.bool false,.slice A1 l.length c1]]) (res_seg rfl rfl M.out (by repeat constructor) (by repeat constructor)) rfl (⟨m,A1,c1,k5,D5,rfl,HI5.out,HD5.out,M.out.now.2,M.out.bel0⟩)
theorem rseg_a (h:RIn all k t)(hT:TkR w A all)(hd:t.fe=0→dp=(d:Int))(h91:isS [91] t=false)(hdp:isS [46,46] t=true)(t1:PSt)(ht1:nextS E t=t1)(ho:ovS t1=false)(hg:(hdT t1).gap=false)(hb2:isS [91] t1=true)(hL:LeP P)(N:Nat)(hP:ROrC A all c E P N)(hN:N≤d+1)(hdd:d≤33)(hf:d=33→t1.fe≠0):Calls Tryz.prog 30 #[rv A all.length c k E t dp] w (RSegP A all c E d w (segF E P d t)):=by
 have hcl:closeS E (nextS E t)=t1:=by rw [ht1];unfold closeS;rw [ho,hg];rfl
 have hE:segF E P d t=(⟨true,(selsF E P d t1).1⟩,(selsF E P d t1).2):=by unfold segF;rw [ite_ff h91,hcl,hdp];unfold dotF;rw [hb2];rfl
 obtain⟨b,off,hA,hb0,hc⟩:=hT.resolve_left (by
  rintro rfl
  have h5:=h.eq
  have:t1.toks=[]:=by
   rw [←ht1];unfold nextS;split
   ·rw [h5];simp;rw [formS_len,h5];simp
   ·rw [h5];simp
  unfold ovS at ho;rw [this] at ho;simp at ho)
 subst hA
 have HI:=hH (fun W (hb:Bel w.heap.size w W)=>ris_at (some ⟨b,off,none⟩) all c k E t dp W ⟨#[91]⟩ false h (hT.bel hb) (hH h91))
 have HJ:=hH (fun W (hb:Bel w.heap.size w W)=>ris_at (some ⟨b,off,none⟩) all c k E t dp W ⟨#[46,46]⟩ true h (hT.bel hb) (hH hdp))
 have HN:=hH (fun W (hb:Bel w.heap.size w W)=>rnext_any (some ⟨b,off,none⟩) all c k E t dp W h (hT.bel hb))
 unfold RP at HN
 rw [ht1] at HN
 have HTT:=hH hT
 have HOV:=hH (hH ho)
 have hbd:=h.bd
 have HD:=hH (show t1.fe=0→dp=(d:Int) from fun e=>hd (nextS_fe0 (by rw [ht1];exact e)))
 have HB2:=hH (hH hb2)
 have HG:=hH hg
 have HC:=hH hc
 have HS0:=hH (fun k W (hi:RIn all k t1) (hb:Bel w.heap.size w W)=>rsels_any (some ⟨b,off,none⟩) all c k E P t1 d dp W hL N hP hi (hT.bel hb) HD.out hN hdd hf)
 obtain⟨l,t3,hx⟩:∃l t3,selsF E P d t1=(l,t3):=⟨_,_,rfl⟩
 rw [hE]
 rw [hx] at HS0 ⊢
 unfold RSelsP at HS0
 simp only at HS0 ⊢
 clear h hT hd h91 hdp ht1 ho hcl hE hg hc hb2 hf hP hx hL
 have M:=hH (Own.start [] w (fun _=>True) fun _ _=>trivial)
 go_enter Tryz.func30, Tryz.ntmps30
 generalize hQ:bodyPost Tryz.prog Tryz.f30 (RSegP (some ⟨b,off,none⟩) all c E d w (⟨true,l⟩,t3))=Q
 have HQ:=hH hQ;clear hQ
 go_upto_region 11 with(first|(with_reducible first|(refine bx_R (some 1) M.out ?_;clear M;intro g1 w' hg1 M)|(refine al_R (some 2) M.out ?_;clear M;intro g2 w' hg2 M)|(refine al_Seg (some 3) M.out ?_;clear M;intro g3 w' hg3 M)|refine ld_R M.out ?_|refine ld_Seg M.out ?_|(refine st_R M.out ?_;clear M;intro w' M)|(refine st_Seg M.out ?_;clear M;intro w' M)|refine ld1_bool M.out ?_|(refine al_Seg (some 6) M.out ?_;clear M;intro g6 w' hg6 M)|(refine al_R (some 7) M.out ?_;clear M;intro g7 w' hg7 M))|((with_reducible refine gg_R ?_);refine ldg_R rfl rfl M.out ?_)|(go_at_call 13;(with_reducible refine M.out.call (HI.out _ M.out.bel0) ?_);clear M;intro w' M)|(go_at_call 13;(with_reducible refine M.out.call (HJ.out _ M.out.bel0) ?_);clear M;intro w' M)|(go_at_call 29;(with_reducible refine(HN.out _ M.out.bel0).mono ?_);rintro e w' ⟨k1,rfl,hi1,hb⟩;have HI1:=hH hi1;have HOV1:=hH (fun W (hb:Bel w.heap.size w W)=>rover_at (some ⟨b,off,none⟩) all c k1 E t1 dp W false hi1 HOV.out);obtain⟨htk,hlt⟩:=hi1.tok (HOV.out.out);have hlt2:(k1:Int)<(all.length:Int):=(by omega);have HTK:=hH (HC.out k1 _ htk);clear htk;have HB3:=hH (fun W (hb:Bel w.heap.size w W)=>ris_at (some ⟨b,off,none⟩) all c k1 E t1 dp W ⟨#[91]⟩ true hi1 (HTT.out.bel hb) HB2.out);have HS3:=hH (fun W (hb:Bel w.heap.size w W)=>HS0.out k1 W hi1 hb);clear hi1;replace M:=hH (M.out.bel hb);clear hb)|(go_at_call 16;(with_reducible refine(HOV1.out _ M.out.bel0).mono ?_);rintro e w' ⟨rfl,hb⟩;have Mn:=M.out.bel hb;replace M:=hH Mn;clear Mn hb;obtain⟨q0,q1,-⟩:=M.out.c6 (k:=g1) (by repeat constructor);have q9:=(M.out.bel0.cell (p:=⟨b,off+k1*5+4,none⟩) hb0).trans HTK.out.2.2.2.2;rw [HG.out] at q9)|(go_at_call 13;(with_reducible refine M.out.call (HB3.out _ M.out.bel0) ?_);clear M;intro w' M)|(go_at_call 46;(with_reducible refine(HS3.out _ M.out.bel0).mono ?_);rintro e w' ⟨m,A1,c1,k5,D5,rfl,hi5,hd5,hrow,hb⟩;have HI5:=hH hi5;have HD5:=hH hd5;have Mn:=M.out.addK (G:=fun K y=>RowG K 9 (RSel K m y) y (.slice A1 l.length c1) l) (fun h hk=>RowG.keep h hk fun _ _ h=>RSel_ok.keep h hk (Nat.le_refl _)) hb hrow;replace M:=hH Mn;clear Mn hb hrow hi5 hd5)|((with_reducible refine gs1_Sels ?_);refine st1_Sels rfl rfl M.out ?_;intro w' Mn;replace M:=hH Mn;clear Mn))
 replace M:=hH M.out.drew
 refine tbh (fun w'=>Blk w' g7 _ _∧Blk w' g6 _ _) (⟨M.out.b,M.out.b⟩) fun hS=>?_
 refine tk 0 rfl hS (yl_R _ _ rfl _ _ (fun _ h=>h.1) rfl) ?_
 refine tk 1 rfl hS (yl_Seg _ _ rfl _ _ (fun _ h=>h.2) rfl) ?_
 refine tr [2] ?_
 refine rs_R (i:=2) _ _ rfl rfl rfl M.out ?_
 clear M;intro w' M
 refine an ⟨M.out.b,M.out.b⟩ fun hS=>tn ?_
 refine tr [3] ?_
 refine rs_Seg (i:=3) _ _ rfl rfl rfl M.out ?_
 clear M;intro w' M
 refine an ⟨M.out.b,M.out.b⟩ fun hS=>tn ?_
 refine te ?_
 go_wp2
 rw [←HQ.out]
 exact bodyPost_ret (v:=.tuple #[rv (some ⟨b,off,none⟩) all.length c k5 E t3 D5,.agg #[.bool true,.slice A1 l.length c1]]) (res_seg rfl rfl M.out (by repeat constructor) (by repeat constructor)) rfl (⟨m,A1,c1,k5,D5,rfl,HI5.out,HD5.out,M.out.now.2,M.out.bel0⟩)
theorem rseg_b (h:RIn all k t)(hT:TkR w A all)(hd:t.fe=0→dp=(d:Int))(dpb:Bool)(h91:isS [91] t=false)(hdp:isS [46,46] t=dpb)(t1:PSt)(ht1:nextS E t=t1)(ho:ovS t1=false)(hg:(hdT t1).gap=false)(hb2:(dpb && isS [91] t1)=false)(h42:isS [42] t1=true):Calls Tryz.prog 30 #[rv A all.length c k E t dp] w (RSegP A all c E d w (segF E P d t)):=by
 have hcl:closeS E (nextS E t)=t1:=by rw [ht1];unfold closeS;rw [ho,hg];rfl
 have hE:segF E P d t=(⟨dpb,[⟨1,[],0,0,0,0,false,false,none⟩]⟩,nextS E t1):=by unfold segF;rw [ite_ff h91,hcl,hdp];unfold dotF;rw [hb2,ite_ff rfl];rw [ite_tt h42]
 obtain⟨b,off,hA,hb0,hc⟩:=hT.resolve_left (by
  rintro rfl
  have h5:=h.eq
  have:t1.toks=[]:=by
   rw [←ht1];unfold nextS;split
   ·rw [h5];simp;rw [formS_len,h5];simp
   ·rw [h5];simp
  unfold ovS at ho;rw [this] at ho;simp at ho)
 subst hA
 have HI:=hH (fun W (hb:Bel w.heap.size w W)=>ris_at (some ⟨b,off,none⟩) all c k E t dp W ⟨#[91]⟩ false h (hT.bel hb) (hH h91))
 have HJ:=hH (fun W (hb:Bel w.heap.size w W)=>ris_at (some ⟨b,off,none⟩) all c k E t dp W ⟨#[46,46]⟩ dpb h (hT.bel hb) (hH hdp))
 have HN:=hH (fun W (hb:Bel w.heap.size w W)=>rnext_any (some ⟨b,off,none⟩) all c k E t dp W h (hT.bel hb))
 unfold RP at HN
 rw [ht1] at HN
 have HTT:=hH hT
 have HOV:=hH (hH ho)
 have hbd:=h.bd
 have HD:=hH (show t1.fe=0→dp=(d:Int) from fun e=>hd (nextS_fe0 (by rw [ht1];exact e)))
 obtain⟨b91,h9⟩:∃b91,isS [91] t1=b91:=⟨_,rfl⟩
 have hb91:dpb=true→b91=false:=fun e=>by rw [e,h9,Bool.true_and] at hb2;exact hb2
 have HB2:=hH (hH h9)
 have HG:=hH hg
 have HC:=hH hc
 have H42:=hH (hH h42)
 have HE:=hH hE
 clear h hT hd h91 hdp ht1 ho hcl hE h9 hg hc hb2 h42
 cases dpb
 all_goals
  (try (obtain rfl:b91=false:=hb91 rfl))
  (try clear hb91)
  have M:=hH (Own.start [] w (fun _=>True) fun _ _=>trivial)
  go_enter Tryz.func30, Tryz.ntmps30
  generalize hQ:bodyPost Tryz.prog Tryz.f30 (RSegP (some ⟨b,off,none⟩) all c E d w (segF E P d t))=Q
  have HQ:=hH hQ;clear hQ
  go_upto_region 14 with(first|(with_reducible first|(refine bx_R (some 1) M.out ?_;clear M;intro g1 w' hg1 M)|(refine al_R (some 2) M.out ?_;clear M;intro g2 w' hg2 M)|(refine al_Seg (some 3) M.out ?_;clear M;intro g3 w' hg3 M)|refine ld_R M.out ?_|refine ld_Seg M.out ?_|(refine st_R M.out ?_;clear M;intro w' M)|(refine st_Seg M.out ?_;clear M;intro w' M)|refine ld1_bool M.out ?_|(refine al_Seg (some 6) M.out ?_;clear M;intro g6 w' hg6 M)|(refine al_R (some 7) M.out ?_;clear M;intro g7 w' hg7 M)|(refine bsl_Sel (some 56) M.out ?_;clear M;intro g56 w' hg56 M))|((with_reducible refine gg_R ?_);refine ldg_R rfl rfl M.out ?_)|(go_at_call 13;(with_reducible refine M.out.call (HI.out _ M.out.bel0) ?_);clear M;intro w' M)|(go_at_call 13;(with_reducible refine M.out.call (HJ.out _ M.out.bel0) ?_);clear M;intro w' M)|(go_at_call 29;(with_reducible refine(HN.out _ M.out.bel0).mono ?_);rintro e w' ⟨k1,rfl,hi1,hb⟩;have HI1:=hH hi1;have HOV1:=hH (fun W (hb:Bel w.heap.size w W)=>rover_at (some ⟨b,off,none⟩) all c k1 E t1 dp W false hi1 HOV.out);obtain⟨htk,hlt⟩:=hi1.tok (HOV.out.out);have hlt2:(k1:Int)<(all.length:Int):=(by omega);have HTK:=hH (HC.out k1 _ htk);clear htk;have HB3:=hH (fun W (hb:Bel w.heap.size w W)=>ris_at (some ⟨b,off,none⟩) all c k1 E t1 dp W ⟨#[91]⟩ _ hi1 (HTT.out.bel hb) HB2.out);have H43:=hH (fun W (hb:Bel w.heap.size w W)=>ris_at (some ⟨b,off,none⟩) all c k1 E t1 dp W ⟨#[42]⟩ true hi1 (HTT.out.bel hb) H42.out);have HX3:=hH (fun W (hb:Bel w.heap.size w W)=>rnext_any (some ⟨b,off,none⟩) all c k1 E t1 dp W hi1 (HTT.out.bel hb));unfold RP at HX3;clear hi1;replace M:=hH (M.out.bel hb);clear hb)|(go_at_call 16;(with_reducible refine(HOV1.out _ M.out.bel0).mono ?_);rintro e w' ⟨rfl,hb⟩;have Mn:=M.out.bel hb;replace M:=hH Mn;clear Mn hb;obtain⟨q0,q1,-⟩:=M.out.c6 (k:=g1) (by repeat constructor);have q9:=(M.out.bel0.cell (p:=⟨b,off+k1*5+4,none⟩) hb0).trans HTK.out.2.2.2.2;rw [HG.out] at q9)|(go_at_call 13;(with_reducible refine M.out.call (HB3.out _ M.out.bel0) ?_);clear M;intro w' M)|(go_at_call 13;(with_reducible refine M.out.call (H43.out _ M.out.bel0) ?_);clear M;intro w' M)|((with_reducible refine gs1_Sels ?_);refine st1_Sels rfl rfl M.out ?_;intro w' Mn;replace M:=hH Mn;clear Mn))
  replace M:=hH M.out.drew
  refine tbh (fun w'=>Blk w' g1 _ _∧Blk w' g6 _ _) (⟨M.out.b,M.out.b⟩) fun hS=>?_
  refine tk 0 rfl hS (yl_R _ _ rfl _ _ (fun _ h=>h.1) rfl) ?_
  refine tk 2 rfl hS (yl_Seg _ _ rfl _ _ (fun _ h=>h.2) rfl) ?_
  refine tr [1] ?_
  refine rdy_call (i:=1) (HX3.out _ M.out.bel0) (op:=.call _) rfl (by go_simp) ?_
  rintro e w' ⟨k8,rfl,hi8,hb⟩
  have HI8:=hH hi8;clear hi8
  replace M:=hH (M.out.bel hb);clear hb
  refine⟨_,rfl,?_⟩
  refine an ⟨M.out.b,M.out.b⟩ fun hS=>tn ?_
  refine tr [3] ?_
  refine rs_R (i:=3) _ _ rfl rfl rfl M.out ?_
  clear M;intro w' M
  refine an ⟨M.out.b,M.out.b⟩ fun hS=>tn ?_
  refine tr [4] ?_
  refine rs_Seg (i:=4) _ _ rfl rfl rfl M.out ?_
  clear M;intro w' M
  refine an ⟨M.out.b,M.out.b⟩ fun hS=>tn ?_
  refine te ?_
  go_wp2
  rw [←HQ.out]
  exact bodyPost_ret (v:=.tuple #[rv (some ⟨b,off,none⟩) all.length c k8 E (nextS E t1) dp,.agg #[.bool _,.slice (some ⟨g56,0,none⟩) 1 1]]) (res_seg rfl rfl M.out (by repeat constructor) (by repeat constructor)) rfl (RSegP.one HE.out rfl HI8.out (fun e=>HD.out (nextS_fe0 e)) (M.out.blk (g56,_,_) (by repeat constructor)) hg56 rfl M.out.bel0)
theorem rseg_c (h:RIn all k t)(hT:TkR w A all)(hd:t.fe=0→dp=(d:Int))(dpb:Bool)(h91:isS [91] t=false)(hdp:isS [46,46] t=dpb)(t1:PSt)(ht1:nextS E t=t1)(ho:ovS t1=false)(hg:(hdT t1).gap=false)(hb2:(dpb && isS [91] t1)=false)(h42:isS [42] t1=false)(hk2:kindS t1=2):Calls Tryz.prog 30 #[rv A all.length c k E t dp] w (RSegP A all c E d w (segF E P d t)):=by
 have hcl:closeS E (nextS E t)=t1:=by rw [ht1];unfold closeS;rw [ho,hg];rfl
 have hE:segF E P d t=(⟨dpb,[⟨0,(hdT t1).s,0,0,0,0,false,false,none⟩]⟩,nextS E t1):=by unfold segF;rw [ite_ff h91,hcl,hdp];unfold dotF;rw [hb2,ite_ff rfl];rw [ite_ff h42,if_pos hk2]
 obtain⟨b,off,hA,hb0,hc⟩:=hT.resolve_left (by
  rintro rfl
  have h5:=h.eq
  have:t1.toks=[]:=by
   rw [←ht1];unfold nextS;split
   ·rw [h5];simp;rw [formS_len,h5];simp
   ·rw [h5];simp
  unfold ovS at ho;rw [this] at ho;simp at ho)
 subst hA
 have HI:=hH (fun W (hb:Bel w.heap.size w W)=>ris_at (some ⟨b,off,none⟩) all c k E t dp W ⟨#[91]⟩ false h (hT.bel hb) (hH h91))
 have HJ:=hH (fun W (hb:Bel w.heap.size w W)=>ris_at (some ⟨b,off,none⟩) all c k E t dp W ⟨#[46,46]⟩ dpb h (hT.bel hb) (hH hdp))
 have HN:=hH (fun W (hb:Bel w.heap.size w W)=>rnext_any (some ⟨b,off,none⟩) all c k E t dp W h (hT.bel hb))
 unfold RP at HN
 rw [ht1] at HN
 have HTT:=hH hT
 have HOV:=hH (hH ho)
 have hbd:=h.bd
 have HD:=hH (show t1.fe=0→dp=(d:Int) from fun e=>hd (nextS_fe0 (by rw [ht1];exact e)))
 obtain⟨b91,h9⟩:∃b91,isS [91] t1=b91:=⟨_,rfl⟩
 have hb91:dpb=true→b91=false:=fun e=>by rw [e,h9,Bool.true_and] at hb2;exact hb2
 have HB2:=hH (hH h9)
 have HG:=hH hg
 have HC:=hH hc
 have H42:=hH (hH h42)
 obtain⟨q2,hq2⟩:∃q2,kindS t1=q2:=⟨_,rfl⟩
 have hqb:(q2==2)=true:=by rw [←hq2,hk2];rfl
 have HQ2:=hH (hH hq2)
 have HE:=hH hE
 clear h hT hd h91 hdp ht1 ho hcl hE h9 hg hc hb2 h42 hk2 hq2
 cases dpb
 all_goals
  (try (obtain rfl:b91=false:=hb91 rfl))
  (try clear hb91)
  have M:=hH (Own.start [] w (fun _=>True) fun _ _=>trivial)
  go_enter Tryz.func30, Tryz.ntmps30
  generalize hQ:bodyPost Tryz.prog Tryz.f30 (RSegP (some ⟨b,off,none⟩) all c E d w (segF E P d t))=Q
  have HQ:=hH hQ;clear hQ
  go_upto_region 17 with(first|(with_reducible first|(refine bx_R (some 1) M.out ?_;clear M;intro g1 w' hg1 M)|(refine al_R (some 2) M.out ?_;clear M;intro g2 w' hg2 M)|(refine al_Seg (some 3) M.out ?_;clear M;intro g3 w' hg3 M)|refine ld_R M.out ?_|refine ld_Seg M.out ?_|(refine st_R M.out ?_;clear M;intro w' M)|(refine st_Seg M.out ?_;clear M;intro w' M)|refine ld1_bool M.out ?_|(refine al_Seg (some 6) M.out ?_;clear M;intro g6 w' hg6 M)|(refine al_R (some 7) M.out ?_;clear M;intro g7 w' hg7 M)|(refine bsl_Sel (some 72) M.out ?_;clear M;intro g72 w' hg72 M))|((with_reducible refine gg_R ?_);refine ldg_R rfl rfl M.out ?_)|(go_at_call 13;(with_reducible refine M.out.call (HI.out _ M.out.bel0) ?_);clear M;intro w' M)|(go_at_call 13;(with_reducible refine M.out.call (HJ.out _ M.out.bel0) ?_);clear M;intro w' M)|(go_at_call 29;(with_reducible refine(HN.out _ M.out.bel0).mono ?_);rintro e w' ⟨k1,rfl,hi1,hb⟩;have HI1:=hH hi1;have HOV1:=hH (fun W (hb:Bel w.heap.size w W)=>rover_at (some ⟨b,off,none⟩) all c k1 E t1 dp W false hi1 HOV.out);obtain⟨htk,hlt⟩:=hi1.tok (HOV.out.out);have hlt2:(k1:Int)<(all.length:Int):=(by omega);have HTK:=hH (HC.out k1 _ htk);clear htk;have HB3:=hH (fun W (hb:Bel w.heap.size w W)=>ris_at (some ⟨b,off,none⟩) all c k1 E t1 dp W ⟨#[91]⟩ _ hi1 (HTT.out.bel hb) HB2.out);have H43:=hH (fun W (hb:Bel w.heap.size w W)=>ris_at (some ⟨b,off,none⟩) all c k1 E t1 dp W ⟨#[42]⟩ false hi1 (HTT.out.bel hb) H42.out);have HK3:=hH (fun W (hb:Bel w.heap.size w W)=>rkind_at (some ⟨b,off,none⟩) all c k1 E t1 dp W q2 hi1 (HTT.out.bel hb) HQ2.out);have HX3:=hH (fun W (hb:Bel w.heap.size w W)=>rnext_any (some ⟨b,off,none⟩) all c k1 E t1 dp W hi1 (HTT.out.bel hb));unfold RP at HX3;clear hi1;replace M:=hH (M.out.bel hb);clear hb)|(go_at_call 16;(with_reducible refine(HOV1.out _ M.out.bel0).mono ?_);rintro e w' ⟨rfl,hb⟩;have Mn:=M.out.bel hb;replace M:=hH Mn;clear Mn hb;obtain⟨q0,q1,-⟩:=M.out.c6 (k:=g1) (by repeat constructor);have q9:=(M.out.bel0.cell (p:=⟨b,off+k1*5+4,none⟩) hb0).trans HTK.out.2.2.2.2;rw [HG.out] at q9)|(go_at_call 13;(with_reducible refine M.out.call (HB3.out _ M.out.bel0) ?_);clear M;intro w' M)|(go_at_call 13;(with_reducible refine M.out.call (H43.out _ M.out.bel0) ?_);clear M;intro w' M)|(go_at_call 26;(with_reducible refine(HK3.out _ M.out.bel0).mono ?_);rintro e w' ⟨rfl,hb⟩;have Mn:=M.out.bel hb;replace M:=hH Mn;clear Mn hb;clear q0 q1 q9;obtain⟨q0,q1,-⟩:=M.out.c6 (k:=g1) (by repeat constructor);have q9:=(M.out.bel0.cell (p:=⟨b,off+k1*5+1,none⟩) hb0).trans HTK.out.2.1)|((with_reducible refine gs1_Sels ?_);refine st1_Sels rfl rfl M.out ?_;intro w' Mn;replace M:=hH Mn;clear Mn))
  replace M:=hH M.out.drew
  refine tbh (fun w'=>Blk w' g1 _ _∧Blk w' g6 _ _) (⟨M.out.b,M.out.b⟩) fun hS=>?_
  refine tk 0 rfl hS (yl_R _ _ rfl _ _ (fun _ h=>h.1) rfl) ?_
  refine tk 2 rfl hS (yl_Seg _ _ rfl _ _ (fun _ h=>h.2) rfl) ?_
  refine tr [1] ?_
  refine rdy_call (i:=1) (HX3.out _ M.out.bel0) (op:=.call _) rfl (by go_simp) ?_
  rintro e w' ⟨k8,rfl,hi8,hb⟩
  have HI8:=hH hi8;clear hi8
  replace M:=hH (M.out.bel hb);clear hb
  refine⟨_,rfl,?_⟩
  refine an ⟨M.out.b,M.out.b⟩ fun hS=>tn ?_
  refine tr [3] ?_
  refine rs_R (i:=3) _ _ rfl rfl rfl M.out ?_
  clear M;intro w' M
  refine an ⟨M.out.b,M.out.b⟩ fun hS=>tn ?_
  refine tr [4] ?_
  refine rs_Seg (i:=4) _ _ rfl rfl rfl M.out ?_
  clear M;intro w' M
  refine an ⟨M.out.b,M.out.b⟩ fun hS=>tn ?_
  refine te ?_
  go_wp2
  rw [←HQ.out]
  exact bodyPost_ret (v:=.tuple #[rv (some ⟨b,off,none⟩) all.length c k8 E (nextS E t1) dp,.agg #[.bool _,.slice (some ⟨g72,0,none⟩) 1 1]]) (res_seg rfl rfl M.out (by repeat constructor) (by repeat constructor)) rfl (RSegP.one HE.out rfl HI8.out (fun e=>HD.out (nextS_fe0 e)) (M.out.blk (g72,_,_) (by repeat constructor)) hg72 rfl M.out.bel0)
theorem rseg_d0 (h:RIn all k t)(hT:TkR w A all)(hd:t.fe=0→dp=(d:Int))(dpb:Bool)(h91:isS [91] t=false)(hdp:isS [46,46] t=dpb)(t1:PSt)(ht1:nextS E t=t1)(ho:ovS t1=true)(hb2:(dpb && isS [91] t1)=false)(h42:isS [42] t1=false)(hk2:kindS t1≠2):Calls Tryz.prog 30 #[rv A all.length c k E t dp] w (RSegP A all c E d w (segF E P d t)):=by
 have hcl:closeS E (nextS E t)=t1:=by rw [ht1];unfold closeS;rw [ho,Bool.not_true,Bool.false_and];exact if_neg (by decide)
 have hE:segF E P d t=(⟨dpb,[]⟩,formS E t1):=by unfold segF;rw [ite_ff h91,hcl,hdp];unfold dotF;rw [hb2,ite_ff rfl];rw [ite_ff h42,if_neg hk2]
 have HI:=hH (fun W (hb:Bel w.heap.size w W)=>ris_at A all c k E t dp W ⟨#[91]⟩ false h (hT.bel hb) (hH h91))
 have HJ:=hH (fun W (hb:Bel w.heap.size w W)=>ris_at A all c k E t dp W ⟨#[46,46]⟩ dpb h (hT.bel hb) (hH hdp))
 have HN:=hH (fun W (hb:Bel w.heap.size w W)=>rnext_any A all c k E t dp W h (hT.bel hb))
 unfold RP at HN
 rw [ht1] at HN
 have HTT:=hH hT
 have HOV:=hH (hH ho)
 have hbd:=h.bd
 have HD:=hH (show t1.fe=0→dp=(d:Int) from fun e=>hd (nextS_fe0 (by rw [ht1];exact e)))
 obtain⟨b91,h9⟩:∃b91,isS [91] t1=b91:=⟨_,rfl⟩
 have hb91:dpb=true→b91=false:=fun e=>by rw [e,h9,Bool.true_and] at hb2;exact hb2
 have HB2:=hH (hH h9)
 have H42:=hH (hH h42)
 obtain⟨q2,hq2⟩:∃q2,kindS t1=q2:=⟨_,rfl⟩
 have hqb:(q2==2)=false:=by rw [beq_eq_false_iff_ne,←hq2];exact hk2
 have HQ2:=hH (hH hq2)
 have HE:=hH hE
 clear h hT hd h91 hdp ht1 ho hcl hE h9 hb2 h42 hk2 hq2
 cases dpb
 all_goals
  (try (obtain rfl:b91=false:=hb91 rfl))
  (try clear hb91)
  have M:=hH (Own.start [] w (fun _=>True) fun _ _=>trivial)
  go_enter Tryz.func30, Tryz.ntmps30
  generalize hQ:bodyPost Tryz.prog Tryz.f30 (RSegP A all c E d w (segF E P d t))=Q
  have HQ:=hH hQ;clear hQ
  go_upto_region 18 with(first|(with_reducible first|(refine bx_R (some 1) M.out ?_;clear M;intro g1 w' hg1 M)|(refine al_R (some 2) M.out ?_;clear M;intro g2 w' hg2 M)|(refine al_Seg (some 3) M.out ?_;clear M;intro g3 w' hg3 M)|refine ld_R M.out ?_|refine ld_Seg M.out ?_|(refine st_R M.out ?_;clear M;intro w' M)|(refine st_Seg M.out ?_;clear M;intro w' M)|refine ld1_bool M.out ?_|(refine al_Seg (some 6) M.out ?_;clear M;intro g6 w' hg6 M)|(refine al_R (some 7) M.out ?_;clear M;intro g7 w' hg7 M))|((with_reducible refine gg_R ?_);refine ldg_R rfl rfl M.out ?_)|(go_at_call 13;(with_reducible refine M.out.call (HI.out _ M.out.bel0) ?_);clear M;intro w' M)|(go_at_call 13;(with_reducible refine M.out.call (HJ.out _ M.out.bel0) ?_);clear M;intro w' M)|(go_at_call 29;(with_reducible refine(HN.out _ M.out.bel0).mono ?_);rintro e w' ⟨k1,rfl,hi1,hb⟩;have HI1:=hH hi1;have HOV1:=hH (fun W (hb:Bel w.heap.size w W)=>rover_at A all c k1 E t1 dp W true hi1 HOV.out);have HB3:=hH (fun W (hb:Bel w.heap.size w W)=>ris_at A all c k1 E t1 dp W ⟨#[91]⟩ _ hi1 (HTT.out.bel hb) HB2.out);have H43:=hH (fun W (hb:Bel w.heap.size w W)=>ris_at A all c k1 E t1 dp W ⟨#[42]⟩ false hi1 (HTT.out.bel hb) H42.out);have HK3:=hH (fun W (hb:Bel w.heap.size w W)=>rkind_at A all c k1 E t1 dp W q2 hi1 (HTT.out.bel hb) HQ2.out);have HF3:=hH (fun W (hb:Bel w.heap.size w W)=>rform_any A all c k1 E t1 dp W hi1 (HTT.out.bel hb));clear hi1;replace M:=hH (M.out.bel hb);clear hb)|(go_at_call 16;(with_reducible refine M.out.call (HOV1.out _ M.out.bel0) ?_);clear M;intro w' M)|(go_at_call 13;(with_reducible refine M.out.call (HB3.out _ M.out.bel0) ?_);clear M;intro w' M)|(go_at_call 13;(with_reducible refine M.out.call (H43.out _ M.out.bel0) ?_);clear M;intro w' M)|(go_at_call 26;(with_reducible refine M.out.call (HK3.out _ M.out.bel0) ?_);clear M;intro w' M))
  replace M:=hH M.out.drew
  refine tbh (fun w'=>Blk w' g1 _ _∧Blk w' g6 _ _) (⟨M.out.b,M.out.b⟩) fun hS=>?_
  refine tk 0 rfl hS (yl_R _ _ rfl _ _ (fun _ h=>h.1) rfl) ?_
  refine tk 2 rfl hS (yl_Seg _ _ rfl _ _ (fun _ h=>h.2) rfl) ?_
  refine tr [1] ?_
  refine rdy_call (i:=1) (HF3.out _ M.out.bel0) (op:=.call _) rfl (by go_simp) ?_
  rintro e w' ⟨rfl,hb⟩
  replace M:=hH (M.out.bel hb);clear hb
  refine⟨_,rfl,?_⟩
  refine an ⟨M.out.b,M.out.b⟩ fun hS=>tn ?_
  refine tr [3] ?_
  refine rs_R (i:=3) _ _ rfl rfl rfl M.out ?_
  clear M;intro w' M
  refine an ⟨M.out.b,M.out.b⟩ fun hS=>tn ?_
  refine tr [4] ?_
  refine rs_Seg (i:=4) _ _ rfl rfl rfl M.out ?_
  clear M;intro w' M
  refine an ⟨M.out.b,M.out.b⟩ fun hS=>tn ?_
  refine te ?_
  go_wp2
  rw [←HQ.out]
  exact bodyPost_ret (v:=.tuple #[rv A all.length c k1 E (formS E t1) dp,.agg #[.bool _,.slice none 0 0]]) (res_seg rfl rfl M.out (by repeat constructor) (by repeat constructor)) rfl (RSegP.none_ HE.out (HI1.out.form E) (fun e=>absurd e (formS_fe E _)) M.out.bel0)
theorem rseg_d1 (h:RIn all k t)(hT:TkR w A all)(hd:t.fe=0→dp=(d:Int))(dpb:Bool)(h91:isS [91] t=false)(hdp:isS [46,46] t=dpb)(t1:PSt)(ht1:nextS E t=t1)(ho:ovS t1=false)(hg:(hdT t1).gap=false)(hb2:(dpb && isS [91] t1)=false)(h42:isS [42] t1=false)(hk2:kindS t1≠2):Calls Tryz.prog 30 #[rv A all.length c k E t dp] w (RSegP A all c E d w (segF E P d t)):=by
 have hcl:closeS E (nextS E t)=t1:=by rw [ht1];unfold closeS;rw [ho,hg];rfl
 have hE:segF E P d t=(⟨dpb,[]⟩,formS E t1):=by unfold segF;rw [ite_ff h91,hcl,hdp];unfold dotF;rw [hb2,ite_ff rfl];rw [ite_ff h42,if_neg hk2]
 obtain⟨b,off,hA,hb0,hc⟩:=hT.resolve_left (by
  rintro rfl
  have h5:=h.eq
  have:t1.toks=[]:=by
   rw [←ht1];unfold nextS;split
   ·rw [h5];simp;rw [formS_len,h5];simp
   ·rw [h5];simp
  unfold ovS at ho;rw [this] at ho;simp at ho)
 subst hA
 have HI:=hH (fun W (hb:Bel w.heap.size w W)=>ris_at (some ⟨b,off,none⟩) all c k E t dp W ⟨#[91]⟩ false h (hT.bel hb) (hH h91))
 have HJ:=hH (fun W (hb:Bel w.heap.size w W)=>ris_at (some ⟨b,off,none⟩) all c k E t dp W ⟨#[46,46]⟩ dpb h (hT.bel hb) (hH hdp))
 have HN:=hH (fun W (hb:Bel w.heap.size w W)=>rnext_any (some ⟨b,off,none⟩) all c k E t dp W h (hT.bel hb))
 unfold RP at HN
 rw [ht1] at HN
 have HTT:=hH hT
 have HOV:=hH (hH ho)
 have hbd:=h.bd
 have HD:=hH (show t1.fe=0→dp=(d:Int) from fun e=>hd (nextS_fe0 (by rw [ht1];exact e)))
 obtain⟨b91,h9⟩:∃b91,isS [91] t1=b91:=⟨_,rfl⟩
 have hb91:dpb=true→b91=false:=fun e=>by rw [e,h9,Bool.true_and] at hb2;exact hb2
 have HB2:=hH (hH h9)
 have HG:=hH hg
 have HC:=hH hc
 have H42:=hH (hH h42)
 obtain⟨q2,hq2⟩:∃q2,kindS t1=q2:=⟨_,rfl⟩
 have hqb:(q2==2)=false:=by rw [beq_eq_false_iff_ne,←hq2];exact hk2
 have HQ2:=hH (hH hq2)
 have HE:=hH hE
 clear h hT hd h91 hdp ht1 ho hcl hE h9 hg hc hb2 h42 hk2 hq2
 cases dpb
 all_goals
  (try (obtain rfl:b91=false:=hb91 rfl))
  (try clear hb91)
  have M:=hH (Own.start [] w (fun _=>True) fun _ _=>trivial)
  go_enter Tryz.func30, Tryz.ntmps30
  generalize hQ:bodyPost Tryz.prog Tryz.f30 (RSegP (some ⟨b,off,none⟩) all c E d w (segF E P d t))=Q
  have HQ:=hH hQ;clear hQ
  go_upto_region 18 with(first|(with_reducible first|(refine bx_R (some 1) M.out ?_;clear M;intro g1 w' hg1 M)|(refine al_R (some 2) M.out ?_;clear M;intro g2 w' hg2 M)|(refine al_Seg (some 3) M.out ?_;clear M;intro g3 w' hg3 M)|refine ld_R M.out ?_|refine ld_Seg M.out ?_|(refine st_R M.out ?_;clear M;intro w' M)|(refine st_Seg M.out ?_;clear M;intro w' M)|refine ld1_bool M.out ?_|(refine al_Seg (some 6) M.out ?_;clear M;intro g6 w' hg6 M)|(refine al_R (some 7) M.out ?_;clear M;intro g7 w' hg7 M))|((with_reducible refine gg_R ?_);refine ldg_R rfl rfl M.out ?_)|(go_at_call 13;(with_reducible refine M.out.call (HI.out _ M.out.bel0) ?_);clear M;intro w' M)|(go_at_call 13;(with_reducible refine M.out.call (HJ.out _ M.out.bel0) ?_);clear M;intro w' M)|(go_at_call 29;(with_reducible refine(HN.out _ M.out.bel0).mono ?_);rintro e w' ⟨k1,rfl,hi1,hb⟩;have HI1:=hH hi1;have HOV1:=hH (fun W (hb:Bel w.heap.size w W)=>rover_at (some ⟨b,off,none⟩) all c k1 E t1 dp W false hi1 HOV.out);obtain⟨htk,hlt⟩:=hi1.tok (HOV.out.out);have hlt2:(k1:Int)<(all.length:Int):=(by omega);have HTK:=hH (HC.out k1 _ htk);clear htk;have HB3:=hH (fun W (hb:Bel w.heap.size w W)=>ris_at (some ⟨b,off,none⟩) all c k1 E t1 dp W ⟨#[91]⟩ _ hi1 (HTT.out.bel hb) HB2.out);have H43:=hH (fun W (hb:Bel w.heap.size w W)=>ris_at (some ⟨b,off,none⟩) all c k1 E t1 dp W ⟨#[42]⟩ false hi1 (HTT.out.bel hb) H42.out);have HK3:=hH (fun W (hb:Bel w.heap.size w W)=>rkind_at (some ⟨b,off,none⟩) all c k1 E t1 dp W q2 hi1 (HTT.out.bel hb) HQ2.out);have HF3:=hH (fun W (hb:Bel w.heap.size w W)=>rform_any (some ⟨b,off,none⟩) all c k1 E t1 dp W hi1 (HTT.out.bel hb));clear hi1;replace M:=hH (M.out.bel hb);clear hb)|(go_at_call 16;(with_reducible refine(HOV1.out _ M.out.bel0).mono ?_);rintro e w' ⟨rfl,hb⟩;have Mn:=M.out.bel hb;replace M:=hH Mn;clear Mn hb;obtain⟨q0,q1,-⟩:=M.out.c6 (k:=g1) (by repeat constructor);have q9:=(M.out.bel0.cell (p:=⟨b,off+k1*5+4,none⟩) hb0).trans HTK.out.2.2.2.2;rw [HG.out] at q9)|(go_at_call 13;(with_reducible refine M.out.call (HB3.out _ M.out.bel0) ?_);clear M;intro w' M)|(go_at_call 13;(with_reducible refine M.out.call (H43.out _ M.out.bel0) ?_);clear M;intro w' M)|(go_at_call 26;(with_reducible refine M.out.call (HK3.out _ M.out.bel0) ?_);clear M;intro w' M))
  replace M:=hH M.out.drew
  refine tbh (fun w'=>Blk w' g1 _ _∧Blk w' g6 _ _) (⟨M.out.b,M.out.b⟩) fun hS=>?_
  refine tk 0 rfl hS (yl_R _ _ rfl _ _ (fun _ h=>h.1) rfl) ?_
  refine tk 2 rfl hS (yl_Seg _ _ rfl _ _ (fun _ h=>h.2) rfl) ?_
  refine tr [1] ?_
  refine rdy_call (i:=1) (HF3.out _ M.out.bel0) (op:=.call _) rfl (by go_simp) ?_
  rintro e w' ⟨rfl,hb⟩
  replace M:=hH (M.out.bel hb);clear hb
  refine⟨_,rfl,?_⟩
  refine an ⟨M.out.b,M.out.b⟩ fun hS=>tn ?_
  refine tr [3] ?_
  refine rs_R (i:=3) _ _ rfl rfl rfl M.out ?_
  clear M;intro w' M
  refine an ⟨M.out.b,M.out.b⟩ fun hS=>tn ?_
  refine tr [4] ?_
  refine rs_Seg (i:=4) _ _ rfl rfl rfl M.out ?_
  clear M;intro w' M
  refine an ⟨M.out.b,M.out.b⟩ fun hS=>tn ?_
  refine te ?_
  go_wp2
  rw [←HQ.out]
  exact bodyPost_ret (v:=.tuple #[rv (some ⟨b,off,none⟩) all.length c k1 E (formS E t1) dp,.agg #[.bool _,.slice none 0 0]]) (res_seg rfl rfl M.out (by repeat constructor) (by repeat constructor)) rfl (RSegP.none_ HE.out (HI1.out.form E) (fun e=>absurd e (formS_fe E _)) M.out.bel0)
theorem rseg_d2 (h:RIn all k t)(hT:TkR w A all)(hd:t.fe=0→dp=(d:Int))(dpb:Bool)(h91:isS [91] t=false)(hdp:isS [46,46] t=dpb)(t1:PSt)(ht1:nextS E t=t1)(ho:ovS t1=false)(hg:(hdT t1).gap=true)(hb2:(dpb && isS [91] (formS E t1))=false)(h42:isS [42] (formS E t1)=false)(hk2:kindS (formS E t1)≠2):Calls Tryz.prog 30 #[rv A all.length c k E t dp] w (RSegP A all c E d w (segF E P d t)):=by
 have hcl:closeS E (nextS E t)=(formS E t1):=by rw [ht1];unfold closeS;rw [ho,hg];rfl
 have hE:segF E P d t=(⟨dpb,[]⟩,formS E (formS E t1)):=by unfold segF;rw [ite_ff h91,hcl,hdp];unfold dotF;rw [hb2,ite_ff rfl];rw [ite_ff h42,if_neg hk2]
 obtain⟨b,off,hA,hb0,hc⟩:=hT.resolve_left (by
  rintro rfl
  have h5:=h.eq
  have:t1.toks=[]:=by
   rw [←ht1];unfold nextS;split
   ·rw [h5];simp;rw [formS_len,h5];simp
   ·rw [h5];simp
  unfold ovS at ho;rw [this] at ho;simp at ho)
 subst hA
 have HI:=hH (fun W (hb:Bel w.heap.size w W)=>ris_at (some ⟨b,off,none⟩) all c k E t dp W ⟨#[91]⟩ false h (hT.bel hb) (hH h91))
 have HJ:=hH (fun W (hb:Bel w.heap.size w W)=>ris_at (some ⟨b,off,none⟩) all c k E t dp W ⟨#[46,46]⟩ dpb h (hT.bel hb) (hH hdp))
 have HN:=hH (fun W (hb:Bel w.heap.size w W)=>rnext_any (some ⟨b,off,none⟩) all c k E t dp W h (hT.bel hb))
 unfold RP at HN
 rw [ht1] at HN
 have HTT:=hH hT
 have HOV:=hH (hH ho)
 have hbd:=h.bd
 have HD:=hH (show t1.fe=0→dp=(d:Int) from fun e=>hd (nextS_fe0 (by rw [ht1];exact e)))
 obtain⟨b91,h9⟩:∃b91,isS [91] (formS E t1)=b91:=⟨_,rfl⟩
 have hb91:dpb=true→b91=false:=fun e=>by rw [e,h9,Bool.true_and] at hb2;exact hb2
 have HB2:=hH (hH h9)
 have HG:=hH hg
 have HC:=hH hc
 have H42:=hH (hH h42)
 obtain⟨q2,hq2⟩:∃q2,kindS (formS E t1)=q2:=⟨_,rfl⟩
 have hqb:(q2==2)=false:=by rw [beq_eq_false_iff_ne,←hq2];exact hk2
 have HQ2:=hH (hH hq2)
 have HE:=hH hE
 clear h hT hd h91 hdp ht1 ho hcl hE h9 hg hc hb2 h42 hk2 hq2
 cases dpb
 all_goals
  (try (obtain rfl:b91=false:=hb91 rfl))
  (try clear hb91)
  have M:=hH (Own.start [] w (fun _=>True) fun _ _=>trivial)
  go_enter Tryz.func30, Tryz.ntmps30
  generalize hQ:bodyPost Tryz.prog Tryz.f30 (RSegP (some ⟨b,off,none⟩) all c E d w (segF E P d t))=Q
  have HQ:=hH hQ;clear hQ
  go_upto_region 18 with(first|(with_reducible first|(refine bx_R (some 1) M.out ?_;clear M;intro g1 w' hg1 M)|(refine al_R (some 2) M.out ?_;clear M;intro g2 w' hg2 M)|(refine al_Seg (some 3) M.out ?_;clear M;intro g3 w' hg3 M)|refine ld_R M.out ?_|refine ld_Seg M.out ?_|(refine st_R M.out ?_;clear M;intro w' M)|(refine st_Seg M.out ?_;clear M;intro w' M)|refine ld1_bool M.out ?_|(refine al_Seg (some 6) M.out ?_;clear M;intro g6 w' hg6 M)|(refine al_R (some 7) M.out ?_;clear M;intro g7 w' hg7 M))|((with_reducible refine gg_R ?_);refine ldg_R rfl rfl M.out ?_)|(go_at_call 13;(with_reducible refine M.out.call (HI.out _ M.out.bel0) ?_);clear M;intro w' M)|(go_at_call 13;(with_reducible refine M.out.call (HJ.out _ M.out.bel0) ?_);clear M;intro w' M)|(go_at_call 29;(with_reducible refine(HN.out _ M.out.bel0).mono ?_);rintro e w' ⟨k1,rfl,hi1,hb⟩;have HI1:=hH hi1;have HOV1:=hH (fun W (hb:Bel w.heap.size w W)=>rover_at (some ⟨b,off,none⟩) all c k1 E t1 dp W false hi1 HOV.out);obtain⟨htk,hlt⟩:=hi1.tok (HOV.out.out);have hlt2:(k1:Int)<(all.length:Int):=(by omega);have HTK:=hH (HC.out k1 _ htk);clear htk;have HF1:=hH (fun W (hb:Bel w.heap.size w W)=>rform_any (some ⟨b,off,none⟩) all c k1 E t1 dp W hi1 (HTT.out.bel hb));clear hi1;replace M:=hH (M.out.bel hb);clear hb)|(go_at_call 16;(with_reducible refine(HOV1.out _ M.out.bel0).mono ?_);rintro e w' ⟨rfl,hb⟩;have Mn:=M.out.bel hb;replace M:=hH Mn;clear Mn hb;obtain⟨q0,q1,-⟩:=M.out.c6 (k:=g1) (by repeat constructor);have q9:=(M.out.bel0.cell (p:=⟨b,off+k1*5+4,none⟩) hb0).trans HTK.out.2.2.2.2;rw [HG.out] at q9)|(go_at_call 14;(with_reducible refine(HF1.out _ M.out.bel0).mono ?_);rintro e w' ⟨rfl,hb⟩;have HI2:=hH (HI1.out.form E);have HB3:=hH (fun W (hb:Bel w.heap.size w W)=>ris_at (some ⟨b,off,none⟩) all c k1 E (formS E t1) dp W ⟨#[91]⟩ _ HI2.out (HTT.out.bel hb) HB2.out);have H43:=hH (fun W (hb:Bel w.heap.size w W)=>ris_at (some ⟨b,off,none⟩) all c k1 E (formS E t1) dp W ⟨#[42]⟩ false HI2.out (HTT.out.bel hb) H42.out);have HK3:=hH (fun W (hb:Bel w.heap.size w W)=>rkind_at (some ⟨b,off,none⟩) all c k1 E (formS E t1) dp W q2 HI2.out (HTT.out.bel hb) HQ2.out);have HF3:=hH (fun W (hb:Bel w.heap.size w W)=>rform_any (some ⟨b,off,none⟩) all c k1 E (formS E t1) dp W HI2.out (HTT.out.bel hb));replace M:=hH (M.out.bel hb);clear hb)|(go_at_call 13;(with_reducible refine M.out.call (HB3.out _ M.out.bel0) ?_);clear M;intro w' M)|(go_at_call 13;(with_reducible refine M.out.call (H43.out _ M.out.bel0) ?_);clear M;intro w' M)|(go_at_call 26;(with_reducible refine M.out.call (HK3.out _ M.out.bel0) ?_);clear M;intro w' M))
  replace M:=hH M.out.drew
  refine tbh (fun w'=>Blk w' g1 _ _∧Blk w' g6 _ _) (⟨M.out.b,M.out.b⟩) fun hS=>?_
  refine tk 0 rfl hS (yl_R _ _ rfl _ _ (fun _ h=>h.1) rfl) ?_
  refine tk 2 rfl hS (yl_Seg _ _ rfl _ _ (fun _ h=>h.2) rfl) ?_
  refine tr [1] ?_
  refine rdy_call (i:=1) (HF3.out _ M.out.bel0) (op:=.call _) rfl (by go_simp) ?_
  rintro e w' ⟨rfl,hb⟩
  replace M:=hH (M.out.bel hb);clear hb
  refine⟨_,rfl,?_⟩
  refine an ⟨M.out.b,M.out.b⟩ fun hS=>tn ?_
  refine tr [3] ?_
  refine rs_R (i:=3) _ _ rfl rfl rfl M.out ?_
  clear M;intro w' M
  refine an ⟨M.out.b,M.out.b⟩ fun hS=>tn ?_
  refine tr [4] ?_
  refine rs_Seg (i:=4) _ _ rfl rfl rfl M.out ?_
  clear M;intro w' M
  refine an ⟨M.out.b,M.out.b⟩ fun hS=>tn ?_
  refine te ?_
  go_wp2
  rw [←HQ.out]
  exact bodyPost_ret (v:=.tuple #[rv (some ⟨b,off,none⟩) all.length c k1 E (formS E (formS E t1)) dp,.agg #[.bool _,.slice none 0 0]]) (res_seg rfl rfl M.out (by repeat constructor) (by repeat constructor)) rfl (RSegP.none_ HE.out (HI2.out.form E) (fun e=>absurd e (formS_fe E _)) M.out.bel0)
theorem rseg_any (hL:LeP P)(N:Nat)(hP:ROrC A all c E P N)(h:RIn all k t)(hT:TkR w A all)(hd:t.fe=0→dp=(d:Int))(hN:N≤d+1)(hdd:d≤33)(hs:isSeg t=true)(hf:d=33→t.fe≠0):Calls Tryz.prog 30 #[rv A all.length c k E t dp] w (RSegP A all c E d w (segF E P d t)):=by
 cases h91:isS [91] t with
 | true=>exact rseg_br A all c k E P t d dp w hL N hP h hT hd hN hdd hf h91
 | false =>
  have h32:d≤32:=by
   have:∃l,isS l t=true:=by
    unfold isSeg at hs;rw [h91,Bool.false_or,Bool.or_eq_true] at hs
    rcases hs with hs|hs
    ·exact⟨_,hs⟩
    ·exact⟨_,hs⟩
   obtain⟨l,hl⟩:=this
   exact is_deep hl hdd hf
  obtain⟨t1,ht1⟩:∃t1,nextS E t=t1:=⟨_,rfl⟩
  have over:ovS t1=true→(∀l,isS l t1=false)∧kindS t1≠2:=fun ho=>by
   have hk:hdT t1=tok0:=(nextS_ov (E:=E) ho).2
   refine⟨fun l=>by unfold isS kindS;rw [hk];rfl,by unfold kindS;rw [hk];decide⟩
  have bad:(∀l,isS l (formS E t1)=false)∧kindS (formS E t1)≠2 :=
   ⟨fun l=>isS_bad l (formS_fe E t1),by unfold kindS;rw [hdT_bad (formS_fe E t1)];decide⟩
  obtain⟨dpb,hdp⟩:∃dpb,isS [46,46] t=dpb:=⟨_,rfl⟩
  cases ho:ovS t1 with
  | true=>exact rseg_d0 A all c k E P t d dp w h hT hd dpb h91 hdp t1 ht1 ho (by rw [(over ho).1,Bool.and_false]) ((over ho).1 _) (over ho).2
  | false =>
   cases hg:(hdT t1).gap with
   | true=>exact rseg_d2 A all c k E P t d dp w h hT hd dpb h91 hdp t1 ht1 ho hg (by rw [bad.1,Bool.and_false]) (bad.1 _) bad.2
   | false =>
    cases hb2:(dpb && isS [91] t1) with
    | true =>
     rw [Bool.and_eq_true] at hb2
     exact rseg_a A all c k E P t d dp w h hT hd h91 (by rw [hdp];exact hb2.1) t1 ht1 ho hg hb2.2 hL N hP hN hdd (fun e=>absurd e (by omega))
    | false =>
     cases h42:isS [42] t1 with
     | true=>exact rseg_b A all c k E P t d dp w h hT hd dpb h91 hdp t1 ht1 ho hg hb2 h42
     | false =>
      by_cases hk2:kindS t1=2
      ·exact rseg_c A all c k E P t d dp w h hT hd dpb h91 hdp t1 ht1 ho hg hb2 h42 hk2
      ·exact rseg_d1 A all c k E P t d dp w h hT hd dpb h91 hdp t1 ht1 ho hg hb2 h42 hk2
end
end Go.Proofs.YtjbdcjcfijjiiaaGreatDoor
