/- ref17: Parse (printed by gen_yp.py). -/
import Derived.Test.YtjbdcjcfijjiiaaGreatDoorNOz
import Derived.Test.YtjbdcjcfijjiiaaGreatDoorNYo
import Derived.Test.YtjbdcjcfijjiiaaGreatDoorNG34
namespace Go.Proofs.YtjbdcjcfijjiiaaGreatDoor
open Go.RowKit
set_option maxRecDepth 100000
set_option maxHeartbeats 2000000
section
variable  {X:List Nat}{w0 w:World}{L L':List BlkE}{rs:List RowE}{J S:World→Prop}{ops:Array Oper}{rest:List Oper}{o:Oper}{a:Act}{Q:Exit→Act→World→Prop}{md:Region.Mode}{fuel i:Nat}{listed:Array Bool}{is:List Nat}{dst:Option Tmp}{tt:TypeId}{pos:String}{af:Array Edge}
theorem isz_Flt :(Tryz.prog.info? 31).map (·.size)=some 2:=by kernel_rfl
theorem izr_Flt :(Tryz.prog.info? 31).bind (·.zero)=some (.agg #[.int .i64 0,.int .i64 0]):=by kernel_rfl
theorem ld_Flt {x:Operand}{g:Nat}{T:TypeId}{a0 a1:Value}(M:Own X w0 w L rs J)
  (h:wpList Tryz.prog ops Q rest (a.put dst (.agg #[a0,a1])) w) (hx:a.eval x=.pointer (some ⟨g,0,none⟩):=by with_unfolding_all exact rfl) (hm:(g,T,#[a0,a1])∈L:=by with_unfolding_all repeat constructor):wpList Tryz.prog ops Q (⟨dst,.load 31 x,tt,pos,af,none⟩::rest) a w:=wpList_load_own rfl _ x rfl g hx M T _ hm _ Tryz.underlying31 rfl _ isz_Flt rfl h
theorem st_Flt {x y:Operand}{g:Nat}{a0 a1 b0 b1:Value}(M:Own X w0 w L rs J)
  (h:∀w',Hid (Own X w0 w' L' rs J)→wpList Tryz.prog ops Q rest (a.put dst undef) w') (hx:a.eval x=.pointer (some ⟨g,0,none⟩):=by with_unfolding_all exact rfl) (hy:a.eval y=.agg #[b0,b1]:=by with_unfolding_all exact rfl) (hm:Upd g #[a0,a1] #[b0,b1] L L':=by with_unfolding_all repeat constructor) (h1:allOne (#[b0,b1]:Array Value).toList=true:=by with_unfolding_all exact rfl):wpList Tryz.prog ops Q (⟨dst,.store 31 x y,tt,pos,af,none⟩::rest) a w:=wpList_store_own rfl _ x y rfl g hx _ hy M _ hm _ isz_Flt rfl rfl h1 fun w' M=>h w' (hH M)
theorem al_Flt (dst:Option Tmp)(M:Own X w0 w L rs J)
  (h:∀g w',w0.heap.size≤g→Hid (Own X w0 w' ((g,31,#[.int .i64 0,.int .i64 0])::L) rs J)→wpList Tryz.prog ops Q rest (a.put dst (.pointer (some ⟨g,0,none⟩))) w'):wpList Tryz.prog ops Q (⟨dst,.alloc 31,tt,pos,af,none⟩::rest) a w:=by
 obtain⟨i,hi,hz⟩:=Option.bind_eq_some_iff.1 izr_Flt
 exact wpList_alloc_own rfl _ rfl i hi _ hz _ rfl M fun g w' hg _ M=>h g w' hg (hH M)
theorem gl_Flt {x:Operand}(h:wpList Tryz.prog ops Q (⟨dst,.load 31 x,tt,pos,af,none⟩::rest) a w):wpList Tryz.prog ops Q (⟨dst,.load 31 x,tt,pos,af,none⟩::rest) a w:=h
theorem gs_Flt {x y:Operand}(h:wpList Tryz.prog ops Q (⟨dst,.store 31 x y,tt,pos,af,none⟩::rest) a w):wpList Tryz.prog ops Q (⟨dst,.store 31 x y,tt,pos,af,none⟩::rest) a w:=h
theorem ga_Flt (dst:Option Tmp)(h:wpList Tryz.prog ops Q (⟨dst,.alloc 31,tt,pos,af,none⟩::rest) a w):wpList Tryz.prog ops Q (⟨dst,.alloc 31,tt,pos,af,none⟩::rest) a w:=h
theorem rs_Flt (x y:Operand)(ho:ops[i]? = some ⟨dst,.store 31 x y,tt,pos,af,none⟩){g:Nat}{a0 a1 b0 b1:Value}(hx:a.eval x=.pointer (some ⟨g,0,none⟩))(hy:a.eval y=.agg #[b0,b1])(M:Own X w0 w L rs J)
  (h:∀w',Hid (Own X w0 w' L' rs J)→S w'∧wpAnyH Tryz.prog md ops Q S fuel (listed.setIfInBounds i true) (a.put dst undef) w') (hs:AllReadyH Tryz.prog md ops Q S fuel listed a w is:=by exact .nil) (hm:Upd g #[a0,a1] #[b0,b1] L L':=by repeat constructor) (h1:allOne (#[b0,b1]:Array Value).toList=true:=by exact rfl):AllReadyH Tryz.prog md ops Q S fuel listed a w (i::is):=rdy_store _ x y ho g hx _ hy M _ (hm:=hm) _ isz_Flt h1 (fun w' M=>h w' (hH M)) hs
end
section
variable  {X:List Nat}{w0 w:World}{L:List BlkE}{rs:List RowE}{J:World→Prop}{ops:Array Oper}{rest:List Oper}{a:Act}{Q:Exit→Act→World→Prop}{dst:Option Tmp}{tt:TypeId}{pos:String}{af:Array Edge}
theorem g1_errno {x:Operand}(h:wpList Tryz.prog ops Q (⟨dst,.load 29 x,tt,pos,af,none⟩::rest) a w):wpList Tryz.prog ops Q (⟨dst,.load 29 x,tt,pos,af,none⟩::rest) a w:=h
theorem ld1_errno {x:Operand}{g j:Nat}{T:TypeId}{cs:Array Value}{v:Value}(M:Own X w0 w L rs J)
  (h:wpList Tryz.prog ops Q rest (a.put dst v) w) (hx:a.eval x=.pointer (some ⟨g,j,none⟩):=by with_unfolding_all exact rfl) (hm:(g,T,cs)∈L:=by with_unfolding_all repeat constructor) (hv:cs[j]? = some v:=by with_unfolding_all exact rfl):wpList Tryz.prog ops Q (⟨dst,.load 29 x,tt,pos,af,none⟩::rest) a w:=wpList_load1_own rfl _ x rfl g j hx M T cs hm v hv _ Tryz.underlying29 rfl h
end
section
variable  {S:World→Prop}{ops:Array Oper}{a:Act}{dst:Option Tmp}{tt:TypeId}{pos:String}{af:Array Edge}{w:World}
theorem range_flt {g:Nat}{T:TypeId}{a0 a1 a2 a3 a4 a5:Value}(h:Blk w g T #[a0,a1,a2,a3,a4,a5]):w.rangeAt g 3 [a3,a4]:=by
 intro j v hv
 have:=h.cell (3+j)
 rw [this]
 match j,hv with
 | 0,hv=>exact hv
 | 1,hv=>exact hv
theorem ylm_F (x:Operand)(g:Nat)(hx:a.eval x=.pointer (some ⟨g,3,none⟩))(T:TypeId)(a0 a1 a2 a3 a4 a5:Value)(hS:∀w,S w→Blk w g T #[a0,a1,a2,a3,a4,a5]):YieldsIf Tryz.prog ops S ⟨dst,.load 31 x,tt,pos,af,none⟩ (.agg #[a3,a4]) a :=
 yieldsIf_load_mid (by simp [Region.wanted]) _ x rfl g 3 hx [a3,a4] _ (fun w h=>range_flt (hS w h)) Tryz.underlying31 rfl isz_Flt
end
def TkF (A:Option Addr)(toks:List TokD)(K:Nat→Prop)(w:World):Prop :=
 toks=[]∨∃b off,A=some ⟨b,off,none⟩∧K b∧b<w.heap.size∧∀(i:Nat) (x:TokD),toks[i]? = some x→w.cell? ⟨b,off+i*5,none⟩=some (.int .i64 x.kind)∧w.cell? ⟨b,off+i*5+1,none⟩=some (.string (bs x.s))∧w.cell? ⟨b,off+i*5+2,none⟩=some (.int .i64 x.n)∧w.cell? ⟨b,off+i*5+3,none⟩=some (.int .i64 (x.at_:Nat))∧w.cell? ⟨b,off+i*5+4,none⟩=some (.bool x.gap)
theorem TkF.tk {A:Option Addr}{toks:List TokD}{K:Nat→Prop}{w:World}(h:TkF A toks K w):TkR w A toks:=h.imp id fun ⟨b,off,h1,_,h2,h3⟩=>⟨b,off,h1,h2,h3⟩
theorem TkF.keep {A:Option Addr}{toks:List TokD}{K K':Nat→Prop}{w w2:World}(h:TkF A toks K w)(hk:Kp K K' w w2):TkF A toks K' w2:=by
 refine h.imp id ?_
 rintro ⟨b,off,e,hK,hlt,hc⟩
 refine⟨b,off,e,(hk.block b hK hlt).1,Nat.lt_of_lt_of_le hlt hk.size,fun i x hx=>?_⟩
 obtain⟨h0,h1,h2,h3,h4⟩:=hc i x hx
 exact⟨(hk.cell hK hlt).trans h0,(hk.cell hK hlt).trans h1,(hk.cell hK hlt).trans h2,(hk.cell hK hlt).trans h3,(hk.cell hK hlt).trans h4⟩
theorem lexr_any (s:ByteArray)(w:World)(hs:s.size≤4096):Calls Tryz.prog 12 #[.string s] w fun e w'=>∃A cap,e=.returned (.tuple #[.slice A (stOf s.data.toList).toks.length cap,.agg #[.int .i64 (stOf s.data.toList).fe,.int .i64 (stOf s.data.toList).fa]])∧(stOf s.data.toList).toks.length≤4096∧TkF A (stOf s.data.toList).toks (Fr w) w'∧Bel w.heap.size w w':=by
 refine(rlex_any s w (by omega)).mono ?_
 intro e w' h
 unfold LexP at h
 unfold stOf
 have ho:=lex_order s.data.toList
 cases hl:lexL s.data.toList with
 | error x =>
  obtain⟨x,a⟩:=x
  rw [hl] at h
  exact⟨none,0,h.1,Nat.zero_le _,.inl rfl,h.2⟩
 | ok toks =>
  rw [hl] at h ho
  obtain⟨⟨v,rfl,hv⟩,hb⟩:=h
  have hlen:toks.length≤4096:=by
   have h1:=ordL_len toks 0 ho.1
   rw [len_toList] at h1
   omega
  obtain⟨A,cap,rfl,h2,h3⟩:=own_flat tokC 5 tokC_len w' _ _ _ v toks hv rfl
  refine⟨A,cap,rfl,hlen,h3.imp id ?_,hb⟩
  rintro ⟨b,off,e,hbs,hb,hc⟩
  exact⟨b,off,e,Nat.le_trans (Nat.le_succ _) hbs,hb,fun i x hx=>⟨hc i x hx 0 _ (by omega) rfl,hc i x hx 1 _ (by omega) rfl,hc i x hx 2 _ (by omega) rfl,hc i x hx 3 _ (by omega) rfl,hc i x hx 4 _ (by omega) rfl⟩⟩
def RParseP (l:List UInt8)(w:World)(e:Ending)(w':World):Prop :=
 (match parseT false l with
  | .error (x,a)=>e=.returned (.tuple #[.agg #[.bool false,.slice none 0 0],.agg #[.int .i64 x,.int .i64 a]])
  | .ok p=>∃m A c,e=.returned (.tuple #[.agg #[.bool p.abs,.slice A p.segs.length c],.agg #[.int .i64 0,.int .i64 0]])∧RowG (Fr w) 2 (RSeg (Fr w) m w') w' (.slice A p.segs.length c) p.segs)∧Bel w.heap.size w w'
theorem RParseP.no {l:List UInt8}{w w':World}{x a:Int}(h:parseT false l=.error (x,a))(hb:Bel w.heap.size w w'):RParseP l w (.returned (.tuple #[.agg #[.bool false,.slice none 0 0],.agg #[.int .i64 x,.int .i64 a]])) w':=by
 unfold RParseP;rw [h];exact⟨rfl,hb⟩
theorem RParseP.yes {l:List UInt8}{w w':World}{p:PathT}{m:Nat}{A:Option Addr}{c:Nat}(h:parseT false l=.ok p)(hs:RowG (Fr w) 2 (RSeg (Fr w) m w') w' (.slice A p.segs.length c) p.segs)(hb:Bel w.heap.size w w'):RParseP l w (.returned (.tuple #[.agg #[.bool p.abs,.slice A p.segs.length c],.agg #[.int .i64 0,.int .i64 0]])) w':=by
 unfold RParseP;rw [h];exact⟨⟨m,A,c,rfl,hs⟩,hb⟩
theorem res_Parse {X:List Nat}{w0 w:World}{L:List BlkE}{rs:List RowE}{J:World→Prop}{tmps:Array Value}{g k:Nat}{t u:TypeId}{a0 a1 b0 b1:Value}(hp:tmps.getD 2 undef=.pointer (some ⟨g,0,none⟩))(hq:tmps.getD 3 undef=.pointer (some ⟨k,0,none⟩))(M:Own X w0 w L rs J)(hg:(g,t,#[a0,a1])∈L)(hk:(k,u,#[b0,b1])∈L):(results Tryz.f8 tmps).run Tryz.prog w=.ok (.tuple #[.agg #[a0,a1],.agg #[b0,b1]]) w :=
 results_2 Tryz.results8 _ g k _ _ _ _ _ _ hp hq (M.blk _ hg) (M.blk _ hk) Tryz.underlying37 rfl Tryz.underlying31 rfl 2 2 isz_Path rfl isz_Flt rfl
theorem rparse_oka (s:ByteArray)(w:World)(hs:s.size≤4096)(E:Int)(hE:(s.size:Int)=E)(t0:PSt)(ht0:stOf s.data.toList=t0)(pp:PathT)(t2:PSt)(hp:pathF E (orS false E 34) 0 t0=(pp,t2))(h36:isS [36] t0=true)(hov:ovS t2=true)(hfe:t2.fe=0):Calls Tryz.prog 8 #[.string s] w (RParseP s.data.toList w):=by
 have hL:=fun w=>lexr_any s w hs
 rw [ht0] at hL
 have HL:=hH hL
 have HE:=hH (show parseT false s.data.toList=.ok pp by unfold parseT;rw [ht0,len_toList,hE];unfold parse2 parse1;rw [ite_tt h36,hp];simp only;rw [ite_tt hov];rw [if_pos hfe])
 have HP:=hH hp
 have HOV:=hH (hH hov)
 have H36:=hH (hH h36)
 have HFE:=hH hfe
 have hfb:(t2.fe != 0)=false:=by rw [hfe];rfl
 clear hL hp hov h36 ht0 hfe
 have M:=hH (Own.start [] w (fun _=>True) fun _ _=>trivial)
 go_enter Tryz.func8, Tryz.ntmps8
 generalize hQ:bodyPost Tryz.prog Tryz.f8 (RParseP s.data.toList w)=Q
 have HQ:=hH hQ;clear hQ
 go_wp2_with (first|(with_reducible first|(refine al_Path (some 2) M.out ?_;clear M;intro g2 w' hg2 M)|(refine al_Flt (some 3) M.out ?_;clear M;intro g3 w' hg3 M)|(refine al_Flt (some 5) M.out ?_;clear M;intro g5 w' hg5 M)|(refine al_R (some 6) M.out ?_;clear M;intro g6 w' hg6 M)|(refine al_R (some 7) M.out ?_;clear M;intro g7 w' hg7 M)|(refine al_Path (some 8) M.out ?_;clear M;intro g8 w' hg8 M)|refine ld_R M.out ?_|refine ld_Path M.out ?_|refine ld_Flt M.out ?_|(refine st_R M.out ?_;clear M;intro w' M)|(refine st_Path M.out ?_;clear M;intro w' M)|(refine st_Flt M.out ?_;clear M;intro w' M)|refine ld1_errno M.out ?_)|(go_at_call 12;(with_reducible refine(HL.out _).mono ?_);rintro e w' ⟨A,cap,rfl,hlen,htf,hb⟩;have HIN:=hH (show RIn t0.toks 0 t0 from⟨rfl,Nat.zero_le _,hlen⟩);have HIS:=hH (fun W (hT:TkR W A t0.toks)=>show Calls Tryz.prog 13 #[.agg #[.slice A t0.toks.length cap,.int .i64 0,.int .i64 E,.int .i64 t0.fe,.int .i64 t0.fa,.int .i64 0],.string ⟨#[36]⟩] W _ from ris_at A t0.toks cap 0 E t0 0 W ⟨#[36]⟩ true HIN.out hT H36.out);have HPA:=hH (fun W (hT:TkR W A t0.toks)=>show Calls Tryz.prog 15 #[.agg #[.slice A t0.toks.length cap,.int .i64 0,.int .i64 E,.int .i64 t0.fe,.int .i64 t0.fa,.int .i64 0]] W _ from rpath_all A t0.toks cap 0 E t0 0 W HIN.out hT (fun _=>rfl));unfold RPathP at HPA;rw [HP.out] at HPA;simp only at HPA;have Mn:=M.out.addK (G:=fun K y=>TkF A t0.toks K y) (fun h hk=>h.keep hk) hb htf;replace M:=hH Mn;clear Mn hb htf hlen)|(go_at_call 13;(with_reducible refine M.out.call (HIS.out _ M.out.now.2.tk) ?_);clear M;intro w' M)|(go_at_call 15;(with_reducible refine(HPA.out _ M.out.now.2.tk).mono ?_);rintro e w' ⟨m,A1,c1,k5,D5,rfl,hi5,hd5,hrow,hb⟩;have HI5:=hH hi5;have HOR:=hH (fun W (hT:TkR W A t0.toks)=>rover_at A t0.toks cap k5 E t2 D5 W true hi5 HOV.out);have HF2:=hH (fun W (hT:TkR W A t0.toks)=>rform_any A t0.toks cap k5 E t2 D5 W hi5 hT);have Mn:=M.out.addK (G:=fun K y=>RowG K 2 (RSeg K m y) y (.slice A1 pp.segs.length c1) pp.segs) (fun h hk=>RowG.keep h hk fun _ _ h=>RSeg_ok.keep h hk (Nat.le_refl _)) hb hrow;replace M:=hH Mn;clear Mn hb hrow hi5 hd5)|(go_at_call 16;(with_reducible refine M.out.call (HOR.out _ M.out.now.1.2.tk) ?_);clear M;intro w' M))
 rw [←HQ.out]
 exact bodyPost_ret (v:=.tuple #[.agg #[.bool pp.abs,.slice A1 pp.segs.length c1],.agg #[.int .i64 0,.int .i64 0]]) (res_Parse rfl rfl M.out (by repeat constructor) (by repeat constructor)) rfl (RParseP.yes HE.out M.out.now.2 M.out.bel0)
theorem rparse_bada (s:ByteArray)(w:World)(hs:s.size≤4096)(E:Int)(hE:(s.size:Int)=E)(t0:PSt)(ht0:stOf s.data.toList=t0)(pp:PathT)(t2:PSt)(hp:pathF E (orS false E 34) 0 t0=(pp,t2))(h36:isS [36] t0=true)(hov:ovS t2=true)(hfe:t2.fe≠0):Calls Tryz.prog 8 #[.string s] w (RParseP s.data.toList w):=by
 have hL:=fun w=>lexr_any s w hs
 rw [ht0] at hL
 have HL:=hH hL
 have HE:=hH (show parseT false s.data.toList=.error (t2.fe,t2.fa) by unfold parseT;rw [ht0,len_toList,hE];unfold parse2 parse1;rw [ite_tt h36,hp];simp only;rw [ite_tt hov];rw [if_neg hfe])
 have HP:=hH hp
 have HOV:=hH (hH hov)
 have H36:=hH (hH h36)
 have hfb:(t2.fe != 0)=true:=bne_iff_ne.2 hfe
 clear hL hp hov h36 ht0 hfe
 have M:=hH (Own.start [] w (fun _=>True) fun _ _=>trivial)
 go_enter Tryz.func8, Tryz.ntmps8
 generalize hQ:bodyPost Tryz.prog Tryz.f8 (RParseP s.data.toList w)=Q
 have HQ:=hH hQ;clear hQ
 go_upto_region 9 with(first|(with_reducible first|(refine al_Path (some 2) M.out ?_;clear M;intro g2 w' hg2 M)|(refine al_Flt (some 3) M.out ?_;clear M;intro g3 w' hg3 M)|(refine al_Flt (some 5) M.out ?_;clear M;intro g5 w' hg5 M)|(refine al_R (some 6) M.out ?_;clear M;intro g6 w' hg6 M)|(refine al_R (some 7) M.out ?_;clear M;intro g7 w' hg7 M)|(refine al_Path (some 8) M.out ?_;clear M;intro g8 w' hg8 M)|refine ld_R M.out ?_|refine ld_Path M.out ?_|refine ld_Flt M.out ?_|(refine st_R M.out ?_;clear M;intro w' M)|(refine st_Path M.out ?_;clear M;intro w' M)|(refine st_Flt M.out ?_;clear M;intro w' M)|refine ld1_errno M.out ?_)|(go_at_call 12;(with_reducible refine(HL.out _).mono ?_);rintro e w' ⟨A,cap,rfl,hlen,htf,hb⟩;have HIN:=hH (show RIn t0.toks 0 t0 from⟨rfl,Nat.zero_le _,hlen⟩);have HIS:=hH (fun W (hT:TkR W A t0.toks)=>show Calls Tryz.prog 13 #[.agg #[.slice A t0.toks.length cap,.int .i64 0,.int .i64 E,.int .i64 t0.fe,.int .i64 t0.fa,.int .i64 0],.string ⟨#[36]⟩] W _ from ris_at A t0.toks cap 0 E t0 0 W ⟨#[36]⟩ true HIN.out hT H36.out);have HPA:=hH (fun W (hT:TkR W A t0.toks)=>show Calls Tryz.prog 15 #[.agg #[.slice A t0.toks.length cap,.int .i64 0,.int .i64 E,.int .i64 t0.fe,.int .i64 t0.fa,.int .i64 0]] W _ from rpath_all A t0.toks cap 0 E t0 0 W HIN.out hT (fun _=>rfl));unfold RPathP at HPA;rw [HP.out] at HPA;simp only at HPA;have Mn:=M.out.addK (G:=fun K y=>TkF A t0.toks K y) (fun h hk=>h.keep hk) hb htf;replace M:=hH Mn;clear Mn hb htf hlen)|(go_at_call 13;(with_reducible refine M.out.call (HIS.out _ M.out.now.2.tk) ?_);clear M;intro w' M)|(go_at_call 15;(with_reducible refine(HPA.out _ M.out.now.2.tk).mono ?_);rintro e w' ⟨m,A1,c1,k5,D5,rfl,hi5,hd5,hrow,hb⟩;have HI5:=hH hi5;have HOR:=hH (fun W (hT:TkR W A t0.toks)=>rover_at A t0.toks cap k5 E t2 D5 W true hi5 HOV.out);have HF2:=hH (fun W (hT:TkR W A t0.toks)=>rform_any A t0.toks cap k5 E t2 D5 W hi5 hT);have Mn:=M.out.addK (G:=fun K y=>RowG K 2 (RSeg K m y) y (.slice A1 pp.segs.length c1) pp.segs) (fun h hk=>RowG.keep h hk fun _ _ h=>RSeg_ok.keep h hk (Nat.le_refl _)) hb hrow;replace M:=hH Mn;clear Mn hb hrow hi5 hd5)|(go_at_call 16;(with_reducible refine M.out.call (HOR.out _ M.out.now.1.2.tk) ?_);clear M;intro w' M))
 replace M:=hH M.out.drew
 refine tbh (fun w'=>Blk w' g7 _ _) (M.out.b) fun hS=>?_
 refine tkp 0 rfl hS ?_
 refine tkp 1 rfl hS ?_
 refine tk 2 rfl hS (ylm_F _ _ rfl _ _ _ _ _ _ _ (fun _ h=>h)) ?_
 refine tr [3] ?_
 refine rs_Path (i:=3) _ _ rfl rfl rfl M.out ?_
 clear M;intro w' M
 refine an M.out.b fun hS=>tn ?_
 refine tr [4] ?_
 refine rs_Flt (i:=4) _ _ rfl rfl rfl M.out ?_
 clear M;intro w' M
 refine an M.out.b fun hS=>tn ?_
 refine te ?_
 go_wp2
 rw [←HQ.out]
 exact bodyPost_ret (v:=.tuple #[.agg #[.bool false,.slice none 0 0],.agg #[.int .i64 t2.fe,.int .i64 t2.fa]]) (res_Parse rfl rfl M.out (by repeat constructor) (by repeat constructor)) rfl (RParseP.no HE.out M.out.bel0)
theorem rparse_morea (s:ByteArray)(w:World)(hs:s.size≤4096)(E:Int)(hE:(s.size:Int)=E)(t0:PSt)(ht0:stOf s.data.toList=t0)(pp:PathT)(t2:PSt)(hp:pathF E (orS false E 34) 0 t0=(pp,t2))(h36:isS [36] t0=true)(hov:ovS t2=false):Calls Tryz.prog 8 #[.string s] w (RParseP s.data.toList w):=by
 have hL:=fun w=>lexr_any s w hs
 rw [ht0] at hL
 have HL:=hH hL
 have HE:=hH (show parseT false s.data.toList=.error ((formS E t2).fe,(formS E t2).fa) by unfold parseT;rw [ht0,len_toList,hE];unfold parse2 parse1;rw [ite_tt h36,hp];simp only;rw [ite_ff hov];rw [if_neg (formS_fe E t2)])
 have HP:=hH hp
 have HOV:=hH (hH hov)
 have H36:=hH (hH h36)
 have hfb:((formS E t2).fe != 0)=true:=bne_iff_ne.2 (formS_fe E t2)
 clear hL hp hov h36 ht0
 have M:=hH (Own.start [] w (fun _=>True) fun _ _=>trivial)
 go_enter Tryz.func8, Tryz.ntmps8
 generalize hQ:bodyPost Tryz.prog Tryz.f8 (RParseP s.data.toList w)=Q
 have HQ:=hH hQ;clear hQ
 go_upto_region 9 with(first|(with_reducible first|(refine al_Path (some 2) M.out ?_;clear M;intro g2 w' hg2 M)|(refine al_Flt (some 3) M.out ?_;clear M;intro g3 w' hg3 M)|(refine al_Flt (some 5) M.out ?_;clear M;intro g5 w' hg5 M)|(refine al_R (some 6) M.out ?_;clear M;intro g6 w' hg6 M)|(refine al_R (some 7) M.out ?_;clear M;intro g7 w' hg7 M)|(refine al_Path (some 8) M.out ?_;clear M;intro g8 w' hg8 M)|refine ld_R M.out ?_|refine ld_Path M.out ?_|refine ld_Flt M.out ?_|(refine st_R M.out ?_;clear M;intro w' M)|(refine st_Path M.out ?_;clear M;intro w' M)|(refine st_Flt M.out ?_;clear M;intro w' M)|refine ld1_errno M.out ?_)|(go_at_call 12;(with_reducible refine(HL.out _).mono ?_);rintro e w' ⟨A,cap,rfl,hlen,htf,hb⟩;have HIN:=hH (show RIn t0.toks 0 t0 from⟨rfl,Nat.zero_le _,hlen⟩);have HIS:=hH (fun W (hT:TkR W A t0.toks)=>show Calls Tryz.prog 13 #[.agg #[.slice A t0.toks.length cap,.int .i64 0,.int .i64 E,.int .i64 t0.fe,.int .i64 t0.fa,.int .i64 0],.string ⟨#[36]⟩] W _ from ris_at A t0.toks cap 0 E t0 0 W ⟨#[36]⟩ true HIN.out hT H36.out);have HPA:=hH (fun W (hT:TkR W A t0.toks)=>show Calls Tryz.prog 15 #[.agg #[.slice A t0.toks.length cap,.int .i64 0,.int .i64 E,.int .i64 t0.fe,.int .i64 t0.fa,.int .i64 0]] W _ from rpath_all A t0.toks cap 0 E t0 0 W HIN.out hT (fun _=>rfl));unfold RPathP at HPA;rw [HP.out] at HPA;simp only at HPA;have Mn:=M.out.addK (G:=fun K y=>TkF A t0.toks K y) (fun h hk=>h.keep hk) hb htf;replace M:=hH Mn;clear Mn hb htf hlen)|(go_at_call 13;(with_reducible refine M.out.call (HIS.out _ M.out.now.2.tk) ?_);clear M;intro w' M)|(go_at_call 15;(with_reducible refine(HPA.out _ M.out.now.2.tk).mono ?_);rintro e w' ⟨m,A1,c1,k5,D5,rfl,hi5,hd5,hrow,hb⟩;have HI5:=hH hi5;have HOR:=hH (fun W (hT:TkR W A t0.toks)=>rover_at A t0.toks cap k5 E t2 D5 W false hi5 HOV.out);have HF2:=hH (fun W (hT:TkR W A t0.toks)=>rform_any A t0.toks cap k5 E t2 D5 W hi5 hT);have Mn:=M.out.addK (G:=fun K y=>RowG K 2 (RSeg K m y) y (.slice A1 pp.segs.length c1) pp.segs) (fun h hk=>RowG.keep h hk fun _ _ h=>RSeg_ok.keep h hk (Nat.le_refl _)) hb hrow;replace M:=hH Mn;clear Mn hb hrow hi5 hd5)|(go_at_call 16;(with_reducible refine M.out.call (HOR.out _ M.out.now.1.2.tk) ?_);clear M;intro w' M)|(go_at_call 14;(with_reducible refine M.out.call (HF2.out _ M.out.now.1.2.tk) ?_);clear M;intro w' M))
 replace M:=hH M.out.drew
 refine tbh (fun w'=>Blk w' g7 _ _) (M.out.b) fun hS=>?_
 refine tkp 0 rfl hS ?_
 refine tkp 1 rfl hS ?_
 refine tk 2 rfl hS (ylm_F _ _ rfl _ _ _ _ _ _ _ (fun _ h=>h)) ?_
 refine tr [3] ?_
 refine rs_Path (i:=3) _ _ rfl rfl rfl M.out ?_
 clear M;intro w' M
 refine an M.out.b fun hS=>tn ?_
 refine tr [4] ?_
 refine rs_Flt (i:=4) _ _ rfl rfl rfl M.out ?_
 clear M;intro w' M
 refine an M.out.b fun hS=>tn ?_
 refine te ?_
 go_wp2
 rw [←HQ.out]
 exact bodyPost_ret (v:=.tuple #[.agg #[.bool false,.slice none 0 0],.agg #[.int .i64 (formS E t2).fe,.int .i64 (formS E t2).fa]]) (res_Parse rfl rfl M.out (by repeat constructor) (by repeat constructor)) rfl (RParseP.no HE.out M.out.bel0)
theorem rparse_badb (s:ByteArray)(w:World)(hs:s.size≤4096)(E:Int)(hE:(s.size:Int)=E)(t0:PSt)(ht0:stOf s.data.toList=t0)(pp:PathT)(t2:PSt)(hp:pathF E (orS false E 34) 0 (formS E t0)=(pp,t2))(h36:isS [36] t0=false)(hov:ovS t2=true)(hfe:t2.fe≠0):Calls Tryz.prog 8 #[.string s] w (RParseP s.data.toList w):=by
 have hL:=fun w=>lexr_any s w hs
 rw [ht0] at hL
 have HL:=hH hL
 have HE:=hH (show parseT false s.data.toList=.error (t2.fe,t2.fa) by unfold parseT;rw [ht0,len_toList,hE];unfold parse2 parse1;rw [ite_ff h36,hp];simp only;rw [ite_tt hov];rw [if_neg hfe])
 have HP:=hH hp
 have HOV:=hH (hH hov)
 have H36:=hH (hH h36)
 have hfb:(t2.fe != 0)=true:=bne_iff_ne.2 hfe
 clear hL hp hov h36 ht0 hfe
 have M:=hH (Own.start [] w (fun _=>True) fun _ _=>trivial)
 go_enter Tryz.func8, Tryz.ntmps8
 generalize hQ:bodyPost Tryz.prog Tryz.f8 (RParseP s.data.toList w)=Q
 have HQ:=hH hQ;clear hQ
 go_upto_region 9 with(first|(with_reducible first|(refine al_Path (some 2) M.out ?_;clear M;intro g2 w' hg2 M)|(refine al_Flt (some 3) M.out ?_;clear M;intro g3 w' hg3 M)|(refine al_Flt (some 5) M.out ?_;clear M;intro g5 w' hg5 M)|(refine al_R (some 6) M.out ?_;clear M;intro g6 w' hg6 M)|(refine al_R (some 7) M.out ?_;clear M;intro g7 w' hg7 M)|(refine al_Path (some 8) M.out ?_;clear M;intro g8 w' hg8 M)|refine ld_R M.out ?_|refine ld_Path M.out ?_|refine ld_Flt M.out ?_|(refine st_R M.out ?_;clear M;intro w' M)|(refine st_Path M.out ?_;clear M;intro w' M)|(refine st_Flt M.out ?_;clear M;intro w' M)|refine ld1_errno M.out ?_)|(go_at_call 12;(with_reducible refine(HL.out _).mono ?_);rintro e w' ⟨A,cap,rfl,hlen,htf,hb⟩;have HIN:=hH (show RIn t0.toks 0 t0 from⟨rfl,Nat.zero_le _,hlen⟩);have HIS:=hH (fun W (hT:TkR W A t0.toks)=>show Calls Tryz.prog 13 #[.agg #[.slice A t0.toks.length cap,.int .i64 0,.int .i64 E,.int .i64 t0.fe,.int .i64 t0.fa,.int .i64 0],.string ⟨#[36]⟩] W _ from ris_at A t0.toks cap 0 E t0 0 W ⟨#[36]⟩ false HIN.out hT H36.out);have HFO:=hH (fun W (hT:TkR W A t0.toks)=>show Calls Tryz.prog 14 #[.agg #[.slice A t0.toks.length cap,.int .i64 0,.int .i64 E,.int .i64 t0.fe,.int .i64 t0.fa,.int .i64 0]] W _ from rform_any A t0.toks cap 0 E t0 0 W HIN.out hT);have HPA:=hH (fun W (hT:TkR W A t0.toks)=>show Calls Tryz.prog 15 #[.agg #[.slice A t0.toks.length cap,.int .i64 0,.int .i64 E,.int .i64 (formS E t0).fe,.int .i64 (formS E t0).fa,.int .i64 0]] W _ from rpath_all A t0.toks cap 0 E (formS E t0) 0 W (HIN.out.form E) hT (fun _=>rfl));unfold RPathP at HPA;rw [HP.out] at HPA;simp only at HPA;have Mn:=M.out.addK (G:=fun K y=>TkF A t0.toks K y) (fun h hk=>h.keep hk) hb htf;replace M:=hH Mn;clear Mn hb htf hlen)|(go_at_call 13;(with_reducible refine M.out.call (HIS.out _ M.out.now.2.tk) ?_);clear M;intro w' M)|(go_at_call 15;(with_reducible refine(HPA.out _ M.out.now.2.tk).mono ?_);rintro e w' ⟨m,A1,c1,k5,D5,rfl,hi5,hd5,hrow,hb⟩;have HI5:=hH hi5;have HOR:=hH (fun W (hT:TkR W A t0.toks)=>rover_at A t0.toks cap k5 E t2 D5 W true hi5 HOV.out);have HF2:=hH (fun W (hT:TkR W A t0.toks)=>rform_any A t0.toks cap k5 E t2 D5 W hi5 hT);have Mn:=M.out.addK (G:=fun K y=>RowG K 2 (RSeg K m y) y (.slice A1 pp.segs.length c1) pp.segs) (fun h hk=>RowG.keep h hk fun _ _ h=>RSeg_ok.keep h hk (Nat.le_refl _)) hb hrow;replace M:=hH Mn;clear Mn hb hrow hi5 hd5)|(go_at_call 16;(with_reducible refine M.out.call (HOR.out _ M.out.now.1.2.tk) ?_);clear M;intro w' M)|(go_at_call 14;(with_reducible refine M.out.call (HFO.out _ M.out.now.2.tk) ?_);clear M;intro w' M))
 replace M:=hH M.out.drew
 refine tbh (fun w'=>Blk w' g7 _ _) (M.out.b) fun hS=>?_
 refine tkp 0 rfl hS ?_
 refine tkp 1 rfl hS ?_
 refine tk 2 rfl hS (ylm_F _ _ rfl _ _ _ _ _ _ _ (fun _ h=>h)) ?_
 refine tr [3] ?_
 refine rs_Path (i:=3) _ _ rfl rfl rfl M.out ?_
 clear M;intro w' M
 refine an M.out.b fun hS=>tn ?_
 refine tr [4] ?_
 refine rs_Flt (i:=4) _ _ rfl rfl rfl M.out ?_
 clear M;intro w' M
 refine an M.out.b fun hS=>tn ?_
 refine te ?_
 go_wp2
 rw [←HQ.out]
 exact bodyPost_ret (v:=.tuple #[.agg #[.bool false,.slice none 0 0],.agg #[.int .i64 t2.fe,.int .i64 t2.fa]]) (res_Parse rfl rfl M.out (by repeat constructor) (by repeat constructor)) rfl (RParseP.no HE.out M.out.bel0)
theorem rparse_moreb (s:ByteArray)(w:World)(hs:s.size≤4096)(E:Int)(hE:(s.size:Int)=E)(t0:PSt)(ht0:stOf s.data.toList=t0)(pp:PathT)(t2:PSt)(hp:pathF E (orS false E 34) 0 (formS E t0)=(pp,t2))(h36:isS [36] t0=false)(hov:ovS t2=false):Calls Tryz.prog 8 #[.string s] w (RParseP s.data.toList w):=by
 have hL:=fun w=>lexr_any s w hs
 rw [ht0] at hL
 have HL:=hH hL
 have HE:=hH (show parseT false s.data.toList=.error ((formS E t2).fe,(formS E t2).fa) by unfold parseT;rw [ht0,len_toList,hE];unfold parse2 parse1;rw [ite_ff h36,hp];simp only;rw [ite_ff hov];rw [if_neg (formS_fe E t2)])
 have HP:=hH hp
 have HOV:=hH (hH hov)
 have H36:=hH (hH h36)
 have hfb:((formS E t2).fe != 0)=true:=bne_iff_ne.2 (formS_fe E t2)
 clear hL hp hov h36 ht0
 have M:=hH (Own.start [] w (fun _=>True) fun _ _=>trivial)
 go_enter Tryz.func8, Tryz.ntmps8
 generalize hQ:bodyPost Tryz.prog Tryz.f8 (RParseP s.data.toList w)=Q
 have HQ:=hH hQ;clear hQ
 go_upto_region 9 with(first|(with_reducible first|(refine al_Path (some 2) M.out ?_;clear M;intro g2 w' hg2 M)|(refine al_Flt (some 3) M.out ?_;clear M;intro g3 w' hg3 M)|(refine al_Flt (some 5) M.out ?_;clear M;intro g5 w' hg5 M)|(refine al_R (some 6) M.out ?_;clear M;intro g6 w' hg6 M)|(refine al_R (some 7) M.out ?_;clear M;intro g7 w' hg7 M)|(refine al_Path (some 8) M.out ?_;clear M;intro g8 w' hg8 M)|refine ld_R M.out ?_|refine ld_Path M.out ?_|refine ld_Flt M.out ?_|(refine st_R M.out ?_;clear M;intro w' M)|(refine st_Path M.out ?_;clear M;intro w' M)|(refine st_Flt M.out ?_;clear M;intro w' M)|refine ld1_errno M.out ?_)|(go_at_call 12;(with_reducible refine(HL.out _).mono ?_);rintro e w' ⟨A,cap,rfl,hlen,htf,hb⟩;have HIN:=hH (show RIn t0.toks 0 t0 from⟨rfl,Nat.zero_le _,hlen⟩);have HIS:=hH (fun W (hT:TkR W A t0.toks)=>show Calls Tryz.prog 13 #[.agg #[.slice A t0.toks.length cap,.int .i64 0,.int .i64 E,.int .i64 t0.fe,.int .i64 t0.fa,.int .i64 0],.string ⟨#[36]⟩] W _ from ris_at A t0.toks cap 0 E t0 0 W ⟨#[36]⟩ false HIN.out hT H36.out);have HFO:=hH (fun W (hT:TkR W A t0.toks)=>show Calls Tryz.prog 14 #[.agg #[.slice A t0.toks.length cap,.int .i64 0,.int .i64 E,.int .i64 t0.fe,.int .i64 t0.fa,.int .i64 0]] W _ from rform_any A t0.toks cap 0 E t0 0 W HIN.out hT);have HPA:=hH (fun W (hT:TkR W A t0.toks)=>show Calls Tryz.prog 15 #[.agg #[.slice A t0.toks.length cap,.int .i64 0,.int .i64 E,.int .i64 (formS E t0).fe,.int .i64 (formS E t0).fa,.int .i64 0]] W _ from rpath_all A t0.toks cap 0 E (formS E t0) 0 W (HIN.out.form E) hT (fun _=>rfl));unfold RPathP at HPA;rw [HP.out] at HPA;simp only at HPA;have Mn:=M.out.addK (G:=fun K y=>TkF A t0.toks K y) (fun h hk=>h.keep hk) hb htf;replace M:=hH Mn;clear Mn hb htf hlen)|(go_at_call 13;(with_reducible refine M.out.call (HIS.out _ M.out.now.2.tk) ?_);clear M;intro w' M)|(go_at_call 15;(with_reducible refine(HPA.out _ M.out.now.2.tk).mono ?_);rintro e w' ⟨m,A1,c1,k5,D5,rfl,hi5,hd5,hrow,hb⟩;have HI5:=hH hi5;have HOR:=hH (fun W (hT:TkR W A t0.toks)=>rover_at A t0.toks cap k5 E t2 D5 W false hi5 HOV.out);have HF2:=hH (fun W (hT:TkR W A t0.toks)=>rform_any A t0.toks cap k5 E t2 D5 W hi5 hT);have Mn:=M.out.addK (G:=fun K y=>RowG K 2 (RSeg K m y) y (.slice A1 pp.segs.length c1) pp.segs) (fun h hk=>RowG.keep h hk fun _ _ h=>RSeg_ok.keep h hk (Nat.le_refl _)) hb hrow;replace M:=hH Mn;clear Mn hb hrow hi5 hd5)|(go_at_call 16;(with_reducible refine M.out.call (HOR.out _ M.out.now.1.2.tk) ?_);clear M;intro w' M)|(go_at_call 14;(with_reducible refine M.out.call (HFO.out _ M.out.now.2.tk) ?_);clear M;intro w' M)|(go_at_call 14;(with_reducible refine M.out.call (HF2.out _ M.out.now.1.2.tk) ?_);clear M;intro w' M))
 replace M:=hH M.out.drew
 refine tbh (fun w'=>Blk w' g7 _ _) (M.out.b) fun hS=>?_
 refine tkp 0 rfl hS ?_
 refine tkp 1 rfl hS ?_
 refine tk 2 rfl hS (ylm_F _ _ rfl _ _ _ _ _ _ _ (fun _ h=>h)) ?_
 refine tr [3] ?_
 refine rs_Path (i:=3) _ _ rfl rfl rfl M.out ?_
 clear M;intro w' M
 refine an M.out.b fun hS=>tn ?_
 refine tr [4] ?_
 refine rs_Flt (i:=4) _ _ rfl rfl rfl M.out ?_
 clear M;intro w' M
 refine an M.out.b fun hS=>tn ?_
 refine te ?_
 go_wp2
 rw [←HQ.out]
 exact bodyPost_ret (v:=.tuple #[.agg #[.bool false,.slice none 0 0],.agg #[.int .i64 (formS E t2).fe,.int .i64 (formS E t2).fa]]) (res_Parse rfl rfl M.out (by repeat constructor) (by repeat constructor)) rfl (RParseP.no HE.out M.out.bel0)
theorem rparse_any (s:ByteArray)(w:World)(hs:s.size≤4096):Calls Tryz.prog 8 #[.string s] w (RParseP s.data.toList w):=by
 obtain⟨E,hE⟩:∃E,(s.size:Int)=E:=⟨_,rfl⟩
 obtain⟨t0,ht0⟩:∃t0,stOf s.data.toList=t0:=⟨_,rfl⟩
 cases h36:isS [36] t0 with
 | true =>
  obtain⟨pp,t2,hp⟩:∃pp t2,pathF E (orS false E 34) 0 t0=(pp,t2):=⟨_,_,rfl⟩
  cases hov:ovS t2 with
  | true =>
   by_cases hfe:t2.fe=0
   ·exact rparse_oka s w hs E hE t0 ht0 pp t2 hp h36 hov hfe
   ·exact rparse_bada s w hs E hE t0 ht0 pp t2 hp h36 hov hfe
  | false=>exact rparse_morea s w hs E hE t0 ht0 pp t2 hp h36 hov
 | false =>
  obtain⟨pp,t2,hp⟩:∃pp t2,pathF E (orS false E 34) 0 (formS E t0)=(pp,t2):=⟨_,_,rfl⟩
  have hbad:t2=formS E t0:=by
   have:=pathF_bad (P:=orS false E 34) (E:=E) (d:=0) (t:=formS E t0) (formS_fe E t0)
   rw [hp] at this;exact(Prod.mk.inj this).2
  cases hov:ovS t2 with
  | true=>exact rparse_badb s w hs E hE t0 ht0 pp t2 hp h36 hov (by rw [hbad];exact formS_fe E t0)
  | false=>exact rparse_moreb s w hs E hE t0 ht0 pp t2 hp h36 hov
end Go.Proofs.YtjbdcjcfijjiiaaGreatDoor
