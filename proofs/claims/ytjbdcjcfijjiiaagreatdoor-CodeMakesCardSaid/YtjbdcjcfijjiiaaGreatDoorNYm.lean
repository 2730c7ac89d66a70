/- ref17: Singular, side (printed by gen_ym.py). -/
import Derived.LoopTactic
import Derived.Test.YtjbdcjcfijjiiaaGreatDoorNOz
import Derived.Test.YtjbdcjcfijjiiaaGreatDoorNYj
namespace Go.Proofs.YtjbdcjcfijjiiaaGreatDoor
open Go.RowKit
set_option maxRecDepth 100000
set_option maxHeartbeats 2000000
section
variable  {X:List Nat}{w0 w:World}{L L':List BlkE}{rs:List RowE}{J S:World→Prop}{ops:Array Oper}{rest:List Oper}{o:Oper}{a:Act}{Q:Exit→Act→World→Prop}{md:Region.Mode}{fuel i:Nat}{listed:Array Bool}{is:List Nat}{dst:Option Tmp}{tt:TypeId}{pos:String}{af:Array Edge}
theorem isz_Tok :(Tryz.prog.info? 72).map (·.size)=some 5:=by kernel_rfl
theorem izr_Tok :(Tryz.prog.info? 72).bind (·.zero)=some (.agg #[.int .i64 0,.string ⟨#[]⟩,.int .i64 0,.int .i64 0,.bool false]):=by kernel_rfl
theorem ld_Tok {x:Operand}{g:Nat}{T:TypeId}{a0 a1 a2 a3 a4:Value}(M:Own X w0 w L rs J)
  (h:wpList Tryz.prog ops Q rest (a.put dst (.agg #[a0,a1,a2,a3,a4])) w) (hx:a.eval x=.pointer (some ⟨g,0,none⟩):=by with_unfolding_all exact rfl) (hm:(g,T,#[a0,a1,a2,a3,a4])∈L:=by with_unfolding_all repeat constructor):wpList Tryz.prog ops Q (⟨dst,.load 72 x,tt,pos,af,none⟩::rest) a w:=wpList_load_own rfl _ x rfl g hx M T _ hm _ Tryz.underlying72 rfl _ isz_Tok rfl h
theorem st_Tok {x y:Operand}{g:Nat}{a0 a1 a2 a3 a4 b0 b1 b2 b3 b4:Value}(M:Own X w0 w L rs J)
  (h:∀w',Hid (Own X w0 w' L' rs J)→wpList Tryz.prog ops Q rest (a.put dst undef) w') (hx:a.eval x=.pointer (some ⟨g,0,none⟩):=by with_unfolding_all exact rfl) (hy:a.eval y=.agg #[b0,b1,b2,b3,b4]:=by with_unfolding_all exact rfl) (hm:Upd g #[a0,a1,a2,a3,a4] #[b0,b1,b2,b3,b4] L L':=by with_unfolding_all repeat constructor) (h1:allOne (#[b0,b1,b2,b3,b4]:Array Value).toList=true:=by with_unfolding_all exact rfl):wpList Tryz.prog ops Q (⟨dst,.store 72 x y,tt,pos,af,none⟩::rest) a w:=wpList_store_own rfl _ x y rfl g hx _ hy M _ hm _ isz_Tok rfl rfl h1 fun w' M=>h w' (hH M)
theorem al_Tok (dst:Option Tmp)(M:Own X w0 w L rs J)
  (h:∀g w',w0.heap.size≤g→Hid (Own X w0 w' ((g,72,#[.int .i64 0,.string ⟨#[]⟩,.int .i64 0,.int .i64 0,.bool false])::L) rs J)→wpList Tryz.prog ops Q rest (a.put dst (.pointer (some ⟨g,0,none⟩))) w'):wpList Tryz.prog ops Q (⟨dst,.alloc 72,tt,pos,af,none⟩::rest) a w:=by
 obtain⟨i,hi,hz⟩:=Option.bind_eq_some_iff.1 izr_Tok
 exact wpList_alloc_own rfl _ rfl i hi _ hz _ rfl M fun g w' hg _ M=>h g w' hg (hH M)
theorem gl_Tok {x:Operand}(h:wpList Tryz.prog ops Q (⟨dst,.load 72 x,tt,pos,af,none⟩::rest) a w):wpList Tryz.prog ops Q (⟨dst,.load 72 x,tt,pos,af,none⟩::rest) a w:=h
theorem gs_Tok {x y:Operand}(h:wpList Tryz.prog ops Q (⟨dst,.store 72 x y,tt,pos,af,none⟩::rest) a w):wpList Tryz.prog ops Q (⟨dst,.store 72 x y,tt,pos,af,none⟩::rest) a w:=h
theorem ga_Tok (dst:Option Tmp)(h:wpList Tryz.prog ops Q (⟨dst,.alloc 72,tt,pos,af,none⟩::rest) a w):wpList Tryz.prog ops Q (⟨dst,.alloc 72,tt,pos,af,none⟩::rest) a w:=h
end
section
variable  {X:List Nat}{w0 w:World}{L:List BlkE}{rs:List RowE}{J:World→Prop}{ops:Array Oper}{rest:List Oper}{a:Act}{Q:Exit→Act→World→Prop}{dst:Option Tmp}{tt:TypeId}{pos:String}{af:Array Edge}
theorem g1_i64 {x:Operand}(h:wpList Tryz.prog ops Q (⟨dst,.load 2 x,tt,pos,af,none⟩::rest) a w):wpList Tryz.prog ops Q (⟨dst,.load 2 x,tt,pos,af,none⟩::rest) a w:=h
theorem ld1_i64 {x:Operand}{g j:Nat}{T:TypeId}{cs:Array Value}{v:Value}(M:Own X w0 w L rs J)
  (h:wpList Tryz.prog ops Q rest (a.put dst v) w) (hx:a.eval x=.pointer (some ⟨g,j,none⟩):=by with_unfolding_all exact rfl) (hm:(g,T,cs)∈L:=by with_unfolding_all repeat constructor) (hv:cs[j]? = some v:=by with_unfolding_all exact rfl):wpList Tryz.prog ops Q (⟨dst,.load 2 x,tt,pos,af,none⟩::rest) a w:=wpList_load1_own rfl _ x rfl g j hx M T cs hm v hv _ Tryz.underlying2 rfl h
theorem g1_str {x:Operand}(h:wpList Tryz.prog ops Q (⟨dst,.load 9 x,tt,pos,af,none⟩::rest) a w):wpList Tryz.prog ops Q (⟨dst,.load 9 x,tt,pos,af,none⟩::rest) a w:=h
theorem h1_str {gd:Nat×Bool}{x:Operand}(h:wpList Tryz.prog ops Q (⟨dst,.load 9 x,tt,pos,af,some gd⟩::rest) a w):wpList Tryz.prog ops Q (⟨dst,.load 9 x,tt,pos,af,some gd⟩::rest) a w:=h
theorem ld1_str {x:Operand}{g j:Nat}{T:TypeId}{cs:Array Value}{v:Value}(M:Own X w0 w L rs J)
  (h:wpList Tryz.prog ops Q rest (a.put dst v) w) (hx:a.eval x=.pointer (some ⟨g,j,none⟩):=by with_unfolding_all exact rfl) (hm:(g,T,cs)∈L:=by with_unfolding_all repeat constructor) (hv:cs[j]? = some v:=by with_unfolding_all exact rfl):wpList Tryz.prog ops Q (⟨dst,.load 9 x,tt,pos,af,none⟩::rest) a w:=wpList_load1_own rfl _ x rfl g j hx M T cs hm v hv _ Tryz.underlying9 rfl h
theorem lg1_str {gd:Nat×Bool}{x:Operand}{g j:Nat}{T:TypeId}{cs:Array Value}{v:Value}(hw:Region.wanted ⟨dst,.load 9 x,tt,pos,af,some gd⟩ (yielded ops a.tmps)=true)(hx:a.eval x=.pointer (some ⟨g,j,none⟩))(M:Own X w0 w L rs J)
  (h:wpList Tryz.prog ops Q rest (a.put dst v) w) (hm:(g,T,cs)∈L:=by repeat constructor) (hv:cs[j]? = some v:=by exact rfl):wpList Tryz.prog ops Q (⟨dst,.load 9 x,tt,pos,af,some gd⟩::rest) a w:=wpList_load1_own hw _ x rfl g j hx M T cs hm v hv _ Tryz.underlying9 rfl h
end
section
variable  {X:List Nat}{w0 w:World}{L L':List BlkE}{rs:List RowE}{J:World→Prop}{ops:Array Oper}{rest:List Oper}{a:Act}{Q:Exit→Act→World→Prop}{dst:Option Tmp}{tt:TypeId}{pos:String}{af:Array Edge}
theorem isz_int :(Tryz.prog.info? 3).map (·.size)=some 1:=by kernel_rfl
theorem isz_str :(Tryz.prog.info? 9).map (·.size)=some 1:=by kernel_rfl
theorem gs1_SdK {x y:Operand}(h:wpList Tryz.prog ops Q (⟨dst,.store 3 x y,tt,pos,af,none⟩::rest) a w):wpList Tryz.prog ops Q (⟨dst,.store 3 x y,tt,pos,af,none⟩::rest) a w:=h
theorem st1_SdK {x y:Operand}{g:Nat}{v a0 a1 a2 a3 a4 a5:Value}(hx:a.eval x=.pointer (some ⟨g,1,none⟩))(hy:a.eval y=v)(M:Own X w0 w L rs J)
  (h:∀w',Own X w0 w' L' rs J→wpList Tryz.prog ops Q rest (a.put dst undef) w') (h1:v.oneCell'=true:=by exact rfl) (hm:Upd g #[a0,a1,a2,a3,a4,a5] #[a0,v,a2,a3,a4,a5] L L':=by repeat constructor):wpList Tryz.prog ops Q (⟨dst,.store 3 x y,tt,pos,af,none⟩::rest) a w :=
 wpList_store1_own _ x y rfl g 1 hx v hy h1 M _ _ (hm:=hm) isz_int h
theorem gs1_SdN {x y:Operand}(h:wpList Tryz.prog ops Q (⟨dst,.store 2 x y,tt,pos,af,none⟩::rest) a w):wpList Tryz.prog ops Q (⟨dst,.store 2 x y,tt,pos,af,none⟩::rest) a w:=h
theorem st1_SdN {x y:Operand}{g:Nat}{v a0 a1 a2 a3 a4 a5:Value}(hx:a.eval x=.pointer (some ⟨g,2,none⟩))(hy:a.eval y=v)(M:Own X w0 w L rs J)
  (h:∀w',Own X w0 w' L' rs J→wpList Tryz.prog ops Q rest (a.put dst undef) w') (h1:v.oneCell'=true:=by exact rfl) (hm:Upd g #[a0,a1,a2,a3,a4,a5] #[a0,a1,v,a3,a4,a5] L L':=by repeat constructor):wpList Tryz.prog ops Q (⟨dst,.store 2 x y,tt,pos,af,none⟩::rest) a w :=
 wpList_store1_own _ x y rfl g 2 hx v hy h1 M _ _ (hm:=hm) isz_i h
theorem gs1_SdS {x y:Operand}(h:wpList Tryz.prog ops Q (⟨dst,.store 9 x y,tt,pos,af,none⟩::rest) a w):wpList Tryz.prog ops Q (⟨dst,.store 9 x y,tt,pos,af,none⟩::rest) a w:=h
theorem st1_SdS {x y:Operand}{g:Nat}{v a0 a1 a2 a3 a4 a5:Value}(hx:a.eval x=.pointer (some ⟨g,3,none⟩))(hy:a.eval y=v)(M:Own X w0 w L rs J)
  (h:∀w',Own X w0 w' L' rs J→wpList Tryz.prog ops Q rest (a.put dst undef) w') (h1:v.oneCell'=true:=by exact rfl) (hm:Upd g #[a0,a1,a2,a3,a4,a5] #[a0,a1,a2,v,a4,a5] L L':=by repeat constructor):wpList Tryz.prog ops Q (⟨dst,.store 9 x y,tt,pos,af,none⟩::rest) a w :=
 wpList_store1_own _ x y rfl g 3 hx v hy h1 M _ _ (hm:=hm) isz_str h
end
def segSg (s:SegT):Bool:=!s.deep && (match s.sels with|[x]=>decide (x.kind=0∨x.kind=2)|_=>false)
theorem RowG.at2 {K:Nat→Prop}{R:List Value→ExprT→Prop}{w:World}{A:Option Addr}{n c:Nat}{l:List SegT}(h:RowG K 2 (SegC K R w) w (.slice A n c) l){k:Nat}{x:SegT}(hk:l[k]? = some x) :
  ∃b off A2 c2,A=some ⟨b,off,none⟩∧b<w.heap.size∧w.cell? ⟨b,off+k*2,none⟩=some (.bool x.deep)∧w.cell? ⟨b,off+k*2+1,none⟩=some (.slice A2 x.sels.length c2)∧RowG K 9 (SelC K R w) w (.slice A2 x.sels.length c2) x.sels:=by
 obtain⟨A',cap,e1,-,h3⟩:=h
 obtain⟨b,off,rfl,hK,hb,hc⟩:=h3.resolve_left (by intro e;rw [e] at hk;simp at hk)
 obtain⟨cs,-,hcs,sv,rfl,hrow⟩:=hc k x hk
 obtain⟨A2,c2,rfl⟩:=hrow.slice
 obtain rfl:A=some ⟨b,off,none⟩:=(Value.slice.inj e1).1
 exact⟨b,off,A2,c2,rfl,hb,hcs 0 _ rfl,hcs 1 _ rfl,hrow⟩
theorem RowG.first9 {K:Nat→Prop}{R:List Value→ExprT→Prop}{w:World}{A:Option Addr}{n c:Nat}{y:SelT}(h:RowG K 9 (SelC K R w) w (.slice A n c) [y]):∃b off,A=some ⟨b,off,none⟩∧b<w.heap.size∧w.cell? ⟨b,off,none⟩=some (.int .i64 y.kind):=by
 obtain⟨A',cap,e1,-,h3⟩:=h
 obtain⟨b,off,rfl,hK,hb,hc⟩:=h3.resolve_left (by simp)
 obtain⟨cs,-,hcs,pv,rfl,-⟩:=hc 0 y rfl
 have d0:=hcs 0 _ rfl
 rw [show off+0*9+0=off by omega] at d0
 exact⟨b,off,(Value.slice.inj e1).1,hb,d0⟩
theorem res_side {X:List Nat}{w0 w:World}{L:List BlkE}{rs:List RowE}{J:World→Prop}{tmps:Array Value}{g k:Nat}{t u:TypeId}{a0 a1 a2 a3 a4 a5 b0 b1 b2 b3 b4 b5:Value}(hp:tmps.getD 2 undef=.pointer (some ⟨g,0,none⟩))(hq:tmps.getD 3 undef=.pointer (some ⟨k,0,none⟩))(M:Own X w0 w L rs J)(hg:(g,t,#[a0,a1,a2,a3,a4,a5])∈L)(hk:(k,u,#[b0,b1,b2,b3,b4,b5])∈L):(results Tryz.f119 tmps).run Tryz.prog w=.ok (.tuple #[.agg #[a0,a1,a2,a3,a4,a5],.agg #[b0,b1,b2,b3,b4,b5]]) w :=
 results_2 Tryz.results119 _ g k _ _ _ _ _ _ hp hq (M.blk _ hg) (M.blk _ hk) Tryz.underlying54 rfl Tryz.underlying90 rfl 6 6 isz_R rfl isz_Side rfl
theorem rsing_any {K:Nat→Prop}{R:List Value→ExprT→Prop}(ab:Bool)(l:List SegT)(A:Option Addr)(c:Nat)(w:World)(h:RowG K 2 (SegC K R w) w (.slice A l.length c) l) :
  Calls Tryz.prog 120 #[.agg #[.bool ab,.slice A l.length c]] w fun e w'=>e=.returned (.bool (l.all segSg))∧Bel w.heap.size w w':=by
 have HG:=hH h
 have hl:l.length≤9223372036854775807:=by
  obtain⟨_,_,_,h2,_⟩:=h;omega
 clear h
 have M:=hH (Own.start [] w (fun _=>True) fun _ _=>trivial)
 go_enter Tryz.func120, Tryz.ntmps120
 go_wp2_with (first|(with_reducible (refine bx_Path (some 1) M.out ?_;clear M;intro g1 w' hg1 M)))
 go_loop [3,4] (fun i _=>∃k:Nat,k≤l.length∧i=.int .i64 k∧Hid (l.all segSg=(l.drop k).all segSg)) (fun i _=>l.length-(intOf i).toNat)
 case atStart=>exact⟨0,Nat.zero_le _,rfl,hH rfl⟩
 case round =>
  obtain⟨k,hk,rfl,HA⟩:=hrel
  by_cases hlt:k<l.length
  ·obtain⟨x,hx⟩:∃x,l[k]? = some x:=⟨_,List.getElem?_eq_getElem hlt⟩
   have hdk:l.drop k=x::l.drop (k+1):=by
    rw [List.drop_eq_getElem_cons hlt];rw [List.getElem?_eq_getElem hlt] at hx;cases hx;rfl
   have HA2:=hH (HA.out.trans (by rw [hdk,List.all_cons]))
   obtain⟨b,off,A2,c2,rfl,hb,d0,d1,hrow⟩:=HG.out.at2 hx
   have q0:=(M.out.bel0.cell (p:=⟨b,off+k*2,none⟩) hb).trans d0
   have q1:=(M.out.bel0.cell (p:=⟨b,off+k*2+1,none⟩) hb).trans d1
   have hlt2:(k:Int)<(l.length:Int):=by omega
   clear hx hdk d0 d1
   cases hdp:x.deep with
   | true =>
    rw [hdp] at q0
    have HE:=hH (HA2.out.trans (show (segSg x && (l.drop (k+1)).all segSg)=false by unfold segSg;rw [hdp];rfl))
    clear hdp hrow HA2
    go_wp2_with (first|(with_reducible refine ld1_segs M.out ?_))
    go_ret
    exact⟨ret_bool (by rw [HE.out]),M.out.bel0⟩
   | false =>
    rw [hdp] at q0
    by_cases hn:x.sels.length=1
    ·obtain⟨y,hy⟩:=List.length_eq_one_iff.1 hn
     rw [hy] at hrow
     obtain⟨b2,off2,rfl,hb2,e0⟩:=hrow.first9
     have q2:=(M.out.bel0.cell (p:=⟨b2,off2,none⟩) hb2).trans e0
     have hs1:((x.sels.length:Int) != 1)=false:=by rw [hn];rfl
     have hs2:(0:Int)<(x.sels.length:Int):=by omega
     have HS:=hH (show segSg x=decide (y.kind=0∨y.kind=2) by unfold segSg;rw [hdp,hy];rfl)
     clear hy hrow e0 hdp hn
     by_cases k0:y.kind=0
     ·have h0:(y.kind != 0)=false:=by rw [k0];rfl
      have HE:=hH (HA2.out.trans (by rw [HS.out,decide_eq_true (Or.inl k0),Bool.true_and]))
      clear k0 HA2 HS
      go_wp2_with (first|(with_reducible refine ld1_segs M.out ?_))
      go_round
      case rel=>exact⟨k+1,by omega,by go_num,HE⟩
      case measure=>simp [intOf];omega
     ·have h0:(y.kind != 0)=true:=bne_iff_ne.2 k0
      by_cases k2:y.kind=2
      ·have h2:(y.kind != 2)=false:=by rw [k2];rfl
       have HE:=hH (HA2.out.trans (by rw [HS.out,decide_eq_true (Or.inr k2),Bool.true_and]))
       clear k0 k2 HA2 HS
       go_wp2_with (first|(with_reducible refine ld1_segs M.out ?_))
       go_round
       case rel=>exact⟨k+1,by omega,by go_num,HE⟩
       case measure=>simp [intOf];omega
      ·have h2:(y.kind != 2)=true:=bne_iff_ne.2 k2
       have HE:=hH (HA2.out.trans (show (segSg x && (l.drop (k+1)).all segSg)=false by rw [HS.out,decide_eq_false (by rintro (h|h) <;> contradiction),Bool.false_and]))
       clear k0 k2 HA2 HS
       go_wp2_with (first|(with_reducible refine ld1_segs M.out ?_))
       go_ret
       exact⟨ret_bool (by rw [HE.out]),M.out.bel0⟩
    ·have hs1:((x.sels.length:Int) != 1)=true:=by rw [bne_iff_ne];omega
     have HE:=hH (HA2.out.trans (show (segSg x && (l.drop (k+1)).all segSg)=false by
      have:segSg x=false:=by
       unfold segSg
       match hm:x.sels,hn with
       | [],_=>simp
       | [_],hn=>simp at hn
       | _::_::_,_=>simp
      rw [this,Bool.false_and]))
     clear hdp hrow HA2 hn
     go_wp2_with (first|(with_reducible refine ld1_segs M.out ?_))
     go_ret
     exact⟨ret_bool (by rw [HE.out]),M.out.bel0⟩
  ·have HE:=hH (HA.out.trans (show (l.drop k).all segSg=true by rw [List.drop_of_length_le (by omega)];rfl))
   have hge:(l.length:Int)≤(k:Int):=by omega
   go_wp2_with (first|(with_reducible refine ld1_segs M.out ?_))
   go_ret
   exact⟨ret_bool (by rw [HE.out]),M.out.bel0⟩
def RSideP (A:Option Addr)(all:List TokD)(c:Nat)(E:Int)(d:Nat)(w:World)(r:SideT×PSt)(e:Ending)(w':World):Prop :=
 ∃m A1 c1 k' dp',e=.returned (.tuple #[rv A all.length c k' E r.2 dp',.agg #[.bool r.1.lit,.int .i64 r.1.kind,.int .i64 r.1.n,.string (bs r.1.s),.bool r.1.p.abs,.slice A1 r.1.p.segs.length c1]])∧RIn all k' r.2∧(r.2.fe=0→dp'=(d:Int))∧RowG (Fr w) 2 (RSeg (Fr w) m w') w' (.slice A1 r.1.p.segs.length c1) r.1.p.segs∧Bel w.heap.size w w'
theorem RSideP.lit_ {A:Option Addr}{all:List TokD}{c:Nat}{E:Int}{d k':Nat}{dp':Int}{w w':World}{r:SideT×PSt}{b:Bool}{kd n:Int}{s:List UInt8}{t':PSt}(h:r=(⟨b,kd,n,s,path0⟩,t'))(h1:RIn all k' t')(h2:t'.fe=0→dp'=(d:Int))(hl:Bel w.heap.size w w') :
  RSideP A all c E d w r (.returned (.tuple #[rv A all.length c k' E t' dp',.agg #[.bool b,.int .i64 kd,.int .i64 n,.string (bs s),.bool false,.slice none 0 0]])) w':=by
 subst h
 exact⟨0,none,0,k',dp',rfl,h1,h2,⟨none,0,rfl,⟨by simp [path0],by omega⟩,.inl rfl⟩,hl⟩
section
variable  (A:Option Addr)(all:List TokD)(c k:Nat)(E:Int)(P:Nat→PSt→ExprT×PSt)(t:PSt)(d:Nat)(dp:Int)(w:World)
theorem rside_p (hL:LeP P)(N:Nat)(hP:ROrC A all c E P N)(h:RIn all k t)(hT:TkR w A all)(hd:t.fe=0→dp=(d:Int))(hN:N≤d+1)(hdd:d≤33)(hf:d=33→t.fe≠0)(h64:isS [64] t=true):Calls Tryz.prog 119 #[rv A all.length c k E t dp] w (RSideP A all c E d w (sideF E P d t)):=by
 have HI:=hH (fun W (hb:Bel w.heap.size w W)=>ris_at A all c k E t dp W ⟨#[64]⟩ true h (hT.bel hb) (hH h64))
 have HS:=hH (fun W (hb:Bel w.heap.size w W)=>rpath_any A all c k E P t d dp W hL N hP h (hT.bel hb) hd hN hdd hf)
 have hE:sideF E P d t=(⟨false,0,0,[],(pathF E P d t).1⟩,(pathF E P d t).2):=by unfold sideF isPath;rw [h64];rfl
 obtain⟨pp,t2,hx⟩:∃pp t2,pathF E P d t=(pp,t2):=⟨_,_,rfl⟩
 rw [hE]
 rw [hx] at HS ⊢
 unfold RPathP at HS
 simp only at HS ⊢
 clear h hT hd hf h64 hP hx hE hL
 have M:=hH (Own.start [] w (fun _=>True) fun _ _=>trivial)
 go_enter Tryz.func119, Tryz.ntmps119
 generalize hQ:bodyPost Tryz.prog Tryz.f119 (RSideP A all c E d w (⟨false,0,0,[],pp⟩,t2))=Q
 have HQ:=hH hQ;clear hQ
 go_upto_region 3 with(first|(with_reducible first|(refine bx_R (some 1) M.out ?_;clear M;intro g1 w' hg1 M)|(refine al_R (some 2) M.out ?_;clear M;intro g2 w' hg2 M)|(refine al_Side (some 3) M.out ?_;clear M;intro g3 w' hg3 M)|refine ld_R M.out ?_|refine ld_Path M.out ?_|(refine st_R M.out ?_;clear M;intro w' M)|(refine st_Path M.out ?_;clear M;intro w' M)|(refine st_Side M.out ?_;clear M;intro w' M)|(refine al_R (some 4) M.out ?_;clear M;intro g4 w' hg4 M)|(refine al_Path (some 5) M.out ?_;clear M;intro g5 w' hg5 M))|((with_reducible refine gg_R ?_);refine ldg_R rfl rfl M.out ?_)|(go_at_call 13;(with_reducible refine M.out.call (HI.out _ M.out.bel0) ?_);clear M;intro w' M)|(go_at_call 15;(with_reducible refine(HS.out _ M.out.bel0).mono ?_);rintro e w' ⟨m,A1,c1,k5,D5,rfl,hi5,hd5,hrow,hb⟩;have HI5:=hH hi5;have HD5:=hH hd5;have Mn:=M.out.addK (G:=fun K y=>RowG K 2 (RSeg K m y) y (.slice A1 pp.segs.length c1) pp.segs) (fun h hk=>RowG.keep h hk fun _ _ h=>RSeg_ok.keep h hk (Nat.le_refl _)) hb hrow;replace M:=hH Mn;clear Mn hb hrow hi5 hd5))
 replace M:=hH M.out.drew
 refine tbh (fun w'=>Blk w' g4 _ _∧Blk w' g5 _ _) (⟨M.out.b,M.out.b⟩) fun hS=>?_
 refine tk 0 rfl hS (yl_R _ _ rfl _ _ (fun _ h=>h.1) rfl) ?_
 refine tk 1 rfl hS (yl_Path _ _ rfl _ _ (fun _ h=>h.2) rfl) ?_
 refine tkp 2 rfl hS ?_
 refine tr [3] ?_
 refine rs_R (i:=3) _ _ rfl rfl rfl M.out ?_
 clear M;intro w' M
 refine an ⟨M.out.b,M.out.b⟩ fun hS=>tn ?_
 refine tr [4] ?_
 refine rs_Side (i:=4) _ _ rfl rfl rfl M.out ?_
 clear M;intro w' M
 refine an ⟨M.out.b,M.out.b⟩ fun hS=>tn ?_
 refine te ?_
 go_wp2
 rw [←HQ.out]
 exact bodyPost_ret (v:=.tuple #[rv A all.length c k5 E t2 D5,.agg #[.bool false,.int .i64 0,.int .i64 0,.string ⟨#[]⟩,.bool pp.abs,.slice A1 pp.segs.length c1]]) (res_side rfl rfl M.out (by repeat constructor) (by repeat constructor)) rfl (⟨m,A1,c1,k5,D5,rfl,HI5.out,HD5.out,M.out.now.2,M.out.bel0⟩)
theorem rside_q (hL:LeP P)(N:Nat)(hP:ROrC A all c E P N)(h:RIn all k t)(hT:TkR w A all)(hd:t.fe=0→dp=(d:Int))(hN:N≤d+1)(hdd:d≤33)(hf:d=33→t.fe≠0)(h64:isS [64] t=false)(h36:isS [36] t=true):Calls Tryz.prog 119 #[rv A all.length c k E t dp] w (RSideP A all c E d w (sideF E P d t)):=by
 have HI:=hH (fun W (hb:Bel w.heap.size w W)=>ris_at A all c k E t dp W ⟨#[64]⟩ false h (hT.bel hb) (hH h64))
 have HJ:=hH (fun W (hb:Bel w.heap.size w W)=>ris_at A all c k E t dp W ⟨#[36]⟩ true h (hT.bel hb) (hH h36))
 have HS:=hH (fun W (hb:Bel w.heap.size w W)=>rpath_any A all c k E P t d dp W hL N hP h (hT.bel hb) hd hN hdd hf)
 have hE:sideF E P d t=(⟨false,0,0,[],(pathF E P d t).1⟩,(pathF E P d t).2):=by unfold sideF isPath;rw [h64,h36];rfl
 obtain⟨pp,t2,hx⟩:∃pp t2,pathF E P d t=(pp,t2):=⟨_,_,rfl⟩
 rw [hE]
 rw [hx] at HS ⊢
 unfold RPathP at HS
 simp only at HS ⊢
 clear h hT hd hf h64 hP hx hE hL h36
 have M:=hH (Own.start [] w (fun _=>True) fun _ _=>trivial)
 go_enter Tryz.func119, Tryz.ntmps119
 generalize hQ:bodyPost Tryz.prog Tryz.f119 (RSideP A all c E d w (⟨false,0,0,[],pp⟩,t2))=Q
 have HQ:=hH hQ;clear hQ
 go_upto_region 3 with(first|(with_reducible first|(refine bx_R (some 1) M.out ?_;clear M;intro g1 w' hg1 M)|(refine al_R (some 2) M.out ?_;clear M;intro g2 w' hg2 M)|(refine al_Side (some 3) M.out ?_;clear M;intro g3 w' hg3 M)|refine ld_R M.out ?_|refine ld_Path M.out ?_|(refine st_R M.out ?_;clear M;intro w' M)|(refine st_Path M.out ?_;clear M;intro w' M)|(refine st_Side M.out ?_;clear M;intro w' M)|(refine al_R (some 4) M.out ?_;clear M;intro g4 w' hg4 M)|(refine al_Path (some 5) M.out ?_;clear M;intro g5 w' hg5 M))|((with_reducible refine gg_R ?_);refine ldg_R rfl rfl M.out ?_)|(go_at_call 13;(with_reducible refine M.out.call (HI.out _ M.out.bel0) ?_);clear M;intro w' M)|(go_at_call 13;(with_reducible refine M.out.call (HJ.out _ M.out.bel0) ?_);clear M;intro w' M)|(go_at_call 15;(with_reducible refine(HS.out _ M.out.bel0).mono ?_);rintro e w' ⟨m,A1,c1,k5,D5,rfl,hi5,hd5,hrow,hb⟩;have HI5:=hH hi5;have HD5:=hH hd5;have Mn:=M.out.addK (G:=fun K y=>RowG K 2 (RSeg K m y) y (.slice A1 pp.segs.length c1) pp.segs) (fun h hk=>RowG.keep h hk fun _ _ h=>RSeg_ok.keep h hk (Nat.le_refl _)) hb hrow;replace M:=hH Mn;clear Mn hb hrow hi5 hd5))
 replace M:=hH M.out.drew
 refine tbh (fun w'=>Blk w' g4 _ _∧Blk w' g5 _ _) (⟨M.out.b,M.out.b⟩) fun hS=>?_
 refine tk 0 rfl hS (yl_R _ _ rfl _ _ (fun _ h=>h.1) rfl) ?_
 refine tk 1 rfl hS (yl_Path _ _ rfl _ _ (fun _ h=>h.2) rfl) ?_
 refine tkp 2 rfl hS ?_
 refine tr [3] ?_
 refine rs_R (i:=3) _ _ rfl rfl rfl M.out ?_
 clear M;intro w' M
 refine an ⟨M.out.b,M.out.b⟩ fun hS=>tn ?_
 refine tr [4] ?_
 refine rs_Side (i:=4) _ _ rfl rfl rfl M.out ?_
 clear M;intro w' M
 refine an ⟨M.out.b,M.out.b⟩ fun hS=>tn ?_
 refine te ?_
 go_wp2
 rw [←HQ.out]
 exact bodyPost_ret (v:=.tuple #[rv A all.length c k5 E t2 D5,.agg #[.bool false,.int .i64 0,.int .i64 0,.string ⟨#[]⟩,.bool pp.abs,.slice A1 pp.segs.length c1]]) (res_side rfl rfl M.out (by repeat constructor) (by repeat constructor)) rfl (⟨m,A1,c1,k5,D5,rfl,HI5.out,HD5.out,M.out.now.2,M.out.bel0⟩)
theorem rside_0 (h:RIn all k t)(hT:TkR w A all)(h64:isS [64] t=false)(h36:isS [36] t=false)(hk:kindS t=0):Calls Tryz.prog 119 #[rv A all.length c k E t dp] w (RSideP A all c E d w (sideF E P d t)):=by
 have HI:=hH (fun W (hb:Bel w.heap.size w W)=>ris_at A all c k E t dp W ⟨#[64]⟩ false h (hT.bel hb) (hH h64))
 have HJ:=hH (fun W (hb:Bel w.heap.size w W)=>ris_at A all c k E t dp W ⟨#[36]⟩ false h (hT.bel hb) (hH h36))
 have HK:=hH (fun W (hb:Bel w.heap.size w W)=>rkind_at A all c k E t dp W 0 h (hT.bel hb) (hH hk))
 have HF:=hH (fun W (hb:Bel w.heap.size w W)=>rform_any A all c k E t dp W h (hT.bel hb))
 have HE:=hH (show sideF E P d t=(⟨false,0,0,[],path0⟩,formS E t) by unfold sideF isPath;rw [h64,h36];unfold litS;rw [hk];rfl)
 have HI2:=hH (h.form E)
 clear h hT h64 h36 hk
 have M:=hH (Own.start [] w (fun _=>True) fun _ _=>trivial)
 go_enter Tryz.func119, Tryz.ntmps119
 generalize hQ:bodyPost Tryz.prog Tryz.f119 (RSideP A all c E d w (sideF E P d t))=Q
 have HQ:=hH hQ;clear hQ
 go_wp2_with (first|(with_reducible first|(refine bx_R (some 1) M.out ?_;clear M;intro g1 w' hg1 M)|(refine al_R (some 2) M.out ?_;clear M;intro g2 w' hg2 M)|(refine al_Side (some 3) M.out ?_;clear M;intro g3 w' hg3 M)|refine ld_R M.out ?_|refine ld_Path M.out ?_|(refine st_R M.out ?_;clear M;intro w' M)|(refine st_Path M.out ?_;clear M;intro w' M)|(refine st_Side M.out ?_;clear M;intro w' M))|((with_reducible refine gg_R ?_);refine ldg_R rfl rfl M.out ?_)|(go_at_call 13;(with_reducible refine M.out.call (HI.out _ M.out.bel0) ?_);clear M;intro w' M)|(go_at_call 13;(with_reducible refine M.out.call (HJ.out _ M.out.bel0) ?_);clear M;intro w' M)|(go_at_call 26;(with_reducible refine M.out.call (HK.out _ M.out.bel0) ?_);clear M;intro w' M)|(go_at_call 14;(with_reducible refine M.out.call (HF.out _ M.out.bel0) ?_);clear M;intro w' M))
 rw [←HQ.out]
 exact bodyPost_ret (v:=.tuple #[rv A all.length c k E (formS E t) dp,.agg #[.bool false,.int .i64 0,.int .i64 0,.string ⟨#[]⟩,.bool false,.slice none 0 0]]) (res_side rfl rfl M.out (by repeat constructor) (by repeat constructor)) rfl (RSideP.lit_ (s:=[]) HE.out HI2.out (fun e=>absurd e (formS_fe E t)) M.out.bel0)
theorem rside_tok (h:RIn all k t)(hT:TkR w A all)(hd:t.fe=0→dp=(d:Int))(h64:isS [64] t=false)(h36:isS [36] t=false)(hk0:kindS t≠0):Calls Tryz.prog 119 #[rv A all.length c k E t dp] w (RSideP A all c E d w (sideF E P d t)):=by
 have hov:ovS t=false:=by
  cases h9:ovS t with
  | false=>rfl
  | true=>have:=(nextS_ov (E:=E) h9).2;exact absurd (by unfold kindS;rw [this];rfl) hk0
 obtain⟨htk,hlt⟩:=h.tok hov
 obtain⟨b,off,rfl,hb0,d0,d1,d2,d3,d4⟩:=hT.at_ htk
 obtain⟨q,hq⟩:∃q,kindS t=q:=⟨_,rfl⟩
 have q0:(q==0)=false:=by rw [beq_eq_false_iff_ne,←hq];exact hk0
 have HI:=hH (fun W (hb:Bel w.heap.size w W)=>ris_at (some ⟨b,off,none⟩) all c k E t dp W ⟨#[64]⟩ false h (hT.bel hb) (hH h64))
 have HJ:=hH (fun W (hb:Bel w.heap.size w W)=>ris_at (some ⟨b,off,none⟩) all c k E t dp W ⟨#[36]⟩ false h (hT.bel hb) (hH h36))
 have HK:=hH (fun W (hb:Bel w.heap.size w W)=>rkind_at (some ⟨b,off,none⟩) all c k E t dp W q h (hT.bel hb) (hH hq))
 have HF:=hH (fun W (hb:Bel w.heap.size w W)=>rform_any (some ⟨b,off,none⟩) all c k E t dp W h (hT.bel hb))
 have HN:=hH (fun W (hb:Bel w.heap.size w W)=>rnext_any (some ⟨b,off,none⟩) all c k E t dp W h (hT.bel hb))
 unfold RP at HN
 have HL:=hH (show sideF E P d t=match litS t with|some x=>(x,nextS E t)|none=>(side0,formS E t) by unfold sideF isPath;rw [h64,h36];rfl)
 have HU:=hH (show litS t=if q=3 then some ⟨true,2,(hdT t).n,[],path0⟩ else if q=4 then some ⟨true,3,0,(hdT t).s,path0⟩ else if q=2 then (if (hdT t).s=[116,114,117,101] then some ⟨true,1,1,[],path0⟩ else if (hdT t).s=[102,97,108,115,101] then some ⟨true,1,0,[],path0⟩ else if (hdT t).s=[110,117,108,108] then some ⟨true,0,0,[],path0⟩ else none) else none by unfold litS;rw [hq])
 have HD:=hH hd
 have HI0:=hH h
 have hbd:=h.bd
 have hlt2:(k:Int)<(all.length:Int):=by omega
 obtain⟨tnv,htn⟩:∃tnv,(hdT t).n=tnv:=⟨_,rfl⟩
 obtain⟨ts,hts⟩:∃ts,(hdT t).s=ts:=⟨_,rfl⟩
 obtain⟨tkv,htk2⟩:∃tkv,(hdT t).kind=tkv:=⟨_,rfl⟩
 obtain⟨ta,hta⟩:∃ta,(hdT t).at_=ta:=⟨_,rfl⟩
 obtain⟨tg,htg⟩:∃tg,(hdT t).gap=tg:=⟨_,rfl⟩
 rw [htk2] at d0
 rw [hts] at d1 HU
 rw [htn] at d2 HU
 rw [hta] at d3
 rw [htg] at d4
 clear h hT hd h64 h36 hov htk hlt htn hts htk2 hta htg hk0 hq
 have M:=hH (Own.start [] w (fun _=>True) fun _ _=>trivial)
 go_enter Tryz.func119, Tryz.ntmps119
 generalize hQ:bodyPost Tryz.prog Tryz.f119 (RSideP (some ⟨b,off,none⟩) all c E d w (sideF E P d t))=Q
 have HQ:=hH hQ;clear hQ
 go_upto_region 9 with(first|(with_reducible first|(refine bx_R (some 1) M.out ?_;clear M;intro g1 w' hg1 M)|(refine al_R (some 2) M.out ?_;clear M;intro g2 w' hg2 M)|(refine al_Side (some 3) M.out ?_;clear M;intro g3 w' hg3 M)|refine ld_R M.out ?_|refine ld_Path M.out ?_|(refine st_R M.out ?_;clear M;intro w' M)|(refine st_Path M.out ?_;clear M;intro w' M)|(refine st_Side M.out ?_;clear M;intro w' M)|refine ld_Tok M.out ?_|(refine st_Tok M.out ?_;clear M;intro w' M)|(refine al_Tok (some 7) M.out ?_;clear M;intro g7 w' hg7 M)|(refine al_Side (some 8) M.out ?_;clear M;intro g8 w' hg8 M))|((with_reducible refine gg_R ?_);refine ldg_R rfl rfl M.out ?_)|(go_at_call 13;(with_reducible refine M.out.call (HI.out _ M.out.bel0) ?_);clear M;intro w' M)|(go_at_call 13;(with_reducible refine M.out.call (HJ.out _ M.out.bel0) ?_);clear M;intro w' M)|(go_at_call 26;(with_reducible refine M.out.call (HK.out _ M.out.bel0) ?_);clear M;intro w' M;obtain⟨r0,r1,-⟩:=M.out.c6 (k:=g1) (by repeat constructor);have y0:=(M.out.bel0.cell (p:=⟨b,off+k*5,none⟩) hb0).trans d0;have y1:=(M.out.bel0.cell (p:=⟨b,off+k*5+1,none⟩) hb0).trans d1;have y2:=(M.out.bel0.cell (p:=⟨b,off+k*5+2,none⟩) hb0).trans d2;have y3:=(M.out.bel0.cell (p:=⟨b,off+k*5+3,none⟩) hb0).trans d3;have y4:=(M.out.bel0.cell (p:=⟨b,off+k*5+4,none⟩) hb0).trans d4))
 clear r0 r1 y0 y1 y2 y3 y4 d0 d1 d2 d3 d4 HI HJ HK
 by_cases q3:q=3
 ·have HE:=hH (show sideF E P d t=(⟨true,2,tnv,[],path0⟩,nextS E t) by rw [HL.out,HU.out,if_pos q3])
  have b3:(q==3)=true:=beq_iff_eq.2 q3
  clear q3
  go_upto_region 12 with(first|(with_reducible first|refine ld_R M.out ?_|(refine st_R M.out ?_;clear M;intro w' M)|(refine st_Side M.out ?_;clear M;intro w' M)|refine ld_Side M.out ?_|refine ld1_i64 M.out ?_)|((with_reducible refine gs1_SdK ?_);refine st1_SdK rfl rfl M.out ?_;intro w' Mn;replace M:=hH Mn;clear Mn)|((with_reducible refine gs1_SdN ?_);refine st1_SdN rfl rfl M.out ?_;intro w' Mn;replace M:=hH Mn;clear Mn))
  replace M:=hH M.out.drew
  refine tbh (fun w'=>Blk w' g1 _ _∧Blk w' g8 _ _) (⟨M.out.b,M.out.b⟩) fun hS=>?_
  refine tk 0 rfl hS (yl_R _ _ rfl _ _ (fun _ h=>h.1) rfl) ?_
  refine tk 2 rfl hS (yl_Side _ _ rfl _ _ (fun _ h=>h.2) rfl) ?_
  refine tr [1] ?_
  refine rdy_call (i:=1) (HN.out _ M.out.bel0) (op:=.call _) rfl (by go_simp) ?_
  rintro e w' ⟨k8,rfl,hi8,hb⟩
  have HI8:=hH hi8;clear hi8
  replace M:=hH (M.out.bel hb);clear hb
  refine⟨_,rfl,?_⟩
  refine an ⟨M.out.b,M.out.b⟩ fun hS=>tn ?_
  refine tr [3] ?_
  refine rs_R (i:=3) _ _ rfl rfl rfl M.out ?_
  clear M;intro w' M
  refine an ⟨M.out.b,M.out.b⟩ fun hS=>tn ?_
  refine tr [4] ?_
  refine rs_Side (i:=4) _ _ rfl rfl rfl M.out ?_
  clear M;intro w' M
  refine an ⟨M.out.b,M.out.b⟩ fun hS=>tn ?_
  refine te ?_
  go_wp2
  rw [←HQ.out]
  exact bodyPost_ret (v:=.tuple #[rv (some ⟨b,off,none⟩) all.length c k8 E (nextS E t) dp,.agg #[.bool true,.int .i64 2,.int .i64 tnv,.string ⟨#[]⟩,.bool false,.slice none 0 0]]) (res_side rfl rfl M.out (by repeat constructor) (by repeat constructor)) rfl (RSideP.lit_ (s:=[]) HE.out HI8.out (fun e=>HD.out (nextS_fe0 e)) M.out.bel0)
 ·by_cases q4:q=4
  ·have HE:=hH (show sideF E P d t=(⟨true,3,0,ts,path0⟩,nextS E t) by rw [HL.out,HU.out,if_neg q3,if_pos q4])
   have b3:(q==3)=false:=beq_eq_false_iff_ne.2 q3
   have b4:(q==4)=true:=beq_iff_eq.2 q4
   clear q3 q4
   go_upto_region 16 with(first|(with_reducible first|refine ld_R M.out ?_|(refine st_R M.out ?_;clear M;intro w' M)|(refine st_Side M.out ?_;clear M;intro w' M)|refine ld_Side M.out ?_|refine ld1_str M.out ?_)|((with_reducible refine gs1_SdK ?_);refine st1_SdK rfl rfl M.out ?_;intro w' Mn;replace M:=hH Mn;clear Mn)|((with_reducible refine gs1_SdS ?_);refine st1_SdS rfl rfl M.out ?_;intro w' Mn;replace M:=hH Mn;clear Mn))
   replace M:=hH M.out.drew
   refine tbh (fun w'=>Blk w' g1 _ _∧Blk w' g8 _ _) (⟨M.out.b,M.out.b⟩) fun hS=>?_
   refine tk 0 rfl hS (yl_R _ _ rfl _ _ (fun _ h=>h.1) rfl) ?_
   refine tk 2 rfl hS (yl_Side _ _ rfl _ _ (fun _ h=>h.2) rfl) ?_
   repeat' (first|((with_reducible refine gR ?_);first|exact .nil|(refine rdy_call (i:=1) (HN.out _ M.out.bel0) (op:=.call _) rfl (by go_simp) ?_ ?_;rintro e w' ⟨k8,rfl,hi8,hb⟩;have HI8:=hH hi8;clear hi8;replace M:=hH (M.out.bel hb);clear hb;refine⟨_,rfl,?_⟩;refine⟨⟨M.out.b,M.out.b⟩,tn ?_⟩)|(refine rs_R (i:=3) _ _ rfl rfl rfl M.out ?_ ?_;clear M;intro w' M;refine⟨⟨M.out.b,M.out.b⟩,tn ?_⟩)|(refine rs_Side (i:=4) _ _ rfl rfl rfl M.out ?_ ?_;clear M;intro w' M;refine⟨⟨M.out.b,M.out.b⟩,tn ?_⟩))|((with_reducible refine gW ?_);first|refine trd [1] ?_|refine trd [3] ?_|refine trd [4] ?_|refine ted ?_))
   all_goals
    go_wp2
    rw [←HQ.out]
    exact bodyPost_ret (v:=.tuple #[rv (some ⟨b,off,none⟩) all.length c k8 E (nextS E t) dp,.agg #[.bool true,.int .i64 3,.int .i64 0,.string (bs ts),.bool false,.slice none 0 0]]) (res_side rfl rfl M.out (by repeat constructor) (by repeat constructor)) rfl (RSideP.lit_ (s:=ts) HE.out HI8.out (fun e=>HD.out (nextS_fe0 e)) M.out.bel0)
  ·by_cases q2:q=2
   ·by_cases s1:ts=[116,114,117,101]
    ·have HE:=hH (show sideF E P d t=(⟨true,1,1,[],path0⟩,nextS E t) by rw [HL.out,HU.out,if_neg q3,if_neg q4,if_pos q2,if_pos s1])
     have b3:(q==3)=false:=beq_eq_false_iff_ne.2 q3
     have b4:(q==4)=false:=beq_eq_false_iff_ne.2 q4
     have b2:(q==2)=true:=beq_iff_eq.2 q2
     rw [s1,show bs [116,114,117,101]=⟨#[116,114,117,101]⟩ from rfl] at M
     clear q3 q4 q2 s1
     go_upto_region 21 with(first|(with_reducible first|refine ld_R M.out ?_|(refine st_R M.out ?_;clear M;intro w' M)|(refine st_Side M.out ?_;clear M;intro w' M)|refine ld_Side M.out ?_|refine ld1_str M.out ?_)|((with_reducible refine h1_str ?_);refine lg1_str rfl rfl M.out ?_)|((with_reducible refine gs1_SdK ?_);refine st1_SdK rfl rfl M.out ?_;intro w' Mn;replace M:=hH Mn;clear Mn)|((with_reducible refine gs1_SdN ?_);refine st1_SdN rfl rfl M.out ?_;intro w' Mn;replace M:=hH Mn;clear Mn))
     replace M:=hH M.out.drew
     refine tbh (fun w'=>Blk w' g1 _ _∧Blk w' g8 _ _) (⟨M.out.b,M.out.b⟩) fun hS=>?_
     refine tk 0 rfl hS (yl_R _ _ rfl _ _ (fun _ h=>h.1) rfl) ?_
     refine tk 2 rfl hS (yl_Side _ _ rfl _ _ (fun _ h=>h.2) rfl) ?_
     repeat' (first|((with_reducible refine gR ?_);first|exact .nil|(refine rdy_call (i:=1) (HN.out _ M.out.bel0) (op:=.call _) rfl (by go_simp) ?_ ?_;rintro e w' ⟨k8,rfl,hi8,hb⟩;have HI8:=hH hi8;clear hi8;replace M:=hH (M.out.bel hb);clear hb;refine⟨_,rfl,?_⟩;refine⟨⟨M.out.b,M.out.b⟩,tn ?_⟩)|(refine rs_R (i:=3) _ _ rfl rfl rfl M.out ?_ ?_;clear M;intro w' M;refine⟨⟨M.out.b,M.out.b⟩,tn ?_⟩)|(refine rs_Side (i:=4) _ _ rfl rfl rfl M.out ?_ ?_;clear M;intro w' M;refine⟨⟨M.out.b,M.out.b⟩,tn ?_⟩))|((with_reducible refine gW ?_);first|refine trd [1] ?_|refine trd [3] ?_|refine trd [4] ?_|refine ted ?_))
     all_goals
      go_wp2
      rw [←HQ.out]
      exact bodyPost_ret (v:=.tuple #[rv (some ⟨b,off,none⟩) all.length c k8 E (nextS E t) dp,.agg #[.bool true,.int .i64 1,.int .i64 1,.string ⟨#[]⟩,.bool false,.slice none 0 0]]) (res_side rfl rfl M.out (by repeat constructor) (by repeat constructor)) rfl (RSideP.lit_ (s:=[]) HE.out HI8.out (fun e=>HD.out (nextS_fe0 e)) M.out.bel0)
    ·by_cases s2:ts=[102,97,108,115,101]
     ·have HE:=hH (show sideF E P d t=(⟨true,1,0,[],path0⟩,nextS E t) by rw [HL.out,HU.out,if_neg q3,if_neg q4,if_pos q2,if_neg s1,if_pos s2])
      have b3:(q==3)=false:=beq_eq_false_iff_ne.2 q3
      have b4:(q==4)=false:=beq_eq_false_iff_ne.2 q4
      have b2:(q==2)=true:=beq_iff_eq.2 q2
      rw [s2,show bs [102,97,108,115,101]=⟨#[102,97,108,115,101]⟩ from rfl] at M
      clear q3 q4 q2 s1 s2
      go_upto_region 21 with(first|(with_reducible first|refine ld_R M.out ?_|(refine st_R M.out ?_;clear M;intro w' M)|(refine st_Side M.out ?_;clear M;intro w' M)|refine ld_Side M.out ?_|refine ld1_str M.out ?_)|((with_reducible refine h1_str ?_);refine lg1_str rfl rfl M.out ?_)|((with_reducible refine gs1_SdK ?_);refine st1_SdK rfl rfl M.out ?_;intro w' Mn;replace M:=hH Mn;clear Mn)|((with_reducible refine gs1_SdN ?_);refine st1_SdN rfl rfl M.out ?_;intro w' Mn;replace M:=hH Mn;clear Mn))
      replace M:=hH M.out.drew
      refine tbh (fun w'=>Blk w' g1 _ _∧Blk w' g8 _ _) (⟨M.out.b,M.out.b⟩) fun hS=>?_
      refine tk 0 rfl hS (yl_R _ _ rfl _ _ (fun _ h=>h.1) rfl) ?_
      refine tk 2 rfl hS (yl_Side _ _ rfl _ _ (fun _ h=>h.2) rfl) ?_
      repeat' (first|((with_reducible refine gR ?_);first|exact .nil|(refine rdy_call (i:=1) (HN.out _ M.out.bel0) (op:=.call _) rfl (by go_simp) ?_ ?_;rintro e w' ⟨k8,rfl,hi8,hb⟩;have HI8:=hH hi8;clear hi8;replace M:=hH (M.out.bel hb);clear hb;refine⟨_,rfl,?_⟩;refine⟨⟨M.out.b,M.out.b⟩,tn ?_⟩)|(refine rs_R (i:=3) _ _ rfl rfl rfl M.out ?_ ?_;clear M;intro w' M;refine⟨⟨M.out.b,M.out.b⟩,tn ?_⟩)|(refine rs_Side (i:=4) _ _ rfl rfl rfl M.out ?_ ?_;clear M;intro w' M;refine⟨⟨M.out.b,M.out.b⟩,tn ?_⟩))|((with_reducible refine gW ?_);first|refine trd [1] ?_|refine trd [3] ?_|refine trd [4] ?_|refine ted ?_))
      all_goals
       go_wp2
       rw [←HQ.out]
       exact bodyPost_ret (v:=.tuple #[rv (some ⟨b,off,none⟩) all.length c k8 E (nextS E t) dp,.agg #[.bool true,.int .i64 1,.int .i64 0,.string ⟨#[]⟩,.bool false,.slice none 0 0]]) (res_side rfl rfl M.out (by repeat constructor) (by repeat constructor)) rfl (RSideP.lit_ (s:=[]) HE.out HI8.out (fun e=>HD.out (nextS_fe0 e)) M.out.bel0)
     ·by_cases s3:ts=[110,117,108,108]
      ·have HE:=hH (show sideF E P d t=(⟨true,0,0,[],path0⟩,nextS E t) by rw [HL.out,HU.out,if_neg q3,if_neg q4,if_pos q2,if_neg s1,if_neg s2,if_pos s3])
       have b3:(q==3)=false:=beq_eq_false_iff_ne.2 q3
       have b4:(q==4)=false:=beq_eq_false_iff_ne.2 q4
       have b2:(q==2)=true:=beq_iff_eq.2 q2
       rw [s3,show bs [110,117,108,108]=⟨#[110,117,108,108]⟩ from rfl] at M
       clear q3 q4 q2 s1 s2 s3
       go_upto_region 23 with(first|(with_reducible first|refine ld_R M.out ?_|(refine st_R M.out ?_;clear M;intro w' M)|(refine st_Side M.out ?_;clear M;intro w' M)|refine ld_Side M.out ?_|refine ld1_str M.out ?_)|((with_reducible refine h1_str ?_);refine lg1_str rfl rfl M.out ?_)|((with_reducible refine gs1_SdK ?_);refine st1_SdK rfl rfl M.out ?_;intro w' Mn;replace M:=hH Mn;clear Mn)|((with_reducible refine gs1_SdN ?_);refine st1_SdN rfl rfl M.out ?_;intro w' Mn;replace M:=hH Mn;clear Mn))
       replace M:=hH M.out.drew
       refine tbh (fun w'=>Blk w' g1 _ _∧Blk w' g8 _ _) (⟨M.out.b,M.out.b⟩) fun hS=>?_
       refine tk 0 rfl hS (yl_R _ _ rfl _ _ (fun _ h=>h.1) rfl) ?_
       refine tk 2 rfl hS (yl_Side _ _ rfl _ _ (fun _ h=>h.2) rfl) ?_
       repeat' (first|((with_reducible refine gR ?_);first|exact .nil|(refine rdy_call (i:=1) (HN.out _ M.out.bel0) (op:=.call _) rfl (by go_simp) ?_ ?_;rintro e w' ⟨k8,rfl,hi8,hb⟩;have HI8:=hH hi8;clear hi8;replace M:=hH (M.out.bel hb);clear hb;refine⟨_,rfl,?_⟩;refine⟨⟨M.out.b,M.out.b⟩,tn ?_⟩)|(refine rs_R (i:=3) _ _ rfl rfl rfl M.out ?_ ?_;clear M;intro w' M;refine⟨⟨M.out.b,M.out.b⟩,tn ?_⟩)|(refine rs_Side (i:=4) _ _ rfl rfl rfl M.out ?_ ?_;clear M;intro w' M;refine⟨⟨M.out.b,M.out.b⟩,tn ?_⟩))|((with_reducible refine gW ?_);first|refine trd [1] ?_|refine trd [3] ?_|refine trd [4] ?_|refine ted ?_))
       all_goals
        go_wp2
        rw [←HQ.out]
        exact bodyPost_ret (v:=.tuple #[rv (some ⟨b,off,none⟩) all.length c k8 E (nextS E t) dp,.agg #[.bool true,.int .i64 0,.int .i64 0,.string ⟨#[]⟩,.bool false,.slice none 0 0]]) (res_side rfl rfl M.out (by repeat constructor) (by repeat constructor)) rfl (RSideP.lit_ (s:=[]) HE.out HI8.out (fun e=>HD.out (nextS_fe0 e)) M.out.bel0)
      ·have HE:=hH (show sideF E P d t=(⟨false,0,0,[],path0⟩,formS E t) by rw [HL.out,HU.out,if_neg q3,if_neg q4,if_pos q2,if_neg s1,if_neg s2,if_neg s3];rfl)
       have b3:(q==3)=false:=beq_eq_false_iff_ne.2 q3
       have b4:(q==4)=false:=beq_eq_false_iff_ne.2 q4
       have b2:(q==2)=true:=beq_iff_eq.2 q2
       have e1:((bs ts).toList==[116,114,117,101])=false:=by rw [beq_eq_false_iff_ne,rbs_tl];exact s1
       have e2:((bs ts).toList==[102,97,108,115,101])=false:=by rw [beq_eq_false_iff_ne,rbs_tl];exact s2
       have e3:((bs ts).toList==[110,117,108,108])=false:=by rw [beq_eq_false_iff_ne,rbs_tl];exact s3
       clear q3 q4 q2 s1 s2 s3
       go_wp2_with (first|(with_reducible first|refine ld_R M.out ?_|(refine st_R M.out ?_;clear M;intro w' M)|(refine st_Side M.out ?_;clear M;intro w' M)|refine ld_Side M.out ?_|refine ld1_str M.out ?_)|((with_reducible refine h1_str ?_);refine lg1_str rfl rfl M.out ?_)|((with_reducible refine gs1_SdK ?_);refine st1_SdK rfl rfl M.out ?_;intro w' Mn;replace M:=hH Mn;clear Mn)|((with_reducible refine gs1_SdN ?_);refine st1_SdN rfl rfl M.out ?_;intro w' Mn;replace M:=hH Mn;clear Mn)|(go_at_call 14;(with_reducible refine M.out.call (HF.out _ M.out.bel0) ?_);clear M;intro w' M))
       rw [←HQ.out]
       exact bodyPost_ret (v:=.tuple #[rv (some ⟨b,off,none⟩) all.length c k E (formS E t) dp,.agg #[.bool false,.int .i64 0,.int .i64 0,.string ⟨#[]⟩,.bool false,.slice none 0 0]]) (res_side rfl rfl M.out (by repeat constructor) (by repeat constructor)) rfl (RSideP.lit_ (s:=[]) HE.out (HI0.out.form E) (fun e=>absurd e (formS_fe E t)) M.out.bel0)
   ·have HE:=hH (show sideF E P d t=(⟨false,0,0,[],path0⟩,formS E t) by rw [HL.out,HU.out,if_neg q3,if_neg q4,if_neg q2];rfl)
    have b3:(q==3)=false:=beq_eq_false_iff_ne.2 q3
    have b4:(q==4)=false:=beq_eq_false_iff_ne.2 q4
    have b2:(q==2)=false:=beq_eq_false_iff_ne.2 q2
    clear q3 q4 q2
    go_wp2_with (first|(with_reducible first|refine ld_R M.out ?_|(refine st_R M.out ?_;clear M;intro w' M)|(refine st_Side M.out ?_;clear M;intro w' M)|refine ld_Side M.out ?_|refine ld1_str M.out ?_)|((with_reducible refine h1_str ?_);refine lg1_str rfl rfl M.out ?_)|((with_reducible refine gs1_SdK ?_);refine st1_SdK rfl rfl M.out ?_;intro w' Mn;replace M:=hH Mn;clear Mn)|((with_reducible refine gs1_SdN ?_);refine st1_SdN rfl rfl M.out ?_;intro w' Mn;replace M:=hH Mn;clear Mn)|(go_at_call 14;(with_reducible refine M.out.call (HF.out _ M.out.bel0) ?_);clear M;intro w' M))
    rw [←HQ.out]
    exact bodyPost_ret (v:=.tuple #[rv (some ⟨b,off,none⟩) all.length c k E (formS E t) dp,.agg #[.bool false,.int .i64 0,.int .i64 0,.string ⟨#[]⟩,.bool false,.slice none 0 0]]) (res_side rfl rfl M.out (by repeat constructor) (by repeat constructor)) rfl (RSideP.lit_ (s:=[]) HE.out (HI0.out.form E) (fun e=>absurd e (formS_fe E t)) M.out.bel0)
theorem rside_any (hL:LeP P)(N:Nat)(hP:ROrC A all c E P N)(h:RIn all k t)(hT:TkR w A all)(hd:t.fe=0→dp=(d:Int))(hN:N≤d+1)(hdd:d≤33)(hf:d=33→t.fe≠0):Calls Tryz.prog 119 #[rv A all.length c k E t dp] w (RSideP A all c E d w (sideF E P d t)):=by
 cases h64:isS [64] t with
 | true=>exact rside_p A all c k E P t d dp w hL N hP h hT hd hN hdd hf h64
 | false =>
  cases h36:isS [36] t with
  | true=>exact rside_q A all c k E P t d dp w hL N hP h hT hd hN hdd hf h64 h36
  | false =>
   by_cases hk0:kindS t=0
   ·exact rside_0 A all c k E P t d dp w h hT h64 h36 hk0
   ·exact rside_tok A all c k E P t d dp w h hT hd h64 h36 hk0
end
end Go.Proofs.YtjbdcjcfijjiiaaGreatDoor
