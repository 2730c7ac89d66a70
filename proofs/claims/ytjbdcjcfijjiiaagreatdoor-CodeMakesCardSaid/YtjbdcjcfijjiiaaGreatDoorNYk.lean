/- ref17 by own blocks: facts on types, the words of contracts, round (printed by gen_yk.py). -/
import Derived.Test.YtjbdcjcfijjiiaaGreatDoorNOz
import Derived.Test.YtjbdcjcfijjiiaaGreatDoorNG01
import Derived.Test.YtjbdcjcfijjiiaaGreatDoorNG10
namespace Go.Proofs.YtjbdcjcfijjiiaaGreatDoor
open Go.RowKit
set_option maxRecDepth 100000
set_option maxHeartbeats 2000000
section
variable  {X:List Nat}{w0 w:World}{L L':List BlkE}{rs:List RowE}{J S:World→Prop}{ops:Array Oper}{rest:List Oper}{o:Oper}{a:Act}{Q:Exit→Act→World→Prop}{md:Region.Mode}{fuel i:Nat}{listed:Array Bool}{is:List Nat}{dst:Option Tmp}{tt:TypeId}{pos:String}{af:Array Edge}
theorem isz_R :(Tryz.prog.info? 54).map (·.size)=some 6:=by kernel_rfl
theorem izr_R :(Tryz.prog.info? 54).bind (·.zero)=some (.agg #[.slice none 0 0,.int .i64 0,.int .i64 0,.int .i64 0,.int .i64 0,.int .i64 0]):=by kernel_rfl
theorem ld_R {x:Operand}{g:Nat}{T:TypeId}{a0 a1 a2 a3 a4 a5:Value}(M:Own X w0 w L rs J)
  (h:wpList Tryz.prog ops Q rest (a.put dst (.agg #[a0,a1,a2,a3,a4,a5])) w) (hx:a.eval x=.pointer (some ⟨g,0,none⟩):=by with_unfolding_all exact rfl) (hm:(g,T,#[a0,a1,a2,a3,a4,a5])∈L:=by with_unfolding_all repeat constructor):wpList Tryz.prog ops Q (⟨dst,.load 54 x,tt,pos,af,none⟩::rest) a w:=wpList_load_own rfl _ x rfl g hx M T _ hm _ Tryz.underlying54 rfl _ isz_R rfl h
theorem ldg_R {gd:Nat×Bool}{x:Operand}{g:Nat}{T:TypeId}{a0 a1 a2 a3 a4 a5:Value}(hw:Region.wanted ⟨dst,.load 54 x,tt,pos,af,some gd⟩ (yielded ops a.tmps)=true)(hx:a.eval x=.pointer (some ⟨g,0,none⟩))(M:Own X w0 w L rs J)
  (h:wpList Tryz.prog ops Q rest (a.put dst (.agg #[a0,a1,a2,a3,a4,a5])) w) (hm:(g,T,#[a0,a1,a2,a3,a4,a5])∈L:=by repeat constructor):wpList Tryz.prog ops Q (⟨dst,.load 54 x,tt,pos,af,some gd⟩::rest) a w:=wpList_load_ownG hw _ x rfl g hx M T _ hm _ Tryz.underlying54 rfl _ isz_R rfl h
theorem st_R {x y:Operand}{g:Nat}{a0 a1 a2 a3 a4 a5 b0 b1 b2 b3 b4 b5:Value}(M:Own X w0 w L rs J)
  (h:∀w',Hid (Own X w0 w' L' rs J)→wpList Tryz.prog ops Q rest (a.put dst undef) w') (hx:a.eval x=.pointer (some ⟨g,0,none⟩):=by with_unfolding_all exact rfl) (hy:a.eval y=.agg #[b0,b1,b2,b3,b4,b5]:=by with_unfolding_all exact rfl) (hm:Upd g #[a0,a1,a2,a3,a4,a5] #[b0,b1,b2,b3,b4,b5] L L':=by with_unfolding_all repeat constructor) (h1:allOne (#[b0,b1,b2,b3,b4,b5]:Array Value).toList=true:=by with_unfolding_all exact rfl):wpList Tryz.prog ops Q (⟨dst,.store 54 x y,tt,pos,af,none⟩::rest) a w:=wpList_store_own rfl _ x y rfl g hx _ hy M _ hm _ isz_R rfl rfl h1 fun w' M=>h w' (hH M)
theorem bx_R {x:Operand}(dst:Option Tmp){cs:Array Value}(M:Own X w0 w L rs J)
  (h:∀g w',w0.heap.size≤g→Hid (Own X w0 w' ((g,54,cs)::L) rs J)→wpList Tryz.prog ops Q rest (a.put dst (.pointer (some ⟨g,0,none⟩))) w') (hx:a.eval x=.agg cs:=by with_unfolding_all exact rfl):wpList Tryz.prog ops Q (⟨dst,.box 54 x,tt,pos,af,none⟩::rest) a w :=
 wpList_box_own rfl _ x rfl cs hx M fun g w' hg _ M=>h g w' hg (hH M)
theorem al_R (dst:Option Tmp)(M:Own X w0 w L rs J)
  (h:∀g w',w0.heap.size≤g→Hid (Own X w0 w' ((g,54,#[.slice none 0 0,.int .i64 0,.int .i64 0,.int .i64 0,.int .i64 0,.int .i64 0])::L) rs J)→wpList Tryz.prog ops Q rest (a.put dst (.pointer (some ⟨g,0,none⟩))) w'):wpList Tryz.prog ops Q (⟨dst,.alloc 54,tt,pos,af,none⟩::rest) a w:=by
 obtain⟨i,hi,hz⟩:=Option.bind_eq_some_iff.1 izr_R
 exact wpList_alloc_own rfl _ rfl i hi _ hz _ rfl M fun g w' hg _ M=>h g w' hg (hH M)
theorem gl_R {x:Operand}(h:wpList Tryz.prog ops Q (⟨dst,.load 54 x,tt,pos,af,none⟩::rest) a w):wpList Tryz.prog ops Q (⟨dst,.load 54 x,tt,pos,af,none⟩::rest) a w:=h
theorem gg_R {gd:Nat×Bool}{x:Operand}(h:wpList Tryz.prog ops Q (⟨dst,.load 54 x,tt,pos,af,some gd⟩::rest) a w):wpList Tryz.prog ops Q (⟨dst,.load 54 x,tt,pos,af,some gd⟩::rest) a w:=h
theorem gs_R {x y:Operand}(h:wpList Tryz.prog ops Q (⟨dst,.store 54 x y,tt,pos,af,none⟩::rest) a w):wpList Tryz.prog ops Q (⟨dst,.store 54 x y,tt,pos,af,none⟩::rest) a w:=h
theorem gb_R {x:Operand}(dst:Option Tmp)(h:wpList Tryz.prog ops Q (⟨dst,.box 54 x,tt,pos,af,none⟩::rest) a w):wpList Tryz.prog ops Q (⟨dst,.box 54 x,tt,pos,af,none⟩::rest) a w:=h
theorem ga_R (dst:Option Tmp)(h:wpList Tryz.prog ops Q (⟨dst,.alloc 54,tt,pos,af,none⟩::rest) a w):wpList Tryz.prog ops Q (⟨dst,.alloc 54,tt,pos,af,none⟩::rest) a w:=h
theorem rs_R (x y:Operand)(ho:ops[i]? = some ⟨dst,.store 54 x y,tt,pos,af,none⟩){g:Nat}{a0 a1 a2 a3 a4 a5 b0 b1 b2 b3 b4 b5:Value}(hx:a.eval x=.pointer (some ⟨g,0,none⟩))(hy:a.eval y=.agg #[b0,b1,b2,b3,b4,b5])(M:Own X w0 w L rs J)
  (h:∀w',Hid (Own X w0 w' L' rs J)→S w'∧wpAnyH Tryz.prog md ops Q S fuel (listed.setIfInBounds i true) (a.put dst undef) w') (hs:AllReadyH Tryz.prog md ops Q S fuel listed a w is:=by exact .nil) (hm:Upd g #[a0,a1,a2,a3,a4,a5] #[b0,b1,b2,b3,b4,b5] L L':=by repeat constructor) (h1:allOne (#[b0,b1,b2,b3,b4,b5]:Array Value).toList=true:=by exact rfl):AllReadyH Tryz.prog md ops Q S fuel listed a w (i::is):=rdy_store _ x y ho g hx _ hy M _ (hm:=hm) _ isz_R h1 (fun w' M=>h w' (hH M)) hs
theorem yl_R (x:Operand)(g:Nat)(hx:a.eval x=.pointer (some ⟨g,0,none⟩))(T:TypeId)(cs:Array Value)(hS:∀w,S w→Blk w g T cs)(hn:cs.size=6):YieldsIf Tryz.prog ops S ⟨dst,.load 54 x,tt,pos,af,none⟩ (.agg cs) a:=yields_load_row _ x g hx T cs hS _ Tryz.underlying54 rfl _ isz_R hn
theorem isz_Sel :(Tryz.prog.info? 85).map (·.size)=some 9:=by kernel_rfl
theorem izr_Sel :(Tryz.prog.info? 85).bind (·.zero)=some (.agg #[.int .i64 0,.string ⟨#[]⟩,.int .i64 0,.int .i64 0,.int .i64 0,.int .i64 0,.bool false,.bool false,.pointer none]):=by kernel_rfl
theorem ld_Sel {x:Operand}{g:Nat}{T:TypeId}{a0 a1 a2 a3 a4 a5 a6 a7 a8:Value}(M:Own X w0 w L rs J)
  (h:wpList Tryz.prog ops Q rest (a.put dst (.agg #[a0,a1,a2,a3,a4,a5,a6,a7,a8])) w) (hx:a.eval x=.pointer (some ⟨g,0,none⟩):=by with_unfolding_all exact rfl) (hm:(g,T,#[a0,a1,a2,a3,a4,a5,a6,a7,a8])∈L:=by with_unfolding_all repeat constructor):wpList Tryz.prog ops Q (⟨dst,.load 85 x,tt,pos,af,none⟩::rest) a w:=wpList_load_own rfl _ x rfl g hx M T _ hm _ Tryz.underlying85 rfl _ isz_Sel rfl h
theorem st_Sel {x y:Operand}{g:Nat}{a0 a1 a2 a3 a4 a5 a6 a7 a8 b0 b1 b2 b3 b4 b5 b6 b7 b8:Value}(M:Own X w0 w L rs J)
  (h:∀w',Hid (Own X w0 w' L' rs J)→wpList Tryz.prog ops Q rest (a.put dst undef) w') (hx:a.eval x=.pointer (some ⟨g,0,none⟩):=by with_unfolding_all exact rfl) (hy:a.eval y=.agg #[b0,b1,b2,b3,b4,b5,b6,b7,b8]:=by with_unfolding_all exact rfl) (hm:Upd g #[a0,a1,a2,a3,a4,a5,a6,a7,a8] #[b0,b1,b2,b3,b4,b5,b6,b7,b8] L L':=by with_unfolding_all repeat constructor) (h1:allOne (#[b0,b1,b2,b3,b4,b5,b6,b7,b8]:Array Value).toList=true:=by with_unfolding_all exact rfl):wpList Tryz.prog ops Q (⟨dst,.store 85 x y,tt,pos,af,none⟩::rest) a w:=wpList_store_own rfl _ x y rfl g hx _ hy M _ hm _ isz_Sel rfl rfl h1 fun w' M=>h w' (hH M)
theorem al_Sel (dst:Option Tmp)(M:Own X w0 w L rs J)
  (h:∀g w',w0.heap.size≤g→Hid (Own X w0 w' ((g,85,#[.int .i64 0,.string ⟨#[]⟩,.int .i64 0,.int .i64 0,.int .i64 0,.int .i64 0,.bool false,.bool false,.pointer none])::L) rs J)→wpList Tryz.prog ops Q rest (a.put dst (.pointer (some ⟨g,0,none⟩))) w'):wpList Tryz.prog ops Q (⟨dst,.alloc 85,tt,pos,af,none⟩::rest) a w:=by
 obtain⟨i,hi,hz⟩:=Option.bind_eq_some_iff.1 izr_Sel
 exact wpList_alloc_own rfl _ rfl i hi _ hz _ rfl M fun g w' hg _ M=>h g w' hg (hH M)
theorem gl_Sel {x:Operand}(h:wpList Tryz.prog ops Q (⟨dst,.load 85 x,tt,pos,af,none⟩::rest) a w):wpList Tryz.prog ops Q (⟨dst,.load 85 x,tt,pos,af,none⟩::rest) a w:=h
theorem gs_Sel {x y:Operand}(h:wpList Tryz.prog ops Q (⟨dst,.store 85 x y,tt,pos,af,none⟩::rest) a w):wpList Tryz.prog ops Q (⟨dst,.store 85 x y,tt,pos,af,none⟩::rest) a w:=h
theorem ga_Sel (dst:Option Tmp)(h:wpList Tryz.prog ops Q (⟨dst,.alloc 85,tt,pos,af,none⟩::rest) a w):wpList Tryz.prog ops Q (⟨dst,.alloc 85,tt,pos,af,none⟩::rest) a w:=h
theorem rs_Sel (x y:Operand)(ho:ops[i]? = some ⟨dst,.store 85 x y,tt,pos,af,none⟩){g:Nat}{a0 a1 a2 a3 a4 a5 a6 a7 a8 b0 b1 b2 b3 b4 b5 b6 b7 b8:Value}(hx:a.eval x=.pointer (some ⟨g,0,none⟩))(hy:a.eval y=.agg #[b0,b1,b2,b3,b4,b5,b6,b7,b8])(M:Own X w0 w L rs J)
  (h:∀w',Hid (Own X w0 w' L' rs J)→S w'∧wpAnyH Tryz.prog md ops Q S fuel (listed.setIfInBounds i true) (a.put dst undef) w') (hs:AllReadyH Tryz.prog md ops Q S fuel listed a w is:=by exact .nil) (hm:Upd g #[a0,a1,a2,a3,a4,a5,a6,a7,a8] #[b0,b1,b2,b3,b4,b5,b6,b7,b8] L L':=by repeat constructor) (h1:allOne (#[b0,b1,b2,b3,b4,b5,b6,b7,b8]:Array Value).toList=true:=by exact rfl):AllReadyH Tryz.prog md ops Q S fuel listed a w (i::is):=rdy_store _ x y ho g hx _ hy M _ (hm:=hm) _ isz_Sel h1 (fun w' M=>h w' (hH M)) hs
theorem yl_Sel (x:Operand)(g:Nat)(hx:a.eval x=.pointer (some ⟨g,0,none⟩))(T:TypeId)(cs:Array Value)(hS:∀w,S w→Blk w g T cs)(hn:cs.size=9):YieldsIf Tryz.prog ops S ⟨dst,.load 85 x,tt,pos,af,none⟩ (.agg cs) a:=yields_load_row _ x g hx T cs hS _ Tryz.underlying85 rfl _ isz_Sel hn
theorem isz_Seg :(Tryz.prog.info? 79).map (·.size)=some 2:=by kernel_rfl
theorem izr_Seg :(Tryz.prog.info? 79).bind (·.zero)=some (.agg #[.bool false,.slice none 0 0]):=by kernel_rfl
theorem ld_Seg {x:Operand}{g:Nat}{T:TypeId}{a0 a1:Value}(M:Own X w0 w L rs J)
  (h:wpList Tryz.prog ops Q rest (a.put dst (.agg #[a0,a1])) w) (hx:a.eval x=.pointer (some ⟨g,0,none⟩):=by with_unfolding_all exact rfl) (hm:(g,T,#[a0,a1])∈L:=by with_unfolding_all repeat constructor):wpList Tryz.prog ops Q (⟨dst,.load 79 x,tt,pos,af,none⟩::rest) a w:=wpList_load_own rfl _ x rfl g hx M T _ hm _ Tryz.underlying79 rfl _ isz_Seg rfl h
theorem st_Seg {x y:Operand}{g:Nat}{a0 a1 b0 b1:Value}(M:Own X w0 w L rs J)
  (h:∀w',Hid (Own X w0 w' L' rs J)→wpList Tryz.prog ops Q rest (a.put dst undef) w') (hx:a.eval x=.pointer (some ⟨g,0,none⟩):=by with_unfolding_all exact rfl) (hy:a.eval y=.agg #[b0,b1]:=by with_unfolding_all exact rfl) (hm:Upd g #[a0,a1] #[b0,b1] L L':=by with_unfolding_all repeat constructor) (h1:allOne (#[b0,b1]:Array Value).toList=true:=by with_unfolding_all exact rfl):wpList Tryz.prog ops Q (⟨dst,.store 79 x y,tt,pos,af,none⟩::rest) a w:=wpList_store_own rfl _ x y rfl g hx _ hy M _ hm _ isz_Seg rfl rfl h1 fun w' M=>h w' (hH M)
theorem al_Seg (dst:Option Tmp)(M:Own X w0 w L rs J)
  (h:∀g w',w0.heap.size≤g→Hid (Own X w0 w' ((g,79,#[.bool false,.slice none 0 0])::L) rs J)→wpList Tryz.prog ops Q rest (a.put dst (.pointer (some ⟨g,0,none⟩))) w'):wpList Tryz.prog ops Q (⟨dst,.alloc 79,tt,pos,af,none⟩::rest) a w:=by
 obtain⟨i,hi,hz⟩:=Option.bind_eq_some_iff.1 izr_Seg
 exact wpList_alloc_own rfl _ rfl i hi _ hz _ rfl M fun g w' hg _ M=>h g w' hg (hH M)
theorem gl_Seg {x:Operand}(h:wpList Tryz.prog ops Q (⟨dst,.load 79 x,tt,pos,af,none⟩::rest) a w):wpList Tryz.prog ops Q (⟨dst,.load 79 x,tt,pos,af,none⟩::rest) a w:=h
theorem gs_Seg {x y:Operand}(h:wpList Tryz.prog ops Q (⟨dst,.store 79 x y,tt,pos,af,none⟩::rest) a w):wpList Tryz.prog ops Q (⟨dst,.store 79 x y,tt,pos,af,none⟩::rest) a w:=h
theorem ga_Seg (dst:Option Tmp)(h:wpList Tryz.prog ops Q (⟨dst,.alloc 79,tt,pos,af,none⟩::rest) a w):wpList Tryz.prog ops Q (⟨dst,.alloc 79,tt,pos,af,none⟩::rest) a w:=h
theorem rs_Seg (x y:Operand)(ho:ops[i]? = some ⟨dst,.store 79 x y,tt,pos,af,none⟩){g:Nat}{a0 a1 b0 b1:Value}(hx:a.eval x=.pointer (some ⟨g,0,none⟩))(hy:a.eval y=.agg #[b0,b1])(M:Own X w0 w L rs J)
  (h:∀w',Hid (Own X w0 w' L' rs J)→S w'∧wpAnyH Tryz.prog md ops Q S fuel (listed.setIfInBounds i true) (a.put dst undef) w') (hs:AllReadyH Tryz.prog md ops Q S fuel listed a w is:=by exact .nil) (hm:Upd g #[a0,a1] #[b0,b1] L L':=by repeat constructor) (h1:allOne (#[b0,b1]:Array Value).toList=true:=by exact rfl):AllReadyH Tryz.prog md ops Q S fuel listed a w (i::is):=rdy_store _ x y ho g hx _ hy M _ (hm:=hm) _ isz_Seg h1 (fun w' M=>h w' (hH M)) hs
theorem yl_Seg (x:Operand)(g:Nat)(hx:a.eval x=.pointer (some ⟨g,0,none⟩))(T:TypeId)(cs:Array Value)(hS:∀w,S w→Blk w g T cs)(hn:cs.size=2):YieldsIf Tryz.prog ops S ⟨dst,.load 79 x,tt,pos,af,none⟩ (.agg cs) a:=yields_load_row _ x g hx T cs hS _ Tryz.underlying79 rfl _ isz_Seg hn
theorem isz_Path :(Tryz.prog.info? 37).map (·.size)=some 2:=by kernel_rfl
theorem izr_Path :(Tryz.prog.info? 37).bind (·.zero)=some (.agg #[.bool false,.slice none 0 0]):=by kernel_rfl
theorem ld_Path {x:Operand}{g:Nat}{T:TypeId}{a0 a1:Value}(M:Own X w0 w L rs J)
  (h:wpList Tryz.prog ops Q rest (a.put dst (.agg #[a0,a1])) w) (hx:a.eval x=.pointer (some ⟨g,0,none⟩):=by with_unfolding_all exact rfl) (hm:(g,T,#[a0,a1])∈L:=by with_unfolding_all repeat constructor):wpList Tryz.prog ops Q (⟨dst,.load 37 x,tt,pos,af,none⟩::rest) a w:=wpList_load_own rfl _ x rfl g hx M T _ hm _ Tryz.underlying37 rfl _ isz_Path rfl h
theorem st_Path {x y:Operand}{g:Nat}{a0 a1 b0 b1:Value}(M:Own X w0 w L rs J)
  (h:∀w',Hid (Own X w0 w' L' rs J)→wpList Tryz.prog ops Q rest (a.put dst undef) w') (hx:a.eval x=.pointer (some ⟨g,0,none⟩):=by with_unfolding_all exact rfl) (hy:a.eval y=.agg #[b0,b1]:=by with_unfolding_all exact rfl) (hm:Upd g #[a0,a1] #[b0,b1] L L':=by with_unfolding_all repeat constructor) (h1:allOne (#[b0,b1]:Array Value).toList=true:=by with_unfolding_all exact rfl):wpList Tryz.prog ops Q (⟨dst,.store 37 x y,tt,pos,af,none⟩::rest) a w:=wpList_store_own rfl _ x y rfl g hx _ hy M _ hm _ isz_Path rfl rfl h1 fun w' M=>h w' (hH M)
theorem bx_Path {x:Operand}(dst:Option Tmp){cs:Array Value}(M:Own X w0 w L rs J)
  (h:∀g w',w0.heap.size≤g→Hid (Own X w0 w' ((g,37,cs)::L) rs J)→wpList Tryz.prog ops Q rest (a.put dst (.pointer (some ⟨g,0,none⟩))) w') (hx:a.eval x=.agg cs:=by with_unfolding_all exact rfl):wpList Tryz.prog ops Q (⟨dst,.box 37 x,tt,pos,af,none⟩::rest) a w :=
 wpList_box_own rfl _ x rfl cs hx M fun g w' hg _ M=>h g w' hg (hH M)
theorem al_Path (dst:Option Tmp)(M:Own X w0 w L rs J)
  (h:∀g w',w0.heap.size≤g→Hid (Own X w0 w' ((g,37,#[.bool false,.slice none 0 0])::L) rs J)→wpList Tryz.prog ops Q rest (a.put dst (.pointer (some ⟨g,0,none⟩))) w'):wpList Tryz.prog ops Q (⟨dst,.alloc 37,tt,pos,af,none⟩::rest) a w:=by
 obtain⟨i,hi,hz⟩:=Option.bind_eq_some_iff.1 izr_Path
 exact wpList_alloc_own rfl _ rfl i hi _ hz _ rfl M fun g w' hg _ M=>h g w' hg (hH M)
theorem gl_Path {x:Operand}(h:wpList Tryz.prog ops Q (⟨dst,.load 37 x,tt,pos,af,none⟩::rest) a w):wpList Tryz.prog ops Q (⟨dst,.load 37 x,tt,pos,af,none⟩::rest) a w:=h
theorem gs_Path {x y:Operand}(h:wpList Tryz.prog ops Q (⟨dst,.store 37 x y,tt,pos,af,none⟩::rest) a w):wpList Tryz.prog ops Q (⟨dst,.store 37 x y,tt,pos,af,none⟩::rest) a w:=h
theorem gb_Path {x:Operand}(dst:Option Tmp)(h:wpList Tryz.prog ops Q (⟨dst,.box 37 x,tt,pos,af,none⟩::rest) a w):wpList Tryz.prog ops Q (⟨dst,.box 37 x,tt,pos,af,none⟩::rest) a w:=h
theorem ga_Path (dst:Option Tmp)(h:wpList Tryz.prog ops Q (⟨dst,.alloc 37,tt,pos,af,none⟩::rest) a w):wpList Tryz.prog ops Q (⟨dst,.alloc 37,tt,pos,af,none⟩::rest) a w:=h
theorem rs_Path (x y:Operand)(ho:ops[i]? = some ⟨dst,.store 37 x y,tt,pos,af,none⟩){g:Nat}{a0 a1 b0 b1:Value}(hx:a.eval x=.pointer (some ⟨g,0,none⟩))(hy:a.eval y=.agg #[b0,b1])(M:Own X w0 w L rs J)
  (h:∀w',Hid (Own X w0 w' L' rs J)→S w'∧wpAnyH Tryz.prog md ops Q S fuel (listed.setIfInBounds i true) (a.put dst undef) w') (hs:AllReadyH Tryz.prog md ops Q S fuel listed a w is:=by exact .nil) (hm:Upd g #[a0,a1] #[b0,b1] L L':=by repeat constructor) (h1:allOne (#[b0,b1]:Array Value).toList=true:=by exact rfl):AllReadyH Tryz.prog md ops Q S fuel listed a w (i::is):=rdy_store _ x y ho g hx _ hy M _ (hm:=hm) _ isz_Path h1 (fun w' M=>h w' (hH M)) hs
theorem yl_Path (x:Operand)(g:Nat)(hx:a.eval x=.pointer (some ⟨g,0,none⟩))(T:TypeId)(cs:Array Value)(hS:∀w,S w→Blk w g T cs)(hn:cs.size=2):YieldsIf Tryz.prog ops S ⟨dst,.load 37 x,tt,pos,af,none⟩ (.agg cs) a:=yields_load_row _ x g hx T cs hS _ Tryz.underlying37 rfl _ isz_Path hn
theorem isz_Expr :(Tryz.prog.info? 92).map (·.size)=some 17:=by kernel_rfl
theorem izr_Expr :(Tryz.prog.info? 92).bind (·.zero)=some (.agg #[.int .i64 0,.slice none 0 0,.bool false,.slice none 0 0,.int .i64 0,.bool false,.int .i64 0,.int .i64 0,.string ⟨#[]⟩,.bool false,.slice none 0 0,.bool false,.int .i64 0,.int .i64 0,.string ⟨#[]⟩,.bool false,.slice none 0 0]):=by kernel_rfl
theorem ld_Expr {x:Operand}{g:Nat}{T:TypeId}{a0 a1 a2 a3 a4 a5 a6 a7 a8 a9 a10 a11 a12 a13 a14 a15 a16:Value}(M:Own X w0 w L rs J)
  (h:wpList Tryz.prog ops Q rest (a.put dst (.agg #[a0,a1,a2,a3,a4,a5,a6,a7,a8,a9,a10,a11,a12,a13,a14,a15,a16])) w) (hx:a.eval x=.pointer (some ⟨g,0,none⟩):=by with_unfolding_all exact rfl) (hm:(g,T,#[a0,a1,a2,a3,a4,a5,a6,a7,a8,a9,a10,a11,a12,a13,a14,a15,a16])∈L:=by with_unfolding_all repeat constructor):wpList Tryz.prog ops Q (⟨dst,.load 92 x,tt,pos,af,none⟩::rest) a w:=wpList_load_own rfl _ x rfl g hx M T _ hm _ Tryz.underlying92 rfl _ isz_Expr rfl h
theorem st_Expr {x y:Operand}{g:Nat}{a0 a1 a2 a3 a4 a5 a6 a7 a8 a9 a10 a11 a12 a13 a14 a15 a16 b0 b1 b2 b3 b4 b5 b6 b7 b8 b9 b10 b11 b12 b13 b14 b15 b16:Value}(M:Own X w0 w L rs J)
  (h:∀w',Hid (Own X w0 w' L' rs J)→wpList Tryz.prog ops Q rest (a.put dst undef) w') (hx:a.eval x=.pointer (some ⟨g,0,none⟩):=by with_unfolding_all exact rfl) (hy:a.eval y=.agg #[b0,b1,b2,b3,b4,b5,b6,b7,b8,b9,b10,b11,b12,b13,b14,b15,b16]:=by with_unfolding_all exact rfl) (hm:Upd g #[a0,a1,a2,a3,a4,a5,a6,a7,a8,a9,a10,a11,a12,a13,a14,a15,a16] #[b0,b1,b2,b3,b4,b5,b6,b7,b8,b9,b10,b11,b12,b13,b14,b15,b16] L L':=by with_unfolding_all repeat constructor) (h1:allOne (#[b0,b1,b2,b3,b4,b5,b6,b7,b8,b9,b10,b11,b12,b13,b14,b15,b16]:Array Value).toList=true:=by with_unfolding_all exact rfl):wpList Tryz.prog ops Q (⟨dst,.store 92 x y,tt,pos,af,none⟩::rest) a w:=wpList_store_own rfl _ x y rfl g hx _ hy M _ hm _ isz_Expr rfl rfl h1 fun w' M=>h w' (hH M)
theorem al_Expr (dst:Option Tmp)(M:Own X w0 w L rs J)
  (h:∀g w',w0.heap.size≤g→Hid (Own X w0 w' ((g,92,#[.int .i64 0,.slice none 0 0,.bool false,.slice none 0 0,.int .i64 0,.bool false,.int .i64 0,.int .i64 0,.string ⟨#[]⟩,.bool false,.slice none 0 0,.bool false,.int .i64 0,.int .i64 0,.string ⟨#[]⟩,.bool false,.slice none 0 0])::L) rs J)→wpList Tryz.prog ops Q rest (a.put dst (.pointer (some ⟨g,0,none⟩))) w'):wpList Tryz.prog ops Q (⟨dst,.alloc 92,tt,pos,af,none⟩::rest) a w:=by
 obtain⟨i,hi,hz⟩:=Option.bind_eq_some_iff.1 izr_Expr
 exact wpList_alloc_own rfl _ rfl i hi _ hz _ rfl M fun g w' hg _ M=>h g w' hg (hH M)
theorem gl_Expr {x:Operand}(h:wpList Tryz.prog ops Q (⟨dst,.load 92 x,tt,pos,af,none⟩::rest) a w):wpList Tryz.prog ops Q (⟨dst,.load 92 x,tt,pos,af,none⟩::rest) a w:=h
theorem gs_Expr {x y:Operand}(h:wpList Tryz.prog ops Q (⟨dst,.store 92 x y,tt,pos,af,none⟩::rest) a w):wpList Tryz.prog ops Q (⟨dst,.store 92 x y,tt,pos,af,none⟩::rest) a w:=h
theorem ga_Expr (dst:Option Tmp)(h:wpList Tryz.prog ops Q (⟨dst,.alloc 92,tt,pos,af,none⟩::rest) a w):wpList Tryz.prog ops Q (⟨dst,.alloc 92,tt,pos,af,none⟩::rest) a w:=h
theorem rs_Expr (x y:Operand)(ho:ops[i]? = some ⟨dst,.store 92 x y,tt,pos,af,none⟩){g:Nat}{a0 a1 a2 a3 a4 a5 a6 a7 a8 a9 a10 a11 a12 a13 a14 a15 a16 b0 b1 b2 b3 b4 b5 b6 b7 b8 b9 b10 b11 b12 b13 b14 b15 b16:Value}(hx:a.eval x=.pointer (some ⟨g,0,none⟩))(hy:a.eval y=.agg #[b0,b1,b2,b3,b4,b5,b6,b7,b8,b9,b10,b11,b12,b13,b14,b15,b16])(M:Own X w0 w L rs J)
  (h:∀w',Hid (Own X w0 w' L' rs J)→S w'∧wpAnyH Tryz.prog md ops Q S fuel (listed.setIfInBounds i true) (a.put dst undef) w') (hs:AllReadyH Tryz.prog md ops Q S fuel listed a w is:=by exact .nil) (hm:Upd g #[a0,a1,a2,a3,a4,a5,a6,a7,a8,a9,a10,a11,a12,a13,a14,a15,a16] #[b0,b1,b2,b3,b4,b5,b6,b7,b8,b9,b10,b11,b12,b13,b14,b15,b16] L L':=by repeat constructor) (h1:allOne (#[b0,b1,b2,b3,b4,b5,b6,b7,b8,b9,b10,b11,b12,b13,b14,b15,b16]:Array Value).toList=true:=by exact rfl):AllReadyH Tryz.prog md ops Q S fuel listed a w (i::is):=rdy_store _ x y ho g hx _ hy M _ (hm:=hm) _ isz_Expr h1 (fun w' M=>h w' (hH M)) hs
theorem yl_Expr (x:Operand)(g:Nat)(hx:a.eval x=.pointer (some ⟨g,0,none⟩))(T:TypeId)(cs:Array Value)(hS:∀w,S w→Blk w g T cs)(hn:cs.size=17):YieldsIf Tryz.prog ops S ⟨dst,.load 92 x,tt,pos,af,none⟩ (.agg cs) a:=yields_load_row _ x g hx T cs hS _ Tryz.underlying92 rfl _ isz_Expr hn
theorem isz_Side :(Tryz.prog.info? 90).map (·.size)=some 6:=by kernel_rfl
theorem izr_Side :(Tryz.prog.info? 90).bind (·.zero)=some (.agg #[.bool false,.int .i64 0,.int .i64 0,.string ⟨#[]⟩,.bool false,.slice none 0 0]):=by kernel_rfl
theorem ld_Side {x:Operand}{g:Nat}{T:TypeId}{a0 a1 a2 a3 a4 a5:Value}(M:Own X w0 w L rs J)
  (h:wpList Tryz.prog ops Q rest (a.put dst (.agg #[a0,a1,a2,a3,a4,a5])) w) (hx:a.eval x=.pointer (some ⟨g,0,none⟩):=by with_unfolding_all exact rfl) (hm:(g,T,#[a0,a1,a2,a3,a4,a5])∈L:=by with_unfolding_all repeat constructor):wpList Tryz.prog ops Q (⟨dst,.load 90 x,tt,pos,af,none⟩::rest) a w:=wpList_load_own rfl _ x rfl g hx M T _ hm _ Tryz.underlying90 rfl _ isz_Side rfl h
theorem st_Side {x y:Operand}{g:Nat}{a0 a1 a2 a3 a4 a5 b0 b1 b2 b3 b4 b5:Value}(M:Own X w0 w L rs J)
  (h:∀w',Hid (Own X w0 w' L' rs J)→wpList Tryz.prog ops Q rest (a.put dst undef) w') (hx:a.eval x=.pointer (some ⟨g,0,none⟩):=by with_unfolding_all exact rfl) (hy:a.eval y=.agg #[b0,b1,b2,b3,b4,b5]:=by with_unfolding_all exact rfl) (hm:Upd g #[a0,a1,a2,a3,a4,a5] #[b0,b1,b2,b3,b4,b5] L L':=by with_unfolding_all repeat constructor) (h1:allOne (#[b0,b1,b2,b3,b4,b5]:Array Value).toList=true:=by with_unfolding_all exact rfl):wpList Tryz.prog ops Q (⟨dst,.store 90 x y,tt,pos,af,none⟩::rest) a w:=wpList_store_own rfl _ x y rfl g hx _ hy M _ hm _ isz_Side rfl rfl h1 fun w' M=>h w' (hH M)
theorem al_Side (dst:Option Tmp)(M:Own X w0 w L rs J)
  (h:∀g w',w0.heap.size≤g→Hid (Own X w0 w' ((g,90,#[.bool false,.int .i64 0,.int .i64 0,.string ⟨#[]⟩,.bool false,.slice none 0 0])::L) rs J)→wpList Tryz.prog ops Q rest (a.put dst (.pointer (some ⟨g,0,none⟩))) w'):wpList Tryz.prog ops Q (⟨dst,.alloc 90,tt,pos,af,none⟩::rest) a w:=by
 obtain⟨i,hi,hz⟩:=Option.bind_eq_some_iff.1 izr_Side
 exact wpList_alloc_own rfl _ rfl i hi _ hz _ rfl M fun g w' hg _ M=>h g w' hg (hH M)
theorem gl_Side {x:Operand}(h:wpList Tryz.prog ops Q (⟨dst,.load 90 x,tt,pos,af,none⟩::rest) a w):wpList Tryz.prog ops Q (⟨dst,.load 90 x,tt,pos,af,none⟩::rest) a w:=h
theorem gs_Side {x y:Operand}(h:wpList Tryz.prog ops Q (⟨dst,.store 90 x y,tt,pos,af,none⟩::rest) a w):wpList Tryz.prog ops Q (⟨dst,.store 90 x y,tt,pos,af,none⟩::rest) a w:=h
theorem ga_Side (dst:Option Tmp)(h:wpList Tryz.prog ops Q (⟨dst,.alloc 90,tt,pos,af,none⟩::rest) a w):wpList Tryz.prog ops Q (⟨dst,.alloc 90,tt,pos,af,none⟩::rest) a w:=h
theorem rs_Side (x y:Operand)(ho:ops[i]? = some ⟨dst,.store 90 x y,tt,pos,af,none⟩){g:Nat}{a0 a1 a2 a3 a4 a5 b0 b1 b2 b3 b4 b5:Value}(hx:a.eval x=.pointer (some ⟨g,0,none⟩))(hy:a.eval y=.agg #[b0,b1,b2,b3,b4,b5])(M:Own X w0 w L rs J)
  (h:∀w',Hid (Own X w0 w' L' rs J)→S w'∧wpAnyH Tryz.prog md ops Q S fuel (listed.setIfInBounds i true) (a.put dst undef) w') (hs:AllReadyH Tryz.prog md ops Q S fuel listed a w is:=by exact .nil) (hm:Upd g #[a0,a1,a2,a3,a4,a5] #[b0,b1,b2,b3,b4,b5] L L':=by repeat constructor) (h1:allOne (#[b0,b1,b2,b3,b4,b5]:Array Value).toList=true:=by exact rfl):AllReadyH Tryz.prog md ops Q S fuel listed a w (i::is):=rdy_store _ x y ho g hx _ hy M _ (hm:=hm) _ isz_Side h1 (fun w' M=>h w' (hH M)) hs
theorem yl_Side (x:Operand)(g:Nat)(hx:a.eval x=.pointer (some ⟨g,0,none⟩))(T:TypeId)(cs:Array Value)(hS:∀w,S w→Blk w g T cs)(hn:cs.size=6):YieldsIf Tryz.prog ops S ⟨dst,.load 90 x,tt,pos,af,none⟩ (.agg cs) a:=yields_load_row _ x g hx T cs hS _ Tryz.underlying90 rfl _ isz_Side hn
end
theorem Own.addK {X:List Nat}{w0 w w':World}{L:List BlkE}{rs:List RowE}{J:World→Prop}{G:(Nat→Prop)→World→Prop}(hG:∀{K K':Nat→Prop} {x y:World},G K x→Kp K K' x y→G K' y)(M:Own X w0 w L rs J)(hb:Bel w.heap.size w w')(h:G (Fr w) w'):Own X w0 w' L rs (fun y=>J y∧G (Fr w0) y) :=
 (M.bel hb).add fun _ hy=>hG h ⟨hy.1,fun _ hK hl=>⟨Nat.le_trans M.size hK,hy.2 _ hl fun hm=>absurd (M.ex_lt hm) (Nat.not_lt.2 hK)⟩⟩
theorem Own.addEx {X:List Nat}{w0 w w':World}{L:List BlkE}{rs:List RowE}{J:World→Prop}{m:Nat}{cs:List Value}{x:ExprT}(M:Own X w0 w L rs J)(hb:Bel w.heap.size w w')(h:ExR (Fr w) m w' cs x):Own X w0 w' L rs (fun y=>J y∧ExR (Fr w0) m y cs x) :=
 M.addK (G:=fun K y=>ExR K m y cs x) (fun h hk=>ExR.keep hk m m (Nat.le_refl _) _ _ h) hb h
theorem Own.call {P:Program}{X:List Nat}{w0 w:World}{L:List BlkE}{rs:List RowE}{J:World→Prop}{f:FuncId}{args:Array Value}{R:Ending→World→Prop}{v:Value}(M:Own X w0 w L rs J)(hc:Calls P f args w fun e w'=>e=.returned v∧Bel w.heap.size w w')(h:∀w',Hid (Own X w0 w' L rs J)→R (.returned v) w'):Calls P f args w R :=
 hc.mono fun e w' ⟨h1,h2⟩=>by rw [h1];exact h w' (hH (M.bel h2))
def RExP (A:Option Addr)(all:List TokD)(c:Nat)(E:Int)(d:Nat)(w:World)(r:ExprT×PSt)(e:Ending)(w':World):Prop :=
 ∃m A1 q1 A2 q2 A3 q3 A4 q4 k' dp',e=.returned (.tuple #[rv A all.length c k' E r.2 dp',.agg #[.int .i64 r.1.kind,.slice A1 r.1.kids.length q1,.bool r.1.q.abs,.slice A2 r.1.q.segs.length q2,.int .i64 r.1.op,.bool r.1.left.lit,.int .i64 r.1.left.kind,.int .i64 r.1.left.n,.string (bs r.1.left.s),.bool r.1.left.p.abs,.slice A3 r.1.left.p.segs.length q3,.bool r.1.right.lit,.int .i64 r.1.right.kind,.int .i64 r.1.right.n,.string (bs r.1.right.s),.bool r.1.right.p.abs,.slice A4 r.1.right.p.segs.length q4]])∧RIn all k' r.2∧(r.2.fe=0→dp'=(d:Int))∧ExR (Fr w) m w' (exL r.1 (.slice A1 r.1.kids.length q1) (.slice A2 r.1.q.segs.length q2) (.slice A3 r.1.left.p.segs.length q3) (.slice A4 r.1.right.p.segs.length q4)) r.1∧Bel w.heap.size w w'
def ROrC (A:Option Addr)(all:List TokD)(c:Nat)(E:Int)(P:Nat→PSt→ExprT×PSt)(N:Nat):Prop :=
 ∀(d k:Nat) (t:PSt) (dp:Int) (w:World),RIn all k t→TkR w A all→(t.fe=0→dp=(d:Int))→d≤33→(d=33→t.fe≠0)→N≤d→Calls Tryz.prog 86 #[rv A all.length c k E t dp] w (RExP A all c E d w (P d t))
theorem mustS_fe0 {E:Int}{l:List UInt8}{t:PSt}(h:(mustS E l t).fe=0):t.fe=0:=Classical.byContradiction fun hf=>by unfold mustS at h;rw [isS_bad l hf] at h;exact formS_fe E t h
theorem wrap_in {z:Int}(h1 : -100≤z)(h2:z≤100):wrap64 z=z:=by unfold wrap64;omega
theorem res_round {X:List Nat}{w0 w:World}{L:List BlkE}{rs:List RowE}{J:World→Prop}{tmps:Array Value}{g k:Nat}{t u:TypeId}{a0 a1 a2 a3 a4 a5 b0 b1 b2 b3 b4 b5 b6 b7 b8 b9 b10 b11 b12 b13 b14 b15 b16:Value}(hp:tmps.getD 2 undef=.pointer (some ⟨g,0,none⟩))(hq:tmps.getD 3 undef=.pointer (some ⟨k,0,none⟩))(M:Own X w0 w L rs J)(hg:(g,t,#[a0,a1,a2,a3,a4,a5])∈L)(hk:(k,u,#[b0,b1,b2,b3,b4,b5,b6,b7,b8,b9,b10,b11,b12,b13,b14,b15,b16])∈L):(results Tryz.f114 tmps).run Tryz.prog w=.ok (.tuple #[.agg #[a0,a1,a2,a3,a4,a5],.agg #[b0,b1,b2,b3,b4,b5,b6,b7,b8,b9,b10,b11,b12,b13,b14,b15,b16]]) w :=
 results_2 Tryz.results114 _ g k _ _ _ _ _ _ hp hq (M.blk _ hg) (M.blk _ hk) Tryz.underlying54 rfl Tryz.underlying92 rfl 6 17 isz_R rfl isz_Expr rfl
section
variable  (A:Option Addr)(all:List TokD)(c k:Nat)(E:Int)(P:Nat→PSt→ExprT×PSt)(t:PSt)(d:Nat)(dp:Int)(w:World)
theorem ropen_any (h:RIn all k t)(hT:TkR w A all)(hd:t.fe=0→dp=(d:Int))(hdd:d≤33):Calls Tryz.prog 85 #[rv A all.length c k E t dp] w fun e w'=>∃k' D,e=.returned (rv A all.length c k' E (openS E d t) D)∧RIn all k' (openS E d t)∧((openS E d t).fe=0→D=((d+1:Nat):Int))∧Bel w.heap.size w w':=by
 by_cases hf:t.fe=0
 ·have e1:wrap64 (dp+1)=(d:Int)+1:=by rw [hd hf];exact wrap_in (by omega) (by omega)
  by_cases h32:(32:Int)<(d:Int)+1
  ·have e2:openS E d t=nextS E (failS (atS E t) 5 t):=by unfold openS;rw [if_pos (by omega)]
   rw [e2]
   refine(ropen_deep A all c k E t dp w h hT _ e1 h32).mono ?_
   rintro e w' ⟨k',rfl,h1,h2⟩
   exact⟨k',_,rfl,h1,fun _=>by omega,h2⟩
  ·have e2:openS E d t=nextS E t:=by unfold openS;rw [if_neg (by omega)]
   rw [e2]
   refine(ropen_ok A all c k E t dp w h hT _ e1 h32).mono ?_
   rintro e w' ⟨k',rfl,h1,h2⟩
   exact⟨k',_,rfl,h1,fun _=>by omega,h2⟩
 ·rw [openS_bad d hf]
  by_cases h32:(32:Int)<wrap64 (dp+1)
  ·refine(ropen_deep A all c k E t dp w h hT _ rfl h32).mono ?_
   rw [failS_bad hf,nextS_bad hf]
   rintro e w' ⟨k',rfl,h1,h2⟩
   exact⟨k',_,rfl,h1,fun e=>absurd e hf,h2⟩
  ·refine(ropen_ok A all c k E t dp w h hT _ rfl h32).mono ?_
   rw [nextS_bad hf]
   rintro e w' ⟨k',rfl,h1,h2⟩
   exact⟨k',_,rfl,h1,fun e=>absurd e hf,h2⟩
theorem rround_any (N:Nat)(hP:ROrC A all c E P N)(h:RIn all k t)(hT:TkR w A all)(hd:t.fe=0→dp=(d:Int))(hN:N≤d+1)(hdd:d≤32):Calls Tryz.prog 114 #[rv A all.length c k E t dp] w (RExP A all c E d w (roundF E P d t)):=by
 have HO:=hH (fun W (hb:Bel w.heap.size w W)=>ropen_any A all c k E t d dp W h (hT.bel hb) hd (by omega))
 have HP:=hH (fun W (hb:Bel w.heap.size w W) k D hi hD=>hP (d+1) k (openS E d t) D W hi (hT.bel hb) hD (by omega) (fun e=>openS_33 (by omega)) hN)
 have HTT:=hH hT
 unfold roundF
 obtain⟨x,t2,hx2⟩:∃x t2,P (d+1) (openS E d t)=(x,t2):=⟨_,_,rfl⟩
 rw [hx2] at HP ⊢
 unfold RExP at HP
 simp only at HP ⊢
 clear h hd hx2 hP hT
 have M:=hH (Own.start [] w (fun _=>True) fun _ _=>trivial)
 go_enter Tryz.func114, Tryz.ntmps114
 generalize hQ:bodyPost Tryz.prog Tryz.f114 (RExP A all c E d w (x,mustS E [41] t2))=Q
 have HQ:=hH hQ;clear hQ
 go_upto_region 2 with(first|(with_reducible first|(refine bx_R (some 1) M.out ?_;clear M;intro g1 w' hg1 M)|(refine al_R (some 2) M.out ?_;clear M;intro g2 w' hg2 M)|(refine al_Expr (some 3) M.out ?_;clear M;intro g3 w' hg3 M)|(refine al_R (some 4) M.out ?_;clear M;intro g4 w' hg4 M)|(refine al_Expr (some 5) M.out ?_;clear M;intro g5 w' hg5 M)|refine ld_R M.out ?_|refine ld_Expr M.out ?_|(refine st_R M.out ?_;clear M;intro w' M)|(refine st_Expr M.out ?_;clear M;intro w' M))|(go_at_call 85;(with_reducible refine(HO.out _ M.out.bel0).mono ?_);rintro e w' ⟨k1,D,rfl,hi1,hD1,hb⟩;have HP1:=hH (fun W hb=>HP.out W hb k1 D hi1 hD1);clear hi1 hD1;replace M:=hH (M.out.bel hb);clear hb)|(go_at_call 86;(with_reducible refine(HP1.out _ M.out.bel0).mono ?_);rintro e w' ⟨m,A1,q1,A2,q2,A3,q3,A4,q4,k2,D2,rfl,hi2,hD2,hex,hb⟩;have HM2:=hH (fun W (hb:Bel w.heap.size w W)=>rmust_any A all c k2 E t2 D2 W ⟨#[41]⟩ hi2 (HTT.out.bel hb));have HD2:=hH (show t2.fe=0→wrap64 (D2-1)=(d:Int) from fun e=>by rw [hD2 e,wrap_in (by omega) (by omega)];omega);have Mn:=M.out.addEx hb hex;replace M:=hH Mn;clear Mn hb hex hi2 hD2))
 replace M:=hH M.out.drew
 refine tbh (fun w'=>Blk w' g4 _ _∧Blk w' g5 _ _) (⟨M.out.b,M.out.b⟩) fun hS=>?_
 refine tk 0 rfl hS (yl_R _ _ rfl _ _ (fun _ h=>h.1) rfl) ?_
 refine tk 3 rfl hS (yl_Expr _ _ rfl _ _ (fun _ h=>h.2) rfl) ?_
 repeat' (first|((with_reducible refine gR ?_);first|exact .nil|(refine rdy_call (i:=1) (HM2.out _ M.out.bel0) (op:=.call _) rfl (by go_simp) ?_ ?_;rintro e w' ⟨k3,rfl,hi3,hb⟩;have HI3:=hH hi3;clear hi3;replace M:=hH (M.out.bel hb);clear hb;refine⟨_,rfl,?_⟩;refine⟨⟨M.out.b,M.out.b⟩,tn ?_⟩)|(refine rdy_call (i:=2) (rshut_any A all c k3 E (mustS E [41] t2) D2 _) (op:=.call _) rfl (by go_simp) ?_ ?_;rintro e w' ⟨rfl,hb⟩;replace M:=hH (M.out.bel hb);clear hb;refine⟨_,rfl,?_⟩;refine⟨⟨M.out.b,M.out.b⟩,tn ?_⟩)|(refine rs_R (i:=4) _ _ rfl rfl rfl M.out ?_ ?_;clear M;intro w' M;refine⟨⟨M.out.b,M.out.b⟩,tn ?_⟩)|(refine rs_Expr (i:=5) _ _ rfl rfl rfl M.out ?_ ?_;clear M;intro w' M;refine⟨⟨M.out.b,M.out.b⟩,tn ?_⟩))|((with_reducible refine gW ?_);first|refine trd [1] ?_|refine trd [2] ?_|refine trd [4] ?_|refine trd [5] ?_|refine ted ?_))
 all_goals
  go_wp2
  rw [←HQ.out]
  exact bodyPost_ret (v:=.tuple #[rv A all.length c k3 E (mustS E [41] t2) (wrap64 (D2-1)),.agg #[.int .i64 x.kind,.slice A1 x.kids.length q1,.bool x.q.abs,.slice A2 x.q.segs.length q2,.int .i64 x.op,.bool x.left.lit,.int .i64 x.left.kind,.int .i64 x.left.n,.string (bs x.left.s),.bool x.left.p.abs,.slice A3 x.left.p.segs.length q3,.bool x.right.lit,.int .i64 x.right.kind,.int .i64 x.right.n,.string (bs x.right.s),.bool x.right.p.abs,.slice A4 x.right.p.segs.length q4]]) (res_round rfl rfl M.out (by repeat constructor) (by repeat constructor)) rfl ⟨m,A1,q1,A2,q2,A3,q3,A4,q4,k3,_,rfl,HI3.out,fun e=>HD2.out (mustS_fe0 e),M.out.now.2,M.out.bel0⟩
end
end Go.Proofs.YtjbdcjcfijjiiaaGreatDoor
