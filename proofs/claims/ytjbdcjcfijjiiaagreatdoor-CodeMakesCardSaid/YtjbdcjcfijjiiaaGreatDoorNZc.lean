/- code: turned, cmp (printed by gen_zc.py). -/
import Derived.Test.YtjbdcjcfijjiiaaGreatDoorNG18
namespace Go.Proofs.YtjbdcjcfijjiiaaGreatDoor
open Go.RowKit
set_option maxRecDepth 100000
set_option maxHeartbeats 2000000
theorem F_Side :TyF Tryz.prog 90 6 #[.bool false,.int .i64 0,.int .i64 0,.string ⟨#[]⟩,.bool false,.slice none 0 0]:=⟨⟨_,Tryz.underlying90,rfl⟩,by kernel_rfl,by kernel_rfl⟩
theorem turn_ix0 (w:World):(Instr.index 152 (.agg #[.int .i64 0,.int .i64 1,.int .i64 4,.int .i64 5,.int .i64 2,.int .i64 3]) (.int .i64 0)).run Tryz.prog w=.ok (.int .i64 0) w:=by kernel_rfl
theorem turn_ix1 (w:World):(Instr.index 152 (.agg #[.int .i64 0,.int .i64 1,.int .i64 4,.int .i64 5,.int .i64 2,.int .i64 3]) (.int .i64 1)).run Tryz.prog w=.ok (.int .i64 1) w:=by kernel_rfl
theorem turn_ix2 (w:World):(Instr.index 152 (.agg #[.int .i64 0,.int .i64 1,.int .i64 4,.int .i64 5,.int .i64 2,.int .i64 3]) (.int .i64 2)).run Tryz.prog w=.ok (.int .i64 4) w:=by kernel_rfl
theorem turn_ix3 (w:World):(Instr.index 152 (.agg #[.int .i64 0,.int .i64 1,.int .i64 4,.int .i64 5,.int .i64 2,.int .i64 3]) (.int .i64 3)).run Tryz.prog w=.ok (.int .i64 5) w:=by kernel_rfl
theorem turn_ix4 (w:World):(Instr.index 152 (.agg #[.int .i64 0,.int .i64 1,.int .i64 4,.int .i64 5,.int .i64 2,.int .i64 3]) (.int .i64 4)).run Tryz.prog w=.ok (.int .i64 2) w:=by kernel_rfl
theorem turn_ix5 (w:World):(Instr.index 152 (.agg #[.int .i64 0,.int .i64 1,.int .i64 4,.int .i64 5,.int .i64 2,.int .i64 3]) (.int .i64 5)).run Tryz.prog w=.ok (.int .i64 3) w:=by kernel_rfl
theorem turned_any (k:Nat)(hk:k<6)(w:World):Calls Tryz.prog 69 #[.int .i64 (k:Int)] w fun e w'=>e=.returned (.int .i64 (turnS k))∧w'=w:=by
 have h6:k=0∨k=1∨k=2∨k=3∨k=4∨k=5:=by omega
 rcases h6 with rfl|rfl|rfl|rfl|rfl|rfl
 ·have hix:=turn_ix0
  go_enter Tryz.func69, Tryz.ntmps69
  go_wp2
  go_ret
  exact⟨rfl,rfl⟩
 ·have hix:=turn_ix1
  go_enter Tryz.func69, Tryz.ntmps69
  go_wp2
  go_ret
  exact⟨rfl,rfl⟩
 ·have hix:=turn_ix2
  go_enter Tryz.func69, Tryz.ntmps69
  go_wp2
  go_ret
  exact⟨rfl,rfl⟩
 ·have hix:=turn_ix3
  go_enter Tryz.func69, Tryz.ntmps69
  go_wp2
  go_ret
  exact⟨rfl,rfl⟩
 ·have hix:=turn_ix4
  go_enter Tryz.func69, Tryz.ntmps69
  go_wp2
  go_ret
  exact⟨rfl,rfl⟩
 ·have hix:=turn_ix5
  go_enter Tryz.func69, Tryz.ntmps69
  go_wp2
  go_ret
  exact⟨rfl,rfl⟩
section
variable  {w0:World}{L:List BlkE}{rs:List RowE}{J:World→Prop}
theorem MkS.own {w:World}{g:Nat}{c:CodeD}{W:List (PathT×Value)}{v1 v2 v3 v4 v5:Value}(h:Own [] w0 w ((g,61,#[v1,v2,v3,v4,v5])::L) (MkR v1 v2 v3 v4 v5 c W rs) J):MkS w0 w g L rs J c W:=⟨v1,v2,v3,v4,v5,h⟩
theorem Own.swap2 {X:List Nat}{w1 w:World}{x z:BlkE}(M:Own X w1 w (x::z::L) rs J):Own X w1 w (z::x::L) rs J:=M.permL (List.Perm.swap _ _ _)
theorem Own.rot3 {X:List Nat}{w1 w:World}{x y z:BlkE}(M:Own X w1 w (x::y::z::L) rs J):Own X w1 w (y::x::z::L) rs J:=M.permL (List.Perm.swap _ _ _)
theorem mcmp_R (g:Nat)(c:CodeD)(W:List (PathT×Value))(op:Int)(k0 q1 lA rA:Option Addr)(k1 k2 q2 q3 lm lc rm rc:Nat)(q0 rl:Bool)(lk ln rk rn:Int)(ls rs_:ByteArray)(pl pr:PathT)(w:World)(h:MkS w0 w g L rs J c W)(hl:c.is.length≤999999)(hlw:W.length≤999999):Calls Tryz.prog 49 #[.pointer (some ⟨g,0,none⟩),.agg #[.int .i64 4,.slice k0 k1 k2,.bool q0,.slice q1 q2 q3,.int .i64 op,.bool false,.int .i64 lk,.int .i64 ln,.string ls,.bool pl.abs,.slice lA lm lc,.bool rl,.int .i64 rk,.int .i64 rn,.string rs_,.bool pr.abs,.slice rA rm rc]] w fun e w'=>e=.returned (.tuple #[])∧MkS w0 w' g L rs J ⟨c.ps,c.gs,c.ss,c.is++[(⟨1,W.length,op,rk,rn,rs_,0⟩:InsD)]⟩ (W++[(pl,.slice lA lm lc)]):=by
 obtain⟨v1,v2,v3,v4,v5,hM⟩:=h
 have M:=hH hM
 clear hM
 go_enter Tryz.func49, Tryz.ntmps49
 let qd:=bodyPost Tryz.prog Tryz.f49 (fun _ _=>True)
 go_upto_region 1 with(first|((with_reducible refine l_bx (d:=3) M.out ?_);clear M;intro g3 w' hg3 M;replace M:=hH M.out.freeze))
 (try simp only [Act.put,List.setIfInBounds_toArray,List.set_cons_zero,List.set_cons_succ])
 go_cut [4,5,6,7,8,9,10,11,12,13] (fun s4 s5 s6 _ _ _ _ _ _ _ wx=>∃g4 g5:Nat,s4=.pointer (some ⟨g4,0,none⟩)∧s5=.pointer (some ⟨g5,0,none⟩)∧s6=.int .i64 op∧Hid (Own [] w0 wx ((g4,90,#[.bool rl,.int .i64 rk,.int .i64 rn,.string rs_,.bool pr.abs,.slice rA rm rc])::(g5,37,#[.bool pl.abs,.slice lA lm lc])::(g,61,#[v1,v2,v3,v4,v5])::L) (MkR v1 v2 v3 v4 v5 c W rs) (fun y=>J y∧Blk y g3 92 #[.int .i64 4,.slice k0 k1 k2,.bool q0,.slice q1 q2 q3,.int .i64 op,.bool false,.int .i64 lk,.int .i64 ln,.string ls,.bool pl.abs,.slice lA lm lc,.bool rl,.int .i64 rk,.int .i64 rn,.string rs_,.bool pr.abs,.slice rA rm rc])))
 case first =>
  replace M:=hH M.out.drew
  refine tbh (fun y=>J y∧Blk y g3 92 #[.int .i64 4,.slice k0 k1 k2,.bool q0,.slice q1 q2 q3,.int .i64 op,.bool false,.int .i64 lk,.int .i64 ln,.string ls,.bool pl.abs,.slice lA lm lc,.bool rl,.int .i64 rk,.int .i64 rn,.string rs_,.bool pr.abs,.slice rA rm rc]) M.out.now fun hS=>?_
  refine tkp 0 rfl hS ?_
  refine tk 1 rfl hS (y_ldm F_Side _ g3 11 rfl _ _ (fun y h=>h.2) [.bool rl,.int .i64 rk,.int .i64 rn,.string rs_,.bool pr.abs,.slice rA rm rc] rfl rfl) ?_
  refine tkp 2 rfl hS ?_
  refine tkp 3 rfl hS ?_
  refine tk 4 rfl hS (y_ldm F_Path _ g3 9 rfl _ _ (fun y h=>h.2) [.bool pl.abs,.slice lA lm lc] rfl rfl) ?_
  refine tkp 5 rfl hS ?_
  refine tk 6 rfl hS (y_ld1 O_int _ g3 4 rfl _ _ (fun y h=>h.2) _ rfl) ?_
  repeat' (first|((with_reducible refine gR ?_);first|exact .nil|(refine r_al F_Side (i:=7) rfl M.out ?_ ?_;clear M;intro g4 w' hg4 M;refine⟨M.out.now,tn ?_⟩)|(refine r_al F_Path (i:=8) rfl M.out ?_ ?_;clear M;intro g5 w' hg5 M;refine⟨M.out.now,tn ?_⟩)|(refine r_st F_Side (cs:=#[.bool rl,.int .i64 rk,.int .i64 rn,.string rs_,.bool pr.abs,.slice rA rm rc]) (i:=9) rfl rfl rfl M.out ?_ ?_;clear M;intro w' M;refine⟨M.out.now,tn ?_⟩)|(refine r_st F_Path (cs:=#[.bool pl.abs,.slice lA lm lc]) (i:=10) rfl rfl rfl M.out ?_ ?_;clear M;intro w' M;refine⟨M.out.now,tn ?_⟩))|((with_reducible refine gW ?_);first|refine tkpd 11 rfl M.out.now ?_|refine trd [7,8] ?_|refine trd [8] ?_|refine trd [9] ?_|refine trd [10] ?_|refine trd [7] ?_|refine ted ?_))
  all_goals
   go_wp2
   go_meet
   case rel=>exact⟨g4,g5,rfl,rfl,rfl,hH (by first|exact M.out|exact M.out.rot3)⟩
 case rest =>
  clear M
  obtain⟨g4,g5,rfl,rfl,rfl,M⟩:=hcut
  go_upto_region 4 with(first|((with_reducible refine g_ld 4 ?_);refine l_ld1j O_bool rfl M.out (fun y h=>h.2) (by exact rfl) ?_))
  replace M:=hH (MkS.own (M.out.freeze.freeze))
  replace M:=hH M.out.drew
  refine tbh (fun y=>((J y∧Blk y g3 92 #[.int .i64 4,.slice k0 k1 k2,.bool q0,.slice q1 q2 q3,.int .i64 op,.bool false,.int .i64 lk,.int .i64 ln,.string ls,.bool pl.abs,.slice lA lm lc,.bool rl,.int .i64 rk,.int .i64 rn,.string rs_,.bool pr.abs,.slice rA rm rc])∧Blk y g4 90 #[.bool rl,.int .i64 rk,.int .i64 rn,.string rs_,.bool pr.abs,.slice rA rm rc])∧Blk y g5 37 #[.bool pl.abs,.slice lA lm lc]) M.out.now fun hS=>?_
  refine tkp 0 rfl hS ?_
  refine tkp 1 rfl hS ?_
  refine tk 2 rfl hS (y_ld F_Path _ g5 rfl _ _ (fun y h=>h.2) rfl) ?_
  refine tkp 4 rfl hS ?_
  refine tkp 5 rfl hS ?_
  refine tk 6 rfl hS (y_ld1 O_int _ g4 1 rfl _ _ (fun y h=>h.1.2) _ rfl) ?_
  refine tkp 7 rfl hS ?_
  refine tk 8 rfl hS (y_ld1 O_i64 _ g4 2 rfl _ _ (fun y h=>h.1.2) _ rfl) ?_
  refine tkp 9 rfl hS ?_
  refine tk 10 rfl hS (y_ld1 O_str _ g4 3 rfl _ _ (fun y h=>h.1.2) _ rfl) ?_
  refine tr [3] ?_
  refine rdy_call (mnumber_any g c W pl lA lm lc _ M.out hlw) (i:=3) (op:=.call _) rfl (by go_simp) ?_
  rintro e_ w' ⟨rfl,hm⟩;replace M:=hH hm;clear hm;refine⟨_,rfl,?_⟩;refine an M.out.now fun hS=>tn ?_
  refine tkp 11 rfl hS ?_
  refine tr [12] ?_
  refine rdy_call (mput_any g c (W++[(pl,.slice lA lm lc)]) ⟨1,W.length,op,rk,rn,rs_,0⟩ _ M.out hl) (i:=12) (op:=.call _) rfl (by go_simp) ?_
  rintro e_ w' ⟨rfl,hm⟩;replace M:=hH hm;clear hm;refine⟨_,rfl,?_⟩;refine an M.out.now fun hS=>tn ?_
  refine te ?_
  go_wp2
  go_end0
  exact⟨rfl,M.out.imp fun y h=>h.1.1.1⟩
theorem mcmp_L (g:Nat)(c:CodeD)(W:List (PathT×Value))(k:Nat)(hk:k<6)(k0 q1 lA rA:Option Addr)(k1 k2 q2 q3 lm lc rm rc:Nat)(q0 rl:Bool)(lk ln rk rn:Int)(ls rs_:ByteArray)(pl pr:PathT)(w:World)(h:MkS w0 w g L rs J c W)(hl:c.is.length≤999999)(hlw:W.length≤999999):Calls Tryz.prog 49 #[.pointer (some ⟨g,0,none⟩),.agg #[.int .i64 4,.slice k0 k1 k2,.bool q0,.slice q1 q2 q3,.int .i64 (k:Int),.bool true,.int .i64 lk,.int .i64 ln,.string ls,.bool pl.abs,.slice lA lm lc,.bool rl,.int .i64 rk,.int .i64 rn,.string rs_,.bool pr.abs,.slice rA rm rc]] w fun e w'=>e=.returned (.tuple #[])∧MkS w0 w' g L rs J ⟨c.ps,c.gs,c.ss,c.is++[(⟨1,W.length,turnS k,lk,ln,ls,0⟩:InsD)]⟩ (W++[(pr,.slice rA rm rc)]):=by
 obtain⟨v1,v2,v3,v4,v5,hM⟩:=h
 have M:=hH hM
 clear hM
 go_enter Tryz.func49, Tryz.ntmps49
 let qd:=bodyPost Tryz.prog Tryz.f49 (fun _ _=>True)
 go_upto_region 1 with(first|((with_reducible refine l_bx (d:=3) M.out ?_);clear M;intro g3 w' hg3 M;replace M:=hH M.out.freeze))
 (try simp only [Act.put,List.setIfInBounds_toArray,List.set_cons_zero,List.set_cons_succ])
 go_cut [4,5,6,7,8,9,10,11,12,13] (fun s4 s5 s6 _ _ _ _ _ _ _ wx=>∃g4 g5:Nat,s4=.pointer (some ⟨g4,0,none⟩)∧s5=.pointer (some ⟨g5,0,none⟩)∧s6=.int .i64 (k:Int)∧Hid (Own [] w0 wx ((g4,90,#[.bool rl,.int .i64 rk,.int .i64 rn,.string rs_,.bool pr.abs,.slice rA rm rc])::(g5,37,#[.bool pl.abs,.slice lA lm lc])::(g,61,#[v1,v2,v3,v4,v5])::L) (MkR v1 v2 v3 v4 v5 c W rs) (fun y=>J y∧Blk y g3 92 #[.int .i64 4,.slice k0 k1 k2,.bool q0,.slice q1 q2 q3,.int .i64 (k:Int),.bool true,.int .i64 lk,.int .i64 ln,.string ls,.bool pl.abs,.slice lA lm lc,.bool rl,.int .i64 rk,.int .i64 rn,.string rs_,.bool pr.abs,.slice rA rm rc])))
 case first =>
  replace M:=hH M.out.drew
  refine tbh (fun y=>J y∧Blk y g3 92 #[.int .i64 4,.slice k0 k1 k2,.bool q0,.slice q1 q2 q3,.int .i64 (k:Int),.bool true,.int .i64 lk,.int .i64 ln,.string ls,.bool pl.abs,.slice lA lm lc,.bool rl,.int .i64 rk,.int .i64 rn,.string rs_,.bool pr.abs,.slice rA rm rc]) M.out.now fun hS=>?_
  refine tkp 0 rfl hS ?_
  refine tk 1 rfl hS (y_ldm F_Side _ g3 11 rfl _ _ (fun y h=>h.2) [.bool rl,.int .i64 rk,.int .i64 rn,.string rs_,.bool pr.abs,.slice rA rm rc] rfl rfl) ?_
  refine tkp 2 rfl hS ?_
  refine tkp 3 rfl hS ?_
  refine tk 4 rfl hS (y_ldm F_Path _ g3 9 rfl _ _ (fun y h=>h.2) [.bool pl.abs,.slice lA lm lc] rfl rfl) ?_
  refine tkp 5 rfl hS ?_
  refine tk 6 rfl hS (y_ld1 O_int _ g3 4 rfl _ _ (fun y h=>h.2) _ rfl) ?_
  repeat' (first|((with_reducible refine gR ?_);first|exact .nil|(refine r_al F_Side (i:=7) rfl M.out ?_ ?_;clear M;intro g4 w' hg4 M;refine⟨M.out.now,tn ?_⟩)|(refine r_al F_Path (i:=8) rfl M.out ?_ ?_;clear M;intro g5 w' hg5 M;refine⟨M.out.now,tn ?_⟩)|(refine r_st F_Side (cs:=#[.bool rl,.int .i64 rk,.int .i64 rn,.string rs_,.bool pr.abs,.slice rA rm rc]) (i:=9) rfl rfl rfl M.out ?_ ?_;clear M;intro w' M;refine⟨M.out.now,tn ?_⟩)|(refine r_st F_Path (cs:=#[.bool pl.abs,.slice lA lm lc]) (i:=10) rfl rfl rfl M.out ?_ ?_;clear M;intro w' M;refine⟨M.out.now,tn ?_⟩))|((with_reducible refine gW ?_);first|refine tkpd 11 rfl M.out.now ?_|refine trd [7,8] ?_|refine trd [8] ?_|refine trd [9] ?_|refine trd [10] ?_|refine trd [7] ?_|refine ted ?_))
  all_goals
   go_wp2
   go_meet
   case rel=>exact⟨g4,g5,rfl,rfl,rfl,hH (by first|exact M.out|exact M.out.rot3)⟩
 case rest =>
  clear M
  obtain⟨g4,g5,rfl,rfl,rfl,M⟩:=hcut
  go_upto_region 3 with(first|((with_reducible refine g_ld 4 ?_);refine l_ld1j O_bool rfl M.out (fun y h=>h.2) (by exact rfl) ?_))
  replace M:=hH M.out.drew
  refine tbh (fun y=>J y∧Blk y g3 92 #[.int .i64 4,.slice k0 k1 k2,.bool q0,.slice q1 q2 q3,.int .i64 (k:Int),.bool true,.int .i64 lk,.int .i64 ln,.string ls,.bool pl.abs,.slice lA lm lc,.bool rl,.int .i64 rk,.int .i64 rn,.string rs_,.bool pr.abs,.slice rA rm rc]) M.out.now fun hS=>?_
  refine tkp 0 rfl hS ?_
  refine tk 1 rfl hS (y_ldm F_Side _ g3 5 rfl _ _ (fun y h=>h.2) [.bool true,.int .i64 lk,.int .i64 ln,.string ls,.bool pl.abs,.slice lA lm lc] rfl rfl) ?_
  refine tkp 2 rfl hS ?_
  refine tkp 3 rfl hS ?_
  refine tk 4 rfl hS (y_ldm F_Path _ g3 15 rfl _ _ (fun y h=>h.2) [.bool pr.abs,.slice rA rm rc] rfl rfl) ?_
  refine tkp 5 rfl hS ?_
  repeat' (first|((with_reducible refine gR ?_);first|exact .nil|(refine rdy_call (turned_any k hk _) (i:=6) (op:=.call _) rfl (by go_simp) ?_ ?_;rintro e_ w' ⟨rfl,rfl⟩;refine⟨_,rfl,?_⟩;refine⟨M.out.now,tn ?_⟩)|(refine r_st F_Side (cs:=#[.bool true,.int .i64 lk,.int .i64 ln,.string ls,.bool pl.abs,.slice lA lm lc]) (i:=7) rfl rfl rfl M.out ?_ ?_;clear M;intro w' M;refine⟨M.out.now,tn ?_⟩)|(refine r_st F_Path (cs:=#[.bool pr.abs,.slice rA rm rc]) (i:=8) rfl rfl rfl M.out ?_ ?_;clear M;intro w' M;refine⟨M.out.now,tn ?_⟩))|((with_reducible refine gW ?_);first|refine tkpd 9 rfl M.out.now ?_|refine trd [6] ?_|refine trd [7] ?_|refine trd [8] ?_|refine ted ?_))
  all_goals
   replace M:=hH (MkS.own (M.out.freeze.freeze))
   go_upto_region 4 with fail
   replace M:=hH M.out.drew
   refine tbh (fun y=>((J y∧Blk y g3 92 #[.int .i64 4,.slice k0 k1 k2,.bool q0,.slice q1 q2 q3,.int .i64 (k:Int),.bool true,.int .i64 lk,.int .i64 ln,.string ls,.bool pl.abs,.slice lA lm lc,.bool rl,.int .i64 rk,.int .i64 rn,.string rs_,.bool pr.abs,.slice rA rm rc])∧Blk y g4 90 #[.bool true,.int .i64 lk,.int .i64 ln,.string ls,.bool pl.abs,.slice lA lm lc])∧Blk y g5 37 #[.bool pr.abs,.slice rA rm rc]) M.out.now fun hS=>?_
   refine tkp 0 rfl hS ?_
   refine tkp 1 rfl hS ?_
   refine tk 2 rfl hS (y_ld F_Path _ g5 rfl _ _ (fun y h=>h.2) rfl) ?_
   refine tkp 4 rfl hS ?_
   refine tkp 5 rfl hS ?_
   refine tk 6 rfl hS (y_ld1 O_int _ g4 1 rfl _ _ (fun y h=>h.1.2) _ rfl) ?_
   refine tkp 7 rfl hS ?_
   refine tk 8 rfl hS (y_ld1 O_i64 _ g4 2 rfl _ _ (fun y h=>h.1.2) _ rfl) ?_
   refine tkp 9 rfl hS ?_
   refine tk 10 rfl hS (y_ld1 O_str _ g4 3 rfl _ _ (fun y h=>h.1.2) _ rfl) ?_
   refine tr [3] ?_
   refine rdy_call (mnumber_any g c W pr rA rm rc _ M.out hlw) (i:=3) (op:=.call _) rfl (by go_simp) ?_
   rintro e_ w' ⟨rfl,hm⟩;replace M:=hH hm;clear hm;refine⟨_,rfl,?_⟩;refine an M.out.now fun hS=>tn ?_
   refine tkp 11 rfl hS ?_
   refine tr [12] ?_
   refine rdy_call (mput_any g c (W++[(pr,.slice rA rm rc)]) ⟨1,W.length,turnS k,lk,ln,ls,0⟩ _ M.out hl) (i:=12) (op:=.call _) rfl (by go_simp) ?_
   rintro e_ w' ⟨rfl,hm⟩;replace M:=hH hm;clear hm;refine⟨_,rfl,?_⟩;refine an M.out.now fun hS=>tn ?_
   refine te ?_
   go_wp2
   go_end0
   exact⟨rfl,M.out.imp fun y h=>h.1.1.1⟩
end
end Go.Proofs.YtjbdcjcfijjiiaaGreatDoor
