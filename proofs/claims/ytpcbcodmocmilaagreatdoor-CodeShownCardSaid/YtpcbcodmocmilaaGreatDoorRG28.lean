/- RG28: Zm, Zn joined. -/
import Derived.Test.YtpcbcodmocmilaaGreatDoorRZl
import Derived.Test.YtpcbcodmocmilaaGreatDoorRG27
namespace Go.Proofs.YtpcbcodmocmilaaGreatDoor
open Go.RowKit
/- qshow: a number, a text, a slice, a selector, a side are written (printed by gen_zm.py). -/
section
open Go.RowKit

/-- The library's table stands as it was laid. -/
def Tab (w : World) : Prop := Lib.TabIs Tryz.prog w "internal/strconv.uint64pow10" .u64 Lib.pow10Tab
theorem Tab.bel {w w' : World} {B : Nat} (h : Tab w) (hb : Bel B w w') (hB : w.heap.size ≤ B) : Tab w' := by
  unfold Tab Lib.TabIs World.var? at h ⊢
  cases hg : Tryz.prog.globalNamed "internal/strconv.uint64pow10" with
  | none => rw [hg] at h; cases h
  | some g =>
    rw [hg] at h
    simp only [Option.bind_some] at h ⊢
    have hlt : g < w.heap.size := by
      rcases Nat.lt_or_ge g w.heap.size with h' | h'
      · exact h'
      · rw [Array.getElem?_eq_none h'] at h; cases h
    rw [hb.block g (by omega)]
    exact h
theorem grow_bel (w : World) (k : Nat) (os : Array Obj) : Bel w.heap.size w (Sort.grow (w.drewN k) os) :=
  ⟨rfl, rfl, by show w.heap.size ≤ (w.heap ++ os).size; simp, fun i hi => by show (w.heap ++ os)[i]? = _; rw [Array.getElem?_append_left hi]⟩
theorem fmt_any (n : Int) (h : okN n) (w : World) (ht : Tab w) :
    Calls Tryz.prog 107 #[.int .i64 n, .int .i64 10] w fun e w' => e = .returned (.string (bs (intL n))) ∧ Bel w.heap.size w w' :=
  (Tryz.strconv_FormatInt_10 n (by unfold okN at h; omega) (by unfold okN at h; omega) w ht).mono fun e w' h => by
    obtain ⟨rfl, k, os, rfl⟩ := h
    exact ⟨rfl, grow_bel w k os⟩
theorem betn_any (m : UInt8) (n : Int) (hn : (m.toNat : Int) = n) (s : ByteArray) (w : World) (hs : s.size ≤ 100000000) (hr : runU 0 s.data.toList = 0) : Calls Tryz.prog 125 #[.string s, .int .u8 n] w fun e w' => e = .returned (.tuple #[.string (bs (txtL m s.data.toList)), .int .i64 0]) ∧ Bel w.heap.size w w' := hn ▸ between_any m s w hs hr
theorem esingle_any (s : ByteArray) (w : World) (hs : s.size ≤ 100000000) (hr : runU 0 s.data.toList = 0) : Calls Tryz.prog 106 #[.string s] w fun e w' => e = .returned (.tuple #[.string (bs (txtL 39 s.data.toList)), .int .i64 0]) ∧ Bel w.heap.size w w' := by
  go_enter Tryz.func106, Tryz.ntmps106
  go_wp2_with (go_at_call 125; (with_reducible refine (betn_any 39 39 rfl s _ hs hr).mono ?_); rintro e w' ⟨rfl, hb⟩; have HB := Lib.hid hb; clear hb)
  go_ret2
  exact ⟨rfl, HB.out⟩
theorem ifmtb_any (b : Bool) (w : World) : Calls Tryz.prog 145 #[.bool b] w fun e w' => e = .returned (.string (bs (if b then [116, 114, 117, 101] else [102, 97, 108, 115, 101]))) ∧ w = w' := by
  cases b
  all_goals
    go_enter Tryz.func145, Tryz.ntmps145
    go_wp2
    go_ret
    exact ⟨rfl, rfl⟩
theorem fmtb_any (b : Bool) (w : World) : Calls Tryz.prog 127 #[.bool b] w fun e w' => e = .returned (.string (bs (if b then [116, 114, 117, 101] else [102, 97, 108, 115, 101]))) ∧ w = w' := by
  have HB := Lib.hid (ifmtb_any b)
  generalize (if b then ([116, 114, 117, 101] : List UInt8) else [102, 97, 108, 115, 101]) = l at *
  go_enter Tryz.func127, Tryz.ntmps127
  go_wp2_with (go_at_call 145; (with_reducible refine (HB.out _).mono ?_); rintro e w' ⟨rfl, rfl⟩)
  go_ret
  exact ⟨rfl, rfl⟩

section
variable {P : Program} {w0 w : World} {L : List BlkE} {rs : List RowE} {J : World → Prop} {g : Nat} {T : TypeId} {t : List UInt8} {ops : Array Oper} {rest : List Oper} {a : Act} {Q : Exit → Act → World → Prop} {tt : TypeId} {pos : String} {af : Array Edge}
theorem l_bxW {ty : TypeId} {d : Tmp} {x : Operand} {cs : Array Value} (hx : a.eval x = .agg cs) (M : WrS w0 w g T L rs J t)
    (h : ∀ g3 w', Hid (WrS w0 w' g T L rs (fun y => J y ∧ Blk y g3 ty cs) t) → wpList P ops Q rest (a.put (some d) (.pointer (some ⟨g3, 0, none⟩))) w') : wpList P ops Q (⟨some d, .box ty x, tt, pos, af, none⟩ :: rest) a w :=
  Great.wpList_boxTo rfl ty x rfl (some d) rfl w.heap.size rfl cs (by rw [hx]; rfl) (h _ _ (Lib.hid (M.alloc ty cs).freeze))
theorem l_alW {ty : TypeId} {n : Nat} {z : Array Value} (F : TyF P ty n z) {d : Tmp} (M : WrS w0 w g T L rs J t)
    (h : ∀ g3 w', Hid (WrS w0 w' g T ((g3, ty, z) :: L) rs J t) → wpList P ops Q rest (a.put (some d) (.pointer (some ⟨g3, 0, none⟩))) w') : wpList P ops Q (⟨some d, .alloc ty, tt, pos, af, none⟩ :: rest) a w := by
  obtain ⟨p, v, M, hp⟩ := M
  exact l_al F M fun g3 w' _ M => h g3 w' (Lib.hid ⟨p, v, M.out.permL' (List.Perm.swap _ _ _), hp⟩)
theorem l_stW {ty : TypeId} {n : Nat} {z : Array Value} (F : TyF P ty n z) {x y : Operand} {k : Nat} {old cs : Array Value} {dst : Option Tmp} (hx : a.eval x = .pointer (some ⟨k, 0, none⟩)) (hy : a.eval y = .agg cs) (M : WrS w0 w g T ((k, ty, old) :: L) rs J t) (hold : old.size = n) (hn : cs.size = n) (h1 : allOne cs.toList = true)
    (h : ∀ w', Hid (WrS w0 w' g T L rs (fun y => J y ∧ Blk y k ty cs) t) → wpList P ops Q rest (a.put dst undef) w') : wpList P ops Q (⟨dst, .store ty x y, tt, pos, af, none⟩ :: rest) a w := by
  obtain ⟨p, v, M, hp⟩ := M
  exact l_st F hx hy M (.there _ (.here _ _)) hold hn h1 fun w' M => h w' (Lib.hid (WrS.freeze ⟨p, v, M.out, hp⟩))
theorem l_lb {ty : TypeId} {n : Nat} {z : Array Value} (F : TyF P ty n z) {dst : Option Tmp} {x : Operand} {k : Nat} {T' : TypeId} {cs : Array Value} (hx : a.eval x = .pointer (some ⟨k, 0, none⟩)) (hb : Blk w k T' cs) (hn : cs.size = n)
    (h : wpList P ops Q rest (a.put dst (.agg cs)) w) : wpList P ops Q (⟨dst, .load ty x, tt, pos, af, none⟩ :: rest) a w := by
  obtain ⟨d, hu, hd⟩ := F.u
  exact wpList_load_row rfl ty x rfl k hx T' cs (0, 0) d hb hu (by cases d <;> first | rfl | cases hd) (by rw [hn]; exact F.s) h
theorem l_l1b {ty : TypeId} (F : OneF P ty) {dst : Option Tmp} {x : Operand} {k j : Nat} {T' : TypeId} {cs : Array Value} {v : Value} (hx : a.eval x = .pointer (some ⟨k, j, none⟩)) (hb : Blk w k T' cs) (hv : cs[j]? = some v)
    (h : wpList P ops Q rest (a.put dst v) w) : wpList P ops Q (⟨dst, .load ty x, tt, pos, af, none⟩ :: rest) a w := l_ldc F hx ((hb.cell j).trans hv) h
end
theorem F_Sd : TyF Tryz.prog 104 6 #[.bool false, .int .i64 0, .int .i64 0, .string ⟨#[]⟩, .bool false, .slice none 0 0] := ⟨⟨_, Tryz.underlying104, rfl⟩, by kernel_rfl, by kernel_rfl⟩
section
variable {w0 : World} {L : List BlkE} {rs : List RowE} {J : World → Prop}
theorem wwsl_any (l : List UInt8) (g : Nat) (T : TypeId) (hT : BT Tryz.prog T) (t : List UInt8) (w : World) (h : WrS w0 w g T L rs J t) (hl : t.length + l.length ≤ 1000000000) : Calls Tryz.prog 56 #[.pointer (some ⟨g, 0, none⟩), .string (bs l)] w fun e w' => e = .returned (.tuple #[.int .i64 (bs l).size, .nilIface]) ∧ WrS w0 w' g T L rs J (t ++ l) := by
  have := wws_any g T hT t (bs l) w h (by rw [bs_size2]; exact hl)
  rwa [bs_list] at this
theorem wwl_any (l : List UInt8) (g : Nat) (T : TypeId) (hT : BT Tryz.prog T) (t : List UInt8) (s : ByteArray) (hs : s.data.toList = l) (w : World) (h : WrS w0 w g T L rs J t) (hl : t.length + l.length ≤ 1000000000) : Calls Tryz.prog 56 #[.pointer (some ⟨g, 0, none⟩), .string s] w fun e w' => e = .returned (.tuple #[.int .i64 s.size, .nilIface]) ∧ WrS w0 w' g T L rs J (t ++ l) := by
  subst hs
  exact wws_any g T hT t s w h (by rw [show s.size = s.data.toList.length from (len_toList s).symm]; exact hl)

set_option maxRecDepth 100000 in
set_option maxHeartbeats 2000000 in
theorem wint_any (n : Int) (hn : okN n) (ht : Tab w0) (g : Nat) (t : List UInt8) (w : World) (h : WrS w0 w g 82 L rs J t) (hl : t.length ≤ 950000000) : Calls Tryz.prog 84 #[.pointer (some ⟨g, 0, none⟩), .int .i64 n] w (fun r w' => r = .returned (.tuple #[]) ∧ WrS w0 w' g 82 L rs J (t ++ intL n)) := by
  have M := Lib.hid h
  have HT := Lib.hid ht
  clear h ht
  go_enter Tryz.func84, Tryz.ntmps84
  go_upto_region 0 with fail
  replace M := Lib.hid M.out.drew
  refine tb (J) M.out.now ?_
  refine tkp 0 rfl M.out.now ?_
  refine tkp 1 rfl M.out.now ?_
  refine tkp 2 rfl M.out.now ?_
  refine tkp 3 rfl M.out.now ?_
  refine tr [4] ?_
  refine rdy_call (fmt_any n hn _ (HT.out.bel M.out.bel0 (Nat.le_refl _))) (i := 4) (op := .call _) rfl (by go_simp) ?_ ?_
  · rintro e_ w' ⟨rfl, hb⟩; replace M := Lib.hid (M.out.bel hb); clear hb; refine ⟨_, rfl, ?_⟩; refine ⟨M.out.now, tn ?_⟩
    refine tr [5] ?_
    refine rdy_call (wwsl_any (intL n) g 82 BT_w t _ M.out (by have := intL_len hn; omega)) (i := 5) (op := .call _) rfl (by go_simp) ?_ ?_
    · rintro e_ w' ⟨rfl, hm⟩; replace M := Lib.hid hm; clear hm; refine ⟨_, rfl, ?_⟩; refine ⟨M.out.now, tn ?_⟩
      refine te ?_
      go_wp2
      go_end0
      exact ⟨rfl, M.out⟩
    exact .nil
  exact .nil
set_option maxRecDepth 100000 in
set_option maxHeartbeats 2000000 in
theorem wtext_any (s : List UInt8) (hs : s.length ≤ 100000000) (hr : runU 0 s = 0) (g : Nat) (t : List UInt8) (w : World) (h : WrS w0 w g 82 L rs J t) (hl : t.length + (txtL 39 s).length ≤ 950000000) : Calls Tryz.prog 83 #[.pointer (some ⟨g, 0, none⟩), .string (bs s)] w (fun r w' => r = .returned (.tuple #[]) ∧ WrS w0 w' g 82 L rs J (t ++ txtL 39 s)) := by
  have M := Lib.hid h
  clear h
  have HE := esingle_any (bs s)
  rw [bs_list, bs_size2] at HE
  have HE := Lib.hid HE
  go_enter Tryz.func83, Tryz.ntmps83
  go_wp2_with (first | (go_at_call 106; (with_reducible refine (HE.out _ hs hr).mono ?_); rintro e w' ⟨rfl, hb⟩; replace M := Lib.hid (M.out.bel hb); clear hb) | (go_at_call 56; (with_reducible refine (wwsl_any (txtL 39 s) g 82 BT_w _ _ M.out (by omega)).mono ?_); rintro e w' ⟨rfl, hm⟩; replace M := Lib.hid hm; clear hm))
  go_end0
  exact ⟨rfl, M.out⟩
set_option maxRecDepth 100000 in
set_option maxHeartbeats 2000000 in
theorem wslice_any (k i a b c : Int) (nm : ByteArray) (ha hb : Bool) (q : Option Addr) (h1 : okN a) (h2 : okN b) (h3 : okN c) (ht : Tab w0) (g : Nat) (t : List UInt8) (w : World) (h : WrS w0 w g 82 L rs J t) (hl : t.length ≤ 910000000) : Calls Tryz.prog 85 #[.pointer (some ⟨g, 0, none⟩), .agg #[.int .i64 k, .string nm, .int .i64 i, .int .i64 a, .int .i64 b, .int .i64 c, .bool ha, .bool hb, .pointer q]] w (fun r w' => r = .returned (.tuple #[]) ∧ WrS w0 w' g 82 L rs J (t ++ sliceW ⟨3, [], 0, a, b, c, ha, hb, none⟩)) := by
  have M := Lib.hid h
  have HT := Lib.hid ht
  clear h ht
  have hla := intL_len h1
  have hlb := intL_len h2
  by_cases hc : c = 1
  · subst hc
    cases ha <;> cases hb
    all_goals
      go_enter Tryz.func85, Tryz.ntmps85
      go_wp2_with (first | ((with_reducible refine g_bx 47 3 ?_); refine l_bxW rfl M.out ?_; clear M; intro g3 w' M) | ((with_reducible refine g_ld 4 ?_); refine l_l1b O_bool rfl (M.out.now.2) (rfl) ?_) | ((with_reducible refine g_ld 2 ?_); refine l_l1b O_i64 rfl (M.out.now.2) (rfl) ?_) | (go_at_call 56; (with_reducible refine (wwl_any [58] g 82 BT_w _ _ (by decide) _ M.out (by (try simp only [List.length_append, List.length_cons, List.length_nil]); omega)).mono ?_); rintro e w' ⟨rfl, hm⟩; replace M := Lib.hid hm; clear hm) | (go_at_call 84; (with_reducible refine (wint_any a h1 HT.out g _ _ M.out (by (try simp only [List.length_append, List.length_cons, List.length_nil]); omega)).mono ?_); rintro e w' ⟨rfl, hm⟩; replace M := Lib.hid hm; clear hm) | (go_at_call 84; (with_reducible refine (wint_any b h2 HT.out g _ _ M.out (by (try simp only [List.length_append, List.length_cons, List.length_nil]); omega)).mono ?_); rintro e w' ⟨rfl, hm⟩; replace M := Lib.hid hm; clear hm))
      go_end0
      exact ⟨rfl, by have h := M.out.imp (J' := J) fun y h => h.1; simpa [sliceW] using h⟩
  · have hc' : (c != 1) = true := by simpa using hc
    cases ha <;> cases hb
    all_goals
      go_enter Tryz.func85, Tryz.ntmps85
      go_wp2_with (first | ((with_reducible refine g_bx 47 3 ?_); refine l_bxW rfl M.out ?_; clear M; intro g3 w' M) | ((with_reducible refine g_ld 4 ?_); refine l_l1b O_bool rfl (M.out.now.2) (rfl) ?_) | ((with_reducible refine g_ld 2 ?_); refine l_l1b O_i64 rfl (M.out.now.2) (rfl) ?_) | (go_at_call 56; (with_reducible refine (wwl_any [58] g 82 BT_w _ _ (by decide) _ M.out (by (try simp only [List.length_append, List.length_cons, List.length_nil]); omega)).mono ?_); rintro e w' ⟨rfl, hm⟩; replace M := Lib.hid hm; clear hm) | (go_at_call 84; (with_reducible refine (wint_any a h1 HT.out g _ _ M.out (by (try simp only [List.length_append, List.length_cons, List.length_nil]); omega)).mono ?_); rintro e w' ⟨rfl, hm⟩; replace M := Lib.hid hm; clear hm) | (go_at_call 84; (with_reducible refine (wint_any b h2 HT.out g _ _ M.out (by (try simp only [List.length_append, List.length_cons, List.length_nil]); omega)).mono ?_); rintro e w' ⟨rfl, hm⟩; replace M := Lib.hid hm; clear hm) | (go_at_call 84; (with_reducible refine (wint_any c h3 HT.out g _ _ M.out (by (try simp only [List.length_append, List.length_cons, List.length_nil]); omega)).mono ?_); rintro e w' ⟨rfl, hm⟩; replace M := Lib.hid hm; clear hm))
      go_end0
      exact ⟨rfl, by have h := M.out.imp (J' := J) fun y h => h.1; simpa [sliceW, hc] using h⟩
/-- An expression at cells is written. -/
def KW (w0 : World) (E : ExprT → List UInt8) (e : ExprT) (cs : List Value) : Prop := ∀ (g : Nat) (L : List BlkE) (rs : List RowE) (J : World → Prop) (t : List UInt8) (w : World), WrS w0 w g 82 L rs J t → t.length + (E e).length ≤ 900000000 → Calls Tryz.prog 86 #[.pointer (some ⟨g, 0, none⟩), .agg cs.toArray] w (fun r w' => r = .returned (.tuple #[]) ∧ WrS w0 w' g 82 L rs J (t ++ E e))
def EW (w0 : World) (E : ExprT → List UInt8) (e : ExprT) : Prop := ∀ (m : Nat) (cs : List Value), ExR (Lw w0) m w0 cs e → cs.length = 17 ∧ allOne cs = true ∧ cs[0]? = some (.int .i64 e.kind) ∧ KW w0 E e cs
variable {N : Nat} {W : ExprT → Prop} {E : ExprT → List UInt8}
set_option maxRecDepth 100000 in
set_option maxHeartbeats 2000000 in
theorem wsel_nm (s : List UInt8) (hs : s.length ≤ 100000000) (hr : runU 0 s = 0) (g : Nat) (t : List UInt8) (w : World) (h : WrS w0 w g 82 L rs J t) (hl : t.length + (txtL 39 s).length ≤ 900000000) : Calls Tryz.prog 57 #[.pointer (some ⟨g, 0, none⟩), .agg #[.int .i64 0, .string (bs s), .int .i64 0, .int .i64 0, .int .i64 0, .int .i64 0, .bool false, .bool false, .pointer none]] w (fun r w' => r = .returned (.tuple #[]) ∧ WrS w0 w' g 82 L rs J (t ++ txtL 39 s)) := by
  have M := Lib.hid h
  clear h
  go_enter Tryz.func57, Tryz.ntmps57
  go_wp2_with (first | ((with_reducible refine g_bx 47 3 ?_); refine l_bxW rfl M.out ?_; clear M; intro g3 w' M) | ((with_reducible refine g_ld 3 ?_); refine l_l1b O_int rfl (M.out.now.2) (rfl) ?_) | ((with_reducible refine g_ld 9 ?_); refine l_l1b O_str rfl (M.out.now.2) (rfl) ?_) | (go_at_call 83; (with_reducible refine (wtext_any s hs hr g _ _ M.out (by omega)).mono ?_); rintro e w' ⟨rfl, hm⟩; replace M := Lib.hid hm; clear hm))
  go_end0
  exact ⟨rfl, by have h := M.out.imp (J' := J) fun y h => h.1; simpa using h⟩
set_option maxRecDepth 100000 in
set_option maxHeartbeats 2000000 in
theorem wsel_wild  (g : Nat) (t : List UInt8) (w : World) (h : WrS w0 w g 82 L rs J t) (hl : t.length + ([42]).length ≤ 900000000) : Calls Tryz.prog 57 #[.pointer (some ⟨g, 0, none⟩), .agg #[.int .i64 1, .string ⟨#[]⟩, .int .i64 0, .int .i64 0, .int .i64 0, .int .i64 0, .bool false, .bool false, .pointer none]] w (fun r w' => r = .returned (.tuple #[]) ∧ WrS w0 w' g 82 L rs J (t ++ [42])) := by
  have M := Lib.hid h
  clear h
  go_enter Tryz.func57, Tryz.ntmps57
  go_wp2_with (first | ((with_reducible refine g_bx 47 3 ?_); refine l_bxW rfl M.out ?_; clear M; intro g3 w' M) | ((with_reducible refine g_ld 3 ?_); refine l_l1b O_int rfl (M.out.now.2) (rfl) ?_) | (go_at_call 56; (with_reducible refine (wwl_any [42] g 82 BT_w _ _ (by decide) _ M.out (by simp at hl ⊢; omega)).mono ?_); rintro e w' ⟨rfl, hm⟩; replace M := Lib.hid hm; clear hm))
  go_end0
  exact ⟨rfl, by have h := M.out.imp (J' := J) fun y h => h.1; simpa using h⟩
set_option maxRecDepth 100000 in
set_option maxHeartbeats 2000000 in
theorem wsel_idx (n : Int) (hn : okN n) (ht : Tab w0) (g : Nat) (t : List UInt8) (w : World) (h : WrS w0 w g 82 L rs J t) (hl : t.length + (intL n).length ≤ 900000000) : Calls Tryz.prog 57 #[.pointer (some ⟨g, 0, none⟩), .agg #[.int .i64 2, .string ⟨#[]⟩, .int .i64 n, .int .i64 0, .int .i64 0, .int .i64 0, .bool false, .bool false, .pointer none]] w (fun r w' => r = .returned (.tuple #[]) ∧ WrS w0 w' g 82 L rs J (t ++ intL n)) := by
  have M := Lib.hid h
  clear h
  have HT := Lib.hid ht
  clear ht
  go_enter Tryz.func57, Tryz.ntmps57
  go_wp2_with (first | ((with_reducible refine g_bx 47 3 ?_); refine l_bxW rfl M.out ?_; clear M; intro g3 w' M) | ((with_reducible refine g_ld 3 ?_); refine l_l1b O_int rfl (M.out.now.2) (rfl) ?_) | ((with_reducible refine g_ld 2 ?_); refine l_l1b O_i64 rfl (M.out.now.2) (rfl) ?_) | (go_at_call 84; (with_reducible refine (wint_any n hn HT.out g _ _ M.out (by (try simp only [List.length_append, List.length_cons, List.length_nil]); omega)).mono ?_); rintro e w' ⟨rfl, hm⟩; replace M := Lib.hid hm; clear hm))
  go_end0
  exact ⟨rfl, by have h := M.out.imp (J' := J) fun y h => h.1; simpa using h⟩
set_option maxRecDepth 100000 in
set_option maxHeartbeats 2000000 in
theorem wsel_slice (a b c : Int) (ha hb : Bool) (h1 : okN a) (h2 : okN b) (h3 : okN c) (ht : Tab w0) (g : Nat) (t : List UInt8) (w : World) (h : WrS w0 w g 82 L rs J t) (hl : t.length + (sliceW ⟨3, [], 0, a, b, c, ha, hb, none⟩).length ≤ 900000000) : Calls Tryz.prog 57 #[.pointer (some ⟨g, 0, none⟩), .agg #[.int .i64 3, .string ⟨#[]⟩, .int .i64 0, .int .i64 a, .int .i64 b, .int .i64 c, .bool ha, .bool hb, .pointer none]] w (fun r w' => r = .returned (.tuple #[]) ∧ WrS w0 w' g 82 L rs J (t ++ sliceW ⟨3, [], 0, a, b, c, ha, hb, none⟩)) := by
  have M := Lib.hid h
  clear h
  have HT := Lib.hid ht
  clear ht
  go_enter Tryz.func57, Tryz.ntmps57
  go_wp2_with (first | ((with_reducible refine g_bx 47 3 ?_); refine l_bxW rfl M.out ?_; clear M; intro g3 w' M) | ((with_reducible refine g_ld 3 ?_); refine l_l1b O_int rfl (M.out.now.2) (rfl) ?_) | ((with_reducible refine g_ld 47 ?_); refine l_lb F_Sel rfl (M.out.now.2) rfl ?_) | (go_at_call 85; (with_reducible refine (wslice_any 3 0 a b c ⟨#[]⟩ ha hb none h1 h2 h3 HT.out g _ _ M.out (by omega)).mono ?_); rintro e w' ⟨rfl, hm⟩; replace M := Lib.hid hm; clear hm))
  go_end0
  exact ⟨rfl, by have h := M.out.imp (J' := J) fun y h => h.1; simpa using h⟩
set_option maxRecDepth 100000 in
set_option maxHeartbeats 2000000 in
theorem wsel_filt (e : ExprT) (b off : Nat) (kc : List Value) (hb : b < w0.heap.size) (hkn : kc.length = 17) (hra : w0.rangeAt b off kc) (hk : KW w0 E e kc) (g : Nat) (t : List UInt8) (w : World) (h : WrS w0 w g 82 L rs J t) (hl : t.length + (63 :: E e).length ≤ 900000000) : Calls Tryz.prog 57 #[.pointer (some ⟨g, 0, none⟩), .agg #[.int .i64 4, .string ⟨#[]⟩, .int .i64 0, .int .i64 0, .int .i64 0, .int .i64 0, .bool false, .bool false, .pointer (some ⟨b, off, none⟩)]] w (fun r w' => r = .returned (.tuple #[]) ∧ WrS w0 w' g 82 L rs J (t ++ 63 :: E e)) := by
  have M := Lib.hid h
  clear h
  have HBT := Lib.hid hb
  have HKN := Lib.hid hkn
  have HRA := Lib.hid hra
  unfold KW at hk
  have HK := Lib.hid hk
  clear hb hkn hra hk
  go_enter Tryz.func57, Tryz.ntmps57
  go_wp2_with (first | ((with_reducible refine g_bx 47 3 ?_); refine l_bxW rfl M.out ?_; clear M; intro g3 w' M) | ((with_reducible refine g_ld 3 ?_); refine l_l1b O_int rfl (M.out.now.2) (rfl) ?_) | (go_at_call 56; (with_reducible refine (wwl_any [63] g 82 BT_w _ _ (by decide) _ M.out (by simp at hl ⊢; omega)).mono ?_); rintro e w' ⟨rfl, hm⟩; replace M := Lib.hid hm; clear hm) | ((with_reducible refine g_ld 45 ?_); refine l_l1b O_pex rfl (M.out.now.2) (rfl) ?_) | ((with_reducible refine g_ld 106 ?_); refine l_ldf F_Ex rfl (fun j v hv => (World.cell?_of_block (M.out.bel0.block b HBT.out)).trans (HRA.out j v hv)) HKN.out ?_) | (go_at_call 86; (with_reducible refine (HK.out _ _ _ _ _ _ M.out (by simp at hl ⊢; omega)).mono ?_); rintro e w' ⟨rfl, hm⟩; replace M := Lib.hid hm; clear hm))
  go_end0
  exact ⟨rfl, by have h := M.out.imp (J' := J) fun y h => h.1; simpa using h⟩
theorem wsel_any (hN : N ≤ 100000000) (x : SelT) (q : Option Addr) (m : Nat) (hx : WfS (SS N) W x) (hp : PtrG (Lw w0) (ExR (Lw w0) m w0) w0 (.pointer q) x.f) (hE : ∀ e, W e → EW w0 E e) (ht : Tab w0) (g : Nat) (t : List UInt8) (w : World) (h : WrS w0 w g 82 L rs J t) (hl : t.length + (selW E x).length ≤ 900000000) : Calls Tryz.prog 57 #[.pointer (some ⟨g, 0, none⟩), .agg (selL x (.pointer q)).toArray] w (fun r w' => r = .returned (.tuple #[]) ∧ WrS w0 w' g 82 L rs J (t ++ selW E x)) := by
  cases hx with
  | nm s a =>
    rw [show selW E ⟨0, s, 0, 0, 0, 0, false, false, none⟩ = txtL 39 s from by unfold selW; simp] at hl ⊢
    cases hp
    exact wsel_nm s (Nat.le_trans a.1 hN) a.2 g t w h hl
  | wild =>
    rw [show selW E ⟨1, [], 0, 0, 0, 0, false, false, none⟩ = [42] from by unfold selW; simp] at hl ⊢
    cases hp
    exact wsel_wild g t w h hl
  | idx n a =>
    rw [show selW E ⟨2, [], n, 0, 0, 0, false, false, none⟩ = intL n from by unfold selW; simp] at hl ⊢
    cases hp
    exact wsel_idx n a ht g t w h hl
  | slice a b c ha hb a1 a2 a3 a4 a5 =>
    rw [show selW E ⟨3, [], 0, a, b, c, ha, hb, none⟩ = sliceW ⟨3, [], 0, a, b, c, ha, hb, none⟩ from by unfold selW; simp] at hl ⊢
    cases hp
    exact wsel_slice a b c ha hb a1 a2 a3 ht g t w h hl
  | filt e a =>
    rw [show selW E ⟨4, [], 0, 0, 0, 0, false, false, some e⟩ = 63 :: E e from by unfold selW; simp] at hl ⊢
    obtain ⟨b, off, cs, he, hK, hb, hn, hc, hr⟩ := hp
    cases he
    obtain ⟨_, _, _, hkw⟩ := hE e a m cs hr
    exact wsel_filt e b off cs hb hn hc hkw g t w h hl
end

end
/- qshow: a path, a side, an expression are written; Show (printed by gen_zn.py). -/
section
open Go.RowKit

theorem joinW_snoc {α : Type} (sep : List UInt8) (f : α → List UInt8) (x : α) : ∀ l : List α, joinW sep f (l ++ [x]) = (if l.length = 0 then [] else joinW sep f l ++ sep) ++ f x
  | [] => rfl
  | [y] => by simp [joinW]
  | y :: z :: r => by
    have := joinW_snoc sep f x (z :: r)
    rw [if_neg (by simp)] at this ⊢
    rw [show y :: z :: r ++ [x] = y :: z :: (r ++ [x]) from rfl, joinW, joinW]
    rw [show z :: r ++ [x] = z :: (r ++ [x]) from rfl] at this
    rw [this]; simp
theorem joinW_mono {α : Type} (sep : List UInt8) (f : α → List UInt8) : ∀ a b : List α, (joinW sep f a).length ≤ (joinW sep f (a ++ b)).length
  | [], b => Nat.zero_le _
  | [x], [] => Nat.le_refl _
  | [x], y :: r => by rw [show [x] ++ y :: r = x :: y :: r from rfl, joinW, joinW, List.length_append, List.length_append]; omega
  | x :: y :: r, b => by
    have := joinW_mono sep f (y :: r) b
    rw [show x :: y :: r ++ b = x :: y :: (r ++ b) from rfl, joinW, joinW, List.length_append, List.length_append, List.length_append, List.length_append]
    rw [show y :: r ++ b = y :: (r ++ b) from rfl] at this
    omega
theorem RowG.get {α : Type} {k : Nat} {R : List Value → α → Prop} {w : World} {v : Value} {l : List α} (h : RowG (Lw w) k R w v l) : ∃ A cap, v = .slice A l.length cap ∧ l.length ≤ 9223372036854775807 ∧ ∀ (i : Nat) (x : α), l[i]? = some x → ∃ b off cs, A = some ⟨b, off, none⟩ ∧ b < w.heap.size ∧ cs.length = k ∧ w.rangeAt b (off + i * k) cs ∧ R cs x := by
  obtain ⟨A, cap, rfl, hcp, h⟩ := h
  refine ⟨A, cap, rfl, by omega, fun i x hx => ?_⟩
  rcases h with rfl | ⟨b, off, rfl, hb, _, hc⟩
  · simp at hx
  · obtain ⟨cs, h1, h2, h3⟩ := hc i x hx
    exact ⟨b, off, cs, rfl, hb, h1, h2, h3⟩
theorem PtrG.ptr {K : Nat → Prop} {R : List Value → ExprT → Prop} {w : World} {v : Value} {f : Option ExprT} (h : PtrG K R w v f) : ∃ q, v = .pointer q := by
  cases f with
  | none => exact ⟨_, h⟩
  | some e => obtain ⟨b, off, cs, h, _⟩ := h; exact ⟨_, h⟩
section
variable {w0 : World} {L : List BlkE} {rs : List RowE} {J : World → Prop} {N : Nat} {W : ExprT → Prop} {E : ExprT → List UInt8}
set_option maxRecDepth 100000 in
set_option maxHeartbeats 2000000 in
theorem wpath_any (hN : N ≤ 100000000) (p : PathT) (v : Value) (m : Nat) (hp : WfP (SS N) W p) (hv : SegsG (Lw w0) (ExR (Lw w0) m w0) w0 v p.segs) (hE : ∀ e, W e → EW w0 E e) (ht : Tab w0) (g : Nat) (t : List UInt8) (w : World) (h : WrS w0 w g 82 L rs J t) (hl : t.length + (pathW E p).length ≤ 900000000) : Calls Tryz.prog 34 #[.pointer (some ⟨g, 0, none⟩), .agg #[.bool p.abs, v]] w (fun r w' => r = .returned (.tuple #[]) ∧ WrS w0 w' g 82 L rs J (t ++ pathW E p)) := by
  obtain ⟨A, cap, rfl, hsl, hG⟩ := RowG.get hv
  obtain ⟨ab, segs⟩ := p
  simp only at hG hsl
  have M := Lib.hid h
  have HG := Lib.hid hG
  have HP := Lib.hid hp
  have HE := Lib.hid hE
  have HT := Lib.hid ht
  have HN := Lib.hid hN
  have HL := Lib.hid (show t.length + 1 + (segs.flatMap (segW E)).length ≤ 900000000 from by unfold pathW at hl; rw [List.length_cons] at hl; simp only at hl; omega)
  have hl1 : t.length ≤ 900000000 := by omega
  clear h hG hp hv hE ht hN hl
  go_enter Tryz.func34, Tryz.ntmps34
  let qd := bodyPost Tryz.prog Tryz.f34 (fun _ _ => True)
  obtain ⟨c, hc⟩ : ∃ c : UInt8, (if ab then 36 else 64) = c := ⟨_, rfl⟩
  have HC := Lib.hid hc
  clear hc
  go_upto_if 9 with (first | ((with_reducible refine g_bx 37 3 ?_); refine l_bxW rfl M.out ?_; clear M; intro g3 w' M) | ((with_reducible refine g_ld 4 ?_); refine l_l1b O_bool rfl (M.out.now.2) (rfl) ?_))
  (try simp only [Act.put, List.setIfInBounds_toArray, List.set_cons_zero, List.set_cons_succ])
  go_cut [10, 11, 12, 13, 14, 15, 16, 17] (fun _ _ _ _ _ _ _ _ wx => Hid (WrS w0 wx g 82 L rs (fun y => J y ∧ Blk y g3 37 #[.bool ab, .slice A segs.length cap]) (t ++ [c])))
  case first =>
    cases ab
    all_goals
      go_wp2_with (first | ((with_reducible refine g_ld 4 ?_); refine l_l1b O_bool rfl (M.out.now.2) (rfl) ?_) | (go_at_call 56; (with_reducible refine (wwl_any [36] g 82 BT_w _ _ (by decide) _ M.out (by first | omega | (simp only [List.length_cons, List.length_nil]; omega))).mono ?_); rintro e w' ⟨rfl, hm⟩; replace M := Lib.hid hm; clear hm) | (go_at_call 56; (with_reducible refine (wwl_any [64] g 82 BT_w _ _ (by decide) _ M.out (by first | omega | (simp only [List.length_cons, List.length_nil]; omega))).mono ?_); rintro e w' ⟨rfl, hm⟩; replace M := Lib.hid hm; clear hm))
      go_meet
      case rel => exact Lib.hid (by rw [← HC.out]; exact M.out)
  case rest =>
    clear M
    have M := hcut
    clear hcut
    go_upto_region 5 with ((with_reducible refine g_ld 35 ?_); refine l_l1b O_sSeg rfl (M.out.now.2) (rfl) ?_)
    replace M := Lib.hid (M.out.imp (J' := J) fun y h => h.1)
    go_wp2
    go_loopg [21] segs.length (fun gk kk wr => ∃ Pd Rd : List SegT, gk = Rd.length ∧ Hid (segs = Pd ++ Rd) ∧ kk = .int .i64 (Pd.length : Nat) ∧ Hid (WrS w0 wr g 82 L rs (J) (t ++ [c] ++ Pd.flatMap (segW E))))
    case atStart => exact ⟨[], segs, rfl, Lib.hid rfl, rfl, Lib.hid (by simpa using M.out)⟩
    case round =>
      clear M
      obtain ⟨Pd, Rd0, hgk, HD, rfl, M⟩ := hrel
      have HGK := Lib.hid hgk
      clear hgk
      cases Rd0 with
      | cons s Rd =>
        have HI := Lib.hid (show segs[Pd.length]? = some s from by rw [HD.out, List.getElem?_append_right (Nat.le_refl _), Nat.sub_self]; rfl)
        obtain ⟨b, off, cs, hqA, hbT, -, hra, hsc⟩ := HG.out _ _ HI.out
        subst hqA
        obtain ⟨sv, rfl, hrow⟩ := hsc
        obtain ⟨A2, c2, rfl, hsl2, hG2⟩ := RowG.get hrow
        have HG2 := Lib.hid hG2
        have HRA := Lib.hid hra
        have HBT := Lib.hid hbT
        have hlt : (Pd.length : Int) < (segs.length : Int) := by have := (List.getElem?_eq_some_iff.1 HI.out).1; omega
        have HWS := Lib.hid (HP.out s (List.mem_of_getElem? HI.out)).2
        clear hG2 hra hbT hrow
        have HX := Lib.hid (show t ++ [c] ++ (Pd ++ [s]).flatMap (segW E) = t ++ [c] ++ Pd.flatMap (segW E) ++ segW E s from by simp)
        have hxl : (t ++ [c] ++ Pd.flatMap (segW E)).length + (segW E s).length ≤ 900000000 := by
          have := HL.out
          rw [HD.out, List.flatMap_append, List.flatMap_cons, List.length_append, List.length_append] at this
          rw [List.length_append, List.length_append, List.length_singleton]; omega
        obtain ⟨X0, hX0⟩ : ∃ X0, t ++ [c] ++ Pd.flatMap (segW E) = X0 := ⟨_, rfl⟩
        rw [hX0] at M HX hxl
        clear hX0
        obtain ⟨dp, sels⟩ := s
        simp only at HG2 HWS hsl2
        have HSG := Lib.hid (show segW E ⟨dp, sels⟩ = (if dp then [46, 46] else []) ++ [91] ++ joinW [44, 32] (selW E) sels ++ [93] from by unfold segW; simp)
        rw [HSG.out] at hxl
        simp only [List.length_append, List.length_cons, List.length_nil] at hxl
        go_upto_if 26 with (first | ((with_reducible refine g_ld 44 ?_); refine l_ldf F_Seg rfl (fun j v hv => (World.cell?_of_block (M.out.bel0.block b HBT.out)).trans (HRA.out j v hv)) rfl ?_) | ((with_reducible refine g_al 44 5 ?_); refine l_alW F_Seg M.out ?_; clear M; intro g5 w' M) | ((with_reducible refine g_st 44 ?_); refine l_stW F_Seg rfl rfl M.out (by exact rfl) (by exact rfl) (by exact rfl) ?_; clear M; intro w' M) | ((with_reducible refine g_ld 4 ?_); refine l_l1b O_bool rfl (M.out.now.2) (rfl) ?_))
        (try simp only [Act.put, List.setIfInBounds_toArray, List.set_cons_zero, List.set_cons_succ])
        obtain ⟨dd, hdd⟩ : ∃ dd : List UInt8, (if dp then [46, 46] else []) = dd := ⟨_, rfl⟩
        rw [hdd] at hxl
        have HDD := Lib.hid hdd
        clear hdd
        go_cut [27, 28, 29, 30] (fun _ _ _ _ wx => Hid (WrS w0 wx g 82 L rs (fun y => J y ∧ Blk y g5 44 #[.bool dp, .slice A2 sels.length c2]) (X0 ++ dd)))
        case first =>
          cases dp
          · go_wp2_with (first | ((with_reducible refine g_ld 4 ?_); refine l_l1b O_bool rfl (M.out.now.2) (rfl) ?_))
            go_meet
            case rel => exact Lib.hid (by rw [← HDD.out]; have h := M.out; simpa using h)
          · go_wp2_with (first | ((with_reducible refine g_ld 4 ?_); refine l_l1b O_bool rfl (M.out.now.2) (rfl) ?_) | (go_at_call 56; (with_reducible refine (wwl_any [46, 46] g 82 BT_w _ _ (by decide) _ M.out (by first | omega | (simp only [List.length_cons, List.length_nil]; omega))).mono ?_); rintro e w' ⟨rfl, hm⟩; replace M := Lib.hid hm; clear hm))
            go_meet
            case rel => exact Lib.hid (by rw [← HDD.out]; exact M.out)
        case rest =>
          clear M
          have M := hcut
          clear hcut
          go_upto_region 11 with (first | ((with_reducible refine g_ld 42 ?_); refine l_l1b O_sSel rfl (M.out.now.2) (rfl) ?_) | (go_at_call 56; (with_reducible refine (wwl_any [91] g 82 BT_w _ _ (by decide) _ M.out (by first | omega | (simp only [List.length_append, List.length_cons, List.length_nil]; omega))).mono ?_); rintro e w' ⟨rfl, hm⟩; replace M := Lib.hid hm; clear hm))
          replace M := Lib.hid (M.out.imp (J' := J) fun y h => h.1)
          obtain ⟨X, hX⟩ : ∃ X, X0 ++ dd ++ [91] = X := ⟨_, rfl⟩
          have hXl : X.length + (joinW [44, 32] (selW E) sels).length + 1 ≤ 900000000 := by rw [← hX, List.length_append, List.length_append, List.length_singleton]; omega
          rw [hX] at M
          have HXX := Lib.hid hX
          clear hX hxl
          go_wp2
          go_loopg [38] sels.length (fun gk kk wr => ∃ Yd Yr : List SelT, gk = Yr.length ∧ Hid (sels = Yd ++ Yr) ∧ kk = .int .i64 (Yd.length : Nat) ∧ Hid (WrS w0 wr g 82 L rs (J) (X ++ joinW [44, 32] (selW E) Yd)))
          case atStart => exact ⟨[], sels, rfl, Lib.hid rfl, rfl, Lib.hid (by simpa [joinW] using M.out)⟩
          case round =>
            clear M
            obtain ⟨Yd, Yr0, hgy, HY, rfl, M⟩ := hrel
            have HGY := Lib.hid hgy
            clear hgy
            cases Yr0 with
            | cons z Yr =>
              have HIz := Lib.hid (show sels[Yd.length]? = some z from by rw [HY.out, List.getElem?_append_right (Nat.le_refl _), Nat.sub_self]; rfl)
              obtain ⟨b2, off2, cs2, hA2, hb2, -, hra2, hsel⟩ := HG2.out _ _ HIz.out
              subst hA2
              obtain ⟨pv, rfl, hptr⟩ := hsel
              obtain ⟨q, rfl⟩ := hptr.ptr
              have HPT := Lib.hid hptr
              have HB2 := Lib.hid hb2
              have HWZ := Lib.hid (HWS.out z (List.mem_of_getElem? HIz.out))
              have hyi : (Yd.length : Int) < (sels.length : Int) := by have := (List.getElem?_eq_some_iff.1 HIz.out).1; omega
              have HJ := Lib.hid (joinW_snoc [44, 32] (selW E) z Yd)
              have hjl : X.length + (joinW [44, 32] (selW E) (Yd ++ [z])).length ≤ 900000000 := by
                have h1 : (joinW [44, 32] (selW E) (Yd ++ [z])).length ≤ (joinW [44, 32] (selW E) sels).length := by rw [HY.out, show Yd ++ z :: Yr = (Yd ++ [z]) ++ Yr from by simp]; exact joinW_mono _ _ _ _
                omega
              rw [HJ.out] at hjl
              obtain ⟨k, hk⟩ : ∃ k, Yd.length = k := ⟨_, rfl⟩
              rw [hk] at hjl hyi hra2
              have HR2 := Lib.hid hra2
              clear hptr hra2 hb2
              have HK := Lib.hid hk
              rw [hk]
              obtain ⟨YJ, hYJ⟩ : ∃ YJ, joinW [44, 32] (selW E) Yd = YJ := ⟨_, rfl⟩
              rw [hYJ] at M hjl
              have HYJ := Lib.hid hYJ
              clear hk hYJ
              by_cases hk0 : k = 0
              · have hd1 : decide (0 < k) = false := by simp; omega
                have hd2 : decide ((0 : Int) < (k : Int)) = false := by simp; omega
                rw [if_pos hk0, List.nil_append] at hjl
                have HK0 := Lib.hid hk0
                have HY0 := Lib.hid (show YJ = [] from by have := List.eq_nil_of_length_eq_zero (HK.out.trans hk0); rw [← HYJ.out, this]; rfl)
                clear hk0
                go_wp2_with (first | ((with_reducible refine g_ld 47 ?_); refine l_ldf F_Sel rfl (fun j v hv => (World.cell?_of_block (M.out.bel0.block b2 HB2.out)).trans (HR2.out j v hv)) rfl ?_) | ((with_reducible refine g_al 47 7 ?_); refine l_alW F_Sel M.out ?_; clear M; intro g7 w' M) | ((with_reducible refine g_st 47 ?_); refine l_stW F_Sel rfl rfl M.out (by exact rfl) (by exact rfl) (by exact rfl) ?_; clear M; intro w' M) | ((with_reducible refine g_ld 47 ?_); refine l_lb F_Sel rfl (M.out.now.2) rfl ?_) | (go_at_call 57; (with_reducible refine (wsel_any HN.out z q m HWZ.out HPT.out HE.out HT.out g _ _ M.out (by rw [HY0.out, List.append_nil]; omega)).mono ?_); rintro e w' ⟨rfl, hm⟩; replace M := Lib.hid hm; clear hm))
                go_roundg Yr.length
                case measure => first | (rw [HGY.out]; simp; done) | (simp; done)
                case rel => exact ⟨Yd ++ [z], Yr, rfl, Lib.hid (by rw [HY.out]; simp), by rw [List.length_append, HK.out]; go_num, Lib.hid (by
                    have h := M.out.imp (J' := J) fun y h => h.1
                    rw [HJ.out, HK.out, if_pos HK0.out, List.nil_append]
                    rw [HY0.out, List.append_nil] at h
                    exact h)⟩
              · have hd1 : decide (0 < k) = true := by simp; omega
                have hd2 : decide ((0 : Int) < (k : Int)) = true := by simp; omega
                rw [if_neg hk0, List.length_append, List.length_append] at hjl
                have HK0 := Lib.hid hk0
                clear hk0
                simp only [List.length_cons, List.length_nil] at hjl
                go_wp2_with (first | ((with_reducible refine g_ld 47 ?_); refine l_ldf F_Sel rfl (fun j v hv => (World.cell?_of_block (M.out.bel0.block b2 HB2.out)).trans (HR2.out j v hv)) rfl ?_) | ((with_reducible refine g_al 47 7 ?_); refine l_alW F_Sel M.out ?_; clear M; intro g7 w' M) | ((with_reducible refine g_st 47 ?_); refine l_stW F_Sel rfl rfl M.out (by exact rfl) (by exact rfl) (by exact rfl) ?_; clear M; intro w' M) | ((with_reducible refine g_ld 47 ?_); refine l_lb F_Sel rfl (M.out.now.2) rfl ?_) | (go_at_call 56; (with_reducible refine (wwl_any [44, 32] g 82 BT_w _ _ (by decide) _ M.out (by first | omega | (simp only [List.length_append, List.length_cons, List.length_nil]; omega))).mono ?_); rintro e w' ⟨rfl, hm⟩; replace M := Lib.hid hm; clear hm) | (go_at_call 57; (with_reducible refine (wsel_any HN.out z q m HWZ.out HPT.out HE.out HT.out g _ _ M.out (by first | omega | (simp only [List.length_append, List.length_cons, List.length_nil]; omega))).mono ?_); rintro e w' ⟨rfl, hm⟩; replace M := Lib.hid hm; clear hm))
                go_roundg Yr.length
                case measure => first | (rw [HGY.out]; simp; done) | (simp; done)
                case rel => exact ⟨Yd ++ [z], Yr, rfl, Lib.hid (by rw [HY.out]; simp), by rw [List.length_append, HK.out]; go_num, Lib.hid (by
                    have h := M.out.imp (J' := J) fun y h => h.1
                    rw [HJ.out, HK.out, if_neg HK0.out, HYJ.out]
                    simpa using h)⟩
            | nil =>
              obtain rfl : sels = Yd := by simpa using HY.out
              have hnl : ¬ (sels.length : Int) < (sels.length : Int) := by omega
              go_wp2_with (first | (go_at_call 56; (with_reducible refine (wwl_any [93] g 82 BT_w _ _ (by decide) _ M.out (by first | omega | (simp only [List.length_append, List.length_cons, List.length_nil]; omega))).mono ?_); rintro e w' ⟨rfl, hm⟩; replace M := Lib.hid hm; clear hm))
              go_roundg Rd.length
              case measure => first | (rw [HGK.out]; simp; done) | (simp; done)
              case rel => exact ⟨Pd ++ [⟨dp, sels⟩], Rd, rfl, Lib.hid (by rw [HD.out]; simp), by first | go_num | simp, Lib.hid (by
                    have h := M.out
                    rw [HX.out, HSG.out, HDD.out]
                    rw [← HXX.out] at h
                    simpa using h)⟩
      | nil =>
        obtain rfl : segs = Pd := by simpa using HD.out
        have hnl : ¬ (segs.length : Int) < (segs.length : Int) := by omega
        go_wp2
        go_end0
        exact ⟨rfl, by have h := M.out; rw [← HC.out] at h; unfold pathW; simpa using h⟩

end

end

end Go.Proofs.YtpcbcodmocmilaaGreatDoor
