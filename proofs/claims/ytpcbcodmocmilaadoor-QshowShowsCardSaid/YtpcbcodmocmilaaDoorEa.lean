/- Strings put together: laws; laceworkref18.Int, laceworkref11.Between (printed by gen_ea.py). -/
import Derived.Lib.ItoaMem
import Derived.Test.YtpcbcodmocmilaaDoorZm
namespace Go.Proofs.YtpcbcodmocmilaaDoor
open Go.RowKit

section
variable {X : List Nat} {w0 w : World} {L : List BlkE} {rs : List RowE} {J S : World → Prop} {ops : Array Oper} {rest : List Oper} {a : Act} {Q : Exit → Act → World → Prop} {K : Act → World → Prop} {md : Region.Mode} {fuel i : Nat} {listed : Array Bool} {is : List Nat} {dst : Option Tmp} {tt : TypeId} {pos : String} {af : Array Edge} {gd : Option (Nat × Bool)}
theorem g_cat {x y : Operand} (h : wpList Tryd.prog ops Q (⟨dst, .binOp .add 9 x y 9, tt, pos, af, none⟩ :: rest) a w) : wpList Tryd.prog ops Q (⟨dst, .binOp .add 9 x y 9, tt, pos, af, none⟩ :: rest) a w := h
theorem g_cv {x : Operand} (h : wpList Tryd.prog ops Q (⟨dst, .convert 57 9 x, tt, pos, af, none⟩ :: rest) a w) : wpList Tryd.prog ops Q (⟨dst, .convert 57 9 x, tt, pos, af, none⟩ :: rest) a w := h
theorem o_cat {x y : Operand} {l m : List UInt8} (hx : a.eval x = .string (bs l)) (hy : a.eval y = .string (bs m)) (hb : l.length + m.length ≤ 4000000000) (h : K (a.put dst (.string (bs (l ++ m)))) w) : Oper.wp Tryd.prog ⟨dst, .binOp .add 9 x y 9, tt, pos, af, gd⟩ a w K Q := by
  unfold Oper.wp execOp
  simp only [hx, hy]
  go_simp
  rw [if_neg (show ¬ 9223372036854775807 < (bs l).size + (bs m).size by rw [bs_size2, bs_size2]; omega), bs_app2]
  exact h
theorem l_cat {x y : Operand} {l m : List UInt8} (hx : a.eval x = .string (bs l)) (hy : a.eval y = .string (bs m)) (hb : l.length + m.length ≤ 4000000000) (h : wpList Tryd.prog ops Q rest (a.put dst (.string (bs (l ++ m)))) w) : wpList Tryd.prog ops Q (⟨dst, .binOp .add 9 x y 9, tt, pos, af, none⟩ :: rest) a w :=
  wpList_plain rfl fun _ hK => o_cat hx hy hb (hK _ _ h)
theorem nums_bs (l : List UInt8) : strOfNums (l.map fun c => (c.toNat : Int)) = bs l := by
  unfold strOfNums bs
  rw [List.map_map]
  congr 2
  conv => rhs; rw [← List.map_id l]
  exact List.map_congr_left fun c _ => by simp
theorem o_cv {x : Operand} {k n c : Nat} {T : TypeId} {l : List UInt8} {cs : Array Value} (hx : a.eval x = .slice (some ⟨k, 0, none⟩) n c) (hb : Blk w k T cs) (hcs : cs = (byC l).toArray) (hn : l.length = n) (h : K (a.put dst (.string (bs l))) w) : Oper.wp Tryd.prog ⟨dst, .convert 57 9 x, tt, pos, af, gd⟩ a w K Q := by
  have hr : (convert 57 9 (.slice (some ⟨k, 0, none⟩) n c)).run Tryd.prog w = .ok (.string (bs l)) w := by
    rw [← nums_bs]
    refine run_convert_bytes_arg (P := Tryd.prog) _ 57 5 Tryd.underlying57 Tryd.underlying5 k 0 n c _ (by simpa using hn) (fun i hi => ?_) 9 Tryd.underlying9
    rw [Nat.zero_add, hb.cell i, hcs]
    unfold byC Lib.byteCells
    simp [List.getD, List.getElem?_eq_getElem (show i < l.length by omega)]
  unfold Oper.wp execOp
  simp only [hx]
  go_simp
  exact h
set_option maxRecDepth 100000 in
theorem l_cv {x : Operand} {k n c : Nat} {T : TypeId} {l : List UInt8} {cs : Array Value} (hx : a.eval x = .slice (some ⟨k, 0, none⟩) n c) (M : Own X w0 w L rs J) (hm : (k, T, cs) ∈ L) (hcs : cs = (byC l).toArray) (hn : l.length = n) (h : wpList Tryd.prog ops Q rest (a.put dst (.string (bs l))) w) : wpList Tryd.prog ops Q (⟨dst, .convert 57 9 x, tt, pos, af, none⟩ :: rest) a w :=
  wpList_plain rfl fun _ hK => o_cv hx (M.blk _ hm) hcs hn (hK _ _ h)
set_option maxRecDepth 100000 in
theorem r_cv {x : Operand} {k n c : Nat} {T : TypeId} {l : List UInt8} {cs : Array Value} (ho : ops[i]? = some ⟨dst, .convert 57 9 x, tt, pos, af, none⟩) (hx : a.eval x = .slice (some ⟨k, 0, none⟩) n c) (M : Own X w0 w L rs J) (hm : (k, T, cs) ∈ L) (hcs : cs = (byC l).toArray) (hn : l.length = n)
    (h : S w ∧ wpAnyH Tryd.prog md ops Q S fuel (listed.setIfInBounds i true) (a.put dst (.string (bs l))) w) (hs : AllReadyH Tryd.prog md ops Q S fuel listed a w is) : AllReadyH Tryd.prog md ops Q S fuel listed a w (i :: is) :=
  rdy ho rfl (fun _ hK => o_cv hx (M.blk _ hm) hcs hn (hK.out _ _ h.1 fun _ => h.2)) hs
end

theorem dig_cs (a : Nat) : #[Value.int .u8 (48 + (a : Int) % 10)] = (byC [UInt8.ofNat (48 + a % 10)]).toArray := by
  unfold byC Lib.byteCells
  have : 48 + a % 10 < 256 := by omega
  simp [Nat.mod_eq_of_lt this]
theorem bs_tl' (l : List UInt8) : (bs l).toList = l := by simp [bs]
theorem nDigits_le21 (N : Nat) (h : N ≤ 9007199254740991) : Lib.nDigits N ≤ 21 := by
  have h1 := Lib.itoa_length_le (N : Int) (by omega) (by omega)
  rwa [Lib.itoa_nonneg, Lib.decDigits_length] at h1

theorem dec_last (a : Nat) : Lib.decDigits a = (if a / 10 = 0 then [] else Lib.decDigits (a / 10)) ++ [UInt8.ofNat (48 + a % 10)] := by
  by_cases h : a < 10
  · rw [Lib.decDigits_one h, if_pos (by omega), Nat.mod_eq_of_lt h]; rfl
  · rw [Lib.decDigits, dif_neg h, if_neg (by omega)]
theorem dec_step {N a : Nat} {D : List UInt8} (h : ¬ (a = 0 ∧ D ≠ [])) (HD : Lib.decDigits N = (if D = [] then Lib.decDigits a else (if a = 0 then [] else Lib.decDigits a) ++ D)) :
    Lib.decDigits N = (if a / 10 = 0 then [] else Lib.decDigits (a / 10)) ++ ([UInt8.ofNat (48 + a % 10)] ++ D) := by
  by_cases hD : D = []
  · subst hD
    rw [if_pos rfl] at HD
    rw [HD, dec_last a]; simp
  · have ha : a ≠ 0 := fun e => h ⟨e, hD⟩
    rw [if_neg hD, if_neg ha] at HD
    rw [HD, dec_last a]; simp

set_option maxRecDepth 100000 in
set_option maxHeartbeats 2000000 in
theorem rint_pos (N : Nat) (_ : True) (h53 : N ≤ 9007199254740991) (w : World) : Calls Tryd.prog 32 #[.int .i64 (N : Int)] w fun r w' => r = .returned (.string (bs (intL (N : Int)))) ∧ Bel w.heap.size w w' := by
  have M := Lib.hid (Own.start [] w (fun _ => True) fun _ _ => trivial)
  have hDN : (Lib.decDigits N).length ≤ 21 := by rw [Lib.decDigits_length]; exact nDigits_le21 N h53
  go_enter Tryd.func32, Tryd.ntmps32
  go_wp2
  go_loopg [3, 4] (N + 1) (fun gk sv kv wr => ∃ (a : Nat) (D : List UInt8), gk = a + (if D = [] then 1 else 0) ∧ kv = .int .i64 (a : Int) ∧ sv = .string (bs D) ∧ a ≤ 9007199254740991 ∧ Hid (Lib.decDigits N = (if D = [] then Lib.decDigits a else (if a = 0 then [] else Lib.decDigits a) ++ D)) ∧ Hid (Own [] w wr [] [] (fun _ => True)))
  case atStart => exact ⟨N, [], rfl, rfl, rfl, h53, Lib.hid rfl, Lib.hid M.out⟩
  case round =>
    clear M
    obtain ⟨a, D, hgk, rfl, rfl, ha53, HD, M⟩ := hrel
    have HGK := Lib.hid hgk
    clear hgk
    have hDl : D.length ≤ 21 := by
      have h := congrArg List.length HD.out
      by_cases hD : D = []
      · subst hD; simp
      · rw [if_neg hD, List.length_append] at h; omega
    by_cases ha : a = 0 ∧ D ≠ []
    · obtain ⟨ha0, hD⟩ := ha
      have hb : ((a : Int) != 0) = false := by simp; omega
      have hn1 : (bs D).toList.isEmpty = false := by rw [bs_tl']; cases D <;> simp_all
      have HD2 := Lib.hid (show Lib.decDigits N = D from by rw [HD.out, if_neg hD, if_pos ha0]; rfl)
      clear ha0 hD
      go_wp2
      go_ret
      exact ⟨by unfold intL; rw [Lib.itoa_nonneg, HD2.out]; rfl, M.out.bel0⟩
    · have HST := Lib.hid (dec_step ha HD.out)
      by_cases h0 : a = 0
      · obtain rfl : D = [] := Classical.byContradiction fun h => ha ⟨h0, h⟩
        have hb : ((a : Int) != 0) = false := by simp; omega
        have hn0 : (bs ([] : List UInt8)).toList = [] := bs_tl' []
        have HA := Lib.hid h0
        clear h0 ha
        go_wp2_with (first | ((with_reducible refine g_bs 57 24 ?_); refine l_bs SL_su8 (cs := #[.int .u8 (48 + (a : Int) % 10)]) (by kernel_rfl) M.out ?_; clear M; intro g24 w' hg24 M) | ((with_reducible refine g_cv ?_); refine l_cv (l := [UInt8.ofNat (48 + a % 10)]) rfl M.out (by repeat constructor) (dig_cs a) rfl ?_; replace M := Lib.hid M.out.drop) | ((with_reducible refine g_cat ?_); refine l_cat rfl rfl (by first | omega | (simp only [List.length_cons, List.length_nil]; omega)) ?_))
        go_roundg (a / 10 + 0)
        case measure => have := HA.out; rw [HGK.out]; simp; omega
        case rel => exact ⟨a / 10, [UInt8.ofNat (48 + a % 10)] ++ [], rfl, by first | rfl | go_num, by simp, by omega, Lib.hid (by rw [if_neg (by simp)]; exact HST.out), M⟩
      · have hb : ((a : Int) != 0) = true := by simp; omega
        have HA := Lib.hid h0
        clear ha h0
        go_wp2_with (first | ((with_reducible refine g_bs 57 24 ?_); refine l_bs SL_su8 (cs := #[.int .u8 (48 + (a : Int) % 10)]) (by kernel_rfl) M.out ?_; clear M; intro g24 w' hg24 M) | ((with_reducible refine g_cv ?_); refine l_cv (l := [UInt8.ofNat (48 + a % 10)]) rfl M.out (by repeat constructor) (dig_cs a) rfl ?_; replace M := Lib.hid M.out.drop) | ((with_reducible refine g_cat ?_); refine l_cat rfl rfl (by first | omega | (simp only [List.length_cons, List.length_nil]; omega)) ?_))
        go_roundg (a / 10 + 0)
        case measure => have := HA.out; rw [HGK.out]; omega
        case rel => exact ⟨a / 10, [UInt8.ofNat (48 + a % 10)] ++ D, rfl, by first | rfl | go_num, by simp, by omega, Lib.hid (by rw [if_neg (by simp)]; exact HST.out), M⟩

theorem dig_cs0 (a : Nat) (h : a % 10 = 0) : #[Value.int .u8 48] = (byC [UInt8.ofNat (48 + a % 10)]).toArray := by rw [h]; rfl

set_option maxRecDepth 100000 in
set_option maxHeartbeats 2000000 in
theorem rint_neg (N : Nat) (hN : 1 ≤ N) (h53 : N ≤ 9007199254740991) (w : World) : Calls Tryd.prog 32 #[.int .i64 (-(N : Int))] w fun r w' => r = .returned (.string (bs (intL (-(N : Int))))) ∧ Bel w.heap.size w w' := by
  have M := Lib.hid (Own.start [] w (fun _ => True) fun _ _ => trivial)
  have hDN : (Lib.decDigits N).length ≤ 21 := by rw [Lib.decDigits_length]; exact nDigits_le21 N h53
  go_enter Tryd.func32, Tryd.ntmps32
  go_wp2
  go_loopg [3, 4] (N + 1) (fun gk sv kv wr => ∃ (a : Nat) (D : List UInt8), gk = a + (if D = [] then 1 else 0) ∧ kv = .int .i64 (-(a : Int)) ∧ sv = .string (bs D) ∧ a ≤ 9007199254740991 ∧ Hid (Lib.decDigits N = (if D = [] then Lib.decDigits a else (if a = 0 then [] else Lib.decDigits a) ++ D)) ∧ Hid (Own [] w wr [] [] (fun _ => True)))
  case atStart => exact ⟨N, [], rfl, rfl, rfl, h53, Lib.hid rfl, Lib.hid M.out⟩
  case round =>
    clear M
    obtain ⟨a, D, hgk, rfl, rfl, ha53, HD, M⟩ := hrel
    have HGK := Lib.hid hgk
    clear hgk
    have hDl : D.length ≤ 21 := by
      have h := congrArg List.length HD.out
      by_cases hD : D = []
      · subst hD; simp
      · rw [if_neg hD, List.length_append] at h; omega
    by_cases ha : a = 0 ∧ D ≠ []
    · obtain ⟨ha0, hD⟩ := ha
      have hb : (-(a : Int) != 0) = false := by simp; omega
      have hn1 : (bs D).toList.isEmpty = false := by rw [bs_tl']; cases D <;> simp_all
      have HD2 := Lib.hid (show Lib.decDigits N = D from by rw [HD.out, if_neg hD, if_pos ha0]; rfl)
      have hN0 : (-(N : Int)) < 0 := by omega
      clear ha0 hD
      go_wp2_with ((with_reducible refine g_cat ?_); refine l_cat rfl rfl (by first | omega | (simp only [List.length_cons, List.length_nil]; omega)) ?_)
      go_ret
      exact ⟨by unfold intL; rw [Lib.itoa_neg N hN, HD2.out]; rfl, M.out.bel0⟩
    · have HST := Lib.hid (dec_step ha HD.out)
      have hrem : (-(a : Int)).tmod 10 = -((a % 10 : Nat) : Int) := by rw [Int.neg_tmod]; rfl
      have hquo : (-(a : Int)).tdiv 10 = -((a / 10 : Nat) : Int) := by rw [Int.neg_tdiv]; rfl
      by_cases h0 : a = 0
      · obtain rfl : D = [] := Classical.byContradiction fun h => ha ⟨h0, h⟩
        have hb : (-(a : Int) != 0) = false := by simp; omega
        have hn0 : (bs ([] : List UInt8)).toList = [] := bs_tl' []
        have hz : a % 10 = 0 := by omega
        have hz' : (a : Int) % 10 = 0 := by omega
        have HA := Lib.hid h0
        clear h0 ha
        go_wp2_with (first | ((with_reducible refine g_bs 57 24 ?_); refine l_bs SL_su8 (cs := #[.int .u8 48]) (by kernel_rfl) M.out ?_; clear M; intro g24 w' hg24 M) | ((with_reducible refine g_cv ?_); refine l_cv (l := [UInt8.ofNat (48 + a % 10)]) rfl M.out (by repeat constructor) (dig_cs0 a hz) rfl ?_; replace M := Lib.hid M.out.drop) | ((with_reducible refine g_cat ?_); refine l_cat rfl rfl (by first | omega | (simp only [List.length_cons, List.length_nil]; omega)) ?_))
        go_roundg (a / 10 + 0)
        case measure => have := HA.out; rw [HGK.out]; simp; omega
        case rel => exact ⟨a / 10, [UInt8.ofNat (48 + a % 10)] ++ [], rfl, by first | rfl | go_num | simp, by first | (simp; done) | (rw [hz]; rfl), by omega, Lib.hid (by rw [if_neg (by simp)]; exact HST.out), M⟩
      · have hb : (-(a : Int) != 0) = true := by simp; omega
        have HA := Lib.hid h0
        clear ha h0
        by_cases hz : a % 10 = 0
        · have hz' : (a : Int) % 10 = 0 := by omega
          go_wp2_with (first | ((with_reducible refine g_bs 57 24 ?_); refine l_bs SL_su8 (cs := #[.int .u8 48]) (by kernel_rfl) M.out ?_; clear M; intro g24 w' hg24 M) | ((with_reducible refine g_cv ?_); refine l_cv (l := [UInt8.ofNat (48 + a % 10)]) rfl M.out (by repeat constructor) (dig_cs0 a hz) rfl ?_; replace M := Lib.hid M.out.drop) | ((with_reducible refine g_cat ?_); refine l_cat rfl rfl (by first | omega | (simp only [List.length_cons, List.length_nil]; omega)) ?_))
          go_roundg (a / 10 + 0)
          case measure => have := HA.out; rw [HGK.out]; omega
          case rel => exact ⟨a / 10, [UInt8.ofNat (48 + a % 10)] ++ D, rfl, by first | rfl | go_num | simp, by first | (simp; done) | (rw [hz]; rfl), by omega, Lib.hid (by rw [if_neg (by simp)]; exact HST.out), M⟩
        · have hz' : (0 : Int) < (a : Int) % 10 := by omega
          clear hz
          go_wp2_with (first | ((with_reducible refine g_bs 57 24 ?_); refine l_bs SL_su8 (cs := #[.int .u8 (48 + (a : Int) % 10)]) (by kernel_rfl) M.out ?_; clear M; intro g24 w' hg24 M) | ((with_reducible refine g_cv ?_); refine l_cv (l := [UInt8.ofNat (48 + a % 10)]) rfl M.out (by repeat constructor) (dig_cs a) rfl ?_; replace M := Lib.hid M.out.drop) | ((with_reducible refine g_cat ?_); refine l_cat rfl rfl (by first | omega | (simp only [List.length_cons, List.length_nil]; omega)) ?_))
          go_roundg (a / 10 + 0)
          case measure => have := HA.out; rw [HGK.out]; omega
          case rel => exact ⟨a / 10, [UInt8.ofNat (48 + a % 10)] ++ D, rfl, by first | rfl | go_num | simp, by first | (simp; done) | (rw [hz]; rfl), by omega, Lib.hid (by rw [if_neg (by simp)]; exact HST.out), M⟩

theorem rint_any (n : Int) (h : okN n) (w : World) : Calls Tryd.prog 32 #[.int .i64 n] w fun r w' => r = .returned (.string (bs (intL n))) ∧ Bel w.heap.size w w' := by
  unfold okN at h
  by_cases hn : 0 ≤ n
  · obtain ⟨N, rfl⟩ := Int.eq_ofNat_of_zero_le hn
    exact rint_pos N trivial (by omega) w
  · obtain ⟨N, rfl⟩ : ∃ N : Nat, n = -(N : Int) := ⟨n.natAbs, by omega⟩
    exact rint_neg N (by omega) (by omega) w


end Go.Proofs.YtpcbcodmocmilaaDoor
