/- QtreeDeep, walked (printed by gen_deep.py). -/
import Derived.Deep.LoopGhost
import Derived.Test.YtmopeandckmgcaaDoorTa
import Derived.Test.YtmopeandckmgcaaDoorTb
namespace Go.Proofs.YtmopeandckmgcaaDoor
open Go.RowKit

theorem bs_app (l m : List UInt8) : bs l ++ bs m = bs (l ++ m) := by
  unfold bs
  apply ByteArray.ext
  simp [ByteArray.data_append]
theorem bs_size (l : List UInt8) : (bs l).size = l.length := by unfold bs; simp [ByteArray.size]

set_option maxRecDepth 100000 in
set_option maxHeartbeats 4000000 in
theorem deepw_0 (n how kk : Nat) (hn : n < 256) (hh : how < 256) (hkn : kk = 1 + n % 40) (hm : how % 3 = 0) (w : World) :
    Calls Tryd.prog 4 #[.int .u8 (n : Int), .int .u8 (how : Int)] w fun e w' => e = .returned (.bool true) ∧ Bel w.heap.size w w' := by
  have HAW := Lib.hid (awake_any w)
  have hk : (1 + (n : Int) % 40) = (kk : Int) := by omega
  have hk0 : 0 < kk := by omega
  have hk40 : kk ≤ 40 := by omega
  have hm0 : ((how : Int) % 3 == 0) = true := by rw [beq_iff_eq]; omega
  have hm1 : ((how : Int) % 3 == 1) = false := by rw [beq_eq_false_iff_ne]; omega
  have HOK := Lib.hid (deep_all 0 kk (by decide) hk0 hk40)
  clear hkn
  go_enter Tryd.func4, Tryd.ntmps4
  go_upto_region 5 with (go_at_call 7; refine HAW.out.mono ?_; rintro e w1 ⟨rfl, hb⟩; have HB1 := Lib.hid hb; clear hb)
  clear hk HAW
  go_wp2
  go_loopg [6, 7, 8] kk (fun kq v6 v7 v8 wr => ∃ (m : Nat) (S T : ByteArray), kq = kk - m ∧ m ≤ deepM 0 kk ∧ v6 = .string S ∧ v7 = .string T ∧ v8 = .int .i64 ((1 + m : Nat) : Int) ∧ S.size ≤ 3 + 3 * m ∧ T.size = m + 1 ∧ Hid (S = bs (deepS 0 m)) ∧ Hid (T = bs (deepT 0 m)) ∧ wr = w1)
  case atStart => exact ⟨0, ⟨#[36, 91, 63]⟩, ⟨#[93]⟩, rfl, Nat.zero_le _, rfl, rfl, rfl, by decide, rfl, Lib.hid rfl, Lib.hid rfl, rfl⟩
  case round =>
    obtain ⟨m, S, T, hkq, hmk, rfl, rfl, rfl, hs1, hs2, HS, HT, rfl⟩ := hrel
    have HKQ := Lib.hid hkq
    clear hkq
    have hmk2 : m ≤ kk - 1 := hmk
    by_cases hlt : 1 + m < kk
    · have hlt2 : (((1 + m : Nat) : Int)) < (kk : Int) := by omega
      go_wp2
      go_roundg (kk - (m + 1))
      case measure => have := HKQ.out; omega
      case rel => exact ⟨m + 1, S ++ ⟨#[40]⟩, ⟨#[41]⟩ ++ T, rfl, (show m + 1 ≤ kk - 1 by omega), rfl, rfl, by simp; omega, by rw [ByteArray.size_append]; show S.size + 1 ≤ _; omega, by rw [ByteArray.size_append]; show 1 + T.size = _; omega, Lib.hid (by rw [HS.out, show (⟨#[40]⟩ : ByteArray) = bs [40] from rfl, bs_app]; rfl), Lib.hid (by rw [HT.out, show (⟨#[41]⟩ : ByteArray) = bs [41] from rfl, bs_app]; rfl), rfl⟩
    · have hge2 : ¬ (((1 + m : Nat) : Int)) < (kk : Int) := by omega
      have hmM : m = deepM 0 kk := by unfold deepM; rw [if_neg (by decide)]; omega
      have hok := HOK.out
      unfold deepOK at hok
      have hbytes : (S ++ ⟨#[64]⟩ ++ T).data.toList = deepS 0 (deepM 0 kk) ++ [64] ++ deepT 0 (deepM 0 kk) := by
        rw [HS.out, HT.out, show (⟨#[64]⟩ : ByteArray) = bs [64] from rfl, bs_app, bs_app, bs_list, hmM]
      have hsz : (S ++ ⟨#[64]⟩ ++ T).size ≤ 1000000 := by
        rw [ByteArray.size_append, ByteArray.size_append]
        show S.size + 1 + T.size ≤ 1000000
        omega
      have hSl : (S.size : Int) = ((deepS 0 (deepM 0 kk)).length : Int) := by rw [HS.out, bs_size, hmM]
      obtain ⟨K, hK⟩ : ∃ K, deepK 0 kk = K := ⟨_, rfl⟩
      rw [hK] at hok
      have hKv : K = kk := by rw [← hK]; rfl
      cases hp : parseT true (deepS 0 (deepM 0 kk) ++ [64] ++ deepT 0 (deepM 0 kk)) with
      | ok p =>
        rw [hp] at hok
        simp only [Bool.and_eq_true, decide_eq_true_eq] at hok
        obtain ⟨ho1, ho2⟩ := hok
        have HPC := Lib.hid (parse_ok (s := S ++ ⟨#[64]⟩ ++ T) wr hsz (by rw [hbytes]; exact hp))
        rw [ho2] at HPC
        have hK32 : (kk : Int) ≤ 32 := by omega
        clear hp hbytes hK HOK hSl HS HT HKQ
        go_wp2_with (go_at_call 9; refine HPC.out.mono ?_; rintro e w2 ⟨mm, A, c, rfl, hsg, hb⟩; have HB2 := Lib.hid (HB1.out.next hb); clear hsg hb)
        go_ret
        exact ⟨rfl, (HB2.out.alloc HB2.out.size _).alloc (by have := HB2.out.size; simp; omega) _⟩
      | error x =>
        obtain ⟨x, a⟩ := x
        rw [hp] at hok
        simp only [Bool.and_eq_true, decide_eq_true_eq] at hok
        obtain ⟨⟨⟨ho1, rfl⟩, ho3⟩, ho4⟩ := hok
        rw [← hSl] at ho4
        have HPC := Lib.hid (parse_err (s := S ++ ⟨#[64]⟩ ++ T) wr hsz (by rw [hbytes]; exact hp))
        have hK32 : ¬ (kk : Int) ≤ 32 := by omega
        clear hp hbytes hK HOK hSl HS HT HKQ
        go_wp2_with (go_at_call 9; refine HPC.out.mono ?_; rintro e w2 ⟨rfl, hb⟩; have HB2 := Lib.hid (HB1.out.next hb); clear hb)
        go_ret
        exact ⟨rfl, (HB2.out.alloc HB2.out.size _).alloc (by have := HB2.out.size; simp; omega) _⟩

set_option maxRecDepth 100000 in
set_option maxHeartbeats 4000000 in
theorem deepw_1 (n how kk : Nat) (hn : n < 256) (hh : how < 256) (hkn : kk = 1 + n % 40) (hm : how % 3 = 1) (w : World) :
    Calls Tryd.prog 4 #[.int .u8 (n : Int), .int .u8 (how : Int)] w fun e w' => e = .returned (.bool true) ∧ Bel w.heap.size w w' := by
  have HAW := Lib.hid (awake_any w)
  have hk : (1 + (n : Int) % 40) = (kk : Int) := by omega
  have hk0 : 0 < kk := by omega
  have hk40 : kk ≤ 40 := by omega
  have hm0 : ((how : Int) % 3 == 0) = false := by rw [beq_eq_false_iff_ne]; omega
  have hm1 : ((how : Int) % 3 == 1) = true := by rw [beq_iff_eq]; omega
  have HOK := Lib.hid (deep_all 1 kk (by decide) hk0 hk40)
  clear hkn
  go_enter Tryd.func4, Tryd.ntmps4
  go_upto_region 5 with (go_at_call 7; refine HAW.out.mono ?_; rintro e w1 ⟨rfl, hb⟩; have HB1 := Lib.hid hb; clear hb)
  clear hk HAW
  go_wp2
  go_loopg [6, 7, 8] kk (fun kq v6 v7 v8 wr => ∃ (m : Nat) (S T : ByteArray), kq = kk - m ∧ m ≤ deepM 1 kk ∧ v6 = .string S ∧ v7 = .string T ∧ v8 = .int .i64 ((1 + 2 * m : Nat) : Int) ∧ S.size ≤ 3 + 3 * m ∧ T.size = m + 1 ∧ Hid (S = bs (deepS 1 m)) ∧ Hid (T = bs (deepT 1 m)) ∧ wr = w1)
  case atStart => exact ⟨0, ⟨#[36, 91, 63]⟩, ⟨#[93]⟩, rfl, Nat.zero_le _, rfl, rfl, rfl, by decide, rfl, Lib.hid rfl, Lib.hid rfl, rfl⟩
  case round =>
    obtain ⟨m, S, T, hkq, hmk, rfl, rfl, rfl, hs1, hs2, HS, HT, rfl⟩ := hrel
    have HKQ := Lib.hid hkq
    clear hkq
    have hmk2 : m ≤ kk / 2 := hmk
    by_cases hlt : 1 + 2 * m < kk
    · have hlt2 : (((1 + 2 * m : Nat) : Int)) < (kk : Int) := by omega
      go_wp2
      go_roundg (kk - (m + 1))
      case measure => have := HKQ.out; omega
      case rel => exact ⟨m + 1, S ++ ⟨#[33, 40]⟩, ⟨#[41]⟩ ++ T, rfl, (show m + 1 ≤ kk / 2 by omega), rfl, rfl, by simp; omega, by rw [ByteArray.size_append]; show S.size + 2 ≤ _; omega, by rw [ByteArray.size_append]; show 1 + T.size = _; omega, Lib.hid (by rw [HS.out, show (⟨#[33, 40]⟩ : ByteArray) = bs [33, 40] from rfl, bs_app]; rfl), Lib.hid (by rw [HT.out, show (⟨#[41]⟩ : ByteArray) = bs [41] from rfl, bs_app]; rfl), rfl⟩
    · have hge2 : ¬ (((1 + 2 * m : Nat) : Int)) < (kk : Int) := by omega
      have hmM : m = deepM 1 kk := by unfold deepM; rw [if_pos rfl]; omega
      have hok := HOK.out
      unfold deepOK at hok
      have hbytes : (S ++ ⟨#[64]⟩ ++ T).data.toList = deepS 1 (deepM 1 kk) ++ [64] ++ deepT 1 (deepM 1 kk) := by
        rw [HS.out, HT.out, show (⟨#[64]⟩ : ByteArray) = bs [64] from rfl, bs_app, bs_app, bs_list, hmM]
      have hsz : (S ++ ⟨#[64]⟩ ++ T).size ≤ 1000000 := by
        rw [ByteArray.size_append, ByteArray.size_append]
        show S.size + 1 + T.size ≤ 1000000
        omega
      have hSl : (S.size : Int) = ((deepS 1 (deepM 1 kk)).length : Int) := by rw [HS.out, bs_size, hmM]
      obtain ⟨K, hK⟩ : ∃ K, deepK 1 kk = K := ⟨_, rfl⟩
      rw [hK] at hok
      have hKv : K = 1 + kk / 2 * 2 := by rw [← hK]; rfl
      cases hp : parseT true (deepS 1 (deepM 1 kk) ++ [64] ++ deepT 1 (deepM 1 kk)) with
      | ok p =>
        rw [hp] at hok
        simp only [Bool.and_eq_true, decide_eq_true_eq] at hok
        obtain ⟨ho1, ho2⟩ := hok
        have HPC := Lib.hid (parse_ok (s := S ++ ⟨#[64]⟩ ++ T) wr hsz (by rw [hbytes]; exact hp))
        rw [ho2] at HPC
        have hK32 : 1 + (kk : Int) / 2 * 2 ≤ 32 := by omega
        clear hp hbytes hK HOK hSl HS HT HKQ
        go_wp2_with (go_at_call 9; refine HPC.out.mono ?_; rintro e w2 ⟨mm, A, c, rfl, hsg, hb⟩; have HB2 := Lib.hid (HB1.out.next hb); clear hsg hb)
        go_ret
        exact ⟨rfl, (HB2.out.alloc HB2.out.size _).alloc (by have := HB2.out.size; simp; omega) _⟩
      | error x =>
        obtain ⟨x, a⟩ := x
        rw [hp] at hok
        simp only [Bool.and_eq_true, decide_eq_true_eq] at hok
        obtain ⟨⟨⟨ho1, rfl⟩, ho3⟩, ho4⟩ := hok
        rw [← hSl] at ho4
        have HPC := Lib.hid (parse_err (s := S ++ ⟨#[64]⟩ ++ T) wr hsz (by rw [hbytes]; exact hp))
        have hK32 : ¬ 1 + (kk : Int) / 2 * 2 ≤ 32 := by omega
        clear hp hbytes hK HOK hSl HS HT HKQ
        go_wp2_with (go_at_call 9; refine HPC.out.mono ?_; rintro e w2 ⟨rfl, hb⟩; have HB2 := Lib.hid (HB1.out.next hb); clear hb)
        go_ret
        exact ⟨rfl, (HB2.out.alloc HB2.out.size _).alloc (by have := HB2.out.size; simp; omega) _⟩

set_option maxRecDepth 100000 in
set_option maxHeartbeats 4000000 in
theorem deepw_2 (n how kk : Nat) (hn : n < 256) (hh : how < 256) (hkn : kk = 1 + n % 40) (hm : how % 3 = 2) (w : World) :
    Calls Tryd.prog 4 #[.int .u8 (n : Int), .int .u8 (how : Int)] w fun e w' => e = .returned (.bool true) ∧ Bel w.heap.size w w' := by
  have HAW := Lib.hid (awake_any w)
  have hk : (1 + (n : Int) % 40) = (kk : Int) := by omega
  have hk0 : 0 < kk := by omega
  have hk40 : kk ≤ 40 := by omega
  have hm0 : ((how : Int) % 3 == 0) = false := by rw [beq_eq_false_iff_ne]; omega
  have hm1 : ((how : Int) % 3 == 1) = false := by rw [beq_eq_false_iff_ne]; omega
  have HOK := Lib.hid (deep_all 2 kk (by decide) hk0 hk40)
  clear hkn
  go_enter Tryd.func4, Tryd.ntmps4
  go_upto_region 5 with (go_at_call 7; refine HAW.out.mono ?_; rintro e w1 ⟨rfl, hb⟩; have HB1 := Lib.hid hb; clear hb)
  clear hk HAW
  go_wp2
  go_loopg [6, 7, 8] kk (fun kq v6 v7 v8 wr => ∃ (m : Nat) (S T : ByteArray), kq = kk - m ∧ m ≤ deepM 2 kk ∧ v6 = .string S ∧ v7 = .string T ∧ v8 = .int .i64 ((1 + m : Nat) : Int) ∧ S.size ≤ 3 + 3 * m ∧ T.size = m + 1 ∧ Hid (S = bs (deepS 2 m)) ∧ Hid (T = bs (deepT 2 m)) ∧ wr = w1)
  case atStart => exact ⟨0, ⟨#[36, 91, 63]⟩, ⟨#[93]⟩, rfl, Nat.zero_le _, rfl, rfl, rfl, by decide, rfl, Lib.hid rfl, Lib.hid rfl, rfl⟩
  case round =>
    obtain ⟨m, S, T, hkq, hmk, rfl, rfl, rfl, hs1, hs2, HS, HT, rfl⟩ := hrel
    have HKQ := Lib.hid hkq
    clear hkq
    have hmk2 : m ≤ kk - 1 := hmk
    by_cases hlt : 1 + m < kk
    · have hlt2 : (((1 + m : Nat) : Int)) < (kk : Int) := by omega
      go_wp2
      go_roundg (kk - (m + 1))
      case measure => have := HKQ.out; omega
      case rel => exact ⟨m + 1, S ++ ⟨#[64, 91, 63]⟩, ⟨#[93]⟩ ++ T, rfl, (show m + 1 ≤ kk - 1 by omega), rfl, rfl, by simp; omega, by rw [ByteArray.size_append]; show S.size + 3 ≤ _; omega, by rw [ByteArray.size_append]; show 1 + T.size = _; omega, Lib.hid (by rw [HS.out, show (⟨#[64, 91, 63]⟩ : ByteArray) = bs [64, 91, 63] from rfl, bs_app]; rfl), Lib.hid (by rw [HT.out, show (⟨#[93]⟩ : ByteArray) = bs [93] from rfl, bs_app]; rfl), rfl⟩
    · have hge2 : ¬ (((1 + m : Nat) : Int)) < (kk : Int) := by omega
      have hmM : m = deepM 2 kk := by unfold deepM; rw [if_neg (by decide)]; omega
      have hok := HOK.out
      unfold deepOK at hok
      have hbytes : (S ++ ⟨#[64]⟩ ++ T).data.toList = deepS 2 (deepM 2 kk) ++ [64] ++ deepT 2 (deepM 2 kk) := by
        rw [HS.out, HT.out, show (⟨#[64]⟩ : ByteArray) = bs [64] from rfl, bs_app, bs_app, bs_list, hmM]
      have hsz : (S ++ ⟨#[64]⟩ ++ T).size ≤ 1000000 := by
        rw [ByteArray.size_append, ByteArray.size_append]
        show S.size + 1 + T.size ≤ 1000000
        omega
      have hSl : (S.size : Int) = ((deepS 2 (deepM 2 kk)).length : Int) := by rw [HS.out, bs_size, hmM]
      obtain ⟨K, hK⟩ : ∃ K, deepK 2 kk = K := ⟨_, rfl⟩
      rw [hK] at hok
      have hKv : K = kk := by rw [← hK]; rfl
      cases hp : parseT true (deepS 2 (deepM 2 kk) ++ [64] ++ deepT 2 (deepM 2 kk)) with
      | ok p =>
        rw [hp] at hok
        simp only [Bool.and_eq_true, decide_eq_true_eq] at hok
        obtain ⟨ho1, ho2⟩ := hok
        have HPC := Lib.hid (parse_ok (s := S ++ ⟨#[64]⟩ ++ T) wr hsz (by rw [hbytes]; exact hp))
        rw [ho2] at HPC
        have hK32 : (kk : Int) ≤ 32 := by omega
        clear hp hbytes hK HOK hSl HS HT HKQ
        go_wp2_with (go_at_call 9; refine HPC.out.mono ?_; rintro e w2 ⟨mm, A, c, rfl, hsg, hb⟩; have HB2 := Lib.hid (HB1.out.next hb); clear hsg hb)
        go_ret
        exact ⟨rfl, (HB2.out.alloc HB2.out.size _).alloc (by have := HB2.out.size; simp; omega) _⟩
      | error x =>
        obtain ⟨x, a⟩ := x
        rw [hp] at hok
        simp only [Bool.and_eq_true, decide_eq_true_eq] at hok
        obtain ⟨⟨⟨ho1, rfl⟩, ho3⟩, ho4⟩ := hok
        rw [← hSl] at ho4
        have HPC := Lib.hid (parse_err (s := S ++ ⟨#[64]⟩ ++ T) wr hsz (by rw [hbytes]; exact hp))
        have hK32 : ¬ (kk : Int) ≤ 32 := by omega
        clear hp hbytes hK HOK hSl HS HT HKQ
        go_wp2_with (go_at_call 9; refine HPC.out.mono ?_; rintro e w2 ⟨rfl, hb⟩; have HB2 := Lib.hid (HB1.out.next hb); clear hb)
        go_ret
        exact ⟨rfl, (HB2.out.alloc HB2.out.size _).alloc (by have := HB2.out.size; simp; omega) _⟩

theorem wf_u8 {n : Int} (h : (Lit.int .u8 n).wf = true) : 0 ≤ n ∧ n ≤ 255 := by
  have e1 : IntKind.u8.min = 0 := by decide
  have e2 : IntKind.u8.max = 255 := by decide
  simp only [Lit.wf, e1, e2] at h
  simpa using h
theorem deepLaw_any (n how : Int) (w : World) (hn' : (Lit.int .u8 n).wf = true) (hh' : (Lit.int .u8 how).wf = true) :
    Calls Tryd.prog 4 #[.int .u8 n, .int .u8 how] w fun e w' => e = .returned (.bool true) ∧ Bel w.heap.size w w' := by
  have hn := wf_u8 hn'
  have hh := wf_u8 hh'
  clear hn' hh'
  obtain ⟨n, rfl⟩ : ∃ k : Nat, n = k := ⟨n.toNat, by omega⟩
  obtain ⟨how, rfl⟩ : ∃ k : Nat, how = k := ⟨how.toNat, by omega⟩
  have h3 : how % 3 = 0 ∨ how % 3 = 1 ∨ how % 3 = 2 := by omega
  rcases h3 with h | h | h
  · exact deepw_0 n how _ (by omega) (by omega) rfl h w
  · exact deepw_1 n how _ (by omega) (by omega) rfl h w
  · exact deepw_2 n how _ (by omega) (by omega) rfl h w

end Go.Proofs.YtmopeandckmgcaaDoor
