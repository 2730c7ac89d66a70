/- laceworkref11.Between (printed by gen_eb.py). -/
import Derived.Deep.CutBlock
import Derived.Deep.LoopGhost
import Derived.Test.YtpcbcodmocmilaaGreatDoorG46
namespace Go.Proofs.YtpcbcodmocmilaaGreatDoor
open Go.RowKit


/-- Which of the five signs a byte is; 5 of none. -/
def kidx (c : UInt8) : Nat := if c = 8 then 0 else if c = 12 then 1 else if c = 10 then 2 else if c = 13 then 3 else if c = 9 then 4 else 5
theorem kidx_le (c : UInt8) : kidx c ≤ 5 := by unfold kidx; (repeat' split) <;> omega
theorem u8ne (a : UInt8) (n : Int) (ha : (a.toNat : Int) = n) (c : UInt8) : (n != (c.toNat : Int)) = (a != c) := by
  rw [Bool.eq_iff_iff, bne_iff_ne, bne_iff_ne, ← ha]
  refine not_congr ⟨fun h => UInt8.toNat_inj.1 (by omega), fun h => by rw [h]⟩
theorem kne_lt {c : UInt8} {k : Nat} (h5 : k < 5) (h : k < kidx c) : ((⟨#[8, 12, 10, 13, 9]⟩ : ByteArray)[k]'h5 != c) = true := by
  unfold kidx at h
  rw [bne_iff_ne]
  intro e
  match k, h5, e with
  | 0, _, e => have e : (8 : UInt8) = c := e; subst e; simp at h
  | 1, _, e => have e : (12 : UInt8) = c := e; subst e; simp at h
  | 2, _, e => have e : (10 : UInt8) = c := e; subst e; simp at h
  | 3, _, e => have e : (13 : UInt8) = c := e; subst e; simp at h
  | 4, _, e => have e : (9 : UInt8) = c := e; subst e; simp at h
theorem kne_at {c : UInt8} (h : kidx c < 5) : ((⟨#[8, 12, 10, 13, 9]⟩ : ByteArray)[kidx c]'h != c) = false := by
  have key : ∀ (d : UInt8) (k : Nat) (hk : k < 5), kidx c = k → c = d → ((⟨#[8, 12, 10, 13, 9]⟩ : ByteArray)[k]'hk != d) = false → ((⟨#[8, 12, 10, 13, 9]⟩ : ByteArray)[kidx c]'h != c) = false := by
    intro d k hk e1 e2 e3
    subst e2
    simp only [e1]; exact e3
  by_cases h1 : c = 8
  · exact key 8 0 (by omega) (by rw [h1]; rfl) h1 rfl
  by_cases h2 : c = 12
  · exact key 12 1 (by omega) (by rw [h2]; rfl) h2 rfl
  by_cases h3 : c = 10
  · exact key 10 2 (by omega) (by rw [h3]; rfl) h3 rfl
  by_cases h4 : c = 13
  · exact key 13 3 (by omega) (by rw [h4]; rfl) h4 rfl
  by_cases h5 : c = 9
  · exact key 9 4 (by omega) (by rw [h5]; rfl) h5 rfl
  · unfold kidx at h; simp [h1, h2, h3, h4, h5] at h

theorem sign_k {c : UInt8} (h : kidx c < 5) : signB c = [92, (⟨#[98, 102, 110, 114, 116]⟩ : ByteArray)[kidx c]'h] := by
  have key : ∀ (d : UInt8) (k : Nat) (hk : k < 5), kidx c = k → c = d → signB d = [92, (⟨#[98, 102, 110, 114, 116]⟩ : ByteArray)[k]'hk] → signB c = [92, (⟨#[98, 102, 110, 114, 116]⟩ : ByteArray)[kidx c]'h] := by
    intro d k hk e1 e2 e3
    subst e2
    simp only [e1]; exact e3
  by_cases h1 : c = 8
  · exact key 8 0 (by omega) (by rw [h1]; rfl) h1 rfl
  by_cases h2 : c = 12
  · exact key 12 1 (by omega) (by rw [h2]; rfl) h2 rfl
  by_cases h3 : c = 10
  · exact key 10 2 (by omega) (by rw [h3]; rfl) h3 rfl
  by_cases h4 : c = 13
  · exact key 13 3 (by omega) (by rw [h4]; rfl) h4 rfl
  by_cases h5 : c = 9
  · exact key 9 4 (by omega) (by rw [h5]; rfl) h5 rfl
  · unfold kidx at h; simp [h1, h2, h3, h4, h5] at h
theorem sign_o {c : UInt8} (h : ¬ kidx c < 5) : signB c = [92, 117, 48, 48, hexC (c.toNat / 16), hexC (c.toNat % 16)] := by
  unfold signB
  have h1 : c ≠ 8 := fun e => h (by rw [e]; decide)
  have h2 : c ≠ 12 := fun e => h (by rw [e]; decide)
  have h3 : c ≠ 10 := fun e => h (by rw [e]; decide)
  have h4 : c ≠ 13 := fun e => h (by rw [e]; decide)
  have h5 : c ≠ 9 := fun e => h (by rw [e]; decide)
  rw [if_neg h1, if_neg h2, if_neg h3, if_neg h4, if_neg h5]
theorem kidx_ge {c : UInt8} (h : decide ((c.toNat : Int) < 32) = false) : ¬ kidx c < 5 := by
  intro hk
  have : ∀ d : UInt8, d.toNat < 32 → c = d → False := fun d hd e => by rw [e] at h; simp at h; omega
  unfold kidx at hk
  by_cases h1 : c = 8
  · exact this 8 (by decide) h1
  by_cases h2 : c = 12
  · exact this 12 (by decide) h2
  by_cases h3 : c = 10
  · exact this 10 (by decide) h3
  by_cases h4 : c = 13
  · exact this 13 (by decide) h4
  by_cases h5 : c = 9
  · exact this 9 (by decide) h5
  · simp [h1, h2, h3, h4, h5] at hk

set_option maxRecDepth 100000 in
set_option maxHeartbeats 2000000 in
theorem rbetw_any (m : UInt8) (s : ByteArray) (w : World) (hs : s.size ≤ 100000000) : Calls Tryz.prog 21 #[.string s, .int .u8 (m.toNat : Int)] w fun r w' => r = .returned (.string (bs (txtL m s.data.toList))) ∧ Bel w.heap.size w w' := by
  have M := Lib.hid (Own.start [] w (fun _ => True) fun _ _ => trivial)
  go_enter Tryz.func21, Tryz.ntmps21
  let qd := bodyPost Tryz.prog Tryz.f21 (fun _ _ => True)
  go_wp2_with (first | ((with_reducible refine g_bs 78 13 ?_); refine l_bs SL_su8 (cs := #[.int .u8 (m.toNat : Int)]) (by kernel_rfl) M.out ?_; clear M; intro g13 w' hg13 M) | ((with_reducible refine g_cv ?_); refine l_cv (l := [m]) rfl M.out (by repeat constructor) rfl (by simp) ?_; replace M := Lib.hid M.out.drop))
  go_loopg [5, 6] s.size (fun gk ov kk wr => ∃ i : Nat, i ≤ s.size ∧ gk = s.size - i ∧ ov = .string (bs (m :: (s.data.toList.take i).flatMap (escB m))) ∧ kk = .int .i64 i ∧ Hid (Own [] w wr [] [] (fun _ => True)))
  case atStart => exact ⟨0, Nat.zero_le _, rfl, rfl, rfl, M⟩
  case round =>
    clear M
    obtain ⟨i, hi, hgk, rfl, rfl, M⟩ := hrel
    have HG := Lib.hid hgk
    clear hgk
    have hfl : ((s.data.toList.take i).flatMap (escB m)).length ≤ 600000000 := by
      have := escs_len m (s.data.toList.take i)
      have := List.length_take_le i s.data.toList
      omega
    by_cases hlt : i < s.size
    · have HS := Lib.hid (show m :: (s.data.toList.take (i + 1)).flatMap (escB m) = (m :: (s.data.toList.take i).flatMap (escB m)) ++ escB m s[i] from by rw [take_snoc2 s i hlt]; simp)
      have hb : (s[i].toNat : Int) < 256 := by have := UInt8.toNat_lt s[i]; omega
      generalize hX : (m :: (s.data.toList.take i).flatMap (escB m)) = X at *
      have hXl : X.length ≤ 600000001 := by rw [← hX, List.length_cons]; omega
      clear hfl hX
      go_upto_block 2 with fail
      go_cut [10, 24, 25, 26, 27, 28, 29, 30, 31, 32, 33, 34] (fun v10 _ _ _ _ _ _ _ _ _ _ _ wx => v10 = .int .i64 (kidx s[i] : Nat) ∧ Hid (Own [] w wx [] [] (fun _ => True)))
      case first =>
        go_wp2
        go_loopg [10] (kidx s[i]) (fun gk kk wr => ∃ k : Nat, k ≤ kidx s[i] ∧ gk = kidx s[i] - k ∧ kk = .int .i64 k ∧ Hid (Own [] w wr [] [] (fun _ => True)))
        case atStart => exact ⟨0, Nat.zero_le _, rfl, rfl, M⟩
        case round =>
          clear M
          obtain ⟨k, hk, hgk, rfl, M⟩ := hrel
          have HG2 := Lib.hid hgk
          clear hgk
          have h5 := kidx_le s[i]
          by_cases hk2 : k < kidx s[i]
          · have hk5 : k < 5 := by omega
            have hk5' : (k : Int) < 5 := by omega
            have f : (((((⟨#[8, 12, 10, 13, 9]⟩ : ByteArray)[k]'hk5).toNat : Nat) : Int) != (s[i].toNat : Int)) = true := (u8ne _ _ rfl _).trans (kne_lt hk5 hk2)
            go_wp2
            go_roundg (kidx s[i] - (k + 1))
            case measure => rw [HG2.out]; omega
            case rel => exact ⟨k + 1, by omega, rfl, by go_num, M⟩
          · obtain rfl : k = kidx s[i] := by omega
            by_cases hk5 : kidx s[i] < 5
            · have hk5' : (kidx s[i] : Int) < 5 := by omega
              have f : (((((⟨#[8, 12, 10, 13, 9]⟩ : ByteArray)[kidx s[i]]'hk5).toNat : Nat) : Int) != (s[i].toNat : Int)) = false := (u8ne _ _ rfl _).trans (kne_at hk5)
              go_wp2
              go_meet
              case rel => exact ⟨rfl, M⟩
            · have hk5' : ¬ (kidx s[i] : Int) < 5 := by omega
              go_wp2
              go_meet
              case rel => exact ⟨rfl, M⟩
      case rest =>
        clear M
        obtain ⟨rfl, M⟩ := hcut
        have HB5 := Lib.hid (kidx_le s[i])
        rcases esc_cases m s[i] with ⟨hm, he⟩ | ⟨hm, h9, he⟩ | ⟨hm, h9, h3, h3', he⟩ | ⟨hm, h9, h3, he⟩
        · have HE := Lib.hid (show escB m s[i] = [92, s[i]] from he)
          clear he
          go_wp2_with (first | ((with_reducible refine g_bs 78 44 ?_); refine l_bs SL_su8 (cs := #[.int .u8 92, .int .u8 (s[i].toNat : Int)]) (by kernel_rfl) M.out ?_; clear M; intro g44 w' hg44 M) | ((with_reducible refine g_cv ?_); refine l_cv (l := [92, s[i]]) rfl M.out (by repeat constructor) rfl (by simp) ?_; replace M := Lib.hid M.out.drop) | ((with_reducible refine g_cat ?_); refine l_cat rfl rfl (by first | omega | (simp only [List.length_cons, List.length_nil]; omega)) ?_))
          go_roundg (s.size - (i + 1))
          case measure => rw [HG.out]; omega
          case rel => exact ⟨i + 1, by omega, rfl, by rw [HS.out, HE.out], by go_num, M⟩
        · have HE := Lib.hid (show escB m s[i] = [92, s[i]] from he)
          clear he
          go_wp2_with (first | ((with_reducible refine g_bs 78 44 ?_); refine l_bs SL_su8 (cs := #[.int .u8 92, .int .u8 (s[i].toNat : Int)]) (by kernel_rfl) M.out ?_; clear M; intro g44 w' hg44 M) | ((with_reducible refine g_cv ?_); refine l_cv (l := [92, s[i]]) rfl M.out (by repeat constructor) rfl (by simp) ?_; replace M := Lib.hid M.out.drop) | ((with_reducible refine g_cat ?_); refine l_cat rfl rfl (by first | omega | (simp only [List.length_cons, List.length_nil]; omega)) ?_))
          go_roundg (s.size - (i + 1))
          case measure => rw [HG.out]; omega
          case rel => exact ⟨i + 1, by omega, rfl, by rw [HS.out, HE.out], by go_num, M⟩
        · by_cases hk5 : kidx s[i] < 5
          · have HE := Lib.hid (he.trans (sign_k hk5))
            have hk5' : (kidx s[i] : Int) < 5 := by omega
            clear he
            go_wp2_with (first | ((with_reducible refine g_bs 78 53 ?_); refine l_bs SL_su8 (cs := #[.int .u8 92, .int .u8 (((⟨#[98, 102, 110, 114, 116]⟩ : ByteArray)[kidx s[i]]'hk5).toNat : Int)]) (by kernel_rfl) M.out ?_; clear M; intro g53 w' hg53 M) | ((with_reducible refine g_cv ?_); refine l_cv (l := [92, (⟨#[98, 102, 110, 114, 116]⟩ : ByteArray)[kidx s[i]]'hk5]) rfl M.out (by repeat constructor) rfl (by simp) ?_; replace M := Lib.hid M.out.drop) | ((with_reducible refine g_cat ?_); refine l_cat rfl rfl (by first | omega | (simp only [List.length_cons, List.length_nil]; omega)) ?_))
            go_roundg (s.size - (i + 1))
            case measure => rw [HG.out]; omega
            case rel => exact ⟨i + 1, by omega, rfl, by rw [HS.out, HE.out], by go_num, M⟩
          · have hk5' : ¬ (kidx s[i] : Int) < 5 := by omega
            obtain ⟨d, hd⟩ : ∃ d : Nat, s[i].toNat / 16 = d := ⟨_, rfl⟩
            obtain ⟨k, hk⟩ : ∃ k : Nat, s[i].toNat % 16 = k := ⟨_, rfl⟩
            have HE := Lib.hid (show escB m s[i] = [92, 117, 48, 48, hexC d, hexC k] from by rw [he, sign_o hk5, hd, hk])
            have HD := Lib.hid (show (s[i].toNat : Int) / 16 = (d : Int) from by omega)
            have HK := Lib.hid (show (s[i].toNat : Int).tmod 16 = (k : Int) from by rw [← hk]; rfl)
            have hd16 : d < 16 := by omega
            have hk16 : k < 16 := by omega
            clear he hd hk
            go_upto_region 17 with fail
            replace M := Lib.hid M.out.drew
            refine tb (fun _ => True) M.out.now ?_
            refine tkp 0 rfl M.out.now ?_
            refine tkp 1 rfl M.out.now ?_
            refine tkp 2 rfl M.out.now ?_
            refine tkp 3 rfl M.out.now ?_ (v := .int .u8 (d : Int)) (hv := by intro w hS; go_simp; rw [HD.out]; rw [show IntKind.u8.wrap (d : Int) = d from wraps_u8 _ (by omega) (by omega)])
            refine tkp 4 rfl M.out.now ?_ (v := .int .u8 ((hexC d).toNat : Int)) (hv := by intro w hS; go_simp; rw [dif_pos (show (d : Int) < 16 by omega)]; exact congrArg (fun n : Nat => Result.ok (Next.value (Value.int .u8 (n : Int))) w) (hexAt d hd16))
            refine tkp 5 rfl M.out.now ?_
            refine tkp 6 rfl M.out.now ?_
            refine tkp 7 rfl M.out.now ?_ (v := .int .u8 (k : Int)) (hv := by intro w hS; go_simp; rw [HK.out])
            refine tkp 8 rfl M.out.now ?_ (v := .int .u8 ((hexC k).toNat : Int)) (hv := by intro w hS; go_simp; rw [dif_pos (show (k : Int) < 16 by omega)]; exact congrArg (fun n : Nat => Result.ok (Next.value (Value.int .u8 (n : Int))) w) (hexAt k hk16))
            refine tr [9] ?_
            refine r_bs SL_su8 (i := 9) rfl (cs := #[.int .u8 92, .int .u8 117, .int .u8 48, .int .u8 48, .int .u8 ((hexC d).toNat : Int), .int .u8 ((hexC k).toNat : Int)]) (by kernel_rfl) M.out ?_ ?_
            · clear M; intro gb w' hgb M; refine ⟨M.out.now, tn ?_⟩
              refine tr [10] ?_
              refine r_cv (i := 10) (l := [92, 117, 48, 48, hexC d, hexC k]) rfl rfl M.out (by repeat constructor) rfl rfl ?_ ?_
              · replace M := Lib.hid M.out.drop; refine ⟨M.out.now, tn ?_⟩
                refine tkp 11 rfl M.out.now ?_ (v := .string (bs (X ++ [92, 117, 48, 48, hexC d, hexC k]))) (hv := by intro w hS; go_simp; rw [if_neg (show ¬ 9223372036854775807 < (bs X).size + (bs [92, 117, 48, 48, hexC d, hexC k]).size by rw [bs_size2, bs_size2]; simp; omega), bs_app2])
                refine tkp 12 rfl M.out.now ?_
                refine te ?_
                go_wp2
                go_roundg (s.size - (i + 1))
                case measure => rw [HG.out]; omega
                case rel => exact ⟨i + 1, by omega, rfl, by rw [HS.out, HE.out], by go_num, M⟩
              exact .nil
            exact .nil
        · have hk5 := kidx_ge h3
          have hk5' : ¬ (kidx s[i] : Int) < 5 := by omega
          have HE := Lib.hid he
          clear he
          go_wp2_with (first | ((with_reducible refine g_bs 78 72 ?_); refine l_bs SL_su8 (cs := #[.int .u8 (s[i].toNat : Int)]) (by kernel_rfl) M.out ?_; clear M; intro g72 w' hg72 M) | ((with_reducible refine g_cv ?_); refine l_cv (l := [s[i]]) rfl M.out (by repeat constructor) rfl (by simp) ?_; replace M := Lib.hid M.out.drop) | ((with_reducible refine g_cat ?_); refine l_cat rfl rfl (by first | omega | (simp only [List.length_cons, List.length_nil]; omega)) ?_))
          go_roundg (s.size - (i + 1))
          case measure => rw [HG.out]; omega
          case rel => exact ⟨i + 1, by omega, rfl, by rw [HS.out, HE.out], by go_num, M⟩
    · obtain rfl : i = s.size := by omega
      have HT := Lib.hid (show s.data.toList.take s.size = s.data.toList from List.take_of_length_le (by simp))
      rw [HT.out] at hfl ⊢
      obtain ⟨X, hX⟩ : ∃ X, (m :: s.data.toList.flatMap (escB m)) = X := ⟨_, rfl⟩
      have hXl : X.length ≤ 600000001 := by rw [← hX, List.length_cons]; omega
      have HX := Lib.hid (show txtL m s.data.toList = X ++ [m] from by rw [← hX]; rfl)
      rw [hX]
      clear hX hfl
      go_wp2_with (first | ((with_reducible refine g_bs 78 77 ?_); refine l_bs SL_su8 (cs := #[.int .u8 (m.toNat : Int)]) (by kernel_rfl) M.out ?_; clear M; intro g77 w' hg77 M) | ((with_reducible refine g_cv ?_); refine l_cv (l := [m]) rfl M.out (by repeat constructor) rfl (by simp) ?_; replace M := Lib.hid M.out.drop) | ((with_reducible refine g_cat ?_); refine l_cat rfl rfl (by first | omega | (simp only [List.length_cons, List.length_nil]; omega)) ?_))
      go_ret
      exact ⟨by rw [HX.out]; rfl, M.out.bel0⟩


end Go.Proofs.YtpcbcodmocmilaaGreatDoor
