/- A Builder in Own's words: String; esc.sign, esc.between, esc.Single (printed by gen_zl.py). -/
import Derived.Lib.UnsafeStr
import Derived.Shelf.RegionOpen
import Derived.Test.YtpcbcodmocmilaaGreatDoorRG23
import Derived.Test.YtpcbcodmocmilaaGreatDoorRG16
import Derived.Test.YtpcbcodmocmilaaGreatDoorRG25
import Derived.Test.YtpcbcodmocmilaaGreatDoorShq
namespace Go.Proofs.YtpcbcodmocmilaaGreatDoor
open Go.RowKit

section
variable {w0 : World} {L : List BlkE} {rs : List RowE} {J : World → Prop} {g : Nat} {T : TypeId} {t : List UInt8} {w w' : World}
theorem WrS.now (h : WrS w0 w g T L rs J t) : J w := by obtain ⟨p, v, M, _⟩ := h; exact M.now
theorem WrS.bel0 (h : WrS w0 w g T L rs J t) : Bel w0.heap.size w0 w := by obtain ⟨p, v, M, _⟩ := h; exact M.bel0
theorem WrS.bel (h : WrS w0 w g T L rs J t) (hb : Bel w.heap.size w w') : WrS w0 w' g T L rs J t := by obtain ⟨p, v, M, hp⟩ := h; exact ⟨p, v, M.bel hb, hp⟩
theorem WrS.drew (h : WrS w0 w g T L rs J t) : WrS w0 w.drew g T L rs J t := by obtain ⟨p, v, M, hp⟩ := h; exact ⟨p, v, M.drew, hp⟩
theorem WrS.imp {J' : World → Prop} (h : WrS w0 w g T L rs J t) (hj : ∀ y, J y → J' y) : WrS w0 w g T L rs J' t := by obtain ⟨p, v, M, hp⟩ := h; exact ⟨p, v, M.imp hj, hp⟩
theorem WrS.new (h : Own [] w0 w ((g, T, #[.pointer none, .slice none 0 0]) :: L) rs J) : WrS w0 w g T L rs J [] := ⟨_, _, h.rowNil _ 1, .inl rfl⟩
theorem WrS.alloc (h : WrS w0 w g T L rs J t) (ty : TypeId) (cs : Array Value) : WrS w0 (w.alloc (.cells cs ty)) g T ((w.heap.size, ty, cs) :: L) rs J t := by
  obtain ⟨p, v, M, hp⟩ := h; exact ⟨p, v, (M.alloc ty cs).permL' (List.Perm.swap _ _ _), hp⟩
theorem WrS.freeze {g2 : Nat} {ty : TypeId} {cs : Array Value} (h : WrS w0 w g T ((g2, ty, cs) :: L) rs J t) : WrS w0 w g T L rs (fun y => J y ∧ Blk y g2 ty cs) t := by
  obtain ⟨p, v, M, hp⟩ := h; exact ⟨p, v, (M.permL' (List.Perm.swap _ _ _)).freeze, hp⟩
end

theorem wwn_any {w0 : World} {L : List BlkE} {rs : List RowE} {J : World → Prop} (c : UInt8) (n : Int) (hn : (c.toNat : Int) = n) (g : Nat) (T : TypeId) (hT : BT Tryz.prog T) (t : List UInt8) (w : World) (h : WrS w0 w g T L rs J t) (hl : t.length ≤ 1000000000) : Calls Tryz.prog 139 #[.pointer (some ⟨g, 0, none⟩), .int .u8 n] w fun e w' => e = .returned .nilIface ∧ WrS w0 w' g T L rs J (t ++ [c]) := hn ▸ wwb_any g T hT t c w h hl
set_option maxRecDepth 100000 in
set_option maxHeartbeats 2000000 in
theorem wst_any {w0 : World} {L : List BlkE} {rs : List RowE} {J : World → Prop} (g : Nat) (T : TypeId) (t : List UInt8) (w : World) (h : WrS w0 w g T L rs J t) (h0 : t ≠ []) (hl : t.length ≤ 1000000000) : Calls Tryz.prog 35 #[.pointer (some ⟨g, 0, none⟩)] w fun e w' => e = .returned (.string (bs t)) ∧ Bel w0.heap.size w0 w' := by
  obtain ⟨p, v, M, -⟩ := h
  have hbk : Blk w g T #[p, v] := M.blk (g, T, #[p, v]) (by simp)
  have hown : w.ownsRow w0.heap.size 5 1 v t.length (byC t) := M.row (v, 5, 1, t.length, byC t) (by simp)
  have hl0 : t.length ≠ 0 := by simpa using h0
  obtain ⟨gr, cap, cur, rfl, hbg, hg, hnc, hcm, hcs, htake⟩ : ∃ gr cap cur, v = .slice (some ⟨gr, 0, none⟩) t.length cap ∧ w0.heap.size ≤ gr ∧ w.heap[gr]? = some (.cells cur 5 (0, 0)) ∧ t.length ≤ cap ∧ cap ≤ maxLen ∧ cur.size = cap * 1 ∧ cur.toList.take (t.length * 1) = byC t := by
    rcases hown.2 with ⟨_, hz⟩ | ⟨g', cap, cur, hv, r⟩
    · exact absurd hz hl0
    · exact ⟨g', cap, cur, hv, r⟩
  have c1 : w.drew.cell? ⟨g, 1, none⟩ = some (.slice (some ⟨gr, 0, none⟩) t.length cap) := hbk.cell 1
  have hSD : (Builtin.unsafeSliceData_ #[78] 119 #[.slice (some ⟨gr, 0, none⟩) t.length cap]).run Tryz.prog w.drew = .ok (.pointer (some ⟨gr, 0, none⟩)) w.drew :=
    Lib.run_unsafeSliceData_row _ _ _ _ _ _ (by omega)
  have hUS : (Builtin.unsafeString_ #[119, 3] 9 #[.pointer (some ⟨gr, 0, none⟩), .int .i64 t.length]).run Tryz.prog w.drew = .ok (.string ⟨t.toArray⟩) (w.drew.freeze ⟨gr, 0, none⟩ t.length) := by
    refine Lib.run_unsafeString_row w.drew _ _ _ 5 Tryz.underlying119 (by kernel_rfl) gr cur.size (by have hg' : w.drew.heap[gr]? = some (.cells cur 5 (0, 0)) := hg; simp [World.shape?, hg']) t h0 (by omega) (by omega) ?_
    intro j x hx
    have := hown.cells (g := gr) rfl j (.int .u8 x.toNat) (by simp [byC, Lib.byteCells, hx])
    exact this
  have hB := M.bel0
  clear hown htake hg hcs hbk M
  have mixed : Tryz.prog.follows .mixedOrders = true := by kernel_rfl
  go_enter Tryz.func35, Tryz.ntmps35
  go_wp2
  go_region_o
  all_goals (go_wp2; go_ret; exact ⟨rfl, (hB.trans (Bel.of (Lib.below_freeze (Below.drew (Below.refl w0.heap.size w)) (p := ⟨gr, 0, none⟩) hbg _)))⟩)

theorem wraps_u8 (n : Int) (h0 : 0 ≤ n) (h1 : n < 2 ^ 7) : IntKind.u8.wrap n = n := by rw [show IntKind.u8.wrap n = n % 256 from rfl]; omega
theorem hexAt (d : Nat) (hd : d < 16) : ((⟨#[48, 49, 50, 51, 52, 53, 54, 55, 56, 57, 97, 98, 99, 100, 101, 102]⟩ : ByteArray)[d]'hd).toNat = (hexC d).toNat := (by decide : ∀ i : Fin 16, ((⟨#[48, 49, 50, 51, 52, 53, 54, 55, 56, 57, 97, 98, 99, 100, 101, 102]⟩ : ByteArray)[i.val]'i.isLt).toNat = (hexC i.val).toNat) ⟨d, hd⟩
theorem bs_size2 (l : List UInt8) : (bs l).size = l.length := by unfold bs; simp [ByteArray.size]
theorem sg8 (c : UInt8) (h : ((c.toNat : Int) == 8) = true) : signB c = [92, 98] := by
  obtain rfl : c = 8 := UInt8.toNat_inj.1 (by have := beq_iff_eq.1 h; show c.toNat = 8; omega)
  rfl
theorem sg12 (c : UInt8) (h : ((c.toNat : Int) == 12) = true) : signB c = [92, 102] := by
  obtain rfl : c = 12 := UInt8.toNat_inj.1 (by have := beq_iff_eq.1 h; show c.toNat = 12; omega)
  rfl
theorem sg10 (c : UInt8) (h : ((c.toNat : Int) == 10) = true) : signB c = [92, 110] := by
  obtain rfl : c = 10 := UInt8.toNat_inj.1 (by have := beq_iff_eq.1 h; show c.toNat = 10; omega)
  rfl
theorem sg13 (c : UInt8) (h : ((c.toNat : Int) == 13) = true) : signB c = [92, 114] := by
  obtain rfl : c = 13 := UInt8.toNat_inj.1 (by have := beq_iff_eq.1 h; show c.toNat = 13; omega)
  rfl
theorem sg9 (c : UInt8) (h : ((c.toNat : Int) == 9) = true) : signB c = [92, 116] := by
  obtain rfl : c = 9 := UInt8.toNat_inj.1 (by have := beq_iff_eq.1 h; show c.toNat = 9; omega)
  rfl
theorem sgD (c : UInt8) (h8 : ((c.toNat : Int) == 8) = false) (h12 : ((c.toNat : Int) == 12) = false) (h10 : ((c.toNat : Int) == 10) = false) (h13 : ((c.toNat : Int) == 13) = false) (h9 : ((c.toNat : Int) == 9) = false) : signB c = [92, 117, 48, 48, hexC (c.toNat / 16), hexC (c.toNat % 16)] := by
  unfold signB
  rw [if_neg (show ¬ c = 8 from fun e => by rw [e] at h8; cases h8), if_neg (show ¬ c = 12 from fun e => by rw [e] at h12; cases h12), if_neg (show ¬ c = 10 from fun e => by rw [e] at h10; cases h10), if_neg (show ¬ c = 13 from fun e => by rw [e] at h13; cases h13), if_neg (show ¬ c = 9 from fun e => by rw [e] at h9; cases h9)]
theorem bs_app2 (a b : List UInt8) : bs a ++ bs b = bs (a ++ b) := by
  apply ByteArray.ext; simp [bs]
theorem enc_hex (d : Nat) (hd : d < 16) : Utf8.encode ((hexC d).toNat : Int) = bs [hexC d] :=
  (by decide : ∀ i : Fin 16, Utf8.encode ((hexC i.val).toNat : Int) = bs [hexC i.val]) ⟨d, hd⟩

set_option maxRecDepth 100000 in
set_option maxHeartbeats 2000000 in
theorem sign_any {w0 : World} {L : List BlkE} {rs : List RowE} {J : World → Prop} (g : Nat) (T : TypeId) (hT : BT Tryz.prog T) (t : List UInt8) (c : UInt8) (w : World) (h : WrS w0 w g T L rs J t) (hc : c.toNat < 32) (hl : t.length ≤ 999999990) : Calls Tryz.prog 140 #[.pointer (some ⟨g, 0, none⟩), .int .u8 (c.toNat : Int)] w fun e w' => e = .returned (.tuple #[]) ∧ WrS w0 w' g T L rs J (t ++ signB c) := by
  have M := Lib.hid h
  clear h
  have hl1 : t.length + 1 ≤ 999999991 := by omega
  go_enter Tryz.func140, Tryz.ntmps140
  go_wp2_with (first | (go_at_call 139; (with_reducible refine (wwn_any 92 92 rfl g T hT _ _ M.out (by first | omega | (simp; omega))).mono ?_); rintro e w' ⟨rfl, hm⟩; replace M := Lib.hid hm; clear hm) | (go_at_call 139; (with_reducible refine (wwn_any 98 98 rfl g T hT _ _ M.out (by simp; omega)).mono ?_); rintro e w' ⟨rfl, hm⟩; replace M := Lib.hid hm; clear hm) | (go_at_call 139; (with_reducible refine (wwn_any 102 102 rfl g T hT _ _ M.out (by simp; omega)).mono ?_); rintro e w' ⟨rfl, hm⟩; replace M := Lib.hid hm; clear hm) | (go_at_call 139; (with_reducible refine (wwn_any 110 110 rfl g T hT _ _ M.out (by simp; omega)).mono ?_); rintro e w' ⟨rfl, hm⟩; replace M := Lib.hid hm; clear hm) | (go_at_call 139; (with_reducible refine (wwn_any 114 114 rfl g T hT _ _ M.out (by simp; omega)).mono ?_); rintro e w' ⟨rfl, hm⟩; replace M := Lib.hid hm; clear hm) | (go_at_call 139; (with_reducible refine (wwn_any 116 116 rfl g T hT _ _ M.out (by simp; omega)).mono ?_); rintro e w' ⟨rfl, hm⟩; replace M := Lib.hid hm; clear hm))
  rotate_left 5
  · obtain ⟨d, hd⟩ : ∃ d : Nat, c.toNat / 16 = d := ⟨_, rfl⟩
    obtain ⟨k, hk⟩ : ∃ k : Nat, c.toNat % 16 = k := ⟨_, rfl⟩
    have hdI : (c.toNat : Int) / 16 = (d : Int) := by omega
    have hkI : bits .and .u8 (c.toNat : Int) 15 = (k : Int) := by rw [show (15 : Int) = 2 ^ 4 - 1 from rfl, bits_mask .u8 7 (by decide) wraps_u8 4 (by decide) (c.toNat : Int) (by omega) (by omega)]; omega
    have HD := Lib.hid hdI
    have HK := Lib.hid hkI
    have hd16 : d < 16 := by omega
    have hk16 : k < 16 := by omega
    have HDK := Lib.hid (And.intro hd hk)
    clear hd hk hdI hkI
    replace M := Lib.hid M.out.drew
    refine tb (J) M.out.now ?_
    refine tkp 0 rfl M.out.now ?_
    refine tkp 1 rfl M.out.now ?_
    refine tkp 2 rfl M.out.now ?_ (v := .int .u8 (d : Int)) (hv := by intro w hS; go_simp; rw [HD.out])
    refine tkp 3 rfl M.out.now ?_ (v := .int .u8 ((hexC d).toNat : Int)) (hv := by intro w hS; go_simp; rw [dif_pos (show (d : Int) < 16 by omega)]; exact congrArg (fun n : Nat => Result.ok (Next.value (Value.int .u8 (n : Int))) w) (hexAt d hd16))
    refine tkp 4 rfl M.out.now ?_ (v := .string (bs [hexC d])) (hv := by intro w hS; go_simp; rw [enc_hex d hd16])
    refine tkp 5 rfl M.out.now ?_ (v := .string (bs [117, 48, 48, hexC d])) (hv := by intro w hS; go_simp; rw [if_neg (by show ¬ 9223372036854775807 < 3 + 1; decide)]; exact congrArg (fun s => Result.ok (Next.value (Value.string s)) w) (bs_app2 [117, 48, 48] [hexC d]))
    refine tkp 6 rfl M.out.now ?_
    refine tkp 7 rfl M.out.now ?_ (v := .int .u8 (k : Int)) (hv := by intro w hS; go_simp; rw [HK.out])
    refine tkp 8 rfl M.out.now ?_ (v := .int .u8 ((hexC k).toNat : Int)) (hv := by intro w hS; go_simp; rw [dif_pos (show (k : Int) < 16 by omega)]; exact congrArg (fun n : Nat => Result.ok (Next.value (Value.int .u8 (n : Int))) w) (hexAt k hk16))
    refine tkp 9 rfl M.out.now ?_ (v := .string (bs [hexC k])) (hv := by intro w hS; go_simp; rw [enc_hex k hk16])
    refine tkp 10 rfl M.out.now ?_ (v := .string (bs [117, 48, 48, hexC d, hexC k])) (hv := by intro w hS; go_simp; rw [if_neg (by show ¬ 9223372036854775807 < 4 + 1; decide)]; exact congrArg (fun s => Result.ok (Next.value (Value.string s)) w) (bs_app2 [117, 48, 48, hexC d] [hexC k]))
    refine tr [11] ?_
    refine rdy_call (wws_any g T hT (t ++ [92]) (bs [117, 48, 48, hexC d, hexC k]) _ M.out (by rw [bs_size2]; simp <;> omega)) (i := 11) (op := .call _) rfl (by go_simp) ?_ ?_
    · rintro e_ w' ⟨rfl, hm⟩; replace M := Lib.hid hm; clear hm; refine ⟨_, rfl, ?_⟩; refine ⟨M.out.now, tn ?_⟩
      refine te ?_
      go_wp2
      go_end0
      have e := (sgD c (by assumption) (by assumption) (by assumption) (by assumption) (by assumption))
      rw [HDK.out.1, HDK.out.2] at e
      exact ⟨rfl, by have h := M.out; rw [bs_list, List.append_assoc] at h; rw [e]; exact h⟩
    exact .nil
  all_goals (go_end0; exact ⟨rfl, by have h := M.out; rw [List.append_assoc] at h; first | (rw [sg8 c (by assumption)]; exact h) | (rw [sg12 c (by assumption)]; exact h) | (rw [sg10 c (by assumption)]; exact h) | (rw [sg13 c (by assumption)]; exact h) | (rw [sg9 c (by assumption)]; exact h)⟩)

theorem F_B : TyF Tryz.prog 80 2 #[.pointer none, .slice none 0 0] := ⟨⟨_, Tryz.underlying80, rfl⟩, by kernel_rfl, by kernel_rfl⟩
theorem F_Wr : TyF Tryz.prog 82 2 #[.pointer none, .slice none 0 0] := ⟨⟨_, Tryz.underlying82, rfl⟩, by kernel_rfl, by kernel_rfl⟩
theorem runU_bd (l : List UInt8) : 0 ≤ runU 0 l ∧ runU 0 l ≤ 8 := by
  have : ∀ (l : List UInt8) (st : Int), 0 ≤ st ∧ st ≤ 8 → 0 ≤ runU st l ∧ runU st l ≤ 8 := by
    intro l
    induction l with
    | nil => intro st h; exact h
    | cons c r ih => intro st _; exact ih _ (ustep_bd st c.toNat)
  exact this l 0 (by omega)
theorem take_snoc2 (s : ByteArray) (k : Nat) (h : k < s.size) : s.data.toList.take (k + 1) = s.data.toList.take k ++ [s[k]] := by
  rw [List.take_succ_eq_append_getElem (by simpa using h)]; rfl

set_option maxRecDepth 100000 in
set_option maxHeartbeats 2000000 in
theorem right_any (s : ByteArray) (w : World) (hs : s.size ≤ 1000000000) : Calls Tryz.prog 138 #[.string s] w fun e w' => e = .returned (.bool (rightL s.data.toList)) ∧ w = w' := by
  go_enter Tryz.func138, Tryz.ntmps138
  go_wp2
  go_loopg [3, 7] s.size (fun gk st kk wr => ∃ k : Nat, k ≤ s.size ∧ gk = s.size - k ∧ kk = .int .i64 k ∧ st = .int .i64 (runU 0 (s.data.toList.take k)) ∧ wr = w)
  case atStart => exact ⟨0, Nat.zero_le _, rfl, rfl, rfl, rfl⟩
  case round =>
    obtain ⟨k, hk, hgk, rfl, rfl, rfl⟩ := hrel
    have HG := Lib.hid hgk
    clear hgk
    obtain ⟨h0, h8⟩ := runU_bd (s.data.toList.take k)
    by_cases hlt : k < s.size
    · have HS := Lib.hid (show runU 0 (s.data.toList.take (k + 1)) = ustep (runU 0 (s.data.toList.take k)) s[k].toNat from by rw [take_snoc2 s k hlt, runU_app]; rfl)
      have hb : (s[k].toNat : Int) < 256 := by have := UInt8.toNat_lt s[k]; omega
      generalize runU 0 (s.data.toList.take k) = st at *
      go_wp2_with (go_at_call 117; (with_reducible refine (ustep_any _ _ _ (by omega) (by omega) (by omega) (by omega)).mono ?_); rintro e w' ⟨rfl, rfl⟩)
      go_roundg (s.size - (k + 1))
      case measure => rw [HG.out]; omega
      case rel => exact ⟨k + 1, by omega, rfl, by go_num, by rw [HS.out], rfl⟩
    · obtain rfl : k = s.size := by omega
      have HT := Lib.hid (show s.data.toList.take s.size = s.data.toList from List.take_of_length_le (by simp))
      go_wp2
      go_ret
      exact ⟨by unfold rightL; rw [HT.out]; rfl, rfl⟩

theorem esc_cases (m c : UInt8) : (((c.toNat : Int) == (m.toNat : Int)) = true ∧ escB m c = [92] ++ [c]) ∨ (((c.toNat : Int) == (m.toNat : Int)) = false ∧ ((c.toNat : Int) == 92) = true ∧ escB m c = [92] ++ [c]) ∨
    (((c.toNat : Int) == (m.toNat : Int)) = false ∧ ((c.toNat : Int) == 92) = false ∧ decide ((c.toNat : Int) < 32) = true ∧ c.toNat < 32 ∧ escB m c = signB c) ∨ (((c.toNat : Int) == (m.toNat : Int)) = false ∧ ((c.toNat : Int) == 92) = false ∧ decide ((c.toNat : Int) < 32) = false ∧ escB m c = [c]) := by
  by_cases h1 : c = m
  · subst h1; exact .inl ⟨by simp, by unfold escB; rw [if_pos (.inl rfl)]; rfl⟩
  · have e1 : ((c.toNat : Int) == (m.toNat : Int)) = false := beq_eq_false_iff_ne.2 fun e => h1 (UInt8.toNat_inj.1 (by omega))
    by_cases h2 : c = 92
    · exact .inr (.inl ⟨e1, by subst h2; rfl, by unfold escB; rw [if_pos (.inr h2)]; rfl⟩)
    · have e2 : ((c.toNat : Int) == 92) = false := beq_eq_false_iff_ne.2 fun e => h2 (UInt8.toNat_inj.1 (by show c.toNat = 92; omega))
      by_cases h3 : c.toNat < 32
      · exact .inr (.inr (.inl ⟨e1, e2, by simp; omega, h3, by unfold escB; rw [if_neg (by simp [h1, h2]), if_pos h3]⟩))
      · exact .inr (.inr (.inr ⟨e1, e2, by simp; omega, by unfold escB; rw [if_neg (by simp [h1, h2]), if_neg h3]⟩))

set_option maxRecDepth 100000 in
set_option maxHeartbeats 2000000 in
theorem between_any (m : UInt8) (s : ByteArray) (w : World) (hs : s.size ≤ 100000000) (hr : runU 0 s.data.toList = 0) : Calls Tryz.prog 125 #[.string s, .int .u8 (m.toNat : Int)] w fun e w' => e = .returned (.tuple #[.string (bs (txtL m s.data.toList)), .int .i64 0]) ∧ Bel w.heap.size w w' := by
  have HR := Lib.hid (show rightL s.data.toList = true from by unfold rightL; rw [hr]; rfl)
  clear hr
  have M := Lib.hid (Own.start [] w (fun _ => True) fun _ _ => trivial)
  go_enter Tryz.func125, Tryz.ntmps125
  go_upto_region 4 with (first | (go_at_call 138; (with_reducible refine (right_any s _ (by omega)).mono ?_); rintro e w' ⟨rfl, rfl⟩; rw [HR.out]) | ((with_reducible refine g_al 80 6 ?_); refine l_al F_B M.out ?_; clear M; intro g6 w' hg6 M))
  replace M := Lib.hid (WrS.new M.out)
  go_wp2_with (go_at_call 139; (with_reducible refine (wwb_any g6 _ BT_b _ m _ M.out (by simp)).mono ?_); rintro e w' ⟨rfl, hm⟩; replace M := Lib.hid hm; clear hm)
  go_loopg [16] s.size (fun gk kk wr => ∃ k : Nat, k ≤ s.size ∧ gk = s.size - k ∧ kk = .int .i64 k ∧ Hid (WrS w wr g6 80 [] [] (fun _ => True) (m :: (s.data.toList.take k).flatMap (escB m))))
  case atStart => exact ⟨0, Nat.zero_le _, rfl, rfl, Lib.hid M.out⟩
  case round =>
    clear M
    obtain ⟨k, hk, hgk, rfl, M⟩ := hrel
    have HG := Lib.hid hgk
    clear hgk
    have hfl : ((s.data.toList.take k).flatMap (escB m)).length ≤ 600000000 := by
      have := escs_len m (s.data.toList.take k)
      have := List.length_take_le k s.data.toList
      omega
    by_cases hlt : k < s.size
    · have HS := Lib.hid (show m :: (s.data.toList.take (k + 1)).flatMap (escB m) = (m :: (s.data.toList.take k).flatMap (escB m)) ++ escB m s[k] from by rw [take_snoc2 s k hlt]; simp)
      have hb : (s[k].toNat : Int) < 256 := by have := UInt8.toNat_lt s[k]; omega
      generalize hX : (m :: (s.data.toList.take k).flatMap (escB m)) = X at *
      have hXl : X.length ≤ 600000001 := by rw [← hX, List.length_cons]; omega
      clear hfl hX
      rcases esc_cases m s[k] with ⟨hm, he⟩ | ⟨hm, h9, he⟩ | ⟨hm, h9, h3, h3', he⟩ | ⟨hm, h9, h3, he⟩
      all_goals
        have HE := Lib.hid he
        clear he
        go_wp2_with (first | (go_at_call 139; (with_reducible refine (wwn_any 92 92 rfl g6 _ BT_b _ _ M.out (by first | omega | (simp; omega))).mono ?_); rintro e w' ⟨rfl, hm⟩; replace M := Lib.hid hm; clear hm) | (go_at_call 139; (with_reducible refine (wwb_any g6 _ BT_b _ _ _ M.out (by first | omega | (simp; omega))).mono ?_); rintro e w' ⟨rfl, hm⟩; replace M := Lib.hid hm; clear hm) | (go_at_call 140; (with_reducible refine (sign_any g6 _ BT_b _ s[k] _ M.out h3' (by first | omega | (simp; omega))).mono ?_); rintro e w' ⟨rfl, hm⟩; replace M := Lib.hid hm; clear hm))
        go_roundg (s.size - (k + 1))
        case measure => rw [HG.out]; omega
        case rel => exact ⟨k + 1, by omega, rfl, by go_num, Lib.hid (by rw [HS.out, HE.out]; have h := M.out; (try rw [List.append_assoc] at h); exact h)⟩
    · obtain rfl : k = s.size := by omega
      have HT := Lib.hid (show s.data.toList.take s.size = s.data.toList from List.take_of_length_le (by simp))
      rw [HT.out] at M hfl
      go_wp2_with (first | (go_at_call 139; (with_reducible refine (wwb_any g6 _ BT_b _ m _ M.out (by rw [List.length_cons]; omega)).mono ?_); rintro e w' ⟨rfl, hm⟩; replace M := Lib.hid hm; clear hm) | (go_at_call 35; (with_reducible refine (wst_any g6 _ _ _ M.out (by simp) (by rw [List.length_append, List.length_cons, List.length_singleton]; omega)).mono ?_); rintro e w' ⟨rfl, hb⟩; have HB := Lib.hid hb; clear hb))
      go_ret2
      exact ⟨rfl, HB.out⟩


end Go.Proofs.YtpcbcodmocmilaaGreatDoor
