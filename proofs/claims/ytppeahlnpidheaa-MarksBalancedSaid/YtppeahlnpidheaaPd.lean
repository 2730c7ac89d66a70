/- ref12: Value, item, many, Text. -/
import Derived.Test.YtppeahlnpidheaaPd0
namespace Go.Proofs.Ytppeahlnpidheaa
open Go.RowKit

/-- A block holds an R. -/
def R3 (w : World) (b : Nat) (n : Int) (ok : Bool) (d : Int) : Prop := b < w.heap.size ∧ (w.cell? ⟨b, 0, none⟩ = some (.int .i64 n) ∧ w.cell? ⟨b, 1, none⟩ = some (.bool ok) ∧ w.cell? ⟨b, 2, none⟩ = some (.int .i64 d)) ∧ w.frozen? ⟨b, 0, none⟩ = false ∧ w.frozen? ⟨b, 1, none⟩ = false ∧ w.frozen? ⟨b, 2, none⟩ = false
theorem R3.new (w : World) (n d : Int) (ok : Bool) (t : TypeId) : R3 (w.alloc (.cells #[.int .i64 n, .bool ok, .int .i64 d] t)) w.heap.size n ok d := by
  refine ⟨by simp, ⟨?_, ?_, ?_⟩, ?_, ?_, ?_⟩ <;> simp [go_sem]
theorem R3.bel {W w1 : World} {b : Nat} {n d : Int} {ok : Bool} {B : Nat} (h : R3 W b n ok d) (hb : Bel B W w1) (hB : b < B) : R3 w1 b n ok d := by
  obtain ⟨h0, ⟨h1, h2, h3⟩, h4, h5, h6⟩ := h
  exact ⟨Nat.lt_of_lt_of_le h0 hb.size, ⟨(hb.cell (p := ⟨b, 0, none⟩) hB).trans h1, (hb.cell (p := ⟨b, 1, none⟩) hB).trans h2, (hb.cell (p := ⟨b, 2, none⟩) hB).trans h3⟩, (hb.frozen (p := ⟨b, 0, none⟩) hB).trans h4, (hb.frozen (p := ⟨b, 1, none⟩) hB).trans h5, (hb.frozen (p := ⟨b, 2, none⟩) hB).trans h6⟩
theorem R3.alloc {W : World} {b : Nat} {n d : Int} {ok : Bool} (h : R3 W b n ok d) (o : Obj) : R3 (W.alloc o) b n ok d := h.bel ((Bel.refl W.heap.size W).alloc (Nat.le_refl _) o) h.1

def VC (s : ByteArray) (g : Nat) : Prop := ∀ (a : Nat) (w : World), a ≤ s.size → 4 * (s.size - a) + 1 ≤ g → Calls Try.prog 25 #[.string s, .int .i64 a] w (RP w (vat (valL g) s a))
def IC (s : ByteArray) (g : Nat) : Prop := ∀ (z : UInt8) (a : Nat) (w : World), (z = 93 ∨ z = 125) → a ≤ s.size → 4 * (s.size - a) + 2 ≤ g → Calls Try.prog 34 #[.string s, .int .i64 a, .int .u8 z.toNat] w (RP w (vat (itemL g z) s a))
def MC (s : ByteArray) (g : Nat) : Prop := ∀ (z : UInt8) (a : Nat) (w : World), (z = 93 ∨ z = 125) → a ≤ s.size → 4 * (s.size - a) + 4 ≤ g → Calls Try.prog 32 #[.string s, .int .i64 a, .int .u8 z.toNat] w (RP w (vat (manyL g z) s a))

theorem bl_call (s : ByteArray) (a p : Nat) (w : World) (hs : s.size ≤ 9223372036854774000) (ha : a ≤ s.size) (hp : a + blN (dr s a) = p) :
    Calls Try.prog 26 #[.string s, .int .i64 a] w fun e w' => e = .returned (.int .i64 (p : Nat)) ∧ w = w' := by
  subst hp; exact blanks_any s a w (by unfold maxLen; omega) ha
theorem word_call (s t : ByteArray) (l : List UInt8) (a : Nat) (w : World) (hs : s.size ≤ 9223372036854774000) (ht : t.data.toList = l) (hl : l.length ≤ 100) (ha : a ≤ s.size) :
    Calls Try.prog 31 #[.string s, .int .i64 a, .string t] w (RP w ((wordL l (dr s a)).map fun n => (a + n, 0))) := by
  have hz : t.size = l.length := by rw [← ht]; simp
  subst ht
  exact (word_any s t a w hs (by omega) ha).mono fun e w' h => RP.of_E h
theorem str_call (s : ByteArray) (a : Nat) (w : World) (hs : s.size ≤ 9223372036854774000) (ha : a ≤ s.size) :
    Calls Try.prog 8 #[.string s, .int .i64 a] w (RP w ((strL (dr s a)).map fun n => (a + n, 0))) :=
  (str_any s a w hs ha).mono fun e w' h => RP.of_E h
theorem num_call (s : ByteArray) (a : Nat) (w : World) (hs : s.size ≤ 9223372036854774000) (ha : a ≤ s.size) :
    Calls Try.prog 33 #[.string s, .int .i64 a] w (RP w ((numL (dr s a)).map fun n => (a + n, 0))) :=
  (number_any s a w (by omega) ha).mono fun e w' h => RP.of_E h

set_option maxRecDepth 100000 in
set_option maxHeartbeats 4000000 in
theorem value_step (s : ByteArray) (hs : s.size ≤ 9223372036854774000) (g : Nat) (hM : MC s g) : VC s (g + 1) := by
  intro a w ha hg
  have hb := blN_bd s a ha
  generalize hp : a + blN (dr s a) = p at hb
  have hbl := fun w => bl_call s a p w hs ha hp
  by_cases hlt : p < s.size
  · have HV := Lib.hid (vat_val (g := g) hlt hp)
    have hpa : a ≤ p := by omega
    clear hp
    have hw1 := fun w => word_call s ⟨#[110, 117, 108, 108]⟩ _ p w hs rfl (by decide) (by omega)
    have hw2 := fun w => word_call s ⟨#[116, 114, 117, 101]⟩ _ p w hs rfl (by decide) (by omega)
    have hw3 := fun w => word_call s ⟨#[102, 97, 108, 115, 101]⟩ _ p w hs rfl (by decide) (by omega)
    have hst := fun w => str_call s p w hs (by omega)
    have hnu := fun w => num_call s p w hs (by omega)
    have hm1 : ∀ w, Calls Try.prog 32 #[.string s, .int .i64 ((p : Int) + 1), .int .u8 93] w (RP w (vat (manyL g 93) s (p + 1))) := fun w => hM 93 (p + 1) w (.inl rfl) (by omega) (by omega)
    have hm2 : ∀ w, Calls Try.prog 32 #[.string s, .int .i64 ((p : Int) + 1), .int .u8 125] w (RP w (vat (manyL g 125) s (p + 1))) := fun w => hM 125 (p + 1) w (.inr rfl) (by omega) (by omega)
    clear hM
    generalize (wordL [110, 117, 108, 108] (dr s p)).map (fun n => (p + n, 0)) = o1 at *
    generalize (wordL [116, 114, 117, 101] (dr s p)).map (fun n => (p + n, 0)) = o2 at *
    generalize (wordL [102, 97, 108, 115, 101] (dr s p)).map (fun n => (p + n, 0)) = o3 at *
    generalize (strL (dr s p)).map (fun n => (p + n, 0)) = o4 at *
    generalize (numL (dr s p)).map (fun n => (p + n, 0)) = o7 at *
    generalize vat (manyL g 93) s (p + 1) = o5 at *
    generalize vat (manyL g 125) s (p + 1) = o6 at *
    generalize vat (valL (g + 1)) s a = o at *
    go_enter Try.func25, Try.ntmps25
    go_wp2_with (first
      | (go_at_call 26; refine (hbl _).mono ?_; rintro e w' ⟨rfl, rfl⟩)
      | ((first
           | (go_at_call 31; (first | with_reducible refine (hw1 _).mono ?_ | with_reducible refine (hw2 _).mono ?_ | with_reducible refine (hw3 _).mono ?_))
           | (go_at_call 8; refine (hst _).mono ?_)
           | (go_at_call 32; (first | with_reducible refine (hm1 _).mono ?_ | with_reducible refine (hm2 _).mono ?_))
           | (go_at_call 33; refine (hnu _).mono ?_)); rintro e w1 ⟨m, ok, d, rfl, hr, hb1⟩; simp only [RV]; have HR := Lib.hid hr; have HB1 := Lib.hid hb1; obtain ⟨f0, f1, f2, g0, g1, g2, fsz⟩ := three w _ _ _ _ (hb1.mono (by simp)); have HW := Lib.hid (((Bel.of (by (repeat' (first | (with_reducible exact Below.refl _ _) | (with_reducible refine Below.trans ?_ (below_drewN _ _ _)) | (with_reducible refine Below.alloc ?_ ?_ _) | (with_reducible refine Below.setCell ?_ ?_ _) | (with_reducible refine Below.drew ?_) | go_size))) : Bel w.heap.size w (w.alloc (.cells #[.int .i64 0, .bool false, .int .i64 0] 24)))).trans (hb1.mono (by simp))); clear hr hb1))
    all_goals
      refine bodyPost_ret (v := RV m ok d) (by simp [results, Try.results25, go_sem, RV, f0, f1, f2, World.cell?_alloc_past, fsz]) rfl ?_
      refine ⟨m, ok, d, rfl, ?_, by (repeat' (first | (with_reducible exact HW.out) | (with_reducible exact HB5.out) | (with_reducible refine Bel.setCell ?_ (by first | exact Nat.le_refl _ | (simp; omega) | omega) _) | (with_reducible refine Bel.alloc ?_ (by first | exact Nat.le_refl _ | (simp; omega) | omega) _) | (with_reducible refine Bel.drew ?_) | (with_reducible refine Bel.drewN ?_ _)))⟩
      have h := HV.out
      rw [h]
      (first | (rw [ite_t (show ((s[p].toNat : Int) == 110) = true by assumption)]; exact HR.out) | (rw [ite_f (show ((s[p].toNat : Int) == 110) = false by assumption), ite_t (show ((s[p].toNat : Int) == 116) = true by assumption)]; exact HR.out) | (rw [ite_f (show ((s[p].toNat : Int) == 110) = false by assumption), ite_f (show ((s[p].toNat : Int) == 116) = false by assumption), ite_t (show ((s[p].toNat : Int) == 102) = true by assumption)]; exact HR.out) | (rw [ite_f (show ((s[p].toNat : Int) == 110) = false by assumption), ite_f (show ((s[p].toNat : Int) == 116) = false by assumption), ite_f (show ((s[p].toNat : Int) == 102) = false by assumption), ite_t (show ((s[p].toNat : Int) == 34) = true by assumption)]; exact HR.out) | (rw [ite_f (show ((s[p].toNat : Int) == 110) = false by assumption), ite_f (show ((s[p].toNat : Int) == 116) = false by assumption), ite_f (show ((s[p].toNat : Int) == 102) = false by assumption), ite_f (show ((s[p].toNat : Int) == 34) = false by assumption), ite_t (show ((s[p].toNat : Int) == 91) = true by assumption)]; exact HR.out) | (rw [ite_f (show ((s[p].toNat : Int) == 110) = false by assumption), ite_f (show ((s[p].toNat : Int) == 116) = false by assumption), ite_f (show ((s[p].toNat : Int) == 102) = false by assumption), ite_f (show ((s[p].toNat : Int) == 34) = false by assumption), ite_f (show ((s[p].toNat : Int) == 91) = false by assumption), ite_t (show ((s[p].toNat : Int) == 123) = true by assumption)]; exact HR.out) | (rw [ite_f (show ((s[p].toNat : Int) == 110) = false by assumption), ite_f (show ((s[p].toNat : Int) == 116) = false by assumption), ite_f (show ((s[p].toNat : Int) == 102) = false by assumption), ite_f (show ((s[p].toNat : Int) == 34) = false by assumption), ite_f (show ((s[p].toNat : Int) == 91) = false by assumption), ite_f (show ((s[p].toNat : Int) == 123) = false by assumption)]; exact HR.out))
  · have HV := Lib.hid (vat_end (g := g) (by omega) hp)
    clear hp hM
    generalize vat (valL (g + 1)) s a = o at *
    go_enter Try.func25, Try.ntmps25
    go_wp2_with (first
      | (go_at_call 26; refine (hbl _).mono ?_; rintro e w' ⟨rfl, rfl⟩)
      | (go_at_call 19; go_in))
    refine bodyPost_ret (v := RV p false 0) (by simp [results, Try.results25, go_sem, RV]) rfl ?_
    exact ⟨p, false, 0, rfl, by rw [HV.out]; exact Res.none_ _, Bel.of (by (repeat' (first | (with_reducible exact Below.refl _ _) | (with_reducible refine Below.trans ?_ (below_drewN _ _ _)) | (with_reducible refine Below.alloc ?_ ?_ _) | (with_reducible refine Below.setCell ?_ ?_ _) | (with_reducible refine Below.drew ?_) | go_size)))⟩

set_option maxRecDepth 100000 in
set_option maxHeartbeats 4000000 in
theorem item_step93 (s : ByteArray) (hs : s.size ≤ 9223372036854774000) (g : Nat) (hV : VC s g) (a : Nat) (w : World) (ha : a ≤ s.size) (hg : 4 * (s.size - a) + 2 ≤ g + 1) :
    Calls Try.prog 34 #[.string s, .int .i64 a, .int .u8 93] w (RP w (vat (itemL (g + 1) 93) s a)) := by
  have hv := fun w => hV a w ha (by omega)
  rw [← vat_item93] at hv
  clear hV
  generalize vat (itemL (g + 1) 93) s a = o at *
  go_enter Try.func34, Try.ntmps34
  go_wp2_with (go_at_call 25; refine (hv _).mono ?_; rintro e w1 ⟨m, ok, d, rfl, hr, hb1⟩; simp only [RV]; have HR := Lib.hid hr; obtain ⟨f0, f1, f2, g0, g1, g2, fsz⟩ := three w _ _ _ _ (hb1.mono (by simp)); have HW := Lib.hid (((Bel.of (by (repeat' (first | (with_reducible exact Below.refl _ _) | (with_reducible refine Below.trans ?_ (below_drewN _ _ _)) | (with_reducible refine Below.alloc ?_ ?_ _) | (with_reducible refine Below.setCell ?_ ?_ _) | (with_reducible refine Below.drew ?_) | go_size))) : Bel w.heap.size w (w.alloc (.cells #[.int .i64 0, .bool false, .int .i64 0] 24)))).trans (hb1.mono (by simp))); clear hr hb1)
  refine bodyPost_ret (v := RV m ok d) (by simp [results, Try.results34, go_sem, RV, f0, f1, f2, World.cell?_alloc_past, fsz]) rfl ?_
  exact ⟨m, ok, d, rfl, HR.out, by (repeat' (first | (with_reducible exact HW.out) | (with_reducible exact HB5.out) | (with_reducible refine Bel.setCell ?_ (by first | exact Nat.le_refl _ | (simp; omega) | omega) _) | (with_reducible refine Bel.alloc ?_ (by first | exact Nat.le_refl _ | (simp; omega) | omega) _) | (with_reducible refine Bel.drew ?_) | (with_reducible refine Bel.drewN ?_ _)))⟩

set_option maxRecDepth 100000 in
set_option maxHeartbeats 4000000 in
theorem item_step125 (s : ByteArray) (hs : s.size ≤ 9223372036854774000) (g : Nat) (hV : VC s g) (a : Nat) (w : World) (ha : a ≤ s.size) (hg : 4 * (s.size - a) + 2 ≤ g + 1) :
    Calls Try.prog 34 #[.string s, .int .i64 a, .int .u8 125] w (RP w (vat (itemL (g + 1) 125) s a)) := by
  have hb := blN_bd s a ha
  generalize hp : a + blN (dr s a) = p at hb
  have hbl := fun w => bl_call s a p w hs ha hp
  cases hk : strL (dr s p) with
  | none =>
    have hst := fun w => str_call s p w hs hb
    rw [hk] at hst
    have HN := Lib.hid (vat_item_no (g := g) hp hk)
    clear hk hp hV
    generalize vat (itemL (g + 1) 125) s a = o at *
    go_enter Try.func34, Try.ntmps34
    go_wp2_with (first
      | (go_at_call 26; refine (hbl _).mono ?_; rintro e w' ⟨rfl, rfl⟩)
      | (go_at_call 8; refine (hst _).mono ?_; rintro e w1 ⟨m, ok, d, rfl, ⟨rfl, rfl⟩, hb1⟩; simp only [RV]; have HR1 := Lib.hid ((R3.new w 0 0 false 24).bel hb1 (by simp)); obtain ⟨fsz, ⟨f0, f1, f2⟩, g0, g1, g2⟩ := HR1.out; have HW := Lib.hid (((Bel.of (by (repeat' (first | (with_reducible exact Below.refl _ _) | (with_reducible refine Below.trans ?_ (below_drewN _ _ _)) | (with_reducible refine Below.alloc ?_ ?_ _) | (with_reducible refine Below.setCell ?_ ?_ _) | (with_reducible refine Below.drew ?_) | go_size))) : Bel w.heap.size w (w.alloc (.cells #[.int .i64 0, .bool false, .int .i64 0] 24)))).trans (hb1.mono (by simp))); clear hb1))
    refine bodyPost_ret (v := RV m false 0) (by simp [results, Try.results34, go_sem, RV, f0, f1, f2, World.cell?_alloc_past, fsz]) rfl ?_
    exact ⟨m, false, 0, rfl, by rw [HN.out]; exact Res.none_ _, by (repeat' (first | (with_reducible exact HW.out) | (with_reducible exact HB5.out) | (with_reducible refine Bel.setCell ?_ (by first | exact Nat.le_refl _ | (simp; omega) | omega) _) | (with_reducible refine Bel.alloc ?_ (by first | exact Nat.le_refl _ | (simp; omega) | omega) _) | (with_reducible refine Bel.drew ?_) | (with_reducible refine Bel.drewN ?_ _)))⟩
  | some k =>
    have hst := fun w => str_call s p w hs hb
    rw [hk] at hst
    have hkb : p + k ≤ s.size := by
      have := (strL_mk _ _ hk 0 []).1
      rw [dr, List.length_drop, show s.data.toList.length = s.size by simp] at this; omega
    have hb2 := blN_bd s (p + k) hkb
    generalize hq : p + k + blN (dr s (p + k)) = q at hb2
    have hbl2 := fun w => bl_call s (p + k) q w hs hkb hq
    have hwd := fun w => word_call s ⟨#[58]⟩ _ q w hs rfl (by decide) hb2
    rw [word1] at hwd
    have hpk : (strL (dr s p)).map (fun n => (p + n, 0)) = some (p + k, 0) := by rw [hk]; rfl
    rw [show (some k).map (fun n => (p + n, 0)) = some (p + k, 0) from rfl] at hst
    cases hc : hd (dr s q) 58 with
    | false =>
      rw [hc] at hwd
      have HN := Lib.hid (vat_item_nc (g := g) hp hk hq hc)
      clear hk hp hV hq hc hpk
      generalize vat (itemL (g + 1) 125) s a = o at *
      generalize p + k = r at *
      go_enter Try.func34, Try.ntmps34
      go_wp2_with (first
        | (go_at_call 26; (first | with_reducible refine (hbl _).mono ?_ | with_reducible refine (hbl2 _).mono ?_); rintro e w' ⟨rfl, rfl⟩)
        | (go_at_call 8; refine (hst _).mono ?_; rintro e w1 ⟨m, ok, d, rfl, ⟨rfl, rfl, hd0⟩, hb1⟩; obtain rfl : d = 0 := hd0; simp only [RV]; have HR1 := Lib.hid ((R3.new w 0 0 false 24).bel hb1 (by simp)); obtain ⟨fsz, ⟨f0, f1, f2⟩, g0, g1, g2⟩ := HR1.out; have HW := Lib.hid (((Bel.of (by (repeat' (first | (with_reducible exact Below.refl _ _) | (with_reducible refine Below.trans ?_ (below_drewN _ _ _)) | (with_reducible refine Below.alloc ?_ ?_ _) | (with_reducible refine Below.setCell ?_ ?_ _) | (with_reducible refine Below.drew ?_) | go_size))) : Bel w.heap.size w (w.alloc (.cells #[.int .i64 0, .bool false, .int .i64 0] 24)))).trans (hb1.mono (by simp))); clear hb1)
        | (go_at_call 31; refine (hwd _).mono ?_; rintro e w2 ⟨m, ok, d, rfl, ⟨rfl, rfl⟩, hb2⟩; simp only [RV]; have HR2 := Lib.hid ((HR1.out.alloc (.cells #[.int .i64 r, .bool true, .int .i64 0] 24)).bel hb2 (by simp; omega)); have HK2 := Lib.hid ((R3.new w1 r 0 true 24).bel hb2 (by simp)); clear f0 f1 f2 g0 g1 g2; obtain ⟨fsz2, ⟨f0, f1, f2⟩, g0, g1, g2⟩ := HR2.out; obtain ⟨ksz2, ⟨k0, k1, k2⟩, l0, l1, l2⟩ := HK2.out; have HW2 := Lib.hid (HW.out.trans (((Bel.refl w.heap.size w1).alloc (by omega) (.cells #[.int .i64 r, .bool true, .int .i64 0] 24)).trans (hb2.mono (by simp; omega)))); clear hb2))
      refine bodyPost_ret (v := RV m false 0) (by simp [results, Try.results34, go_sem, RV, f0, f1, f2, World.cell?_alloc_past, fsz2]) rfl ?_
      exact ⟨m, false, 0, rfl, by rw [HN.out]; exact Res.none_ _, by have HW := HW2; (repeat' (first | (with_reducible exact HW.out) | (with_reducible exact HB5.out) | (with_reducible refine Bel.setCell ?_ (by first | exact Nat.le_refl _ | (simp; omega) | omega) _) | (with_reducible refine Bel.alloc ?_ (by first | exact Nat.le_refl _ | (simp; omega) | omega) _) | (with_reducible refine Bel.drew ?_) | (with_reducible refine Bel.drewN ?_ _)))⟩
    | true =>
      rw [hc] at hwd
      have hlt := hd_lt hc
      have HN := Lib.hid (vat_item_c (g := g) hp hk hq hc)
      have hv : ∀ w, Calls Try.prog 25 #[.string s, .int .i64 ((q + 1 : Nat) : Int)] w (RP w (vat (valL g) s (q + 1))) := fun w => hV (q + 1) w (by omega) (by omega)
      rw [← HN.out] at hv
      rw [show (if true = true then some 1 else none : Option Nat).map (fun n => (q + n, 0)) = some (q + 1, 0) from rfl] at hwd
      clear hk hp hV hq hc hpk HN
      generalize vat (itemL (g + 1) 125) s a = o at *
      generalize p + k = r at *
      generalize q + 1 = q1 at *
      go_enter Try.func34, Try.ntmps34
      go_wp2_with (first
        | (go_at_call 26; (first | with_reducible refine (hbl _).mono ?_ | with_reducible refine (hbl2 _).mono ?_); rintro e w' ⟨rfl, rfl⟩)
        | (go_at_call 8; refine (hst _).mono ?_; rintro e w1 ⟨m, ok, d, rfl, ⟨rfl, rfl, hd0⟩, hb1⟩; obtain rfl : d = 0 := hd0; simp only [RV]; have HR1 := Lib.hid ((R3.new w 0 0 false 24).bel hb1 (by simp)); obtain ⟨fsz, ⟨f0, f1, f2⟩, g0, g1, g2⟩ := HR1.out; have HW := Lib.hid (((Bel.of (by (repeat' (first | (with_reducible exact Below.refl _ _) | (with_reducible refine Below.trans ?_ (below_drewN _ _ _)) | (with_reducible refine Below.alloc ?_ ?_ _) | (with_reducible refine Below.setCell ?_ ?_ _) | (with_reducible refine Below.drew ?_) | go_size))) : Bel w.heap.size w (w.alloc (.cells #[.int .i64 0, .bool false, .int .i64 0] 24)))).trans (hb1.mono (by simp))); clear hb1)
        | (go_at_call 31; refine (hwd _).mono ?_; rintro e w2 ⟨m, ok, d, rfl, ⟨rfl, rfl, hd0⟩, hb2⟩; obtain rfl : d = 0 := hd0; simp only [RV]; have HR2 := Lib.hid ((HR1.out.alloc (.cells #[.int .i64 r, .bool true, .int .i64 0] 24)).bel hb2 (by simp; omega)); have HK2 := Lib.hid ((R3.new w1 r 0 true 24).bel hb2 (by simp)); clear f0 f1 f2 g0 g1 g2; obtain ⟨fsz2, ⟨f0, f1, f2⟩, g0, g1, g2⟩ := HR2.out; obtain ⟨ksz2, ⟨k0, k1, k2⟩, l0, l1, l2⟩ := HK2.out; have HW2 := Lib.hid (HW.out.trans (((Bel.refl w.heap.size w1).alloc (by omega) (.cells #[.int .i64 r, .bool true, .int .i64 0] 24)).trans (hb2.mono (by simp; omega)))); clear hb2))
      refine (hv _).mono ?_
      rintro e w3 ⟨m, ok, d, rfl, hr, hb3⟩
      simp only [RV]
      have HR := Lib.hid hr
      have HR3 := Lib.hid ((HR2.out.alloc (.cells #[.int .i64 q1, .bool true, .int .i64 0] 24)).bel hb3 (by simp; omega))
      have HW3 := Lib.hid (HW2.out.trans (((Bel.refl w.heap.size w2).alloc (by omega) (.cells #[.int .i64 q1, .bool true, .int .i64 0] 24)).trans (hb3.mono (by simp; omega))))
      clear f0 f1 f2 g0 g1 g2 hb3 hr
      obtain ⟨fsz3, ⟨f0, f1, f2⟩, g0, g1, g2⟩ := HR3.out
      go_wp2
      refine bodyPost_ret (v := RV m ok d) (by simp [results, Try.results34, go_sem, RV, f0, f1, f2, World.cell?_alloc_past, fsz3]) rfl ?_
      exact ⟨m, ok, d, rfl, HR.out, by have HW := HW3; (repeat' (first | (with_reducible exact HW.out) | (with_reducible exact HB5.out) | (with_reducible refine Bel.setCell ?_ (by first | exact Nat.le_refl _ | (simp; omega) | omega) _) | (with_reducible refine Bel.alloc ?_ (by first | exact Nat.le_refl _ | (simp; omega) | omega) _) | (with_reducible refine Bel.drew ?_) | (with_reducible refine Bel.drewN ?_ _)))⟩

theorem item_step (s : ByteArray) (hs : s.size ≤ 9223372036854774000) (g : Nat) (hV : VC s g) : IC s (g + 1) := by
  rintro z a w (rfl | rfl) ha hg
  · exact item_step93 s hs g hV a w ha hg
  · exact item_step125 s hs g hV a w ha hg

end Go.Proofs.Ytppeahlnpidheaa
