/- ref16: text. -/
import Derived.Test.YtihfhohdnjbahaaDoorXc
namespace Go.Proofs.YtihfhohdnjbahaaDoor
open Go.RowKit

theorem rcat (s t : ByteArray) : (s ++ t).data.toList = s.data.toList ++ t.data.toList := by simp [ByteArray.data_append]
/-- What is returned of a string: its text, and the place behind it. -/
def RTx (o : Option (List UInt8 × Nat)) (e : Ending) : Prop :=
  match o with
  | none => e = .returned (.tuple #[.string ⟨#[]⟩, .int .i64 (-1)])
  | some (t, k) => e = .returned (.tuple #[.string (bs t), .int .i64 (k : Nat)])
theorem RTx.no {o : Option (List UInt8 × Nat)} (h : o = none) : RTx o (.returned (.tuple #[.string ⟨#[]⟩, .int .i64 (-1)])) := by rw [h]; rfl
theorem RTx.yes {o : Option (List UInt8 × Nat)} {t : List UInt8} {k : Nat} {u : ByteArray} {m : Int} (h : o = some (t, k)) (h1 : u = bs t) (h2 : m = (k : Nat)) : RTx o (.returned (.tuple #[.string u, .int .i64 m])) := by rw [h, h1, h2]; rfl
/-- What is behind p, with what was read ahead of it. -/
def txQ (f : Nat) (mark : UInt8) (s : ByteArray) (p : Nat) (t : List UInt8) : Option (List UInt8 × Nat) := (txtF f mark (dr s p)).map fun x => (t ++ x.1, p + x.2)
theorem txQ_none {f : Nat} {mark : UInt8} {s : ByteArray} {p : Nat} {t : List UInt8} (h : p < s.size) (hm : s[p] ≠ mark) (hc : charT mark (dr s p) = none) : txQ (f + 1) mark s p t = none := by
  unfold txQ txtF
  rw [dr, drop_cons s p h] at hc ⊢
  simp only; rw [if_neg hm, hc]; rfl
theorem txQ_some {f : Nat} {mark : UInt8} {s : ByteArray} {p : Nat} {t : List UInt8} {x : Int} {n : Nat} (h : p < s.size) (hm : s[p] ≠ mark) (hc : charT mark (dr s p) = some (x, n)) : txQ (f + 1) mark s p t = txQ f mark s (p + n) (t ++ putV x) := by
  unfold txQ
  have e : dr s p = s[p] :: dr s (p + 1) := drop_cons s p h
  rw [← dr_dr s p n]
  rw [e] at hc ⊢
  rw [show txtF (f + 1) mark (s[p] :: dr s (p + 1)) = if s[p] = mark then some ([], 1) else match charT mark (s[p] :: dr s (p + 1)) with | none => none | some (x, n) => (txtF f mark ((s[p] :: dr s (p + 1)).drop n)).map fun (t, k) => (putV x ++ t, n + k) from rfl]
  simp only; rw [if_neg hm, hc]
  simp only [Option.map_map]
  congr 1
  funext y
  simp only [Function.comp, List.append_assoc, Prod.mk.injEq, true_and]
  omega
theorem txQ_end {f : Nat} {mark : UInt8} {s : ByteArray} {p : Nat} {t : List UInt8} (h : s.size ≤ p) : txQ f mark s p t = none := by
  unfold txQ dr
  rw [drop_nil s p h]
  cases f <;> rfl
theorem txQ_mark {f : Nat} {mark : UInt8} {s : ByteArray} {p : Nat} {t : List UInt8} (h : p < s.size) (hm : s[p] = mark) : txQ (f + 1) mark s p t = some (t, p + 1) := by
  unfold txQ txtF
  rw [dr, drop_cons s p h]
  simp only; rw [if_pos hm]
  simp

set_option maxRecDepth 100000 in
set_option maxHeartbeats 4000000 in
theorem rtext_any (s : ByteArray) (a : Nat) (mark : UInt8) (w : World) (hs : s.size ≤ 1000000) (ha : a < s.size) (hm : s[a] = mark) (hq : mark = 34 ∨ mark = 39) :
    Calls Tryd.prog 25 #[.string s, .int .i64 (a : Int)] w fun e w' => RTx (txQ (s.size - a) mark s (a + 1) []) e ∧ Bel w.heap.size w w' := by
  have hmk := mark.toNat_lt
  have hm0 : (s[a].toNat : Int) = (mark.toNat : Int) := by rw [hm]
  have HB := Lib.hid (Bel.refl w.heap.size w)
  have HQ := Lib.hid hq
  clear hq
  go_enter Tryd.func25, Tryd.ntmps25
  go_wp2
  go_loopg [1, 7] (s.size - (a + 1)) (fun k x y wr => ∃ (p f : Nat) (t : List UInt8) (u : ByteArray), k = s.size - p ∧ p ≤ s.size ∧ s.size ≤ p + f ∧ u.size ≤ 4 * p ∧ x = .int .i64 p ∧ y = .string u ∧ Hid (u = bs t) ∧ Hid (txQ (s.size - a) mark s (a + 1) [] = txQ f mark s p t) ∧ Hid (Bel w.heap.size w wr))
  case atStart => exact ⟨a + 1, s.size - a, [], ⟨#[]⟩, rfl, by omega, by omega, Nat.zero_le _, by go_num, rfl, Lib.hid rfl, Lib.hid rfl, HB⟩
  case round =>
    clear HB
    obtain ⟨p, f, t, u, hgk, hp, hf, hu, rfl, rfl, HU, HF, HB⟩ := hrel
    have HGK := Lib.hid hgk; clear hgk
    by_cases hlt : p < s.size
    · have hbi := s[p].toNat_lt
      obtain ⟨f', rfl⟩ : ∃ f', f = f' + 1 := ⟨f - 1, by omega⟩
      by_cases hx : s[p] = mark
      · have HE := Lib.hid (HF.out.trans (txQ_mark (t := t) (f := f') hlt hx))
        have hb : ((s[p].toNat : Int) != (mark.toNat : Int)) = false := by simp [hx]
        clear hx
        go_wp2
        go_ret2
        exact ⟨RTx.yes HE.out HU.out (by omega), HB.out⟩
      · have hb : ((s[p].toNat : Int) != (mark.toNat : Int)) = true := by
          rw [bne_iff_ne]; intro e; exact hx (UInt8.toNat_inj.1 (by omega))
        have hch := fun w' => rchar_any s p mark w' hs hlt HQ.out
        cases hc : charT mark (dr s p) with
        | none =>
          have HE := Lib.hid (HF.out.trans (txQ_none (t := t) (f := f') hlt hx hc))
          rw [hc] at hch
          clear hc hx
          go_wp2_with (go_at_call 40; refine (hch _).mono ?_; rintro e w2 ⟨rfl, hbw⟩; have HB2 := Lib.hid (HB.out.next hbw); clear hbw)
          go_ret2
          exact ⟨RTx.no HE.out, HB2.out⟩
        | some xm =>
          obtain ⟨x, m⟩ := xm
          have hok := charT_val _ _ _ _ hc
          obtain ⟨hm0', hml⟩ := charT_len _ _ _ _ hc
          rw [dr, List.length_drop, len_toList] at hml
          have HF := Lib.hid (HF.out.trans (txQ_some (t := t) (f := f') hlt hx hc))
          rw [hc] at hch
          have HOK := Lib.hid hok
          have hz : (bs (putV x)).size ≤ 4 := by rw [← len_toList, bs_list]; exact putV_len x
          have hm1 : ((m : Int) == 0) = false := by rw [beq_eq_false_iff_ne]; omega
          clear hc hx hok
          go_wp2_with (first
            | (go_at_call 40; refine (hch _).mono ?_; rintro e w2 ⟨rfl, hbw⟩; have HB2 := Lib.hid (HB.out.next hbw); clear hbw)
            | (go_at_call 41; refine (rput_at x _ HOK.out).mono ?_; rintro e w3 ⟨rfl, hbw⟩; have HB3 := Lib.hid (HB2.out.next (Bel.of hbw)); clear hbw))
          go_roundg (s.size - (p + m))
          case measure => have := HGK.out; simp; omega
          case rel => exact ⟨p + m, f', t ++ putV x, _, rfl, by omega, by omega, by rw [ByteArray.size_append]; omega, by go_num, rfl, Lib.hid (bs_of (by rw [rcat, HU.out, bs_list, bs_list])), HF, HB3⟩
    · have HE := Lib.hid (HF.out.trans (txQ_end (t := t) (f := f) (mark := mark) (show s.size ≤ p by omega)))
      go_wp2
      go_ret2
      exact ⟨RTx.no HE.out, HB.out⟩

end Go.Proofs.YtihfhohdnjbahaaDoor
