/- A query's code: what the laws on verify need of it; awake. -/
import Derived.Test.YtpcbcodmocmilaaG41
import Derived.Test.YtpcbcodmocmilaaCe
import Derived.Test.YtpcbcodmocmilaaVl
import Derived.Test.YtpcbcodmocmilaaG44
namespace Go.Proofs.Ytpcbcodmocmilaa
open Go.RowKit

theorem rdd_cells {α : Type} (f : α → List Value) (k : Nat) (hk : ∀ x, (f x).length = k) {w : World} {A : Option Addr} {l : List α} (h : Rdd w k A l.length (l.flatMap f)) (hs : ∀ a, A = some a → a.spot = none) :
    l = [] ∨ ∃ b off, A = some ⟨b, off, none⟩ ∧ b < w.heap.size ∧ ∀ (i : Nat) (x : α), l[i]? = some x → ∀ j u, (f x)[j]? = some u → w.cell? ⟨b, off + i * k + j, none⟩ = some u := by
  cases l with
  | nil => exact .inl rfl
  | cons y r =>
    right
    obtain ⟨ad, e, hb, hc⟩ := h.2 (by simp)
    obtain ⟨b, off, sp⟩ := ad
    obtain rfl : sp = none := hs _ e
    refine ⟨b, off, e, hb, fun i x hx j u hu => ?_⟩
    have hj : j < k := by rw [← hk x]; exact (List.getElem?_eq_some_iff.1 hu).1
    have := hc (i * k + j) u (by rw [flat_get f k hk _ i j hj, hx]; exact hu)
    rw [add_lit, ← Nat.add_assoc] at this
    exact this
/-- Code in memory, as verify's contracts want it. -/
theorem crd_cm {y : World} {c : CodeD} {A1 A2 A3 A4 : Option Addr} (h : CRd y c A1 A2 A3 A4) {w : World} (hf : FrA w A1 ∧ FrA w A2 ∧ FrA w A3 ∧ FrA w A4) : CM y A1 A2 A3 A4 c := by
  refine ⟨(rdd_cells pathC 3 (fun _ => rfl) h.p fun a e => (hf.1 a e).2).imp id ?_, (rdd_cells segC 3 (fun _ => rfl) h.g fun a e => (hf.2.1 a e).2).imp id ?_, (rdd_cells selC 8 (fun _ => rfl) h.s fun a e => (hf.2.2.1 a e).2).imp id ?_, (rdd_cells insC 7 (fun _ => rfl) h.i fun a e => (hf.2.2.2 a e).2).imp id ?_⟩
  · rintro ⟨b, off, e, hb, hc⟩
    exact ⟨b, off, e, hb, fun i x hx => ⟨hc i x hx 0 _ rfl, hc i x hx 1 _ rfl, hc i x hx 2 _ rfl⟩⟩
  · rintro ⟨b, off, e, hb, hc⟩
    exact ⟨b, off, e, hb, fun i x hx => ⟨hc i x hx 0 _ rfl, hc i x hx 1 _ rfl, hc i x hx 2 _ rfl⟩⟩
  · rintro ⟨b, off, e, hb, hc⟩
    exact ⟨b, off, e, hb, fun i x hx => ⟨hc i x hx 0 _ rfl, hc i x hx 1 _ rfl, hc i x hx 2 _ rfl, hc i x hx 3 _ rfl, hc i x hx 4 _ rfl, hc i x hx 5 _ rfl, hc i x hx 6 _ rfl, hc i x hx 7 _ rfl⟩⟩
  · rintro ⟨b, off, e, hb, hc⟩
    exact ⟨b, off, e, hb, fun i x hx => ⟨hc i x hx 0 _ rfl, hc i x hx 1 _ rfl, hc i x hx 2 _ rfl, hc i x hx 3 _ rfl, hc i x hx 4 _ rfl, hc i x hx 5 _ rfl, hc i x hx 6 _ rfl⟩⟩
/-- What is known of a query's code. -/
structure CodeQ (c : CodeD) (x0 : PathD) (a b : Nat) : Prop where
  p0 : c.ps[0]? = some x0
  fr : x0.fr = (a : Int)
  tt : x0.tt = (b : Int)
  le : a ≤ b
  lb : b ≤ c.gs.length
  segs : ∀ s ∈ c.gs, 0 ≤ s.fr ∧ s.fr < s.tt ∧ s.tt ≤ (c.ss.length : Nat)
  sound : soundL c = true
  single : singleOK c 0 = ((c.gs.drop a).take (b - a)).all (sglSeg c)
  size : szC c ≤ 5000
  ends : c.is ≠ [] → soundL (withIs c c.is.dropLast) = false
  bent : ∀ (k : Nat) (x x' : InsD), c.is[k]? = some x → x'.op = x.op → x.op ≠ 5 → (∀ (i m : Nat) (h : Int), insI c x' i k m h = none) → soundL (withIs c (c.is.set k x')) = false
theorem code_q {S : List UInt8 → Prop} {p : PathT} (h : WfP S (WfN S 200) p) (hw : wtP (wtN 200) p ≤ 5000) : ∃ x0 a b, CodeQ (codeT p) x0 a b := by
  obtain ⟨Wl, G, hl, hsz, h0⟩ := code_good h hw
  have hpos : 0 < Wl.length := (List.getElem?_eq_some_iff.1 h0).1
  obtain ⟨q, g0, s0, a0, b0, _, sp⟩ := G.spot 0 (by omega)
  have hle := sp.g.le
  rw [gsD_len] at hle
  refine ⟨_, g0, g0 + q.segs.length, sp.p, rfl, rfl, by omega, by omega, G.segs, good_sound G hl hpos, ?_, by omega, bent_end G, fun k x x' h1 h2 h3 h4 => bent_ins G h1 h2 h3 h4⟩
  have hp := spot_path G sp
  have hg : getP (codeT p) 0 = some ⟨q.abs, g0, (g0 + q.segs.length : Nat)⟩ := get_P (i := 0) _ sp.p
  unfold singleOK
  rw [hg]
  simp only [hp, Bool.true_and]
  unfold sub
  rw [Int.toNat_natCast, Int.toNat_natCast]
def cdW : CodeD := ⟨[⟨true, 0, 0⟩], [], [], []⟩
def cdZ : CodeD := ⟨[], [], [], []⟩
theorem cdW_sound : soundL cdW = true := by decide
theorem cdZ_sound : soundL cdZ = false := by decide
theorem CM.nil (w : World) : CM w none none none none ⟨[], [], [], []⟩ := ⟨.inl rfl, .inl rfl, .inl rfl, .inl rfl⟩
theorem sound_nil (wz : World) : Calls Try.prog 7 #[.agg #[.slice none 0 0, .slice none 0 0, .slice none 0 0, .slice none 0 0]] wz fun e w' => e = .returned (.bool false) ∧ Bel wz.heap.size wz w' := by
  have h := psound_any none none none none 0 0 0 0 cdZ wz (CM.nil wz) (by simp [cdZ]) (by simp [cdZ]) (by simp [cdZ]) (by simp [cdZ]) (by simp [cdZ]) (by simp [cdZ])
  rw [cdZ_sound] at h
  exact h

set_option maxRecDepth 100000 in
set_option maxHeartbeats 1000000 in
theorem awake20 (w : World) : Calls Try.prog 5 #[] w fun e w' => e = .returned (.bool true) ∧ Bel w.heap.size w w' := by
  have hs1 : ∀ wz, Blk wz w.heap.size 40 #[.bool true, .int .i64 0, .int .i64 0] → Calls Try.prog 7 #[.agg #[.slice (some ⟨w.heap.size, 0, none⟩) 1 1, .slice none 0 0, .slice none 0 0, .slice none 0 0]] wz fun e w' => e = .returned (.bool true) ∧ Bel wz.heap.size wz w' := fun wz hz => by
    have h := psound_any (some ⟨w.heap.size, 0, none⟩) none none none 1 0 0 0 cdW wz ⟨.inr ⟨_, 0, rfl, hz.lt, fun i x hx => by
      match i, hx with
      | 0, hx => injection hx with hx; subst hx; exact ⟨hz.cell 0, hz.cell 1, hz.cell 2⟩
      | i + 1, hx => simp [cdW] at hx⟩, .inl rfl, .inl rfl, .inl rfl⟩ (by simp [cdW]) (by simp [cdW]) (by simp [cdW]) (by simp [cdW]) (by simp [cdW]) (by simp [cdW])
    rw [cdW_sound] at h
    exact h
  have HN := Lib.hid (Blk.new w 40 #[.bool true, .int .i64 0, .int .i64 0])
  have HB := Lib.hid (show Bel w.heap.size w (w.alloc (.cells #[.bool true, .int .i64 0, .int .i64 0] 40)) from (Bel.refl _ _).alloc (Nat.le_refl _) _)
  go_enter Try.func5, Try.ntmps5
  go_wp2_with (first
    | (go_at_call 7; (with_reducible refine (hs1 _ HN.out).mono ?_); rintro e w1 ⟨rfl, hb⟩; have HB1 := Lib.hid (HB.out.next hb); clear hb)
    | (go_at_call 7; (with_reducible refine (sound_nil _).mono ?_); rintro e w2 ⟨rfl, hb⟩; have HB2 := Lib.hid (HB1.out.next hb); clear hb))
  go_ret
  exact ⟨rfl, HB2.out⟩

end Go.Proofs.Ytpcbcodmocmilaa
