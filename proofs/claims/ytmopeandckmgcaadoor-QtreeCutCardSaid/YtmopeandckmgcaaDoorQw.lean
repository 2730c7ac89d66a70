/- qtree: cmp. -/
import Derived.Test.YtmopeandckmgcaaDoorQu
namespace Go.Proofs.YtmopeandckmgcaaDoor
open Go.RowKit

theorem opS_fe {t : PSt} (h : ¬ opS t < 0) : t.fe = 0 := Classical.byContradiction fun hf => h (by rw [opS_bad hf]; decide)
theorem cmp_pos (g : Nat) (E : Int) (P : Nat → PSt → ExprT × PSt) (t : PSt) (d : Nat) (w : World) (h : RdS g E w t d) (hL : LeP P)
    (hside : ∀ t w, RdS g E w t d → (d = 33 → t.fe ≠ 0) → Calls Tryd.prog 88 #[.pointer (some ⟨g, 0, none⟩)] w (SideP g E w (sideF E P d t) d)) (hf : d = 33 → t.fe ≠ 0)
    (a : SideT) (t1 : PSt) (hst : sideF E P d t = (a, t1)) (hpos : ¬ opS t1 < 0) :
    Calls Tryd.prog 86 #[.pointer (some ⟨g, 0, none⟩)] w (ExP g E w (cmpF E P d t) d) := by
  obtain ⟨b, t4, hst4⟩ : ∃ b t4, sideF E P d (nextS E t1) = (b, t4) := ⟨_, _, rfl⟩
  have hb := h.bound
  have hf3 : d = 33 → (nextS E t1).fe ≠ 0 := fun e => by
    have h1 := hf e
    have h2 := opS_fe hpos
    have h3 : t1 = t := by have := congrArg Prod.snd hst; rw [sideF_bad h1] at this; exact this.symm
    rw [h3] at h2
    exact absurd h2 h1
  have hlb : b.p.segs.length ≤ 1000000 := by
    have h1 := sideF_len (E := E) (P := P) (d := d) (nextS E t1)
    rw [hst4] at h1
    have h2 := nextS_le E t1
    have h3 := sideF_le hL d (E := E) t
    rw [hst] at h3
    simp only at h1 h3
    omega
  obtain ⟨al, ka, na, sa, pa, ga⟩ := a
  obtain ⟨bl, kb, nb, sb, pb, gb⟩ := b
  simp only at hlb
  cases al <;> cases bl
  · exact cmp_pos_false_false g E P t d w h hside hf ka na sa pa ga t1 hst _ rfl hpos kb nb sb pb gb t4 hst4 hf3
  · cases hs : singB ⟨pa, ga⟩
    · exact cmp_pos_false_true_false g E P t d w h hside hf ka na sa pa ga t1 hst _ rfl hpos kb nb sb pb gb t4 hst4 hs hf3
    · exact cmp_pos_false_true_true g E P t d w h hside hf ka na sa pa ga t1 hst _ rfl hpos kb nb sb pb gb t4 hst4 hs hf3
  · cases hs : singB ⟨pb, gb⟩
    · exact cmp_pos_true_false_false g E P t d w h hside hf ka na sa pa ga t1 hst _ rfl hpos kb nb sb pb gb t4 hst4 hs hf3 hlb
    · exact cmp_pos_true_false_true g E P t d w h hside hf ka na sa pa ga t1 hst _ rfl hpos kb nb sb pb gb t4 hst4 hs hf3 hlb
  · exact cmp_pos_true_true g E P t d w h hside hf ka na sa pa ga t1 hst _ rfl hpos kb nb sb pb gb t4 hst4 hf3
theorem cmp_any (g : Nat) (E : Int) (P : Nat → PSt → ExprT × PSt) (t : PSt) (d : Nat) (w : World) (h : RdS g E w t d) (hL : LeP P)
    (hside : ∀ t w, RdS g E w t d → (d = 33 → t.fe ≠ 0) → Calls Tryd.prog 88 #[.pointer (some ⟨g, 0, none⟩)] w (SideP g E w (sideF E P d t) d)) (hf : d = 33 → t.fe ≠ 0) :
    Calls Tryd.prog 86 #[.pointer (some ⟨g, 0, none⟩)] w (ExP g E w (cmpF E P d t) d) := by
  obtain ⟨a, t1, hst⟩ : ∃ a t1, sideF E P d t = (a, t1) := ⟨_, _, rfl⟩
  by_cases hn : opS t1 < 0
  · exact cmp_neg g E P t d w h hside hf a t1 hst hn
  · exact cmp_pos g E P t d w h hL hside hf a t1 hst hn

end Go.Proofs.YtmopeandckmgcaaDoor
