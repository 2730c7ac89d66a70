/- qtree: expressions, all of them (or, by induction on the levels). -/
import Derived.Test.YtmopeandckmgcaaDoorQx
import Derived.Test.YtmopeandckmgcaaDoorQw
import Derived.Test.YtmopeandckmgcaaDoorQl
namespace Go.Proofs.YtmopeandckmgcaaDoor
open Go.RowKit

theorem qone_any (g : Nat) (E : Int) (P : Nat → PSt → ExprT × PSt) (hL : LeP P) (N : Nat) (hP : OrC g E P N) (t : PSt) (d : Nat) (w : World) (h : RdS g E w t d) (hN : N ≤ d + 1) (hd : d ≤ 33) (hf : d = 33 → t.fe ≠ 0) :
    Calls Tryd.prog 84 #[.pointer (some ⟨g, 0, none⟩)] w (ExP g E w (oneF true E P d t) d) := by
  cases h33 : isS [33] t with
  | true =>
    have hd32 := is_deep h33 hd hf
    have hne : d = 32 → (openS E d t).fe ≠ 0 := fun e => openS_33 e
    unfold oneF
    rw [ite_tt h33]
    cases h40 : isS [40] (openS E d t) with
    | true =>
      have hd31 : d + 1 ≤ 32 := by
        rcases Nat.lt_or_ge d 32 with h1 | h1
        · omega
        · exact absurd (isS_ok h40).1 (hne (by omega))
      unfold notF
      rw [ite_tt h40]
      exact not_a g E t d w h hd32 _ _ (fun w hr => round_any g E P N hP (openS E d t) (d + 1) w hr (by omega) hd31) h33 h40
    | false =>
      have hk : notF true E P (d + 1) (openS E d t) = (mkE 2 [(testF E P (d + 1) (openS E d t)).1], (testF E P (d + 1) (openS E d t)).2) := by
        unfold notF testF
        rw [ite_ff h40]
        cases isPath (openS E d t) <;> rfl
      rw [hk]
      exact not_b g E t d w h hd32 _ _ (fun w hr => test_any g E P (openS E d t) (d + 1) w hr (fun w hr => path_any g E P hL N hP (openS E d t) (d + 1) w hr (by omega) (by omega) (fun e => hne (by omega)))) h33 h40
  | false =>
    cases h40 : isS [40] t with
    | true =>
      have hd32 := is_deep h40 hd hf
      have hk : oneF true E P d t = roundF E P d t := by unfold oneF; rw [ite_ff h33, ite_tt h40]
      rw [hk]
      exact one_round g E t d w h _ (fun w hr => round_any g E P N hP t d w hr hN hd32) h33 h40
    | false =>
      have hk : oneF true E P d t = cmpF E P d t := by unfold oneF; rw [ite_ff h33, ite_ff h40]
      rw [hk]
      exact one_cmp g E t d w h _ (fun w hr => cmp_any g E P t d w hr hL (fun t w hr hf => side_any g E P t d w hr (fun w hr => path_any g E P hL N hP t d w hr hN hd hf)) hf) h33 h40
theorem orC_succ (g : Nat) (E : Int) (P : Nat → PSt → ExprT × PSt) (hL : LeP P) (N : Nat) (hP : OrC g E P (N + 1)) : OrC g E (orF true E P) N := by
  intro d t w h hd hf hN
  exact or_of g E (andF true E P d) d hd (fun t => andF_le hL d t) (fun t h => andF_bad true t h)
    (fun t w h hf => and_of g E (oneF true E P d) d hd (fun t => oneF_le hL d true t) (fun t h => oneF_bad true h)
      (fun t w h hf => qone_any g E P hL (N + 1) hP t d w h (by omega) hd hf) t w h hf) t w h hf
theorem orC_all (g : Nat) (E : Int) : ∀ n, n ≤ 34 → OrC g E (orS true E n) (34 - n)
  | 0, _ => fun d _ _ _ hd _ hN => absurd hN (by omega)
  | n + 1, hn => by
    have h := orC_all g E n (by omega)
    rw [show 34 - n = 34 - (n + 1) + 1 by omega] at h
    exact orC_succ g E (orS true E n) (orS_le true E n) (34 - (n + 1)) h
/-- The program's reader of paths. -/
theorem path_all (g : Nat) (E : Int) (t : PSt) (w : World) (h : RdS g E w t 0) :
    Calls Tryd.prog 16 #[.pointer (some ⟨g, 0, none⟩)] w (PathP g E w (pathF E (orS true E 34) 0 t) 0) :=
  path_any g E (orS true E 34) (orS_le true E 34) 0 (orC_all g E 34 (Nat.le_refl _)) t 0 w h (by omega) (by omega) (fun e => absurd e (by omega))

end Go.Proofs.YtmopeandckmgcaaDoor
