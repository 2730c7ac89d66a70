/- verify: one instruction more; plain. -/
import Derived.Test.YthlcbjjeklkmfaaVp
namespace Go.Proofs.Ythlcbjjeklkmfaa

def finL (n : Nat) (o : Option (List Int)) : Bool := match o with | none => false | some hs => decide (hs.getD n 0 = 1)
def finM (cd : CodeD) (p : Int) (a n k : Nat) (v d : Int) (o : Option (List Int)) : Bool :=
  match o with
  | none => false
  | some h2 => match meetL h2 (k + 1) (v + d) with
    | none => false
    | some h3 => finL n (runL cd p a (a + n) ((cd.is.drop (a + (k + 1))).take (n - (k + 1))) (a + (k + 1)) h3)
theorem fill_step (n k : Nat) (h : k < n + 1) : List.set (List.replicate k (-1 : Int) ++ List.replicate (n + 1 - k) 0) k (-1) = List.replicate (k + 1) (-1) ++ List.replicate (n + 1 - (k + 1)) 0 := by
  rw [List.set_append, if_neg (by simp), List.length_replicate, Nat.sub_self, show n + 1 - k = (n + 1 - (k + 1)) + 1 by omega, List.replicate_succ, List.set_cons_zero, List.replicate_succ', List.append_assoc]
  rfl
theorem fill_get (n k : Nat) (h : k < n + 1) : ∃ v : Int, (List.replicate k (-1 : Int) ++ List.replicate (n + 1 - k) 0)[k]? = some v := ⟨_, List.getElem?_eq_getElem (by simp; omega)⟩
theorem HB_start (n : Nat) : ∀ v ∈ (0 :: List.replicate n (-1) : List Int), -1 ≤ v ∧ v ≤ ((0 : Nat) : Int) := by
  intro v hv
  rcases List.mem_cons.1 hv with rfl | hv
  · simp
  · rw [(List.mem_replicate.1 hv).2]; simp
theorem filter_fin (cd : CodeD) (p : Int) (a n : Nat) (h : (cd.is.drop a).findIdx? (fun x => x.op == 5) = some n) :
    filterOK cd p (a : Int) = finL n (runL cd p a (a + n) ((cd.is.drop (a + 0)).take (n - 0)) (a + 0) (0 :: List.replicate n (-1))) := by
  unfold filterOK; rw [if_neg (by omega), Int.toNat_natCast, h]; simp only [Nat.add_zero, Nat.sub_zero]; unfold finL; rfl
theorem run_step (cd : CodeD) (p : Int) (a n k : Nat) (hs : List Int) (x : InsD) (v : Int) (hk : k < n) (hx : cd.is[a + k]? = some x) (hv : hs[k]? = some v) :
    finL n (runL cd p a (a + n) ((cd.is.drop (a + k)).take (n - k)) (a + k) hs) =
      match insI cd x p ((a + k : Nat) : Int) ((a + n : Nat) : Int) v with
      | none => false
      | some d => finM cd p a n k v d (if d < 0 then meetL hs (x.tt.toNat - a) v else some hs) := by
  obtain ⟨hl, hxe⟩ := List.getElem?_eq_some_iff.1 hx
  rw [List.drop_eq_getElem_cons hl, hxe, show n - k = (n - (k + 1)) + 1 by omega, List.take_succ_cons, runL]
  unfold stepL
  have e : hs.getD (a + k - a) 0 = v := by rw [List.getD_eq_getElem?_getD, show a + k - a = k by omega, hv]; rfl
  rw [e]
  cases insI cd x p ((a + k : Nat) : Int) ((a + n : Nat) : Int) v with
  | none => rfl
  | some d =>
    simp only
    cases (if d < 0 then meetL hs (x.tt.toNat - a) v else some hs) with
    | none => rfl
    | some h2 =>
      unfold finM
      simp only [Option.bind_some]
      rw [show a + k + 1 - a = k + 1 by omega, show a + k + 1 = a + (k + 1) by omega]
      cases meetL h2 (k + 1) (v + d) with
      | none => rfl
      | some h3 => rfl
theorem run_end (cd : CodeD) (p : Int) (a n : Nat) (hs : List Int) (v : Int) (hv : hs[n]? = some v) :
    finL n (runL cd p a (a + n) ((cd.is.drop (a + n)).take (n - n)) (a + n) hs) = decide (v = 1) := by
  rw [Nat.sub_self, List.take_zero, runL, finL, List.getD_eq_getElem?_getD, hv]; rfl
theorem ins_bd (cd : CodeD) (x : InsD) (p k last h d : Int) (hi : insI cd x p k last h = some d) : (d = -1 ∧ 1 ≤ h ∧ k < x.tt ∧ x.tt ≤ last) ∨ d = 0 ∨ d = 1 := by
  unfold insI at hi
  split at hi
  · cases hi
  · split at hi
    · split at hi
      · injection hi with hi; omega
      · cases hi
    · split at hi
      · split at hi
        · rename_i hc; injection hi with hi; exact .inl ⟨hi.symm, hc⟩
        · cases hi
      · split at hi
        · split at hi
          · injection hi with hi; omega
          · cases hi
        · injection hi with hi; omega
/-- All heights lie between -1 and k. -/
def HB (k : Nat) (hs : List Int) : Prop := ∀ v ∈ hs, -1 ≤ v ∧ v ≤ (k : Int)
theorem HB.set {k : Nat} {hs : List Int} (h : HB k hs) (i : Nat) (v : Int) (h1 : -1 ≤ v) (h2 : v ≤ (k : Int)) : HB k (hs.set i v) := by
  intro u hu
  rcases List.mem_or_eq_of_mem_set hu with hu | hu
  · exact h u hu
  · subst hu; exact ⟨h1, h2⟩
theorem HB.mono {k : Nat} {hs : List Int} (h : HB k hs) : HB (k + 1) hs := fun v hv => by have := h v hv; omega
theorem HB.get {k i : Nat} {hs : List Int} {v : Int} (h : HB k hs) (hv : hs[i]? = some v) : -1 ≤ v ∧ v ≤ (k : Int) := h v (List.mem_of_getElem? hv)
theorem meetL_some {hs h2 : List Int} {i : Nat} {h : Int} (e : meetL hs i h = some h2) : h2 = hs.set i h := by
  unfold meetL at e; split at e
  · injection e with e; exact e.symm
  · cases e

end Go.Proofs.Ythlcbjjeklkmfaa
