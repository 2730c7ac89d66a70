/- Queries read, plain: behind a fault nothing is read (no word of a dump). -/
import Derived.Test.YtmopeandckmgcaaDoorQ1
namespace Go.Proofs.YtmopeandckmgcaaDoor

/-- Behind a fault P reads nothing. -/
def BadP (P : Nat → PSt → ExprT × PSt) : Prop := ∀ d t, t.fe ≠ 0 → (P d t).2 = t
section
variable {E : Int} {t : PSt}
theorem kind_bad (h : t.fe ≠ 0) : kindS t = 0 := by unfold kindS; rw [hdT_bad h]; rfl
theorem must_bad (l : List UInt8) (h : t.fe ≠ 0) : mustS E l t = t := by unfold mustS; rw [isS_bad l h]; exact formS_bad h
theorem openS_bad (d : Nat) (h : t.fe ≠ 0) : openS E d t = t := by
  unfold openS
  split
  · rw [failS_bad h, nextS_bad h]
  · exact nextS_bad h
theorem numS_bad (h : t.fe ≠ 0) : numS E t = (0, false, t) := by unfold numS; rw [kind_bad h]; rfl
theorem closeS_bad (h : t.fe ≠ 0) : closeS E t = t := by
  unfold closeS
  split
  · exact formS_bad h
  · rfl
theorem isSeg_bad (h : t.fe ≠ 0) : isSeg t = false := by unfold isSeg; rw [isS_bad _ h, isS_bad _ h, isS_bad _ h]; rfl
theorem isPath_bad (h : t.fe ≠ 0) : isPath t = false := by unfold isPath; rw [isS_bad _ h, isS_bad _ h]; rfl
theorem litS_bad (h : t.fe ≠ 0) : litS t = none := by unfold litS; rw [kind_bad h]; rfl
theorem opS_bad (h : t.fe ≠ 0) : opS t = -1 := by unfold opS; rw [kind_bad h]; rfl
end
section
variable {E : Int} {P : Nat → PSt → ExprT × PSt} {d : Nat} {t : PSt}
theorem segsL_bad (f : Nat) (h : t.fe ≠ 0) : segsL E P d f t = ([], t) := by
  cases f with
  | zero => rfl
  | succ f => rw [segsL, isSeg_bad h]; rfl
theorem pathF_bad (h : t.fe ≠ 0) : pathF E P d t = (path0, t) := by
  unfold pathF
  rw [nextS_bad h, segsL_bad _ h, isS_bad _ h]
  rfl
theorem selF_bd (h : t.fe ≠ 0) : selF E P d t = (sel0, t) := by
  unfold selF
  rw [kind_bad h, isS_bad _ h, isS_bad _ h, isS_bad _ h, formS_bad h]
  rfl
theorem selsL_bad (f : Nat) (h : t.fe ≠ 0) : selsL E P d f t = ([], t) := by
  cases f with
  | zero => rfl
  | succ f => rw [selsL, isS_bad _ h]; rfl
theorem selsF_bad (h : t.fe ≠ 0) : selsF E P d t = ([sel0], t) := by
  unfold selsF
  rw [must_bad _ h, selF_bd h, selsL_bad _ h]
  simp only
  rw [must_bad _ h]
theorem dotF_bad (dp : Bool) (h : t.fe ≠ 0) : dotF E P d dp t = (⟨dp, []⟩, t) := by
  unfold dotF
  rw [isS_bad _ h, isS_bad _ h, kind_bad h, formS_bad h, Bool.and_false]
  rfl
theorem segF_bad (h : t.fe ≠ 0) : segF E P d t = (⟨false, []⟩, t) := by
  unfold segF
  rw [isS_bad _ h, isS_bad _ h, nextS_bad h, closeS_bad h, dotF_bad _ h]
  rfl
theorem sideF_bad (h : t.fe ≠ 0) : sideF E P d t = (side0, t) := by
  unfold sideF
  rw [isPath_bad h, litS_bad h, formS_bad h]
  rfl
theorem cmp2_bad (a : SideT) (h : t.fe ≠ 0) : cmp2 E P d a t = (tstE a.p, t) := by
  unfold cmp2
  rw [opS_bad h, if_pos (by decide)]
  split
  · rw [formS_bad h]
  · rfl
theorem cmpF_bad (h : t.fe ≠ 0) : cmpF E P d t = (tstE path0, t) := by
  unfold cmpF
  rw [sideF_bad h, cmp2_bad _ h]
  rfl
theorem roundF_bad (hP : BadP P) (h : t.fe ≠ 0) : (roundF E P d t).2 = t := by
  unfold roundF
  rw [openS_bad d h, hP _ _ h]
  exact must_bad _ h
theorem notF_bad (m : Bool) (h : t.fe ≠ 0) : (notF m E P d t).2 = t := by
  unfold notF
  rw [isS_bad _ h, isPath_bad h, formS_bad h]
  rfl
theorem oneF_bad (m : Bool) (h : t.fe ≠ 0) : (oneF m E P d t).2 = t := by
  unfold oneF
  rw [isS_bad _ h, isS_bad _ h, cmpF_bad h]
  rfl
end
theorem listL_bad {E : Int} {sg : List UInt8} {F : PSt → ExprT × PSt} {t : PSt} (f : Nat) (h : t.fe ≠ 0) : listL E sg F f t = ([], t) := by
  cases f with
  | zero => rfl
  | succ f => rw [listL, isS_bad _ h]; rfl
theorem listF_bad {E : Int} {sg : List UInt8} {k : Int} {F : PSt → ExprT × PSt} (hF : ∀ t, t.fe ≠ 0 → (F t).2 = t) (t : PSt) (h : t.fe ≠ 0) : (listF E sg k F t).2 = t := by
  unfold listF
  rw [hF t h, listL_bad _ h]
theorem andF_bad {E : Int} {P : Nat → PSt → ExprT × PSt} {d : Nat} (m : Bool) (t : PSt) (h : t.fe ≠ 0) : (andF m E P d t).2 = t := listF_bad (fun _ h => oneF_bad m h) t h
theorem orF_bad {E : Int} {P : Nat → PSt → ExprT × PSt} (m : Bool) : BadP (orF m E P) := fun _ t h => listF_bad (fun t h => andF_bad m t h) t h
theorem orS_bad (m : Bool) (E : Int) : ∀ n, BadP (orS m E n)
  | 0 => fun _ _ _ => rfl
  | _ + 1 => orF_bad m
theorem oneF_le' {m : Bool} {E : Int} {P : Nat → PSt → ExprT × PSt} (hP : LeP P) (d : Nat) (t : PSt) : (oneF m E P d t).2.toks.length ≤ t.toks.length := oneF_le hP d m t
theorem andF_le {m : Bool} {E : Int} {P : Nat → PSt → ExprT × PSt} (hP : LeP P) (d : Nat) (t : PSt) : (andF m E P d t).2.toks.length ≤ t.toks.length := listF_le (fun t => oneF_le hP d m t) t

end Go.Proofs.YtmopeandckmgcaaDoor
