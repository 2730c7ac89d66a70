/- G37: RowA, RowH joined. -/
import Derived.ProofKit
import Derived.OpenShut
import Derived.ShutString
import Derived.ChangeSame
import Derived.Lay
import Derived.LaidMore
import Derived.Stop.Joined
import Derived.Stop.LaidErr
import Derived.Test.YtpcbcodmocmilaaGreatDoorA0
import Derived.Test.YtpcbcodmocmilaaGreatDoorRows
import Derived.Test.YtpcbcodmocmilaaGreatDoorZm
namespace Go.Proofs.YtpcbcodmocmilaaGreatDoor
open Go.RowKit
/- The row's last step where of the world behind the call 'Bel' is known. -/
section
open Go.RowKit Go.WideShapes Go.ChangeShapes

theorem Bel.frame {W W' : World} (h : Bel W.heap.size W W') (may : MemPlace → Prop) : W.keptBut W' may := by
  refine ⟨h.os, h.output, fun i hi => ?_⟩
  rw [h.block i hi]
  split <;> simp_all

section
variable {H : Type} {enc : TypeId × Value → H} {P : Program}
theorem post_of_bel {f : Func} {s : ChangeSpec} {apart fresh handsOn again : Bool} {W W' : World} {args : Array Value} {v : Value} {ds gs : List (DataW H)} {before pa pv : List MemPlace}
    (hW : DataW.Whole enc P f.params.toList s.vars apart W args.toList ds gs before)
    (hres : ∀ (b : Nat) (sp : Nat → Bool) (hd : Bool), DataW.TrodAll enc P W' b sp hd f.resultTypes.toList (v.resultList f.resultTypes.size) (s.fn H (ds ++ gs)).results [])
    (hargs : ∀ sp : Nat → Bool, (∀ p ∈ before, sp p.block = true) → DataW.TrodAll enc P W' 0 sp true f.params.toList args.toList (s.fn H (ds ++ gs)).args pa)
    (hvars : ∀ sp : Nat → Bool, (∀ p ∈ before, sp p.block = true) → DataW.TrodVars enc P W' sp s.vars (s.fn H (ds ++ gs)).vars pv)
    (hps : before = pa ++ pv) (hb : Bel W.heap.size W W')
    (hok : ∀ (j : Nat) (t : TypeId) (r : Value), f.resultTypes[j]? = some t → (v.resultList f.resultTypes.size)[j]? = some r → Value.okWide P W' .any 0 t r) :
    s.post enc P f apart fresh handsOn again W args v W' := by
  have hlt : ∀ p ∈ before, p.block < W.heap.size := fun p hp => hW.lt p hp
  have hold : ∀ p ∈ before, (fun b => decide (b < W.heap.size)) p.block = true := fun p hp => by simpa using hlt p hp
  refine ⟨ds, gs, before, [], pa, pv, hW, hres _ _ _, hargs _ hold, hvars _ hold, World.keptBut_mono (fun p hp => ⟨hp, ?_⟩) (hb.frame (· ∈ before)), fun _ => ?_⟩
  · rw [hps, List.mem_append] at hp
    exact Or.inr hp
  · obtain ⟨_, _, _, _, _, hz, hn⟩ := hW
    refine ⟨hok, _, _, ([] ++ pa) ++ pv, ⟨[] ++ pa, pv, trodAll_append (hargs _ (fun _ _ => rfl)) (hres _ _ _), hvars _ (fun _ _ => rfl), rfl, ?_, ?_⟩, ?_⟩
    · intro b off hp
      have hin : MemPlace.cell b off ∈ before := by rw [hps]; simpa using hp
      rw [hb.frozen (hlt _ hin)]
      exact hz b off hin
    · intro ha
      have := hn ha
      rw [hps] at this
      simpa using this
    · intro p hp _
      rw [hps]
      simpa using hp
end

theorem own : ownKnob Tryz.prog.godebug = none := by kernel_rfl

end
/- The rows' common part: the library's tables as they are laid (the heap laid by the kit's law). -/
section
open Go.ChangeShapes Go.WideShapes Go.ChangeAt Go.RowKit

def laid5 : List (String × DataW Unit) := [("math/bits.deBruijn32tab", Rows.laid_math_bits_deBruijn32tab), ("math/bits.deBruijn64tab", Rows.laid_math_bits_deBruijn64tab), ("internal/strconv.uint64pow10", Rows.laid_internal_strconv_uint64pow10), ("unicode/utf8.acceptRanges", Rows.laid_unicode_utf8_acceptRanges), ("unicode/utf8.first", Rows.laid_unicode_utf8_first)]
/-- The heap with the tables laid meets the condition. -/
theorem door_met (os : Os) (args : Array Value) : laidMetH Tryz.prog laid5 ((World.laidAll Tryz.prog os laid5).forCall (fun _ _ => 0) ⟨#[], args, []⟩).memory := by
  rw [MakeChecks.laidMetH_plain _ _ _ (by kernel_rfl)]
  exact laidMet_laidAll _ (by kernel_rfl) (by kernel_rfl)
theorem door_shaped (os : Os) : (World.laidAll Tryz.prog os laid5).Shaped Tryz.prog := World.shaped_of_ZipB (by kernel_rfl) (by kernel_rfl)
theorem tab_g : ∃ g, Tryz.prog.globalNamed "internal/strconv.uint64pow10" = some g ∧ (Tryz.prog.globals[g]?).map (·.type) = some 199 := ⟨3, by kernel_rfl, by kernel_rfl⟩
theorem tab_cells1 : Tryz.prog.cellsOf 193 = 1 := by kernel_rfl
theorem tab_cells20 : Tryz.prog.cellsOf 199 = 20 := by kernel_rfl
/-- What the condition gives the walk. -/
theorem tab_of_laid {W : World} (h : laidMetH Tryz.prog laid5 W) : Tab W := by
  rw [MakeChecks.laidMetH_plain _ _ _ (by kernel_rfl)] at h
  have h : laidMet Tryz.prog laid5 W := h
  obtain ⟨g, hg, hty⟩ := tab_g
  have h2 : laidMet Tryz.prog (("internal/strconv.uint64pow10", Lib.tabData .u64 Lib.pow10Tab) :: [("unicode/utf8.acceptRanges", Rows.laid_unicode_utf8_acceptRanges), ("unicode/utf8.first", Rows.laid_unicode_utf8_first)]) W := h.tail.tail
  exact Lib.tabIs_of_head hg hty Tryz.underlying199 Tryz.underlying193 tab_cells1 tab_cells20 h2

end

end Go.Proofs.YtpcbcodmocmilaaGreatDoor
