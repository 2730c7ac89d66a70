/- NumFar holds: for every input the law answers true; its conditions: the library's tables lie as the program's text lays them (the card ties that). -/
import Derived.Test.YtdfamphnilelnaaDoorDi
import Derived.Test.YtdfamphnilelnaaDoorRowD
import Derived.Test.YtdfamphnilelnaaDoorCards
import Derived.Test.YtdfamphnilelnaaDoorTie
import Derived.SevenTiedAt
import Derived.Lib.SmallJoins
namespace Go.Proofs.YtdfamphnilelnaaDoor.numFar
open Go.ChangeShapes Go.WideShapes Go.ChangeAt Go.RowKit
open Go.ChangeMaps (open_string shut_string)
set_option linter.unusedVariables false

set_option maxRecDepth 100000 in
theorem lifted (os : Os) (started : os.Started) (H : Type) (enc : TypeId × Value → H) :
    ReturnsInHanded {} Tryd.checked os 6 .any (fun w args => (Rows.numFarSpec.pre enc Tryd.prog Tryd.f6 [] false w args ∧ laidMetH Tryd.prog laid3 w) ∧ sizedMet enc Tryd.prog Tryd.f6 (OpenSpec.ofChange Rows.numFarSpec) false w args)
      (Rows.numFarSpec.post enc Tryd.prog Tryd.f6 false true false false) := by
  refine returnsInHanded_of_change_and (C := Tryd.checked) (X := fun w _ => laidMetH Tryd.prog laid3 w) (fun _ _ _ hh h => h.of_heap hh) own started (by kernel_rfl) Tryd.func6
    (ChangeSpec.witness_shaped (enc := enc) (C := Tryd.checked) (os := os) (X := fun w _ => laidMetH Tryd.prog laid3 w) false (World.doorLaid Tryd.prog 400 os) #[.agg #[.int .i64 0, .int .u8 0, .bool false, .bool false]] 8 rfl (World.shaped_of_RefB (by kernel_rfl) (by kernel_rfl)) (by kernel_rfl) (by kernel_rfl) (by kernel_rfl) (door_met os _)) ?_
  intro W base args ds gs before hval0 hW _ _ hL _
  have ht := tab_of_laid hL
  have hval : ∀ (j : Nat) t v, Tryd.f6.params[j]? = some t → args[j]? = some v → Value.okWide Tryd.prog W .any base t v := hval0
  have hW' := hW
  obtain ⟨p, q, hA0, hV, rfl, hfz, hnd⟩ := hW
  have hA : DataW.TrodAll enc Tryd.prog W 0 (fun _ => true) true Tryd.f6.params.toList args.toList ds p := hA0
  rw [Tryd.params6] at hA hval
  obtain ⟨v0, vs0, d0, ds0, p0, q0, hargs, rfl, rfl, h0, r0⟩ := trodAll_cons hA
  obtain ⟨rfl, rfl, rfl⟩ := trodAll_nil r0
  obtain rfl : args = #[v0] := by cases args; simp_all
  obtain ⟨rfl, rfl⟩ := trodVars_none hV
  obtain ⟨b0, b1, b2, b3, y0, y1, y2, y3, m, rfl, rfl, rfl, t0, t1, t2, t3⟩ := Go.Joins.open_agg4 Tryd.underlying31 (by kernel_rfl) (by kernel_rfl) (hval 0 31 v0 rfl rfl) h0
  obtain ⟨n, e0, rfl, w0⟩ := DataW.trod_int Tryd.underlying2 t0
  obtain ⟨d, e1, rfl, w1⟩ := DataW.trod_int Tryd.underlying5 t1
  obtain ⟨mi, e2, rfl⟩ := DataW.trod_bool Tryd.underlying4 t2
  obtain ⟨sm, e3, rfl⟩ := DataW.trod_bool Tryd.underlying4 t3
  simp only [List.cons.injEq, and_true] at e0 e1 e2 e3
  subst e0 e1 e2 e3
  clear hA0 hval0
  simp only [List.append_nil] at hW'
  refine (farLaw_any n d mi sm W ht w0 w1).mono fun e W' ⟨he, hg⟩ => ?_
  subst he
  exact ⟨_, rfl, post_of_bel (pa := []) (pv := []) hW' (fun _ _ _ => (trodAll_cons_mk (shut_bool Tryd.underlying4 _) trodAll_mk0)) (fun sp _ => (trodAll_cons_mk (Go.Joins.shut_agg4 Tryd.underlying31 (by kernel_rfl) (by kernel_rfl) ⟨_, trod_int_mk 0 Tryd.underlying2 w0⟩ ⟨_, trod_int_mk 0 Tryd.underlying5 w1⟩ (Go.Joins.field_of_Trod (shut_bool Tryd.underlying4 mi) rfl) (Go.Joins.field_of_Trod (shut_bool Tryd.underlying4 sm) rfl)) trodAll_mk0)) (fun _ _ => rfl) rfl
    hg (ok_one (by kernel_rfl) rfl (okWide_bool_mk Tryd.underlying4 _))⟩

theorem over : Rows.NumFarSaid :=
  OpenClaim.holds_of_wide 6 Tryd.f6 rfl rfl rfl rfl rfl rfl rfl ⟨rfl, rfl, rfl, rfl, rfl⟩ rfl rfl rfl rfl rfl (by kernel_rfl) Tryd.func6 (by kernel_rfl)
    (of_decide_eq_true (by kernel_rfl)) (by unfold Func.isWrapper; first | (rw [if_pos (by decide +kernel)]; kernel_rfl) | (rw [if_neg (by decide +kernel)]; exact ⟨rfl, rfl⟩))
    (fun os started H enc _ => lifted os started H enc)

theorem proved : Rows.NumFarCardSaid :=
  Claim7.holds_tied_plain_at .later [] [.data, .data, .data] true (true, "a810038ca1541e2386363cc95bc690f87b72b2ce90b4615112a845ff52da7007") false
    over (fun _ h => by cases h) (by kernel_rfl) (fun _ h => by cases h) numFar_row_tie rfl ⟨rfl, rfl⟩ (by kernel_rfl) rfl
    (fun f fn hf hfn => by
      obtain rfl : f = 6 := Option.some.inj ((show Tryd.prog.funcNamed "lacework/laceworklaw10.NumFar" = some 6 by kernel_rfl).symm.trans hf) |>.symm
      obtain rfl : fn = Tryd.f6 := (Option.some.inj (Tryd.func6.symm.trans hfn)).symm
      exact ⟨by kernel_rfl, fun j t ht => by
        rw [Tryd.params6] at ht
        have hm : t ∈ [31] := by
          have := Array.mem_of_getElem? ht
          simp at this ⊢
          omega
        have hall : ([31].all fun u => !Tryd.prog.wantsStandIn u) = true := by kernel_rfl
        exact (show Tryd.prog.wantsStandIn t = false by simpa using List.all_eq_true.1 hall t hm)⟩)
    (by kernel_rfl)
#print axioms proved
end Go.Proofs.YtdfamphnilelnaaDoor.numFar
