/- num: split. -/
import Derived.BigRegion
import Derived.Test.YtdfamphnilelnaaDoorNa
namespace Go.Proofs.YtdfamphnilelnaaDoor
open Go.RowKit

abbrev L8 := List UInt8
/-- A number's parts: sign, digits ahead of the point, behind it, the exponent as it stands. -/
structure NP where
  m : Bool
  w : L8
  f : L8
  e : L8
def spl5 (m : Bool) (w f l : L8) : Option NP :=
  if ((if hd l 43 || hd l 45 then l.drop 1 else l) ≠ [] ∧ digN (if hd l 43 || hd l 45 then l.drop 1 else l) = (if hd l 43 || hd l 45 then l.drop 1 else l).length) then some ⟨m, w, f, l⟩ else none
def spl4 (m : Bool) (w f l : L8) : Option NP :=
  if l = [] then some ⟨m, w, f, []⟩ else if hd l 101 || hd l 69 then spl5 m w f (l.drop 1) else none
def spl3 (m : Bool) (w l : L8) : Option NP :=
  if hd l 46 then (if digN (l.drop 1) = 0 then none else spl4 m w ((l.drop 1).take (digN (l.drop 1))) (l.drop (digN (l.drop 1) + 1))) else spl4 m w [] l
/-- No digit, or a 0 ahead of others. -/
def badI (l : L8) : Bool := digN l == 0 || decide (1 < digN l) && hd l 48
def spl2 (m : Bool) (l : L8) : Option NP :=
  if badI l then none else spl3 m (l.take (digN l)) (l.drop (digN l))
def splitL (l : L8) : Option NP := if hd l 45 then spl2 true (l.drop 1) else spl2 false l

theorem hd_0 {t : ByteArray} {c : UInt8} (h : t.size = 0) : hd t.data.toList c = false := hd_o (s := t) (p := 0) (by omega)
/-- What split answers. -/
def splitV : Option NP → Value
  | none => .tuple #[.agg #[.bool false, .string ⟨#[]⟩, .string ⟨#[]⟩, .string ⟨#[]⟩], .bool false]
  | some x => .tuple #[.agg #[.bool x.m, .string (bs x.w), .string (bs x.f), .string (bs x.e)], .bool true]

theorem splitV_eq (m : Bool) (wv f e : ByteArray) : Value.tuple #[.agg #[.bool m, .string wv, .string f, .string e], .bool true] = splitV (some ⟨m, wv.data.toList, f.data.toList, e.data.toList⟩) := by
  simp only [splitV]
  rw [← bs_of (rfl : wv.data.toList = _), ← bs_of (rfl : f.data.toList = _), ← bs_of (rfl : e.data.toList = _)]
theorem set_exp (W : World) (cs : Array Value) (t : TypeId) (n k i : Nat) (v : Value) (hk : k = W.heap.size) : ((W.alloc (.cells cs t)).drewN n).setCell ⟨k, i, none⟩ v = (W.alloc (.cells (cs.setIfInBounds i v) t)).drewN n := by
  show ((W.alloc (.cells cs t)).setCell ⟨k, i, none⟩ v).drewN n = _
  rw [World.setCell_alloc_at _ _ _ _ _ hk]
theorem frac_take (t : ByteArray) (d : Nat) : (t.extract 1 t.size).data.toList.take d = (t.extract 1 (d + 1)).data.toList := by
  rw [ext_drop]
  simp [ByteArray.data_extract, List.extract_eq_take_drop]
/-- Gotos to labels ahead. -/
def Exit.jumps (J : Nat → Act → World → Prop) (Q : Exit → Act → World → Prop) : Exit → Act → World → Prop
  | .goto l, a, w => J l a w
  | e, a, w => Q e a w
theorem wp_scope_labels {P : Program} {a : Act} {w : World} {Q : Exit → Act → World → Prop} {c : Code} (J : Nat → Act → World → Prop) (μ : Nat → Nat)
    (first : c.wp P (Exit.jumps J Q) a w)
    (pass : ∀ l a w, J l a w → ∃ rest, findLabel c l = some rest ∧ rest.wp P (Exit.jumps (fun l' a' w' => J l' a' w' ∧ μ l' < μ l) Q) a w) : (Code.scope c).wp P Q a w := by
  intro b k cs
  have key : ∀ n l a w, μ l = n → J l a w → ∃ rest, findLabel c l = some rest ∧ ∃ e a' w', Q e a' w' ∧ Arrives P (lone (b.at a (.code rest :: .inScope c :: k)) cs w) b k cs e a' w' := by
    intro n
    induction n using Nat.strongRecOn with
    | _ n ih =>
      intro l a w hn hJ
      obtain ⟨rest, hf, hp⟩ := pass l a w hJ
      obtain ⟨e, a₁, w₁, hq, harr⟩ := hp b (.inScope c :: k) cs
      refine ⟨rest, hf, ?_⟩
      cases e with
      | normal => exact ⟨.normal, a₁, w₁, hq, Steps.trans harr (.one step_inScope)⟩
      | exit id => exact ⟨.exit id, a₁, w₁, hq, fun k' hk => harr k' (by simp [exitTo, hk])⟩
      | goto l' =>
        obtain ⟨hJ', hlt⟩ := hq
        obtain ⟨rest', hf', e₂, a₂, w₂, hq₂, harr₂⟩ := ih _ (by omega) l' a₁ w₁ rfl hJ'
        have hg : gotoIn l' (.inScope c :: k) = some (.code rest' :: .inScope c :: k) := by simp [gotoIn, hf']
        exact ⟨e₂, a₂, w₂, hq₂, .of_steps (harr _ hg) harr₂⟩
      | ret => exact ⟨_, a₁, w₁, hq, harr⟩
      | panic ch => exact ⟨_, a₁, w₁, hq, harr⟩
      | outgrown => exact ⟨_, a₁, w₁, hq, harr⟩
  obtain ⟨e, a₁, w₁, hq, harr⟩ := first b (.inScope c :: k) cs
  cases e with
  | normal => exact ⟨.normal, a₁, w₁, hq, .head step_scope (Steps.trans harr (.one step_inScope))⟩
  | exit id => exact ⟨.exit id, a₁, w₁, hq, fun k' hk => .head step_scope (harr k' (by simp [exitTo, hk]))⟩
  | goto l' =>
    obtain ⟨rest', hf', e₂, a₂, w₂, hq₂, harr₂⟩ := key _ l' a₁ w₁ rfl hq
    have hg : gotoIn l' (.inScope c :: k) = some (.code rest' :: .inScope c :: k) := by simp [gotoIn, hf']
    exact ⟨e₂, a₂, w₂, hq₂, .of_steps (.head step_scope (harr _ hg)) harr₂⟩
  | ret => exact ⟨_, a₁, w₁, hq, .of_steps (.one step_scope) harr⟩
  | panic ch => exact ⟨_, a₁, w₁, hq, .of_steps (.one step_scope) harr⟩
  | outgrown => exact ⟨_, a₁, w₁, hq, .of_steps (.one step_scope) harr⟩

theorem range97 (u : Nat → Value) : (List.range 97).map u = [u 0, u 1, u 2, u 3, u 4, u 5, u 6, u 7, u 8, u 9, u 10, u 11, u 12, u 13, u 14, u 15, u 16, u 17, u 18, u 19, u 20, u 21, u 22, u 23, u 24, u 25, u 26, u 27, u 28, u 29, u 30, u 31, u 32, u 33, u 34, u 35, u 36, u 37, u 38, u 39, u 40, u 41, u 42, u 43, u 44, u 45, u 46, u 47, u 48, u 49, u 50, u 51, u 52, u 53, u 54, u 55, u 56, u 57, u 58, u 59, u 60, u 61, u 62, u 63, u 64, u 65, u 66, u 67, u 68, u 69, u 70, u 71, u 72, u 73, u 74, u 75, u 76, u 77, u 78, u 79, u 80, u 81, u 82, u 83, u 84, u 85, u 86, u 87, u 88, u 89, u 90, u 91, u 92, u 93, u 94, u 95, u 96] := by rfl
theorem frame97 (a : Act) (h : a.tmps.size = 97) (hd : a.defers = []) : a = { tmps := #[a.tmps.getD 0 undef, a.tmps.getD 1 undef, a.tmps.getD 2 undef, a.tmps.getD 3 undef, a.tmps.getD 4 undef, a.tmps.getD 5 undef, a.tmps.getD 6 undef, a.tmps.getD 7 undef, a.tmps.getD 8 undef, a.tmps.getD 9 undef, a.tmps.getD 10 undef, a.tmps.getD 11 undef, a.tmps.getD 12 undef, a.tmps.getD 13 undef, a.tmps.getD 14 undef, a.tmps.getD 15 undef, a.tmps.getD 16 undef, a.tmps.getD 17 undef, a.tmps.getD 18 undef, a.tmps.getD 19 undef, a.tmps.getD 20 undef, a.tmps.getD 21 undef, a.tmps.getD 22 undef, a.tmps.getD 23 undef, a.tmps.getD 24 undef, a.tmps.getD 25 undef, a.tmps.getD 26 undef, a.tmps.getD 27 undef, a.tmps.getD 28 undef, a.tmps.getD 29 undef, a.tmps.getD 30 undef, a.tmps.getD 31 undef, a.tmps.getD 32 undef, a.tmps.getD 33 undef, a.tmps.getD 34 undef, a.tmps.getD 35 undef, a.tmps.getD 36 undef, a.tmps.getD 37 undef, a.tmps.getD 38 undef, a.tmps.getD 39 undef, a.tmps.getD 40 undef, a.tmps.getD 41 undef, a.tmps.getD 42 undef, a.tmps.getD 43 undef, a.tmps.getD 44 undef, a.tmps.getD 45 undef, a.tmps.getD 46 undef, a.tmps.getD 47 undef, a.tmps.getD 48 undef, a.tmps.getD 49 undef, a.tmps.getD 50 undef, a.tmps.getD 51 undef, a.tmps.getD 52 undef, a.tmps.getD 53 undef, a.tmps.getD 54 undef, a.tmps.getD 55 undef, a.tmps.getD 56 undef, a.tmps.getD 57 undef, a.tmps.getD 58 undef, a.tmps.getD 59 undef, a.tmps.getD 60 undef, a.tmps.getD 61 undef, a.tmps.getD 62 undef, a.tmps.getD 63 undef, a.tmps.getD 64 undef, a.tmps.getD 65 undef, a.tmps.getD 66 undef, a.tmps.getD 67 undef, a.tmps.getD 68 undef, a.tmps.getD 69 undef, a.tmps.getD 70 undef, a.tmps.getD 71 undef, a.tmps.getD 72 undef, a.tmps.getD 73 undef, a.tmps.getD 74 undef, a.tmps.getD 75 undef, a.tmps.getD 76 undef, a.tmps.getD 77 undef, a.tmps.getD 78 undef, a.tmps.getD 79 undef, a.tmps.getD 80 undef, a.tmps.getD 81 undef, a.tmps.getD 82 undef, a.tmps.getD 83 undef, a.tmps.getD 84 undef, a.tmps.getD 85 undef, a.tmps.getD 86 undef, a.tmps.getD 87 undef, a.tmps.getD 88 undef, a.tmps.getD 89 undef, a.tmps.getD 90 undef, a.tmps.getD 91 undef, a.tmps.getD 92 undef, a.tmps.getD 93 undef, a.tmps.getD 94 undef, a.tmps.getD 95 undef, a.tmps.getD 96 undef], defers := [] } := by
  have e : a.tmps.toList = (List.range 97).map (fun i => a.tmps.getD i undef) := by
    apply List.ext_getElem
    · simp [h]
    · intro i h1 h2
      simp [Array.getD, show i < a.tmps.size by simpa using h1]
  rw [range97] at e
  obtain ⟨tm, df⟩ := a
  simp only at *
  subst hd
  congr 1
  exact Array.toList_inj.1 e
theorem frame97u (a : Act) (h : a.tmps.size = 97) (hd : a.defers = []) : ∃ u : Nat → Value, (∀ i, a.tmps.getD i undef = u i) ∧ a = { tmps := #[u 0, u 1, u 2, u 3, u 4, u 5, u 6, u 7, u 8, u 9, u 10, u 11, u 12, u 13, u 14, u 15, u 16, u 17, u 18, u 19, u 20, u 21, u 22, u 23, u 24, u 25, u 26, u 27, u 28, u 29, u 30, u 31, u 32, u 33, u 34, u 35, u 36, u 37, u 38, u 39, u 40, u 41, u 42, u 43, u 44, u 45, u 46, u 47, u 48, u 49, u 50, u 51, u 52, u 53, u 54, u 55, u 56, u 57, u 58, u 59, u 60, u 61, u 62, u 63, u 64, u 65, u 66, u 67, u 68, u 69, u 70, u 71, u 72, u 73, u 74, u 75, u 76, u 77, u 78, u 79, u 80, u 81, u 82, u 83, u 84, u 85, u 86, u 87, u 88, u 89, u 90, u 91, u 92, u 93, u 94, u 95, u 96], defers := [] } := ⟨fun i => a.tmps.getD i undef, fun _ => rfl, frame97 a h hd⟩
def JBad (s : ByteArray) (w : World) (a' : Act) (w' : World) : Prop := ∃ (m : Bool) (wv f e : ByteArray) (n : Nat), a'.tmps.size = 97 ∧ a'.defers = [] ∧ a'.tmps.getD 2 undef = .pointer (some ⟨w.heap.size, 0, none⟩) ∧ a'.tmps.getD 4 undef = .pointer (some ⟨w.heap.size + 1, 0, none⟩) ∧ Hid (splitL s.data.toList = none) ∧ w' = ((w.alloc (.cells #[.bool false, .string ⟨#[]⟩, .string ⟨#[]⟩, .string ⟨#[]⟩] 36)).alloc (.cells #[.bool m, .string wv, .string f, .string e] 36)).drewN n
def JPow (s : ByteArray) (w : World) (a' : Act) (w' : World) : Prop := ∃ (m : Bool) (wv f t : ByteArray) (n : Nat), a'.tmps.size = 97 ∧ a'.defers = [] ∧ a'.tmps.getD 0 undef = .string t ∧ a'.tmps.getD 2 undef = .pointer (some ⟨w.heap.size, 0, none⟩) ∧ a'.tmps.getD 3 undef = .bool false ∧ a'.tmps.getD 4 undef = .pointer (some ⟨w.heap.size + 1, 0, none⟩) ∧ t.size ≤ s.size ∧ Hid (splitL s.data.toList = spl4 m wv.data.toList f.data.toList t.data.toList) ∧ w' = ((w.alloc (.cells #[.bool false, .string ⟨#[]⟩, .string ⟨#[]⟩, .string ⟨#[]⟩] 36)).alloc (.cells #[.bool m, .string wv, .string f, .string ⟨#[]⟩] 36)).drewN n
def JAll (s : ByteArray) (w : World) (l : Nat) (a' : Act) (w' : World) : Prop := (l = 0 ∧ JBad s w a' w') ∨ (l = 1 ∧ JPow s w a' w')

set_option maxRecDepth 100000 in
set_option maxHeartbeats 4000000 in
theorem split_any (s : ByteArray) (w : World) (hs : s.size ≤ 100000) :
    Calls Tryd.prog 15 #[.string s] w fun e w' => e = .returned (splitV (splitL s.data.toList)) ∧ Bel w.heap.size w w' := by
  have hdg := fun (t : ByteArray) (w : World) (h : t.size ≤ 100000) => digits_any t w (by omega)
  have HDG := Lib.hid hdg; clear hdg
  go_enter Tryd.func15, Tryd.ntmps15
  go_wp2
  refine wp_scope_labels (JAll s w) (fun l => l) ?_ ?_
  rotate_left
  · rintro l a' w' (⟨rfl, m, wv, f, e, n0, hz, hd, h2, h4, HN, rfl⟩ | ⟨rfl, m, wv, f, t, n0, hz, hd, h0, h2, h3, h4, hts, HS, rfl⟩)
    · refine ⟨_, rfl, ?_⟩
      obtain ⟨u, hu, ha⟩ := frame97u a' hz hd
      rw [hu] at h2 h4
      rw [ha]
      simp only [h2, h4]
      clear hz hd h2 h4 hu ha
      go_wp2
      (try simp only [Exit.jumps])
      refine bodyPost_ret (v := splitV none) (by simp [results, Tryd.results15, go_sem, splitV]) rfl ?_
      exact ⟨by rw [HN.out], Bel.of (by (repeat' (first | (with_reducible exact Below.refl _ _) | (with_reducible refine Below.trans ?_ (below_drewN _ _ _)) | (with_reducible refine Below.alloc ?_ ?_ _) | (with_reducible refine Below.setCell ?_ ?_ _) | (with_reducible refine Below.drew ?_) | go_size)))⟩
    · refine ⟨_, rfl, ?_⟩
      obtain ⟨u, hu, ha⟩ := frame97u a' hz hd
      rw [hu] at h0 h2 h3 h4
      rw [ha]
      simp only [h0, h2, h3, h4]
      clear hz hd h0 h2 h3 h4 hu ha
      rcases Nat.eq_zero_or_pos t.size with h0 | h0
      · have h1 := te_t h0
        have HN := Lib.hid (HS.out.trans (show spl4 m wv.data.toList f.data.toList t.data.toList = some ⟨m, wv.data.toList, f.data.toList, (⟨#[]⟩ : ByteArray).data.toList⟩ by rw [spl4, if_pos (List.eq_nil_of_length_eq_zero (by simpa using h0))]))
        clear h0 HS
        go_wp2
        (try simp only [Exit.jumps])
        refine bodyPost_ret (v := .tuple #[.agg #[.bool m, .string wv, .string f, .string ⟨#[]⟩], .bool true]) (by simp [results, Tryd.results15, go_sem]) rfl ?_
        exact ⟨by rw [HN.out]; exact congrArg Ending.returned (splitV_eq _ _ _ _), Bel.of (by (repeat' (first | (with_reducible exact Below.refl _ _) | (with_reducible refine Below.trans ?_ (below_drewN _ _ _)) | (with_reducible refine Below.alloc ?_ ?_ _) | (with_reducible refine Below.setCell ?_ ?_ _) | (with_reducible refine Below.drew ?_) | go_size)))⟩
      · have h1 := te_f h0
        have HS2 := Lib.hid (HS.out.trans (show spl4 m wv.data.toList f.data.toList t.data.toList = if hd t.data.toList 101 || hd t.data.toList 69 then spl5 m wv.data.toList f.data.toList (t.extract 1 t.size).data.toList else none by rw [spl4, if_neg (ne_nil h0), ext_drop]))
        clear HS
        go_upto_region 14 with fail
        go_cut [67] (fun v wx => v = .bool (!(hd t.data.toList 101 || hd t.data.toList 69)) ∧ wx = ((w.alloc (.cells #[.bool false, .string ⟨#[]⟩, .string ⟨#[]⟩, .string ⟨#[]⟩] 36)).alloc (.cells #[.bool m, .string wv, .string f, .string ⟨#[]⟩] 36)).drewN n0)
        case first =>
          have g1 := hd_n' (s := t) (p := 0) (c := 101) (n := 101) h0 rfl
          have g2 := hd_n' (s := t) (p := 0) (c := 69) (n := 69) h0 rfl
          have HG := Lib.hid (show (!(hd t.data.toList 101 || hd t.data.toList 69)) = (((t[0].toNat : Int) != 101) && ((t[0].toNat : Int) != 69)) by rw [g1, g2]; simp [dr])
          clear g1 g2
          cases hx : ((t[0].toNat : Int) != 101)
          · have HG := Lib.hid (HG.out.trans (by rw [hx]; rfl : _ = false))
            go_wp2
            go_meet
            case rel => exact ⟨congrArg Value.bool HG.out.symm, rfl⟩
          · have HG := Lib.hid (HG.out.trans (by rw [hx]; rfl : _ = ((t[0].toNat : Int) != 69)))
            go_wp2
            go_meet
            case rel => exact ⟨congrArg Value.bool HG.out.symm, rfl⟩
        case rest =>
          obtain ⟨rfl, rfl⟩ := hcut
          cases he : (hd t.data.toList 101 || hd t.data.toList 69) with
          | false =>
            have HN := Lib.hid (HS2.out.trans (by rw [he]; rfl : _ = none))
            clear he HS2
            go_wp2
            go_step3
            exact ⟨.inl ⟨rfl, ⟨_, _, _, _, _, rfl, rfl, rfl, rfl, HN, rfl⟩⟩, by decide⟩
          | true =>
            have HS3 := Lib.hid (HS2.out.trans (if_pos he))
            have hz1 : (t.extract 1 t.size).size ≤ s.size := by simp; omega
            clear he HS2
            have hi1 : (1 : Int) ≤ t.size := by omega
            go_upto_region 17 with fail
            go_cut [0, 83] (fun v v' wx => ∃ t1 : ByteArray, v = .string t1 ∧ t1.size ≤ s.size ∧ v' = .bool (hd t1.data.toList 43 || hd t1.data.toList 45) ∧ Hid (splitL s.data.toList = spl5 m wv.data.toList f.data.toList t1.data.toList) ∧ wx = ((w.alloc (.cells #[.bool false, .string ⟨#[]⟩, .string ⟨#[]⟩, .string ⟨#[]⟩] 36)).alloc (.cells #[.bool m, .string wv, .string f, .string t1] 36)).drewN n0)
            case first =>
              clear h1
              generalize t.extract 1 t.size = t1 at *
              rcases Nat.eq_zero_or_pos t1.size with k0 | k0
              · have k1 := te_t k0
                have HG := Lib.hid (show (hd t1.data.toList 43 || hd t1.data.toList 45) = false from (hd_or_o (s := t1) (p := 0) (by omega)).symm)
                clear k0
                go_wp2
                go_meet
                case rel => exact ⟨t1, rfl, hz1, congrArg Value.bool HG.out.symm, HS3, set_exp _ _ _ _ _ 3 _ (by simp)⟩
              · have k1 := te_f k0
                have HB := Lib.hid (hd_or_b (s := t1) (p := 0) (c := 43) (d := 45) (n := 43) (m := 45) k0 rfl rfl)
                cases hx : ((t1[0].toNat : Int) == 43)
                · have HB := Lib.hid (show ((t1[0].toNat : Int) == 45) = (hd t1.data.toList 43 || hd t1.data.toList 45) by have := HB.out; rw [hx] at this; exact this)
                  go_wp2
                  go_meet
                  case rel => exact ⟨t1, rfl, hz1, congrArg Value.bool HB.out, HS3, set_exp _ _ _ _ _ 3 _ (by simp)⟩
                · have HB := Lib.hid (show true = (hd t1.data.toList 43 || hd t1.data.toList 45) by have := HB.out; rw [hx] at this; exact this)
                  go_wp2
                  go_meet
                  case rel => exact ⟨t1, rfl, hz1, congrArg Value.bool HB.out, HS3, set_exp _ _ _ _ _ 3 _ (by simp)⟩
            case rest =>
              clear hz1 HS3 h1 hi1 h0
              obtain ⟨t1, rfl, ht1, rfl, HS, rfl⟩ := hcut
              go_upto_if 83 with fail
              go_cut [0] (fun v wx => ∃ t2 : ByteArray, v = .string t2 ∧ t2.size ≤ s.size ∧ Hid (splitL s.data.toList = if t2.data.toList ≠ [] ∧ digN t2.data.toList = t2.data.toList.length then some ⟨m, wv.data.toList, f.data.toList, t1.data.toList⟩ else none) ∧ wx = ((w.alloc (.cells #[.bool false, .string ⟨#[]⟩, .string ⟨#[]⟩, .string ⟨#[]⟩] 36)).alloc (.cells #[.bool m, .string wv, .string f, .string t1] 36)).drewN n0)
              case first =>
                cases hx : (hd t1.data.toList 43 || hd t1.data.toList 45)
                · have HS2 := Lib.hid (HS.out.trans (by rw [spl5, hx]; rfl : _ = if t1.data.toList ≠ [] ∧ digN t1.data.toList = t1.data.toList.length then some (⟨m, wv.data.toList, f.data.toList, t1.data.toList⟩ : NP) else none))
                  clear hx HS
                  go_wp2
                  go_meet
                  case rel => exact ⟨t1, rfl, ht1, HS2, rfl⟩
                · have HS2 := Lib.hid (HS.out.trans (by rw [spl5, hx, ext_drop]; rfl : _ = if (t1.extract 1 t1.size).data.toList ≠ [] ∧ digN (t1.extract 1 t1.size).data.toList = (t1.extract 1 t1.size).data.toList.length then some (⟨m, wv.data.toList, f.data.toList, t1.data.toList⟩ : NP) else none))
                  have hl := hd_lt2 (s := t1) (p := 0) hx
                  have hi1 : (1 : Int) ≤ t1.size := by omega
                  clear hx HS
                  go_wp2
                  go_meet
                  case rel => exact ⟨_, rfl, by simp; omega, HS2, rfl⟩
              case rest =>
                clear HS
                obtain ⟨t2, rfl, ht2, HS, rfl⟩ := hcut
                have hdg := fun w => HDG.out t2 w (by omega)
                rcases Nat.eq_zero_or_pos t2.size with k0 | k0
                · have k1 := te_t k0
                  have HN := Lib.hid (HS.out.trans (if_neg (by rintro ⟨h, _⟩; exact h (List.eq_nil_of_length_eq_zero (by simpa using k0)))))
                  clear k0 HS
                  go_wp2
                  go_step3
                  go_wp2
                  (try simp only [Exit.jumps])
                  refine bodyPost_ret (v := splitV none) (by simp [results, Tryd.results15, go_sem, splitV]) rfl ?_
                  exact ⟨by rw [HN.out], Bel.of (by (repeat' (first | (with_reducible exact Below.refl _ _) | (with_reducible refine Below.trans ?_ (below_drewN _ _ _)) | (with_reducible refine Below.alloc ?_ ?_ _) | (with_reducible refine Below.setCell ?_ ?_ _) | (with_reducible refine Below.drew ?_) | go_size)))⟩
                · have k1 := te_f k0
                  have hl2 : t2.data.toList.length = t2.size := by simp
                  by_cases hdd : digN t2.data.toList = t2.size
                  · have HN := Lib.hid (HS.out.trans (if_pos ⟨fun h => by rw [h] at hl2; simp at hl2; omega, by rw [hl2]; exact hdd⟩))
                    rw [hdd] at hdg
                    clear hdd hl2 HS
                    go_wp2_with (go_at_call 23; refine (hdg _).mono ?_; rintro e w' ⟨rfl, rfl⟩)
                    (try simp only [Exit.jumps])
                    refine bodyPost_ret (v := .tuple #[.agg #[.bool m, .string wv, .string f, .string t1], .bool true]) (by simp [results, Tryd.results15, go_sem]) rfl ?_
                    exact ⟨by rw [HN.out]; exact congrArg Ending.returned (splitV_eq _ _ _ _), Bel.of (by (repeat' (first | (with_reducible exact Below.refl _ _) | (with_reducible refine Below.trans ?_ (below_drewN _ _ _)) | (with_reducible refine Below.alloc ?_ ?_ _) | (with_reducible refine Below.setCell ?_ ?_ _) | (with_reducible refine Below.drew ?_) | go_size)))⟩
                  · have HN := Lib.hid (HS.out.trans (if_neg (by rintro ⟨_, h⟩; rw [hl2] at h; exact hdd h)))
                    have hdd' : (((digN t2.data.toList : Nat) : Int) == (t2.size : Int)) = false := beq_eq_false_iff_ne.2 (by omega)
                    clear hdd hl2 HS
                    go_wp2_with (go_at_call 23; refine (hdg _).mono ?_; rintro e w' ⟨rfl, rfl⟩)
                    go_step3
                    go_wp2
                    (try simp only [Exit.jumps])
                    refine bodyPost_ret (v := splitV none) (by simp [results, Tryd.results15, go_sem, splitV]) rfl ?_
                    exact ⟨by rw [HN.out], Bel.of (by (repeat' (first | (with_reducible exact Below.refl _ _) | (with_reducible refine Below.trans ?_ (below_drewN _ _ _)) | (with_reducible refine Below.alloc ?_ ?_ _) | (with_reducible refine Below.setCell ?_ ?_ _) | (with_reducible refine Below.drew ?_) | go_size)))⟩
  go_upto_region 3 with fail
  go_cut [12] (fun v wx => v = .bool (hd s.data.toList 45) ∧ wx = ((w.alloc (.cells #[.bool false, .string ⟨#[]⟩, .string ⟨#[]⟩, .string ⟨#[]⟩] 36)).alloc (.cells #[.bool false, .string ⟨#[]⟩, .string ⟨#[]⟩, .string ⟨#[]⟩] 36)))
  case first =>
    rcases Nat.eq_zero_or_pos s.size with h0 | h0
    · have h1 := te_t h0
      have H2 := Lib.hid (hd_0 (c := 45) h0); clear h0
      go_wp2
      go_meet
      case rel => exact ⟨congrArg Value.bool H2.out.symm, rfl⟩
    · have h1 := te_f h0
      go_wp2
      go_meet
      case rel => exact ⟨congrArg Value.bool (hd_i' (s := s) (p := 0) h0 rfl), rfl⟩
  case rest =>
    obtain ⟨rfl, rfl⟩ := hcut
    go_upto_if 12 with fail
    go_cut [0] (fun v wx => ∃ (t : ByteArray) (m : Bool) (n : Nat), v = .string t ∧ t.size ≤ s.size ∧ Hid (splitL s.data.toList = spl2 m t.data.toList) ∧ wx = ((w.alloc (.cells #[.bool false, .string ⟨#[]⟩, .string ⟨#[]⟩, .string ⟨#[]⟩] 36)).alloc (.cells #[.bool m, .string ⟨#[]⟩, .string ⟨#[]⟩, .string ⟨#[]⟩] 36)).drewN n)
    case first =>
      cases h : hd s.data.toList 45
      · have H := Lib.hid (show splitL s.data.toList = spl2 false s.data.toList by rw [splitL, h]; rfl); clear h
        go_wp2
        go_meet
        case rel => exact ⟨s, false, 0, rfl, by omega, H, rfl⟩
      · have hlt := hd_lt (s := s) (p := 0) h
        have H := Lib.hid (show splitL s.data.toList = spl2 true (s.extract 1 s.size).data.toList by rw [splitL, h, ext_drop]; rfl); clear h
        have h1 : (1 : Int) ≤ s.size := by omega
        go_wp2
        go_region
        go_wp2
        go_meet
        case rel => exact ⟨s.extract 1 s.size, true, _, rfl, by simp, H, rfl⟩
    case rest =>
      obtain ⟨t, m, n0, rfl, hts, HS, rfl⟩ := hcut
      have hdg := fun w => HDG.out t w (by omega)
      have hdb := digN_bd t 0 (by omega)
      have hdr : dr t 0 = t.data.toList := rfl
      rw [hdr, Nat.zero_add] at hdb
      go_upto_region 6 with (go_at_call 23; refine (hdg _).mono ?_; rintro e w' ⟨rfl, rfl⟩)
      go_cut [28] (fun v wx => v = .bool (badI t.data.toList) ∧ wx = ((w.alloc (.cells #[.bool false, .string ⟨#[]⟩, .string ⟨#[]⟩, .string ⟨#[]⟩] 36)).alloc (.cells #[.bool m, .string ⟨#[]⟩, .string ⟨#[]⟩, .string ⟨#[]⟩] 36)).drewN n0)
      case first =>
        have HBI := Lib.hid (show badI t.data.toList = (digN t.data.toList == 0 || decide (1 < digN t.data.toList) && hd t.data.toList 48) from rfl)
        generalize digN t.data.toList = d at *
        by_cases hz : d = 0
        · have hz' : ((d : Int) == 0) = true := by simp [hz]
          have HBI := Lib.hid (show badI t.data.toList = true by rw [HBI.out, hz]; rfl)
          clear hz
          go_wp2
          go_meet
          case rel => exact ⟨congrArg Value.bool HBI.out.symm, rfl⟩
        · have hz' : ((d : Int) == 0) = false := by simp [hz]
          by_cases h1 : 1 < d
          · have h0 : 0 < t.size := by omega
            have HBI := Lib.hid (show badI t.data.toList = hd t.data.toList 48 by rw [HBI.out, beq_eq_false_iff_ne.2 hz, decide_eq_true h1]; rfl)
            clear hz
            go_wp2
            go_meet
            case rel => exact ⟨congrArg Value.bool ((hd_i' (s := t) (p := 0) (c := 48) h0 rfl).trans HBI.out.symm), rfl⟩
          · have HBI := Lib.hid (show badI t.data.toList = false by rw [HBI.out, beq_eq_false_iff_ne.2 hz, decide_eq_false h1]; rfl)
            clear hz
            go_wp2
            go_meet
            case rel => exact ⟨congrArg Value.bool HBI.out.symm, rfl⟩
      case rest =>
        obtain ⟨rfl, rfl⟩ := hcut
        clear hdr
        cases hbi : badI t.data.toList with
        | true =>
          have HN := Lib.hid (HS.out.trans (show spl2 m t.data.toList = none by rw [spl2, if_pos hbi]))
          clear hbi hdg HS
          go_wp2
          go_step3
          exact .inl ⟨rfl, ⟨_, _, _, _, _, rfl, rfl, rfl, rfl, HN, rfl⟩⟩
        | false =>
          have h0 : 0 < digN t.data.toList := by
            rcases Nat.eq_zero_or_pos (digN t.data.toList) with h | h
            · rw [badI, h] at hbi; cases hbi
            · exact h
          have HS3 := Lib.hid (HS.out.trans (show spl2 m t.data.toList = spl3 m (t.extract 0 (digN t.data.toList)).data.toList (t.extract (digN t.data.toList) t.size).data.toList by rw [spl2, hbi, ext_take, ext_drop]; rfl))
          generalize digN t.data.toList = d at *
          clear hbi HS hdg
          have hd0 : (0 : Int) ≤ d := by omega
          have hd1 : (d : Int) ≤ t.size := by omega
          go_upto_region 7 with fail
          go_cut [0] (fun v wx => ∃ (t : ByteArray) (wv : ByteArray) (n : Nat), v = .string t ∧ t.size ≤ s.size ∧ Hid (splitL s.data.toList = spl3 m wv.data.toList t.data.toList) ∧ wx = ((w.alloc (.cells #[.bool false, .string ⟨#[]⟩, .string ⟨#[]⟩, .string ⟨#[]⟩] 36)).alloc (.cells #[.bool m, .string wv, .string ⟨#[]⟩, .string ⟨#[]⟩] 36)).drewN n)
          case first =>
            go_region
            go_wp2
            go_meet
            case rel => exact ⟨_, _, _, rfl, by simp; omega, HS3, by first | rfl | exact set_exp _ _ _ _ _ 1 _ (by simp)⟩
          case rest =>
            clear HS3 hd0 hd1 h0 hdb hts
            obtain ⟨t, wv, n0, rfl, hts, HS, rfl⟩ := hcut
            go_upto_region 8 with fail
            go_cut [42] (fun v wx => v = .bool (!hd t.data.toList 46) ∧ wx = ((w.alloc (.cells #[.bool false, .string ⟨#[]⟩, .string ⟨#[]⟩, .string ⟨#[]⟩] 36)).alloc (.cells #[.bool m, .string wv, .string ⟨#[]⟩, .string ⟨#[]⟩] 36)).drewN n0)
            case first =>
              rcases Nat.eq_zero_or_pos t.size with h0 | h0
              · have h1 := te_t h0
                have H2 := Lib.hid (hd_no (s := t) (p := 0) (c := 46) (by omega)); clear h0
                go_wp2
                go_meet
                case rel => exact ⟨congrArg Value.bool H2.out, rfl⟩
              · have h1 := te_f h0
                go_wp2
                go_meet
                case rel => exact ⟨congrArg Value.bool (hd_n' (s := t) (p := 0) h0 rfl), rfl⟩
            case rest =>
              obtain ⟨rfl, rfl⟩ := hcut
              cases h46 : hd t.data.toList 46 with
              | false =>
                have HS2 := Lib.hid (HS.out.trans (by rw [spl3, h46]; rfl : _ = spl4 m wv.data.toList (⟨#[]⟩ : ByteArray).data.toList t.data.toList))
                clear h46 HS
                go_wp2
                go_step3
                exact .inr ⟨rfl, ⟨_, _, _, _, _, rfl, rfl, rfl, rfl, rfl, rfl, hts, HS2, rfl⟩⟩
              | true =>
                have hl := hd_lt (s := t) (p := 0) h46
                have hi1 : (1 : Int) ≤ t.size := by omega
                have hdg := fun w => HDG.out (t.extract 1 t.size) w (by simp; omega)
                have hdb := digN_bd (t.extract 1 t.size) 0 (by omega)
                rw [show dr (t.extract 1 t.size) 0 = (t.extract 1 t.size).data.toList from rfl] at hdb
                have hz1 : (t.extract 1 t.size).size = t.size - 1 := by simp
                rw [hz1] at hdb
                clear hz1
                by_cases hz : digN (t.extract 1 t.size).data.toList = 0
                · have HN := Lib.hid (HS.out.trans (by rw [spl3, if_pos h46, if_pos (by rw [← ext_drop]; exact hz)] : _ = none))
                  rw [hz] at hdg
                  clear hz h46 HS hdb
                  go_wp2_with (go_at_call 23; refine (hdg _).mono ?_; rintro e w' ⟨rfl, rfl⟩)
                  go_step3
                  exact .inl ⟨rfl, ⟨_, _, _, _, _, rfl, rfl, rfl, rfl, HN, rfl⟩⟩
                · have HS2 := Lib.hid (HS.out.trans (by rw [spl3, if_pos h46, ← ext_drop t 1, if_neg hz, frac_take, ← ext_drop t (digN (t.extract 1 t.size).data.toList + 1)] : _ = spl4 m wv.data.toList (t.extract 1 (digN (t.extract 1 t.size).data.toList + 1)).data.toList (t.extract (digN (t.extract 1 t.size).data.toList + 1) t.size).data.toList))
                  have hz' : (((digN (t.extract 1 t.size).data.toList : Nat) : Int) == 0) = false := beq_eq_false_iff_ne.2 (by omega)
                  generalize digN (t.extract 1 t.size).data.toList = d at *
                  have hd0 : (0 : Int) ≤ d := by omega
                  have hd1 : (d : Int) + 1 ≤ t.size := by omega
                  have hd2 : (1 : Int) ≤ d + 1 := by omega
                  clear hz h46 HS
                  go_upto_region 11 with (go_at_call 23; refine (hdg _).mono ?_; rintro e w' ⟨rfl, rfl⟩)
                  go_cut [0] (fun v wx => ∃ (t : ByteArray) (f : ByteArray) (n : Nat), v = .string t ∧ t.size ≤ s.size ∧ Hid (splitL s.data.toList = spl4 m wv.data.toList f.data.toList t.data.toList) ∧ wx = ((w.alloc (.cells #[.bool false, .string ⟨#[]⟩, .string ⟨#[]⟩, .string ⟨#[]⟩] 36)).alloc (.cells #[.bool m, .string wv, .string f, .string ⟨#[]⟩] 36)).drewN n)
                  case first =>
                    have hw : IntKind.i64.wrap ((d : Int) + 1) = (d : Int) + 1 := IntWalk.i64_in _ (by omega)
                    have hwn : ((d : Int) + 1).toNat = d + 1 := by omega
                    have hw0 : (0 : Int) ≤ (d : Int) + 1 := by omega
                    go_region
                    clear hw
                    go_wp2
                    go_meet
                    case rel => exact ⟨_, _, _, rfl, by simp; omega, HS2, by first | rfl | exact set_exp _ _ _ _ _ 2 _ (by simp)⟩
                  case rest =>
                    clear HS2 hd0 hd1 hd2 hdb hts hz' hl hi1 hdg
                    obtain ⟨t, f, n0, rfl, hts, HS, rfl⟩ := hcut
                    go_wp2_with fail
                    go_step3
                    rcases Nat.eq_zero_or_pos t.size with h0 | h0
                    · have h1 := te_t h0
                      have HN := Lib.hid (HS.out.trans (show spl4 m wv.data.toList f.data.toList t.data.toList = some ⟨m, wv.data.toList, f.data.toList, (⟨#[]⟩ : ByteArray).data.toList⟩ by rw [spl4, if_pos (List.eq_nil_of_length_eq_zero (by simpa using h0))]))
                      clear h0 HS
                      go_wp2
                      (try simp only [Exit.jumps])
                      refine bodyPost_ret (v := .tuple #[.agg #[.bool m, .string wv, .string f, .string ⟨#[]⟩], .bool true]) (by simp [results, Tryd.results15, go_sem]) rfl ?_
                      exact ⟨by rw [HN.out]; exact congrArg Ending.returned (splitV_eq _ _ _ _), Bel.of (by (repeat' (first | (with_reducible exact Below.refl _ _) | (with_reducible refine Below.trans ?_ (below_drewN _ _ _)) | (with_reducible refine Below.alloc ?_ ?_ _) | (with_reducible refine Below.setCell ?_ ?_ _) | (with_reducible refine Below.drew ?_) | go_size)))⟩
                    · have h1 := te_f h0
                      have HS2 := Lib.hid (HS.out.trans (show spl4 m wv.data.toList f.data.toList t.data.toList = if hd t.data.toList 101 || hd t.data.toList 69 then spl5 m wv.data.toList f.data.toList (t.extract 1 t.size).data.toList else none by rw [spl4, if_neg (ne_nil h0), ext_drop]))
                      clear HS
                      go_upto_region 14 with fail
                      go_cut [67] (fun v wx => v = .bool (!(hd t.data.toList 101 || hd t.data.toList 69)) ∧ wx = ((w.alloc (.cells #[.bool false, .string ⟨#[]⟩, .string ⟨#[]⟩, .string ⟨#[]⟩] 36)).alloc (.cells #[.bool m, .string wv, .string f, .string ⟨#[]⟩] 36)).drewN n0)
                      case first =>
                        have g1 := hd_n' (s := t) (p := 0) (c := 101) (n := 101) h0 rfl
                        have g2 := hd_n' (s := t) (p := 0) (c := 69) (n := 69) h0 rfl
                        have HG := Lib.hid (show (!(hd t.data.toList 101 || hd t.data.toList 69)) = (((t[0].toNat : Int) != 101) && ((t[0].toNat : Int) != 69)) by rw [g1, g2]; simp [dr])
                        clear g1 g2
                        cases hx : ((t[0].toNat : Int) != 101)
                        · have HG := Lib.hid (HG.out.trans (by rw [hx]; rfl : _ = false))
                          go_wp2
                          go_meet
                          case rel => exact ⟨congrArg Value.bool HG.out.symm, rfl⟩
                        · have HG := Lib.hid (HG.out.trans (by rw [hx]; rfl : _ = ((t[0].toNat : Int) != 69)))
                          go_wp2
                          go_meet
                          case rel => exact ⟨congrArg Value.bool HG.out.symm, rfl⟩
                      case rest =>
                        obtain ⟨rfl, rfl⟩ := hcut
                        cases he : (hd t.data.toList 101 || hd t.data.toList 69) with
                        | false =>
                          have HN := Lib.hid (HS2.out.trans (by rw [he]; rfl : _ = none))
                          clear he HS2
                          go_wp2
                          go_step3
                          exact .inl ⟨rfl, ⟨_, _, _, _, _, rfl, rfl, rfl, rfl, HN, rfl⟩⟩
                        | true =>
                          have HS3 := Lib.hid (HS2.out.trans (if_pos he))
                          have hz1 : (t.extract 1 t.size).size ≤ s.size := by simp; omega
                          clear he HS2
                          have hi1 : (1 : Int) ≤ t.size := by omega
                          go_upto_region 17 with fail
                          go_cut [0, 83] (fun v v' wx => ∃ t1 : ByteArray, v = .string t1 ∧ t1.size ≤ s.size ∧ v' = .bool (hd t1.data.toList 43 || hd t1.data.toList 45) ∧ Hid (splitL s.data.toList = spl5 m wv.data.toList f.data.toList t1.data.toList) ∧ wx = ((w.alloc (.cells #[.bool false, .string ⟨#[]⟩, .string ⟨#[]⟩, .string ⟨#[]⟩] 36)).alloc (.cells #[.bool m, .string wv, .string f, .string t1] 36)).drewN n0)
                          case first =>
                            clear h1
                            generalize t.extract 1 t.size = t1 at *
                            rcases Nat.eq_zero_or_pos t1.size with k0 | k0
                            · have k1 := te_t k0
                              have HG := Lib.hid (show (hd t1.data.toList 43 || hd t1.data.toList 45) = false from (hd_or_o (s := t1) (p := 0) (by omega)).symm)
                              clear k0
                              go_wp2
                              go_meet
                              case rel => exact ⟨t1, rfl, hz1, congrArg Value.bool HG.out.symm, HS3, set_exp _ _ _ _ _ 3 _ (by simp)⟩
                            · have k1 := te_f k0
                              have HB := Lib.hid (hd_or_b (s := t1) (p := 0) (c := 43) (d := 45) (n := 43) (m := 45) k0 rfl rfl)
                              cases hx : ((t1[0].toNat : Int) == 43)
                              · have HB := Lib.hid (show ((t1[0].toNat : Int) == 45) = (hd t1.data.toList 43 || hd t1.data.toList 45) by have := HB.out; rw [hx] at this; exact this)
                                go_wp2
                                go_meet
                                case rel => exact ⟨t1, rfl, hz1, congrArg Value.bool HB.out, HS3, set_exp _ _ _ _ _ 3 _ (by simp)⟩
                              · have HB := Lib.hid (show true = (hd t1.data.toList 43 || hd t1.data.toList 45) by have := HB.out; rw [hx] at this; exact this)
                                go_wp2
                                go_meet
                                case rel => exact ⟨t1, rfl, hz1, congrArg Value.bool HB.out, HS3, set_exp _ _ _ _ _ 3 _ (by simp)⟩
                          case rest =>
                            clear hz1 HS3 h1 hi1 h0
                            obtain ⟨t1, rfl, ht1, rfl, HS, rfl⟩ := hcut
                            go_upto_if 83 with fail
                            go_cut [0] (fun v wx => ∃ t2 : ByteArray, v = .string t2 ∧ t2.size ≤ s.size ∧ Hid (splitL s.data.toList = if t2.data.toList ≠ [] ∧ digN t2.data.toList = t2.data.toList.length then some ⟨m, wv.data.toList, f.data.toList, t1.data.toList⟩ else none) ∧ wx = ((w.alloc (.cells #[.bool false, .string ⟨#[]⟩, .string ⟨#[]⟩, .string ⟨#[]⟩] 36)).alloc (.cells #[.bool m, .string wv, .string f, .string t1] 36)).drewN n0)
                            case first =>
                              cases hx : (hd t1.data.toList 43 || hd t1.data.toList 45)
                              · have HS2 := Lib.hid (HS.out.trans (by rw [spl5, hx]; rfl : _ = if t1.data.toList ≠ [] ∧ digN t1.data.toList = t1.data.toList.length then some (⟨m, wv.data.toList, f.data.toList, t1.data.toList⟩ : NP) else none))
                                clear hx HS
                                go_wp2
                                go_meet
                                case rel => exact ⟨t1, rfl, ht1, HS2, rfl⟩
                              · have HS2 := Lib.hid (HS.out.trans (by rw [spl5, hx, ext_drop]; rfl : _ = if (t1.extract 1 t1.size).data.toList ≠ [] ∧ digN (t1.extract 1 t1.size).data.toList = (t1.extract 1 t1.size).data.toList.length then some (⟨m, wv.data.toList, f.data.toList, t1.data.toList⟩ : NP) else none))
                                have hl := hd_lt2 (s := t1) (p := 0) hx
                                have hi1 : (1 : Int) ≤ t1.size := by omega
                                clear hx HS
                                go_wp2
                                go_meet
                                case rel => exact ⟨_, rfl, by simp; omega, HS2, rfl⟩
                            case rest =>
                              clear HS
                              obtain ⟨t2, rfl, ht2, HS, rfl⟩ := hcut
                              have hdg := fun w => HDG.out t2 w (by omega)
                              rcases Nat.eq_zero_or_pos t2.size with k0 | k0
                              · have k1 := te_t k0
                                have HN := Lib.hid (HS.out.trans (if_neg (by rintro ⟨h, _⟩; exact h (List.eq_nil_of_length_eq_zero (by simpa using k0)))))
                                clear k0 HS
                                go_wp2
                                go_step3
                                go_wp2
                                (try simp only [Exit.jumps])
                                refine bodyPost_ret (v := splitV none) (by simp [results, Tryd.results15, go_sem, splitV]) rfl ?_
                                exact ⟨by rw [HN.out], Bel.of (by (repeat' (first | (with_reducible exact Below.refl _ _) | (with_reducible refine Below.trans ?_ (below_drewN _ _ _)) | (with_reducible refine Below.alloc ?_ ?_ _) | (with_reducible refine Below.setCell ?_ ?_ _) | (with_reducible refine Below.drew ?_) | go_size)))⟩
                              · have k1 := te_f k0
                                have hl2 : t2.data.toList.length = t2.size := by simp
                                by_cases hdd : digN t2.data.toList = t2.size
                                · have HN := Lib.hid (HS.out.trans (if_pos ⟨fun h => by rw [h] at hl2; simp at hl2; omega, by rw [hl2]; exact hdd⟩))
                                  rw [hdd] at hdg
                                  clear hdd hl2 HS
                                  go_wp2_with (go_at_call 23; refine (hdg _).mono ?_; rintro e w' ⟨rfl, rfl⟩)
                                  (try simp only [Exit.jumps])
                                  refine bodyPost_ret (v := .tuple #[.agg #[.bool m, .string wv, .string f, .string t1], .bool true]) (by simp [results, Tryd.results15, go_sem]) rfl ?_
                                  exact ⟨by rw [HN.out]; exact congrArg Ending.returned (splitV_eq _ _ _ _), Bel.of (by (repeat' (first | (with_reducible exact Below.refl _ _) | (with_reducible refine Below.trans ?_ (below_drewN _ _ _)) | (with_reducible refine Below.alloc ?_ ?_ _) | (with_reducible refine Below.setCell ?_ ?_ _) | (with_reducible refine Below.drew ?_) | go_size)))⟩
                                · have HN := Lib.hid (HS.out.trans (if_neg (by rintro ⟨_, h⟩; rw [hl2] at h; exact hdd h)))
                                  have hdd' : (((digN t2.data.toList : Nat) : Int) == (t2.size : Int)) = false := beq_eq_false_iff_ne.2 (by omega)
                                  clear hdd hl2 HS
                                  go_wp2_with (go_at_call 23; refine (hdg _).mono ?_; rintro e w' ⟨rfl, rfl⟩)
                                  go_step3
                                  go_wp2
                                  (try simp only [Exit.jumps])
                                  refine bodyPost_ret (v := splitV none) (by simp [results, Tryd.results15, go_sem, splitV]) rfl ?_
                                  exact ⟨by rw [HN.out], Bel.of (by (repeat' (first | (with_reducible exact Below.refl _ _) | (with_reducible refine Below.trans ?_ (below_drewN _ _ _)) | (with_reducible refine Below.alloc ?_ ?_ _) | (with_reducible refine Below.setCell ?_ ?_ _) | (with_reducible refine Below.drew ?_) | go_size)))⟩

end Go.Proofs.YtdfamphnilelnaaDoor
