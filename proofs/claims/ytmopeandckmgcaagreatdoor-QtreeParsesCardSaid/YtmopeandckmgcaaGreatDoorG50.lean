/- G50: Tw, RowA, RowE joined. -/
import Derived.ProofKit
import Derived.OpenShut
import Derived.ShutString
import Derived.ChangeSame
import Derived.Lay
import Derived.LaidMore
import Derived.Stop.Joined
import Derived.Stop.LaidErr
import Derived.Test.YtmopeandckmgcaaGreatDoorYp
import Derived.Test.YtmopeandckmgcaaGreatDoorG45
import Derived.Test.YtmopeandckmgcaaGreatDoorRd
import Derived.Test.YtmopeandckmgcaaGreatDoorQo
import Derived.Test.YtmopeandckmgcaaGreatDoorA0
import Derived.Test.YtmopeandckmgcaaGreatDoorRows
namespace Go.Proofs.YtmopeandckmgcaaGreatDoor
open Go.RowKit
/- law17: QtreeParses (printed by gen_tw.py). -/
section
open Go.RowKit

theorem rsegsL_len {E : Int} {P : Nat → PSt → ExprT × PSt} {d : Nat} : ∀ (f : Nat) (t : PSt), (segsL E P d f t).1.length ≤ f
  | 0, _ => Nat.le_refl _
  | f + 1, t => by
    rw [segsL]
    split
    · have := rsegsL_len (E := E) (P := P) (d := d) f (segF E P d t).2
      simp; omega
    · simp
theorem parse_len {m : Bool} {l : List UInt8} {p : PathT} (h : parseT m l = .ok p) : p.segs.length ≤ l.length := by
  unfold parseT parse2 at h
  have hp : (parse1 m (l.length : Nat) (stOf l)).1 = p := by
    have key : ∀ (c : Prop) [Decidable c] (a p : PathT) (e : Int × Int), (if c then Except.ok a else Except.error e) = Except.ok p → a = p := by
      intro c _ a p e h
      split at h
      · exact Except.ok.inj h
      · cases h
    exact key _ _ _ _ h
  have ho := lex_order l
  have hst : (stOf l).toks.length ≤ l.length := by
    unfold stOf
    cases hl : lexL l with
    | error e => simp
    | ok r => rw [hl] at ho; have := ordL_len r 0 ho.1; simp only; omega
  rw [← hp]
  unfold parse1 pathF
  refine Nat.le_trans (rsegsL_len _ _) (Nat.le_trans (nextS_le _ _) ?_)
  split
  · exact hst
  · rw [formS_len]; exact hst

set_option maxRecDepth 100000 in
set_option maxHeartbeats 2000000 in
theorem parses_ok (s : ByteArray) (w : World) (hlen : s.size ≤ 400) (p : PathT) (hp : parseT true s.data.toList = .ok p) : Calls Tryz.prog 3 #[.string s] w fun e w' => e = .returned (.bool true) ∧ Bel w.heap.size w w' := by
  have hz := parse_len hp
  rw [len_toList] at hz
  have hpq : parseT false s.data.toList = .ok p := by rw [← parse_same]; exact hp
  have HPA := Lib.hid (fun W => parse_ok (s := s) W (by omega) hp)
  have HPB := Lib.hid (fun W => (show Calls Tryz.prog 6 #[.string s] W fun e w' => ∃ m A c, e = .returned (.tuple #[.agg #[.bool p.abs, .slice A p.segs.length c], .agg #[.int .i64 0, .int .i64 0]]) ∧ SegsG (Fr W) (ExR (Fr W) m w') w' (.slice A p.segs.length c) p.segs ∧ Bel W.heap.size W w' from by
    have := rparse_any s W (by omega)
    unfold RParseP at this
    rw [hpq] at this
    refine this.mono ?_
    rintro e w' ⟨⟨m, A, c, rfl, hs⟩, hb⟩
    exact ⟨m, A, c, rfl, hs, hb⟩))
  clear hp hpq
  obtain ⟨sg, hsg⟩ : ∃ sg, singB p = sg := ⟨_, rfl⟩
  have HSG := Lib.hid hsg
  clear hsg
  have M := Lib.hid (Own.start [] w (fun _ => True) fun _ _ => trivial)
  go_enter Tryz.func3, Tryz.ntmps3
  go_upto_region 5 with (first | ((with_reducible refine ga_Path (some 3) ?_); refine al_Path (some 3) M.out ?_; clear M; intro g3 w' hg3 M) | ((with_reducible refine ga_Flt (some 4) ?_); refine al_Flt (some 4) M.out ?_; clear M; intro g4 w' hg4 M) | ((with_reducible refine ga_Path (some 5) ?_); refine al_Path (some 5) M.out ?_; clear M; intro g5 w' hg5 M) | ((with_reducible refine ga_Flt (some 6) ?_); refine al_Flt (some 6) M.out ?_; clear M; intro g6 w' hg6 M) | ((with_reducible refine gs_Path ?_); refine st_Path rfl rfl M.out (by repeat constructor) rfl ?_; clear M; intro w' M) | ((with_reducible refine gs_Flt ?_); refine st_Flt rfl rfl M.out (by repeat constructor) rfl ?_; clear M; intro w' M) | (go_at_call 4; (with_reducible refine (awake_any _).mono ?_); rintro e w' ⟨rfl, hb⟩; have Mn := M.out.bel hb; replace M := Lib.hid Mn; clear Mn hb) | (go_at_call 5; (with_reducible refine (HPA.out _).mono ?_); rintro e w' ⟨m1, A1, c1, rfl, hsg, hb⟩; have Mn := M.out.addK (G := fun K y => SegsG K (ExR K m1 y) y (.slice A1 p.segs.length c1) p.segs) (fun h hk => SegsG.keep h hk fun _ _ h => ExR.keep hk _ _ (Nat.le_refl _) _ _ h) hb hsg; replace M := Lib.hid Mn; clear Mn hb hsg) | (go_at_call 6; (with_reducible refine (HPB.out _).mono ?_); rintro e w' ⟨m2, A2, c2, rfl, hsg, hb⟩; have Mn := M.out.addK (G := fun K y => SegsG K (ExR K m2 y) y (.slice A2 p.segs.length c2) p.segs) (fun h hk => SegsG.keep h hk fun _ _ h => ExR.keep hk _ _ (Nat.le_refl _) _ _ h) hb hsg; replace M := Lib.hid Mn; clear Mn hb hsg))
  have HK := Lib.hid (show ∀ w', Own [] w w' [(g6, 28, #[.int .i64 0, .int .i64 0]), (g5, 25, #[.bool p.abs, .slice A2 p.segs.length c2]), (g4, 28, #[.int .i64 0, .int .i64 0]), (g3, 25, #[.bool p.abs, .slice A1 p.segs.length c1])] [] (fun y => (True ∧ SegsG (Fr w) (ExR (Fr w) m1 y) y (.slice A1 p.segs.length c1) p.segs) ∧ SegsG (Fr w) (ExR (Fr w) m2 y) y (.slice A2 p.segs.length c2) p.segs) → (w'.cell? ⟨g3, 0, none⟩ = some (.bool p.abs) ∧ w'.cell? ⟨g3, 1, none⟩ = some (.slice A1 p.segs.length c1) ∧ w'.cell? ⟨g4, 0, none⟩ = some (.int .i64 0) ∧ w'.cell? ⟨g4, 1, none⟩ = some (.int .i64 0) ∧ w'.cell? ⟨g5, 0, none⟩ = some (.bool p.abs) ∧ w'.cell? ⟨g5, 1, none⟩ = some (.slice A2 p.segs.length c2) ∧ w'.cell? ⟨g6, 0, none⟩ = some (.int .i64 0) ∧ w'.cell? ⟨g6, 1, none⟩ = some (.int .i64 0) ∧ Hid (Own [] w w' [(g6, 28, #[.int .i64 0, .int .i64 0]), (g5, 25, #[.bool p.abs, .slice A2 p.segs.length c2]), (g4, 28, #[.int .i64 0, .int .i64 0]), (g3, 25, #[.bool p.abs, .slice A1 p.segs.length c1])] [] (fun y => (True ∧ SegsG (Fr w) (ExR (Fr w) m1 y) y (.slice A1 p.segs.length c1) p.segs) ∧ SegsG (Fr w) (ExR (Fr w) m2 y) y (.slice A2 p.segs.length c2) p.segs))) from fun w' hh => ⟨(hh.c2 (k := g3) (by repeat constructor)).1, (hh.c2 (k := g3) (by repeat constructor)).2, (hh.c2 (k := g4) (by repeat constructor)).1, (hh.c2 (k := g4) (by repeat constructor)).2, (hh.c2 (k := g5) (by repeat constructor)).1, (hh.c2 (k := g5) (by repeat constructor)).2, (hh.c2 (k := g6) (by repeat constructor)).1, (hh.c2 (k := g6) (by repeat constructor)).2, Lib.hid hh⟩)
  cases sg
  all_goals
    go_region_held3 (fun w' => w'.cell? ⟨g3, 0, none⟩ = some (.bool p.abs) ∧ w'.cell? ⟨g3, 1, none⟩ = some (.slice A1 p.segs.length c1) ∧ w'.cell? ⟨g4, 0, none⟩ = some (.int .i64 0) ∧ w'.cell? ⟨g4, 1, none⟩ = some (.int .i64 0) ∧ w'.cell? ⟨g5, 0, none⟩ = some (.bool p.abs) ∧ w'.cell? ⟨g5, 1, none⟩ = some (.slice A2 p.segs.length c2) ∧ w'.cell? ⟨g6, 0, none⟩ = some (.int .i64 0) ∧ w'.cell? ⟨g6, 1, none⟩ = some (.int .i64 0) ∧ Hid (Own [] w w' [(g6, 28, #[.int .i64 0, .int .i64 0]), (g5, 25, #[.bool p.abs, .slice A2 p.segs.length c2]), (g4, 28, #[.int .i64 0, .int .i64 0]), (g3, 25, #[.bool p.abs, .slice A1 p.segs.length c1])] [] (fun y => (True ∧ SegsG (Fr w) (ExR (Fr w) m1 y) y (.slice A1 p.segs.length c1) p.segs) ∧ SegsG (Fr w) (ExR (Fr w) m2 y) y (.slice A2 p.segs.length c2) p.segs)))
      (first
        | (exact HK.out _ M.out.drew)
        | (exact HK.out _ M.out)
        | (go_split_ands; exact HK.out _ ((show Hid (Own [] w _ [(g6, 28, #[.int .i64 0, .int .i64 0]), (g5, 25, #[.bool p.abs, .slice A2 p.segs.length c2]), (g4, 28, #[.int .i64 0, .int .i64 0]), (g3, 25, #[.bool p.abs, .slice A1 p.segs.length c1])] [] (fun y => (True ∧ SegsG (Fr w) (ExR (Fr w) m1 y) y (.slice A1 p.segs.length c1) p.segs) ∧ SegsG (Fr w) (ExR (Fr w) m2 y) y (.slice A2 p.segs.length c2) p.segs)) by assumption).out))
        | (go_split_ands; exact HK.out _ ((show Hid (Own [] w _ [(g6, 28, #[.int .i64 0, .int .i64 0]), (g5, 25, #[.bool p.abs, .slice A2 p.segs.length c2]), (g4, 28, #[.int .i64 0, .int .i64 0]), (g3, 25, #[.bool p.abs, .slice A1 p.segs.length c1])] [] (fun y => (True ∧ SegsG (Fr w) (ExR (Fr w) m1 y) y (.slice A1 p.segs.length c1) p.segs) ∧ SegsG (Fr w) (ExR (Fr w) m2 y) y (.slice A2 p.segs.length c2) p.segs)) by assumption).out.drew)))
      (first
        | (go_at_call 7; go_split_ands; refine (same_one p A1 A2 c1 c2 _ (show Hid (Own [] w _ [(g6, 28, #[.int .i64 0, .int .i64 0]), (g5, 25, #[.bool p.abs, .slice A2 p.segs.length c2]), (g4, 28, #[.int .i64 0, .int .i64 0]), (g3, 25, #[.bool p.abs, .slice A1 p.segs.length c1])] [] (fun y => (True ∧ SegsG (Fr w) (ExR (Fr w) m1 y) y (.slice A1 p.segs.length c1) p.segs) ∧ SegsG (Fr w) (ExR (Fr w) m2 y) y (.slice A2 p.segs.length c2) p.segs)) by assumption).out.now.1.2 (show Hid (Own [] w _ [(g6, 28, #[.int .i64 0, .int .i64 0]), (g5, 25, #[.bool p.abs, .slice A2 p.segs.length c2]), (g4, 28, #[.int .i64 0, .int .i64 0]), (g3, 25, #[.bool p.abs, .slice A1 p.segs.length c1])] [] (fun y => (True ∧ SegsG (Fr w) (ExR (Fr w) m1 y) y (.slice A1 p.segs.length c1) p.segs) ∧ SegsG (Fr w) (ExR (Fr w) m2 y) y (.slice A2 p.segs.length c2) p.segs)) by assumption).out.now.2).mono ?_; rintro e w' ⟨rfl, hb⟩; have Mn := (show Hid (Own [] w _ [(g6, 28, #[.int .i64 0, .int .i64 0]), (g5, 25, #[.bool p.abs, .slice A2 p.segs.length c2]), (g4, 28, #[.int .i64 0, .int .i64 0]), (g3, 25, #[.bool p.abs, .slice A1 p.segs.length c1])] [] (fun y => (True ∧ SegsG (Fr w) (ExR (Fr w) m1 y) y (.slice A1 p.segs.length c1) p.segs) ∧ SegsG (Fr w) (ExR (Fr w) m2 y) y (.slice A2 p.segs.length c2) p.segs)) by assumption).out.bel hb; replace M := Lib.hid Mn; clear Mn hb)
        | (go_at_call 8; go_split_ands; refine (singular_any p A1 c1 _ (by omega) (show Hid (Own [] w _ [(g6, 28, #[.int .i64 0, .int .i64 0]), (g5, 25, #[.bool p.abs, .slice A2 p.segs.length c2]), (g4, 28, #[.int .i64 0, .int .i64 0]), (g3, 25, #[.bool p.abs, .slice A1 p.segs.length c1])] [] (fun y => (True ∧ SegsG (Fr w) (ExR (Fr w) m1 y) y (.slice A1 p.segs.length c1) p.segs) ∧ SegsG (Fr w) (ExR (Fr w) m2 y) y (.slice A2 p.segs.length c2) p.segs)) by assumption).out.now.1.2).mono ?_; rw [HSG.out]; rintro e w' ⟨rfl, hb⟩; have Mn := (show Hid (Own [] w _ [(g6, 28, #[.int .i64 0, .int .i64 0]), (g5, 25, #[.bool p.abs, .slice A2 p.segs.length c2]), (g4, 28, #[.int .i64 0, .int .i64 0]), (g3, 25, #[.bool p.abs, .slice A1 p.segs.length c1])] [] (fun y => (True ∧ SegsG (Fr w) (ExR (Fr w) m1 y) y (.slice A1 p.segs.length c1) p.segs) ∧ SegsG (Fr w) (ExR (Fr w) m2 y) y (.slice A2 p.segs.length c2) p.segs)) by assumption).out.bel hb; replace M := Lib.hid Mn; clear Mn hb)
        | (go_at_call 9; go_split_ands; refine (rsing_any p.abs p.segs A1 c1 _ (show Hid (Own [] w _ [(g6, 28, #[.int .i64 0, .int .i64 0]), (g5, 25, #[.bool p.abs, .slice A2 p.segs.length c2]), (g4, 28, #[.int .i64 0, .int .i64 0]), (g3, 25, #[.bool p.abs, .slice A1 p.segs.length c1])] [] (fun y => (True ∧ SegsG (Fr w) (ExR (Fr w) m1 y) y (.slice A1 p.segs.length c1) p.segs) ∧ SegsG (Fr w) (ExR (Fr w) m2 y) y (.slice A2 p.segs.length c2) p.segs)) by assumption).out.now.1.2).mono ?_; rw [← singB_sg, HSG.out]; rintro e w' ⟨rfl, hb⟩; have Mn := (show Hid (Own [] w _ [(g6, 28, #[.int .i64 0, .int .i64 0]), (g5, 25, #[.bool p.abs, .slice A2 p.segs.length c2]), (g4, 28, #[.int .i64 0, .int .i64 0]), (g3, 25, #[.bool p.abs, .slice A1 p.segs.length c1])] [] (fun y => (True ∧ SegsG (Fr w) (ExR (Fr w) m1 y) y (.slice A1 p.segs.length c1) p.segs) ∧ SegsG (Fr w) (ExR (Fr w) m2 y) y (.slice A2 p.segs.length c2) p.segs)) by assumption).out.bel hb; replace M := Lib.hid Mn; clear Mn hb))
    go_wp2
    go_ret
    exact ⟨rfl, M.out.bel0⟩

set_option maxRecDepth 100000 in
set_option maxHeartbeats 2000000 in
theorem parses_err (s : ByteArray) (w : World) (hlen : s.size ≤ 400) (x a : Int) (hp : parseT true s.data.toList = .error (x, a)) : Calls Tryz.prog 3 #[.string s] w fun e w' => e = .returned (.bool true) ∧ Bel w.heap.size w w' := by
  obtain ⟨p, hp0⟩ : ∃ p : PathT, path0 = p := ⟨_, rfl⟩
  have hz : p.segs.length ≤ 400 := by rw [← hp0]; exact Nat.zero_le _
  have hnil : ∀ W w' : World, SegsG (Fr W) (ExR (Fr W) 0 w') w' (.slice none p.segs.length 0) p.segs := fun W w' => by
    rw [← hp0]; exact ⟨none, 0, rfl, ⟨Nat.le_refl _, by omega⟩, .inl rfl⟩
  have hpq : parseT false s.data.toList = .error (x, a) := by rw [← parse_same]; exact hp
  have HPA := Lib.hid (fun W => (show Calls Tryz.prog 5 #[.string s] W fun e w' => ∃ m A c, e = .returned (.tuple #[.agg #[.bool p.abs, .slice A p.segs.length c], .agg #[.int .i64 x, .int .i64 a]]) ∧ SegsG (Fr W) (ExR (Fr W) m w') w' (.slice A p.segs.length c) p.segs ∧ Bel W.heap.size W w' from by
    refine (parse_err (s := s) W (by omega) hp).mono ?_
    rintro e w' ⟨rfl, hb⟩
    exact ⟨0, none, 0, by rw [← hp0]; rfl, hnil W w', hb⟩))
  have HPB := Lib.hid (fun W => (show Calls Tryz.prog 6 #[.string s] W fun e w' => ∃ m A c, e = .returned (.tuple #[.agg #[.bool p.abs, .slice A p.segs.length c], .agg #[.int .i64 x, .int .i64 a]]) ∧ SegsG (Fr W) (ExR (Fr W) m w') w' (.slice A p.segs.length c) p.segs ∧ Bel W.heap.size W w' from by
    have := rparse_any s W (by omega)
    unfold RParseP at this
    rw [hpq] at this
    refine this.mono ?_
    rintro e w' ⟨rfl, hb⟩
    exact ⟨0, none, 0, by rw [← hp0]; rfl, hnil W w', hb⟩))
  clear hp hpq hp0 hnil
  obtain ⟨sg, hsg⟩ : ∃ sg, singB p = sg := ⟨_, rfl⟩
  have HSG := Lib.hid hsg
  clear hsg
  have M := Lib.hid (Own.start [] w (fun _ => True) fun _ _ => trivial)
  go_enter Tryz.func3, Tryz.ntmps3
  go_upto_region 5 with (first | ((with_reducible refine ga_Path (some 3) ?_); refine al_Path (some 3) M.out ?_; clear M; intro g3 w' hg3 M) | ((with_reducible refine ga_Flt (some 4) ?_); refine al_Flt (some 4) M.out ?_; clear M; intro g4 w' hg4 M) | ((with_reducible refine ga_Path (some 5) ?_); refine al_Path (some 5) M.out ?_; clear M; intro g5 w' hg5 M) | ((with_reducible refine ga_Flt (some 6) ?_); refine al_Flt (some 6) M.out ?_; clear M; intro g6 w' hg6 M) | ((with_reducible refine gs_Path ?_); refine st_Path rfl rfl M.out (by repeat constructor) rfl ?_; clear M; intro w' M) | ((with_reducible refine gs_Flt ?_); refine st_Flt rfl rfl M.out (by repeat constructor) rfl ?_; clear M; intro w' M) | (go_at_call 4; (with_reducible refine (awake_any _).mono ?_); rintro e w' ⟨rfl, hb⟩; have Mn := M.out.bel hb; replace M := Lib.hid Mn; clear Mn hb) | (go_at_call 5; (with_reducible refine (HPA.out _).mono ?_); rintro e w' ⟨m1, A1, c1, rfl, hsg, hb⟩; have Mn := M.out.addK (G := fun K y => SegsG K (ExR K m1 y) y (.slice A1 p.segs.length c1) p.segs) (fun h hk => SegsG.keep h hk fun _ _ h => ExR.keep hk _ _ (Nat.le_refl _) _ _ h) hb hsg; replace M := Lib.hid Mn; clear Mn hb hsg) | (go_at_call 6; (with_reducible refine (HPB.out _).mono ?_); rintro e w' ⟨m2, A2, c2, rfl, hsg, hb⟩; have Mn := M.out.addK (G := fun K y => SegsG K (ExR K m2 y) y (.slice A2 p.segs.length c2) p.segs) (fun h hk => SegsG.keep h hk fun _ _ h => ExR.keep hk _ _ (Nat.le_refl _) _ _ h) hb hsg; replace M := Lib.hid Mn; clear Mn hb hsg))
  have HK := Lib.hid (show ∀ w', Own [] w w' [(g6, 28, #[.int .i64 x, .int .i64 a]), (g5, 25, #[.bool p.abs, .slice A2 p.segs.length c2]), (g4, 28, #[.int .i64 x, .int .i64 a]), (g3, 25, #[.bool p.abs, .slice A1 p.segs.length c1])] [] (fun y => (True ∧ SegsG (Fr w) (ExR (Fr w) m1 y) y (.slice A1 p.segs.length c1) p.segs) ∧ SegsG (Fr w) (ExR (Fr w) m2 y) y (.slice A2 p.segs.length c2) p.segs) → (w'.cell? ⟨g3, 0, none⟩ = some (.bool p.abs) ∧ w'.cell? ⟨g3, 1, none⟩ = some (.slice A1 p.segs.length c1) ∧ w'.cell? ⟨g4, 0, none⟩ = some (.int .i64 x) ∧ w'.cell? ⟨g4, 1, none⟩ = some (.int .i64 a) ∧ w'.cell? ⟨g5, 0, none⟩ = some (.bool p.abs) ∧ w'.cell? ⟨g5, 1, none⟩ = some (.slice A2 p.segs.length c2) ∧ w'.cell? ⟨g6, 0, none⟩ = some (.int .i64 x) ∧ w'.cell? ⟨g6, 1, none⟩ = some (.int .i64 a) ∧ Hid (Own [] w w' [(g6, 28, #[.int .i64 x, .int .i64 a]), (g5, 25, #[.bool p.abs, .slice A2 p.segs.length c2]), (g4, 28, #[.int .i64 x, .int .i64 a]), (g3, 25, #[.bool p.abs, .slice A1 p.segs.length c1])] [] (fun y => (True ∧ SegsG (Fr w) (ExR (Fr w) m1 y) y (.slice A1 p.segs.length c1) p.segs) ∧ SegsG (Fr w) (ExR (Fr w) m2 y) y (.slice A2 p.segs.length c2) p.segs))) from fun w' hh => ⟨(hh.c2 (k := g3) (by repeat constructor)).1, (hh.c2 (k := g3) (by repeat constructor)).2, (hh.c2 (k := g4) (by repeat constructor)).1, (hh.c2 (k := g4) (by repeat constructor)).2, (hh.c2 (k := g5) (by repeat constructor)).1, (hh.c2 (k := g5) (by repeat constructor)).2, (hh.c2 (k := g6) (by repeat constructor)).1, (hh.c2 (k := g6) (by repeat constructor)).2, Lib.hid hh⟩)
  cases sg
  all_goals
    go_region_held3 (fun w' => w'.cell? ⟨g3, 0, none⟩ = some (.bool p.abs) ∧ w'.cell? ⟨g3, 1, none⟩ = some (.slice A1 p.segs.length c1) ∧ w'.cell? ⟨g4, 0, none⟩ = some (.int .i64 x) ∧ w'.cell? ⟨g4, 1, none⟩ = some (.int .i64 a) ∧ w'.cell? ⟨g5, 0, none⟩ = some (.bool p.abs) ∧ w'.cell? ⟨g5, 1, none⟩ = some (.slice A2 p.segs.length c2) ∧ w'.cell? ⟨g6, 0, none⟩ = some (.int .i64 x) ∧ w'.cell? ⟨g6, 1, none⟩ = some (.int .i64 a) ∧ Hid (Own [] w w' [(g6, 28, #[.int .i64 x, .int .i64 a]), (g5, 25, #[.bool p.abs, .slice A2 p.segs.length c2]), (g4, 28, #[.int .i64 x, .int .i64 a]), (g3, 25, #[.bool p.abs, .slice A1 p.segs.length c1])] [] (fun y => (True ∧ SegsG (Fr w) (ExR (Fr w) m1 y) y (.slice A1 p.segs.length c1) p.segs) ∧ SegsG (Fr w) (ExR (Fr w) m2 y) y (.slice A2 p.segs.length c2) p.segs)))
      (first
        | (exact HK.out _ M.out.drew)
        | (exact HK.out _ M.out)
        | (go_split_ands; exact HK.out _ ((show Hid (Own [] w _ [(g6, 28, #[.int .i64 x, .int .i64 a]), (g5, 25, #[.bool p.abs, .slice A2 p.segs.length c2]), (g4, 28, #[.int .i64 x, .int .i64 a]), (g3, 25, #[.bool p.abs, .slice A1 p.segs.length c1])] [] (fun y => (True ∧ SegsG (Fr w) (ExR (Fr w) m1 y) y (.slice A1 p.segs.length c1) p.segs) ∧ SegsG (Fr w) (ExR (Fr w) m2 y) y (.slice A2 p.segs.length c2) p.segs)) by assumption).out))
        | (go_split_ands; exact HK.out _ ((show Hid (Own [] w _ [(g6, 28, #[.int .i64 x, .int .i64 a]), (g5, 25, #[.bool p.abs, .slice A2 p.segs.length c2]), (g4, 28, #[.int .i64 x, .int .i64 a]), (g3, 25, #[.bool p.abs, .slice A1 p.segs.length c1])] [] (fun y => (True ∧ SegsG (Fr w) (ExR (Fr w) m1 y) y (.slice A1 p.segs.length c1) p.segs) ∧ SegsG (Fr w) (ExR (Fr w) m2 y) y (.slice A2 p.segs.length c2) p.segs)) by assumption).out.drew)))
      (first
        | (go_at_call 7; go_split_ands; refine (same_one p A1 A2 c1 c2 _ (show Hid (Own [] w _ [(g6, 28, #[.int .i64 x, .int .i64 a]), (g5, 25, #[.bool p.abs, .slice A2 p.segs.length c2]), (g4, 28, #[.int .i64 x, .int .i64 a]), (g3, 25, #[.bool p.abs, .slice A1 p.segs.length c1])] [] (fun y => (True ∧ SegsG (Fr w) (ExR (Fr w) m1 y) y (.slice A1 p.segs.length c1) p.segs) ∧ SegsG (Fr w) (ExR (Fr w) m2 y) y (.slice A2 p.segs.length c2) p.segs)) by assumption).out.now.1.2 (show Hid (Own [] w _ [(g6, 28, #[.int .i64 x, .int .i64 a]), (g5, 25, #[.bool p.abs, .slice A2 p.segs.length c2]), (g4, 28, #[.int .i64 x, .int .i64 a]), (g3, 25, #[.bool p.abs, .slice A1 p.segs.length c1])] [] (fun y => (True ∧ SegsG (Fr w) (ExR (Fr w) m1 y) y (.slice A1 p.segs.length c1) p.segs) ∧ SegsG (Fr w) (ExR (Fr w) m2 y) y (.slice A2 p.segs.length c2) p.segs)) by assumption).out.now.2).mono ?_; rintro e w' ⟨rfl, hb⟩; have Mn := (show Hid (Own [] w _ [(g6, 28, #[.int .i64 x, .int .i64 a]), (g5, 25, #[.bool p.abs, .slice A2 p.segs.length c2]), (g4, 28, #[.int .i64 x, .int .i64 a]), (g3, 25, #[.bool p.abs, .slice A1 p.segs.length c1])] [] (fun y => (True ∧ SegsG (Fr w) (ExR (Fr w) m1 y) y (.slice A1 p.segs.length c1) p.segs) ∧ SegsG (Fr w) (ExR (Fr w) m2 y) y (.slice A2 p.segs.length c2) p.segs)) by assumption).out.bel hb; replace M := Lib.hid Mn; clear Mn hb)
        | (go_at_call 8; go_split_ands; refine (singular_any p A1 c1 _ (by omega) (show Hid (Own [] w _ [(g6, 28, #[.int .i64 x, .int .i64 a]), (g5, 25, #[.bool p.abs, .slice A2 p.segs.length c2]), (g4, 28, #[.int .i64 x, .int .i64 a]), (g3, 25, #[.bool p.abs, .slice A1 p.segs.length c1])] [] (fun y => (True ∧ SegsG (Fr w) (ExR (Fr w) m1 y) y (.slice A1 p.segs.length c1) p.segs) ∧ SegsG (Fr w) (ExR (Fr w) m2 y) y (.slice A2 p.segs.length c2) p.segs)) by assumption).out.now.1.2).mono ?_; rw [HSG.out]; rintro e w' ⟨rfl, hb⟩; have Mn := (show Hid (Own [] w _ [(g6, 28, #[.int .i64 x, .int .i64 a]), (g5, 25, #[.bool p.abs, .slice A2 p.segs.length c2]), (g4, 28, #[.int .i64 x, .int .i64 a]), (g3, 25, #[.bool p.abs, .slice A1 p.segs.length c1])] [] (fun y => (True ∧ SegsG (Fr w) (ExR (Fr w) m1 y) y (.slice A1 p.segs.length c1) p.segs) ∧ SegsG (Fr w) (ExR (Fr w) m2 y) y (.slice A2 p.segs.length c2) p.segs)) by assumption).out.bel hb; replace M := Lib.hid Mn; clear Mn hb)
        | (go_at_call 9; go_split_ands; refine (rsing_any p.abs p.segs A1 c1 _ (show Hid (Own [] w _ [(g6, 28, #[.int .i64 x, .int .i64 a]), (g5, 25, #[.bool p.abs, .slice A2 p.segs.length c2]), (g4, 28, #[.int .i64 x, .int .i64 a]), (g3, 25, #[.bool p.abs, .slice A1 p.segs.length c1])] [] (fun y => (True ∧ SegsG (Fr w) (ExR (Fr w) m1 y) y (.slice A1 p.segs.length c1) p.segs) ∧ SegsG (Fr w) (ExR (Fr w) m2 y) y (.slice A2 p.segs.length c2) p.segs)) by assumption).out.now.1.2).mono ?_; rw [← singB_sg, HSG.out]; rintro e w' ⟨rfl, hb⟩; have Mn := (show Hid (Own [] w _ [(g6, 28, #[.int .i64 x, .int .i64 a]), (g5, 25, #[.bool p.abs, .slice A2 p.segs.length c2]), (g4, 28, #[.int .i64 x, .int .i64 a]), (g3, 25, #[.bool p.abs, .slice A1 p.segs.length c1])] [] (fun y => (True ∧ SegsG (Fr w) (ExR (Fr w) m1 y) y (.slice A1 p.segs.length c1) p.segs) ∧ SegsG (Fr w) (ExR (Fr w) m2 y) y (.slice A2 p.segs.length c2) p.segs)) by assumption).out.bel hb; replace M := Lib.hid Mn; clear Mn hb))
    go_wp2
    go_ret
    exact ⟨rfl, M.out.bel0⟩

set_option maxRecDepth 100000 in
set_option maxHeartbeats 2000000 in
theorem parsesLaw_any (s : ByteArray) (w : World) (_hs : s.size ≤ maxLen) : Calls Tryz.prog 3 #[.string s] w fun e w' => e = .returned (.bool true) ∧ Bel w.heap.size w w' := by
  by_cases hlen : 400 < s.size
  · have HB := Lib.hid (Bel.refl w.heap.size w)
    have hs2 := _hs
    unfold maxLen at hs2
    clear _hs
    go_enter Tryz.func3, Tryz.ntmps3
    go_wp2_with (go_at_call 4; refine (awake_any _).mono ?_; rintro e w1 ⟨rfl, hb⟩; have HB := Lib.hid (HB.out.next hb); clear hb)
    go_ret
    exact ⟨rfl, HB.out⟩
  · cases hp : parseT true s.data.toList with
    | ok p => exact parses_ok s w (by omega) p hp
    | error xa => exact parses_err s w (by omega) xa.1 xa.2 hp

end
/- The row's last step where of the world behind the call 'Bel' is known. -/
section
open Go.RowKit Go.WideShapes Go.ChangeShapes

theorem Bel.frame {W W' : World} (h : Bel W.heap.size W W') (may : MemPlace → Prop) : W.keptBut W' may := by
  refine ⟨h.os, h.output, fun i hi => ?_⟩
  rw [h.block i hi]
  split <;> simp_all

section
variable {H : Type} {enc : TypeId × Value → H} {P : Program}
theorem post_of_bel {f : Func} {s : ChangeSpec} {apart fresh handsOn again : Bool} {W W' : World} {args : Array Value} {v : Value} {ds gs : List (DataW H)} {before pa pv : List MemPlace}
    (hW : DataW.Whole enc P f.params.toList s.vars apart W args.toList ds gs before)
    (hres : ∀ (b : Nat) (sp : Nat → Bool) (hd : Bool), DataW.TrodAll enc P W' b sp hd f.resultTypes.toList (v.resultList f.resultTypes.size) (s.fn H (ds ++ gs)).results [])
    (hargs : ∀ sp : Nat → Bool, (∀ p ∈ before, sp p.block = true) → DataW.TrodAll enc P W' 0 sp true f.params.toList args.toList (s.fn H (ds ++ gs)).args pa)
    (hvars : ∀ sp : Nat → Bool, (∀ p ∈ before, sp p.block = true) → DataW.TrodVars enc P W' sp s.vars (s.fn H (ds ++ gs)).vars pv)
    (hps : before = pa ++ pv) (hb : Bel W.heap.size W W')
    (hok : ∀ (j : Nat) (t : TypeId) (r : Value), f.resultTypes[j]? = some t → (v.resultList f.resultTypes.size)[j]? = some r → Value.okWide P W' .any 0 t r) :
    s.post enc P f apart fresh handsOn again W args v W' := by
  have hlt : ∀ p ∈ before, p.block < W.heap.size := fun p hp => hW.lt p hp
  have hold : ∀ p ∈ before, (fun b => decide (b < W.heap.size)) p.block = true := fun p hp => by simpa using hlt p hp
  refine ⟨ds, gs, before, [], pa, pv, hW, hres _ _ _, hargs _ hold, hvars _ hold, World.keptBut_mono (fun p hp => ⟨hp, ?_⟩) (hb.frame (· ∈ before)), fun _ => ?_⟩
  · rw [hps, List.mem_append] at hp
    exact Or.inr hp
  · obtain ⟨_, _, _, _, _, hz, hn⟩ := hW
    refine ⟨hok, _, _, ([] ++ pa) ++ pv, ⟨[] ++ pa, pv, trodAll_append (hargs _ (fun _ _ => rfl)) (hres _ _ _), hvars _ (fun _ _ => rfl), rfl, ?_, ?_⟩, ?_⟩
    · intro b off hp
      have hin : MemPlace.cell b off ∈ before := by rw [hps]; simpa using hp
      rw [hb.frozen (hlt _ hin)]
      exact hz b off hin
    · intro ha
      have := hn ha
      rw [hps] at this
      simpa using this
    · intro p hp _
      rw [hps]
      simpa using hp
end

theorem own : ownKnob Tryz.prog.godebug = none := by kernel_rfl

end
/- The rows' common part: the library's tables of utf8 as they are laid (no run of the door: laid by the kit's law). -/
section
open Go.ChangeShapes Go.WideShapes Go.ChangeAt Go.RowKit

def laid2 : List (String × DataW Unit) := [("unicode/utf8.acceptRanges", Rows.laid_unicode_utf8_acceptRanges), ("unicode/utf8.first", Rows.laid_unicode_utf8_first)]
/-- The heap with the tables laid meets the condition. -/
theorem door_met (os : Os) (args : Array Value) : laidMetH Tryz.prog laid2 ((World.laidAll Tryz.prog os laid2).forCall (fun _ _ => 0) ⟨#[], args, []⟩).memory := by
  rw [MakeChecks.laidMetH_plain _ _ _ (by kernel_rfl)]
  exact laidMet_laidAll _ (by kernel_rfl) (by kernel_rfl)
theorem door_shaped (os : Os) : (World.laidAll Tryz.prog os laid2).Shaped Tryz.prog := World.shaped_of_ZipB (by kernel_rfl) (by kernel_rfl)

end

end Go.Proofs.YtmopeandckmgcaaGreatDoor
