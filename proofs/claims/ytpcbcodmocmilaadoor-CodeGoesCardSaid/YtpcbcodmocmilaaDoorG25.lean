/- G25: Cm, Cn, Yf, Yg, Yh, Yi, Yj, Ym, Yl, Yn, Yo, Ue, Uf, Ug, Uh, Wb, Wc, Xa, Xb, Xc, Xd, Xe, Xf, Xg, Xh, Xi, Xj, Yp, Co joined. -/
import Derived.Deep.LoopGhost
import Derived.LoopTactic
import Derived.Laws.BytesArg
import Derived.Handy
import Derived.Deep.RegionWith
import Derived.Deep.QuietTactic
import Derived.Test.YtpcbcodmocmilaaDoorG18
import Derived.Test.YtpcbcodmocmilaaDoorCa
import Derived.Test.YtpcbcodmocmilaaDoorG06
import Derived.Test.YtpcbcodmocmilaaDoorG14
import Derived.Test.YtpcbcodmocmilaaDoorG08
import Derived.Test.YtpcbcodmocmilaaDoorUp
namespace Go.Proofs.YtpcbcodmocmilaaDoor
open Go.RowKit
/- ref19: Make (printed by gen_cm.py). -/
section
open Go.RowKit

section
variable {X : List Nat} {w0 w w' : World} {L : List BlkE} {rs : List RowE} {J : World → Prop} {A1 A2 A3 A4 A5 B1 B2 B3 B4 B5 : Option Addr} {c : CodeD} {W : List (PathT × Value)}
end
theorem Own.swap {X : List Nat} {w0 w : World} {x z : BlkE} {L : List BlkE} {rs : List RowE} {J : World → Prop} (M : Own X w0 w (x :: z :: L) rs J) : Own X w0 w (z :: x :: L) rs J := by
  have hp : (exO (x :: z :: L) rs).Perm (exO (z :: x :: L) rs) := by
    unfold exO
    simp only [List.map_cons, List.cons_append]
    exact List.Perm.swap _ _ _
  have hm : ∀ a, a ∈ z :: x :: L → a ∈ x :: z :: L := fun a h => (List.Perm.swap x z L).mem_iff.1 h
  exact ⟨M.os, M.output, M.size, M.out, fun a h => M.low a (hm a h), fun a h => M.blk a (hm a h), M.row, hp.nodup_iff.1 M.nodup, fun y hy => M.always y ⟨hy.1, fun b h1 h2 => hy.2 b h1 fun h => h2 (hp.mem_iff.2 h)⟩⟩
section
variable {S : List UInt8 → Prop} {n : Nat}
theorem wt_len (l : List PathT) : l.length ≤ (l.map (wtP (wtN n))).sum := len_le_sum _ _ fun x _ => by unfold wtP; omega
end

theorem make_step {S : List UInt8 → Prop} {c : CodeD} {W Wn : List (PathT × Value)} {z : PathT × Value} {r : List PathT} {p : PathT} (h1 : Wn.map (·.1) = flW 200 (selsOf z.1.segs)) (hd : (W.map (·.1)).drop c.ps.length = z.1 :: r) (h : makeL 200 (5000 - c.ps.length) c ((W.map (·.1)).drop c.ps.length) = codeT p ∧ c.ps.length ≤ W.length ∧ szC c + (((W.map (·.1)).drop c.ps.length).map (wtP (wtN 200))).sum ≤ 5000) (hwf : WfP S (WfN S 200) z.1) :
    makeL 200 (5000 - (layP 200 W.length c z.1).ps.length) (layP 200 W.length c z.1) (((W ++ Wn).map (·.1)).drop (layP 200 W.length c z.1).ps.length) = codeT p ∧ (layP 200 W.length c z.1).ps.length ≤ (W ++ Wn).length ∧ szC (layP 200 W.length c z.1) + ((((W ++ Wn).map (·.1)).drop (layP 200 W.length c z.1).ps.length).map (wtP (wtN 200))).sum ≤ 5000 := by
  obtain ⟨h2, h3, h4⟩ := h
  have h5 : (layP 200 W.length c z.1).ps.length = c.ps.length + 1 := by simp [layP]
  have hl : W.length = c.ps.length + 1 + r.length := by
    have := congrArg List.length hd
    simp at this; omega
  have h6 : ((W ++ Wn).map (·.1)).drop (c.ps.length + 1) = r ++ flW 200 (selsOf z.1.segs) := by
    rw [List.map_append, h1, List.drop_append_of_le_length (by rw [List.length_map]; omega), ← List.drop_drop, hd]; rfl
  have h7 := lay_size c z.1 W.length hwf
  have h8 : 1 ≤ wtP (wtN 200) z.1 := by unfold wtP; omega
  have h9 : c.ps.length ≤ szC c := by unfold szC; omega
  rw [hd, List.map_cons, List.sum_cons] at h4
  rw [hd, show 5000 - c.ps.length = (5000 - (c.ps.length + 1)) + 1 by omega, makeL, ← hl] at h2
  rw [h5, h6]
  refine ⟨h2, by rw [List.length_append]; omega, ?_⟩
  rw [List.map_append, List.sum_append]
  omega

end
/- Tokens of a text: numbers within bounds, as many as bytes at most; a query's shape (plain; no word of a dump). -/
section

theorem capI_bd2 {a : Int} (h : 0 ≤ a ∧ a ≤ 9007199254740992) {c : UInt8} (hc : 48 ≤ (c.toNat : Int)) : 0 ≤ capI a c ∧ capI a c ≤ 9007199254740992 := by
  unfold capI; omega
theorem numV_bd2 : ∀ (l : List UInt8) (a : Int), 0 ≤ a ∧ a ≤ 9007199254740992 → (∀ c ∈ l, isDig c = true) → 0 ≤ l.foldl capI a ∧ l.foldl capI a ≤ 9007199254740992
  | [], _, h, _ => h
  | c :: r, a, h, hd => numV_bd2 r _ (capI_bd2 h (by
      have := hd c (by simp)
      unfold isDig at this
      simp at this
      first | omega | (have h2 := this.1; exact_mod_cast (UInt8.le_iff_toNat_le.1 h2)))) fun x hx => hd x (by simp [hx])
theorem dig_take : ∀ (l : List UInt8), ∀ c ∈ l.take (digN l), isDig c = true
  | [], c, h => by simp at h
  | x :: r, c, h => by
    rw [digN] at h
    split at h
    · rw [List.take_succ_cons] at h
      rcases List.mem_cons.1 h with rfl | h
      · assumption
      · exact dig_take r c h
    · simp at h
theorem numT_n {l : List UInt8} {v : Int} {n : Nat} (h : numT l = .ok (v, n)) : okN v := by
  unfold numT at h
  obtain ⟨_, h2, h3, _⟩ := num_aux _ _ _ _ _ _ h
  subst h3
  cases hm : hd l 45
  · rw [hm] at h2
    simp only [Bool.false_eq_true, if_false, List.drop_zero] at h2 ⊢
    have := numV_bd2 (l.take (digN l)) 0 (by omega) (dig_take l)
    unfold okN numV at *
    omega
  · rw [hm] at h2
    simp only [if_true] at h2 ⊢
    have := numV_bd2 ((l.drop 1).take (digN (l.drop 1))) 0 (by omega) (dig_take _)
    unfold okN numV at *
    omega
theorem tokT_n {l : List UInt8} {k : Int} {t : List UInt8} {v : Int} {n : Nat} (h : tokT l = .ok (k, t, v, n)) : okN v := by
  have h0 : okN 0 := by unfold okN; omega
  unfold tokT at h
  cases l with
  | nil => cases h
  | cons c r =>
    simp only at h
    split at h
    · cases ht : txtF (r.length + 1) c r with
      | none => rw [ht] at h; cases h
      | some tn =>
        rw [ht] at h
        simp only [Except.ok.injEq, Prod.mk.injEq] at h
        rw [← h.2.2.1]; exact h0
    · split at h
      · cases hn : numT (c :: r) with
        | error e => rw [hn] at h; cases h
        | ok vn =>
          obtain ⟨v', m⟩ := vn
          rw [hn] at h
          simp only [Except.ok.injEq, Prod.mk.injEq] at h
          rw [← h.2.2.1]; exact numT_n hn
      · split at h
        · simp only [Except.ok.injEq, Prod.mk.injEq] at h
          rw [← h.2.2.1]; exact h0
        · cases hs : signsL.find? (fun x => (c :: r).take x.length == x) with
          | none => rw [hs] at h; cases h
          | some x =>
            rw [hs] at h
            simp only [Except.ok.injEq, Prod.mk.injEq] at h
            rw [← h.2.2.1]; exact h0
theorem lexF_tk : ∀ (f a : Nat) (u : List UInt8) (r : List TokD), lexF f a u = .ok r → (∀ x ∈ r, okN x.n) ∧ r.length ≤ u.length
  | 0, a, u, r, h => by
    rw [lexF] at h
    cases h
    exact ⟨fun x hx => by simp at hx, Nat.zero_le _⟩
  | f + 1, a, u, r, h => by
    rw [lexF] at h
    split at h
    · cases h; exact ⟨fun x hx => by simp at hx, Nat.zero_le _⟩
    · split at h
      · cases h
      · cases ht : tokT (u.drop (bkN u)) with
        | error e => rw [ht] at h; cases h
        | ok q =>
          obtain ⟨k, t, v, n⟩ := q
          rw [ht] at h
          simp only at h
          have h1 := tokT_ok _ _ _ _ _ ht
          unfold tokOK at h1
          cases hl : lexF f (a + bkN u + n) ((u.drop (bkN u)).drop n) with
          | error e => rw [hl] at h; cases h
          | ok r2 =>
            rw [hl] at h
            simp only [Except.ok.injEq] at h
            obtain ⟨h2, h3⟩ := lexF_tk f _ _ r2 hl
            subst h
            refine ⟨fun x hx => ?_, ?_⟩
            · rcases List.mem_cons.1 hx with rfl | hx
              · exact tokT_n ht
              · exact h2 x hx
            · have h4 := h1.1
              have h5 := h1.2.1
              rw [List.length_drop, List.length_drop] at h3
              rw [List.length_drop] at h5
              rw [List.length_cons]; omega
theorem stOf_tk (l : List UInt8) : (∀ x ∈ (stOf l).toks, okN x.n) ∧ (stOf l).toks.length ≤ l.length := by
  unfold stOf
  cases h : lexL l with
  | error e => exact ⟨fun x hx => by simp at hx, Nat.zero_le _⟩
  | ok r =>
    simp only
    unfold lexL at h
    split at h
    · cases h
    · cases hf : lexF (l.length + 1) 0 l with
      | error e => rw [hf] at h; cases h
      | ok r2 =>
        rw [hf] at h
        cases r2 with
        | nil => cases h
        | cons x r3 =>
          simp only [Except.ok.injEq] at h
          subst h
          exact lexF_tk _ _ _ _ hf
/-- A query that is read: its shape, and how much it weighs. -/
theorem parse_wf {m : Bool} {l : List UInt8} {p : PathT} (h : parseT m l = .ok p) : WfP (fun _ => True) (WfN (fun _ => True) 200) p ∧ wtP (wtN 200) p ≤ 4 * l.length ∧ p.abs = true := by
  obtain ⟨h1, h2⟩ := stOf_tk l
  have := parse2_g (S := fun _ => True) (t := stOf l) (fun x hx => ⟨h1 x hx, fun _ => trivial⟩) h
  exact ⟨this.1, by omega, this.2.2⟩
theorem err_ne {m : Bool} {l : List UInt8} {x a : Int} (h : parseT m l = .error (x, a)) : x ≠ 0 := by
  unfold parseT parse2 at h
  generalize (if ovS (parse1 m (l.length : Nat) (stOf l)).2 then (parse1 m (l.length : Nat) (stOf l)).2 else formS (l.length : Nat) (parse1 m (l.length : Nat) (stOf l)).2) = X at h
  by_cases hc : X.fe = 0
  · rw [if_pos hc] at h; cases h
  · rw [if_neg hc] at h
    simp only [Except.error.injEq, Prod.mk.injEq] at h
    rw [← h.1]; exact hc

end
/- ref17: number in one contract; sel, where it is an index (printed by gen_rnum.py). -/
section
open Go.RowKit

section
variable (A : Option Addr) (all : List TokD) (c k : Nat) (E : Int) (P : Nat → PSt → ExprT × PSt) (t : PSt) (d : Nat) (dp : Int) (w : World)

end

end
/- ref17: sel, slices and filters; sel whole (printed by gen_yg.py). -/
section
open Go.RowKit

section
variable (A : Option Addr) (all : List TokD) (c k : Nat) (E : Int) (P : Nat → PSt → ExprT × PSt) (t : PSt) (d : Nat) (dp : Int) (w : World)

theorem SelC.own {w W : World} {m g : Nat} {T : TypeId} {x : ExprT} {cs : Array Value} (hb : Blk W g T cs) (hg : w.heap.size ≤ g) (hn : cs.size = 17) (h : ExR (Fr w) m W cs.toList x) : SelC (Fr w) (ExR (Fr w) m W) W (selL ⟨4, [], 0, 0, 0, 0, false, false, some x⟩ (.pointer (some ⟨g, 0, none⟩))) ⟨4, [], 0, 0, 0, 0, false, false, some x⟩ :=
  ⟨_, rfl, g, 0, cs.toList, rfl, hg, hb.lt, by simpa using hn, fun j u hu => by rw [Nat.zero_add, hb.cell j]; simpa using hu, h⟩

end

end
/- ref17: rows of elements; sels (printed by gen_yh.py). -/
section
open Go.RowKit

section
variable {X : List Nat} {w0 w : World} {L L' : List BlkE} {rs : List RowE} {J S : World → Prop} {ops : Array Oper} {rest : List Oper} {a : Act} {Q : Exit → Act → World → Prop} {md : Region.Mode} {fuel i : Nat} {listed : Array Bool} {is : List Nat} {dst : Option Tmp} {tt : TypeId} {pos : String} {af : Array Edge}
end
section
variable (A : Option Addr) (all : List TokD) (c k : Nat) (E : Int) (P : Nat → PSt → ExprT × PSt) (t : PSt) (d : Nat) (dp : Int) (w : World)

end

end
/- ref17: seg (printed by gen_yi.py). -/
section
open Go.RowKit

section
variable {X : List Nat} {w0 w : World} {L L' : List BlkE} {rs : List RowE} {J S : World → Prop} {ops : Array Oper} {rest : List Oper} {a : Act} {Q : Exit → Act → World → Prop} {dst : Option Tmp} {tt : TypeId} {pos : String} {af : Array Edge}
end
section
variable {X : List Nat} {w0 w : World} {L : List BlkE} {rs : List RowE} {J : World → Prop} {ops : Array Oper} {rest : List Oper} {a : Act} {Q : Exit → Act → World → Prop} {dst : Option Tmp} {tt : TypeId} {pos : String} {af : Array Edge}
end
theorem RowG.own {α : Type} {K : Nat → Prop} {k : Nat} {R : List Value → α → Prop} {W : World} {g : Nat} {T : TypeId} {cs : Array Value} {x : α} (hb : Blk W g T cs) (hg : K g) (hn : cs.size = k) (h : R cs.toList x) : RowG K k R W (.slice (some ⟨g, 0, none⟩) 1 1) [x] := by
  refine ⟨_, 1, rfl, ⟨by simp, by omega⟩, .inr ⟨g, 0, rfl, hg, hb.lt, fun i y hy => ?_⟩⟩
  cases i with
  | zero =>
    cases hy
    exact ⟨cs.toList, by simpa using hn, fun j u hu => by rw [show 0 + 0 * k + j = j by omega, hb.cell j]; simpa using hu, h⟩
  | succ i => simp at hy
section
variable (A : Option Addr) (all : List TokD) (c k : Nat) (E : Int) (P : Nat → PSt → ExprT × PSt) (t : PSt) (d : Nat) (dp : Int) (w : World)

end

end
/- ref17: path (printed by gen_yj.py). -/
section
open Go.RowKit

section
variable (A : Option Addr) (all : List TokD) (c k : Nat) (E : Int) (P : Nat → PSt → ExprT × PSt) (t : PSt) (d : Nat) (dp : Int) (w : World)

end

end
/- ref17: Singular, side (printed by gen_ym.py). -/
section
open Go.RowKit

section
variable {X : List Nat} {w0 w : World} {L L' : List BlkE} {rs : List RowE} {J S : World → Prop} {ops : Array Oper} {rest : List Oper} {o : Oper} {a : Act} {Q : Exit → Act → World → Prop} {md : Region.Mode} {fuel i : Nat} {listed : Array Bool} {is : List Nat} {dst : Option Tmp} {tt : TypeId} {pos : String} {af : Array Edge}
end
section
variable {X : List Nat} {w0 w : World} {L : List BlkE} {rs : List RowE} {J : World → Prop} {ops : Array Oper} {rest : List Oper} {a : Act} {Q : Exit → Act → World → Prop} {dst : Option Tmp} {tt : TypeId} {pos : String} {af : Array Edge}
end
section
variable {X : List Nat} {w0 w : World} {L L' : List BlkE} {rs : List RowE} {J : World → Prop} {ops : Array Oper} {rest : List Oper} {a : Act} {Q : Exit → Act → World → Prop} {dst : Option Tmp} {tt : TypeId} {pos : String} {af : Array Edge}
end
section
variable (A : Option Addr) (all : List TokD) (c k : Nat) (E : Int) (P : Nat → PSt → ExprT × PSt) (t : PSt) (d : Nat) (dp : Int) (w : World)

end

end
/- ref17: and, or (printed by gen_yl.py). -/
section
open Go.RowKit

section
variable (A : Option Addr) (all : List TokD) (c k : Nat) (E : Int) (F : PSt → ExprT × PSt) (t : PSt) (d : Nat) (dp : Int) (w : World)

end

end
/- ref17: cmp (printed by gen_yn.py). -/
section
open Go.RowKit

section
variable {X : List Nat} {w0 w : World} {L L' : List BlkE} {rs : List RowE} {J S : World → Prop} {ops : Array Oper} {rest : List Oper} {a : Act} {Q : Exit → Act → World → Prop} {dst : Option Tmp} {tt : TypeId} {pos : String} {af : Array Edge} {gd : Option (Nat × Bool)}
end
section
variable (A : Option Addr) (all : List TokD) (c k : Nat) (E : Int) (P : Nat → PSt → ExprT × PSt) (t : PSt) (d : Nat) (dp : Int) (w : World)

section
variable {X : List Nat} {w0 w : World} {L : List BlkE} {rs : List RowE} {J S : World → Prop} {ops : Array Oper} {a : Act} {Q : Exit → Act → World → Prop} {md : Region.Mode} {fuel i : Nat} {listed : Array Bool} {is : List Nat} {dst : Option Tmp} {tt : TypeId} {pos : String} {af : Array Edge}
end


end

end
/- ref17: one, and expressions whole (printed by gen_yo.py). -/
section
open Go.RowKit

section
variable (A : Option Addr) (all : List TokD) (c k : Nat) (E : Int) (P : Nat → PSt → ExprT × PSt) (t : PSt) (d : Nat) (dp : Int) (w : World)

end
section
variable (A : Option Addr) (all : List TokD) (c k : Nat) (E : Int) (P : Nat → PSt → ExprT × PSt) (t : PSt) (d : Nat) (dp : Int) (w : World)
end
end
/- qlex: what a token is told by; plain. -/
section

end
/- qlex: what a token is told by: numbers, signs; plain. -/
section

end
/- qlex: a token is told by its own bytes and what bounds it; plain. -/
section

end
/- qlex: what stands behind a blank changes no token ahead of it; plain. -/
section

end
/- ref09: Put (as Ka, over A0). -/
section
open Go.RowKit

theorem conv_new (w : World) (xs : List Int) (n c : Nat) (t : TypeId) (m : Nat × Nat) (hn : xs.length = n) :
    (convert 57 9 (.slice (some ⟨w.heap.size, 0, none⟩) n c)).run Tryd.prog (w.alloc (.cells (xs.map (Value.int .u8)).toArray t m)) = .ok (.string (strOfNums xs)) (w.alloc (.cells (xs.map (Value.int .u8)).toArray t m)) :=
  run_convert_bytes_arg (P := Tryd.prog) _ 57 5 Tryd.underlying57 Tryd.underlying5 w.heap.size 0 n c xs hn (fun i hi => by
    rw [Nat.zero_add, World.cell?_alloc_mark]
    simp [List.getD, List.getElem?_eq_getElem (show i < xs.length by omega)]) 9 Tryd.underlying9
theorem conv_1 (w : World) (a : Int) : (convert 57 9 (.slice (some ⟨w.heap.size, 0, none⟩) 1 1)).run Tryd.prog (w.alloc (.cells #[.int .u8 a] 5)) = .ok (.string (strOfNums [a])) (w.alloc (.cells #[.int .u8 a] 5)) := conv_new w [a] 1 1 _ _ rfl
theorem conv_2 (w : World) (a b : Int) : (convert 57 9 (.slice (some ⟨w.heap.size, 0, none⟩) 2 2)).run Tryd.prog (w.alloc (.cells #[.int .u8 a, .int .u8 b] 5)) = .ok (.string (strOfNums [a, b])) (w.alloc (.cells #[.int .u8 a, .int .u8 b] 5)) := conv_new w [a, b] 2 2 _ _ rfl
theorem conv_3 (w : World) (a b c : Int) : (convert 57 9 (.slice (some ⟨w.heap.size, 0, none⟩) 3 3)).run Tryd.prog (w.alloc (.cells #[.int .u8 a, .int .u8 b, .int .u8 c] 5)) = .ok (.string (strOfNums [a, b, c])) (w.alloc (.cells #[.int .u8 a, .int .u8 b, .int .u8 c] 5)) := conv_new w [a, b, c] 3 3 _ _ rfl
theorem conv_4 (w : World) (a b c d : Int) : (convert 57 9 (.slice (some ⟨w.heap.size, 0, none⟩) 4 4)).run Tryd.prog (w.alloc (.cells #[.int .u8 a, .int .u8 b, .int .u8 c, .int .u8 d] 5)) = .ok (.string (strOfNums [a, b, c, d])) (w.alloc (.cells #[.int .u8 a, .int .u8 b, .int .u8 c, .int .u8 d] 5)) := conv_new w [a, b, c, d] 4 4 _ _ rfl

end
/- ref09: Scalar (as Kb, over A0). -/
section
open Go.RowKit

end
/- ref09's Scalar and Put in the words of the ranges; plain. -/
section
open Go.RowKit

end
/- ref16: hex, unit. -/
section
open Go.RowKit

end
/- ref16: char. -/
section
open Go.RowKit

end
/- ref16: text. -/
section
open Go.RowKit

end
/- ref16: Name, digits. -/
section
open Go.RowKit

end
/- ref16: token: strings, names. -/
section
open Go.RowKit

end
/- ref16: token: numbers. -/
section
open Go.RowKit

end
/- ref16: token: signs. -/
section
open Go.RowKit

end
/- ref16: token, blank, Lex. -/
section
open Go.RowKit

end
/- ref16: Lex, walked. -/
section
open Go.RowKit

end
/- ref17: Parse (printed by gen_yp.py). -/
section
open Go.RowKit

section
variable {X : List Nat} {w0 w : World} {L L' : List BlkE} {rs : List RowE} {J S : World → Prop} {ops : Array Oper} {rest : List Oper} {o : Oper} {a : Act} {Q : Exit → Act → World → Prop} {md : Region.Mode} {fuel i : Nat} {listed : Array Bool} {is : List Nat} {dst : Option Tmp} {tt : TypeId} {pos : String} {af : Array Edge}
end
section
variable {X : List Nat} {w0 w : World} {L : List BlkE} {rs : List RowE} {J : World → Prop} {ops : Array Oper} {rest : List Oper} {a : Act} {Q : Exit → Act → World → Prop} {dst : Option Tmp} {tt : TypeId} {pos : String} {af : Array Edge}
end
section
variable {S : World → Prop} {ops : Array Oper} {a : Act} {dst : Option Tmp} {tt : TypeId} {pos : String} {af : Array Edge} {w : World}
end
end
/- ref19: Query (printed by gen_co.py). -/
section
open Go.RowKit

theorem F_Flt : TyF Tryd.prog 28 2 #[.int .i64 0, .int .i64 0] := ⟨⟨_, Tryd.underlying28, rfl⟩, by kernel_rfl, by kernel_rfl⟩
theorem O_errno : OneF Tryd.prog 26 := ⟨⟨_, Tryd.underlying26, rfl⟩, by kernel_rfl⟩
theorem results_2T {P : Program} {fn : Func} {p q : Tmp} {ty uy : TypeId} (h : fn.results = #[.cell p ty, .cell q uy]) (tmps : Array Value) (w : World) (g k : Nat) (T U : TypeId) (cs ds : Array Value) (hp : tmps.getD p undef = .pointer (some ⟨g, 0, none⟩)) (hq : tmps.getD q undef = .pointer (some ⟨k, 0, none⟩)) (hg : Blk w g T cs) (hk : Blk w k U ds) {n m : Nat} {z z' : Array Value} (F : TyF P ty n z) (G : TyF P uy m z') (hn : cs.size = n) (hm : ds.size = m) :
    (results fn tmps).run P w = .ok (.tuple #[.agg cs, .agg ds]) w := by
  obtain ⟨d, hu, hd⟩ := F.u
  obtain ⟨d', hu', hd'⟩ := G.u
  exact results_2 h tmps g k T U cs ds d d' hp hq hg hk hu hd hu' hd' n m F.s hn G.s hm

/-- Code that lies in memory. -/
structure CRd (y : World) (c : CodeD) (A1 A2 A3 A4 : Option Addr) : Prop where
  p : Rdd y 3 A1 c.ps.length (c.ps.flatMap pathC)
  g : Rdd y 3 A2 c.gs.length (c.gs.flatMap segC)
  s : Rdd y 8 A3 c.ss.length (c.ss.flatMap selC)
  i : Rdd y 7 A4 c.is.length (c.is.flatMap insC)
end

end Go.Proofs.YtpcbcodmocmilaaDoor
