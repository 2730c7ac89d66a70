/- RG23: Ya, Yb, Yd, Yc, Ye, Yk, Vp, Cf, Zk, Sa, Sb joined. -/
import Derived.Deep.RegionHeld3
import Derived.Lib.ItoaNum
import Derived.Test.YtpcbcodmocmilaaGreatDoorRQb
import Derived.Test.YtpcbcodmocmilaaGreatDoorRG09
import Derived.Test.YtpcbcodmocmilaaGreatDoorRG04
import Derived.Test.YtpcbcodmocmilaaGreatDoorRG05
import Derived.Test.YtpcbcodmocmilaaGreatDoorRG06
import Derived.Test.YtpcbcodmocmilaaGreatDoorRG21
import Derived.Test.YtpcbcodmocmilaaGreatDoorRG07
import Derived.Test.YtpcbcodmocmilaaGreatDoorRG01
import Derived.Test.YtpcbcodmocmilaaGreatDoorROz
import Derived.Test.YtpcbcodmocmilaaGreatDoorRG16
import Derived.Test.YtpcbcodmocmilaaGreatDoorRG03
namespace Go.Proofs.YtpcbcodmocmilaaGreatDoor
open Go.RowKit
/- ref17: the reader; over, at, kind, is, fail, form, next. -/
section
open Go.RowKit

/-- The reader as a value: all tokens, and which one is next. -/
abbrev rv (A : Option Addr) (n c : Nat) (k : Nat) (E : Int) (t : PSt) (dp : Int) : Value := .agg #[.slice A n c, .int .i64 (k : Int), .int .i64 E, .int .i64 t.fe, .int .i64 t.fa, .int .i64 dp]
/-- A token in memory. -/
theorem TkR.at_ {w : World} {A : Option Addr} {all : List TokD} {k : Nat} {x : TokD} (h : TkR w A all) (hx : all[k]? = some x) : ∃ b off, A = some ⟨b, off, none⟩ ∧ b < w.heap.size ∧ w.cell? ⟨b, off + k * 5, none⟩ = some (.int .i64 x.kind) ∧ w.cell? ⟨b, off + k * 5 + 1, none⟩ = some (.string (bs x.s)) ∧ w.cell? ⟨b, off + k * 5 + 2, none⟩ = some (.int .i64 x.n) ∧ w.cell? ⟨b, off + k * 5 + 3, none⟩ = some (.int .i64 (x.at_ : Nat)) ∧ w.cell? ⟨b, off + k * 5 + 4, none⟩ = some (.bool x.gap) := by
  obtain ⟨b, off, e, hlt, hc⟩ := h.resolve_left (by intro e; rw [e] at hx; simp at hx)
  exact ⟨b, off, e, hlt, hc k x hx⟩
section
variable (A : Option Addr) (all : List TokD) (c k : Nat) (E : Int) (t : PSt) (dp : Int) (w : World)

end

end
/- ref17: form, next, must, open, shut, number (printed by gen_rb.py). -/
section
open Go.RowKit

theorem Blk.drew {w : World} {k : Nat} {T : TypeId} {cs : Array Value} (h : Blk w k T cs) : Blk w.drew k T cs := h
theorem Bel.far6 {B : Nat} {a w : World} (h : Bel B a w) {k : Nat} (hk : B ≤ k) {u0 u1 u2 u3 u4 u5 : Value} : Bel B a ((((((w.setCell ⟨k, 0, none⟩ u0).setCell ⟨k, 1, none⟩ u1).setCell ⟨k, 2, none⟩ u2).setCell ⟨k, 3, none⟩ u3).setCell ⟨k, 4, none⟩ u4).setCell ⟨k, 5, none⟩ u5) :=
  (((((h.setCell hk u0).setCell hk u1).setCell hk u2).setCell hk u3).setCell hk u4).setCell hk u5
section
variable (A : Option Addr) (all : List TokD) (c k : Nat) (E : Int) (t : PSt) (dp : Int) (w : World)

end

end
/- ref17: number (printed by gen_rb.py). -/
section
open Go.RowKit

section
variable (A : Option Addr) (all : List TokD) (c k : Nat) (E : Int) (t : PSt) (dp : Int) (w : World)

end

end
/- ref17: open (printed by gen_rb.py). -/
section
open Go.RowKit

section
variable (A : Option Addr) (all : List TokD) (c k : Nat) (E : Int) (t : PSt) (dp : Int) (w : World)

end

end
/- ref17: sel, where it is no filter and no number (printed by gen_rsel.py). -/
section
open Go.RowKit

section
variable (A : Option Addr) (all : List TokD) (c k : Nat) (E : Int) (P : Nat → PSt → ExprT × PSt) (t : PSt) (d : Nat) (dp : Int) (w : World)

end

end
/- ref17 by own blocks: facts on types, the words of contracts, round (printed by gen_yk.py). -/
section
open Go.RowKit

section
variable {X : List Nat} {w0 w : World} {L L' : List BlkE} {rs : List RowE} {J S : World → Prop} {ops : Array Oper} {rest : List Oper} {o : Oper} {a : Act} {Q : Exit → Act → World → Prop} {md : Region.Mode} {fuel i : Nat} {listed : Array Bool} {is : List Nat} {dst : Option Tmp} {tt : TypeId} {pos : String} {af : Array Edge}
end

/-- What a callee has made, kept through what this call does with blocks of its own. -/
theorem Own.addK {X : List Nat} {w0 w w' : World} {L : List BlkE} {rs : List RowE} {J : World → Prop} {G : (Nat → Prop) → World → Prop} (hG : ∀ {K K' : Nat → Prop} {x y : World}, G K x → Kp K K' x y → G K' y) (M : Own X w0 w L rs J) (hb : Bel w.heap.size w w') (h : G (Fr w) w') : Own X w0 w' L rs (fun y => J y ∧ G (Fr w0) y) :=
  (M.bel hb).add fun _ hy => hG h ⟨hy.1, fun _ hK hl => ⟨Nat.le_trans M.size hK, hy.2 _ hl fun hm => absurd (M.ex_lt hm) (Nat.not_lt.2 hK)⟩⟩
theorem Own.call {P : Program} {X : List Nat} {w0 w : World} {L : List BlkE} {rs : List RowE} {J : World → Prop} {f : FuncId} {args : Array Value} {R : Ending → World → Prop} {v : Value} (M : Own X w0 w L rs J) (hc : Calls P f args w fun e w' => e = .returned v ∧ Bel w.heap.size w w') (h : ∀ w', Hid (Own X w0 w' L rs J) → R (.returned v) w') : Calls P f args w R :=
  hc.mono fun e w' ⟨h1, h2⟩ => by rw [h1]; exact h w' (Lib.hid (M.bel h2))
section
variable (A : Option Addr) (all : List TokD) (c k : Nat) (E : Int) (P : Nat → PSt → ExprT × PSt) (t : PSt) (d : Nat) (dp : Int) (w : World)
end

end
/- verify: sound code, on lists: plain (for the seat of laceworklaw20; no word of a dump in it). -/
section

structure PathD where
  abs : Bool
  fr : Int
  tt : Int
structure SegD where
  deep : Bool
  fr : Int
  tt : Int
structure SelD where
  kind : Int
  nm : ByteArray
  a : Int
  b : Int
  c : Int
  ha : Bool
  hb : Bool
  at_ : Int
structure InsD where
  op : Int
  p : Int
  sign : Int
  kind : Int
  n : Int
  s : ByteArray
  tt : Int
structure CodeD where
  ps : List PathD
  gs : List SegD
  ss : List SelD
  is : List InsD

end
/- ref19: facts on types; put, meet (printed by gen_cf.py). -/
section
open Go.RowKit

theorem F_Ins : TyF Tryz.prog 59 7 #[.int .i64 0, .int .i64 0, .int .i64 0, .int .i64 0, .int .i64 0, .string ⟨#[]⟩, .int .i64 0] := ⟨⟨_, Tryz.underlying59, rfl⟩, by kernel_rfl, by kernel_rfl⟩
theorem F_Path : TyF Tryz.prog 37 2 #[.bool false, .slice none 0 0] := ⟨⟨_, Tryz.underlying37, rfl⟩, by kernel_rfl, by kernel_rfl⟩
theorem F_Ex : TyF Tryz.prog 106 17 #[.int .i64 0, .slice none 0 0, .bool false, .slice none 0 0, .int .i64 0, .bool false, .int .i64 0, .int .i64 0, .string ⟨#[]⟩, .bool false, .slice none 0 0, .bool false, .int .i64 0, .int .i64 0, .string ⟨#[]⟩, .bool false, .slice none 0 0] := ⟨⟨_, Tryz.underlying106, rfl⟩, by kernel_rfl, by kernel_rfl⟩
theorem F_Code : TyF Tryz.prog 28 4 #[.slice none 0 0, .slice none 0 0, .slice none 0 0, .slice none 0 0] := ⟨⟨_, Tryz.underlying28, rfl⟩, by kernel_rfl, by kernel_rfl⟩
theorem F_CPath : TyF Tryz.prog 53 3 #[.bool false, .int .i64 0, .int .i64 0] := ⟨⟨_, Tryz.underlying53, rfl⟩, by kernel_rfl, by kernel_rfl⟩
theorem F_CSeg : TyF Tryz.prog 55 3 #[.bool false, .int .i64 0, .int .i64 0] := ⟨⟨_, Tryz.underlying55, rfl⟩, by kernel_rfl, by kernel_rfl⟩
theorem F_CSel : TyF Tryz.prog 57 8 #[.int .i64 0, .string ⟨#[]⟩, .int .i64 0, .int .i64 0, .int .i64 0, .bool false, .bool false, .int .i64 0] := ⟨⟨_, Tryz.underlying57, rfl⟩, by kernel_rfl, by kernel_rfl⟩
theorem F_Seg : TyF Tryz.prog 44 2 #[.bool false, .slice none 0 0] := ⟨⟨_, Tryz.underlying44, rfl⟩, by kernel_rfl, by kernel_rfl⟩
theorem F_Sel : TyF Tryz.prog 47 9 #[.int .i64 0, .string ⟨#[]⟩, .int .i64 0, .int .i64 0, .int .i64 0, .int .i64 0, .bool false, .bool false, .pointer none] := ⟨⟨_, Tryz.underlying47, rfl⟩, by kernel_rfl, by kernel_rfl⟩
theorem O_int : OneF Tryz.prog 3 := ⟨⟨_, Tryz.underlying3, rfl⟩, by kernel_rfl⟩
theorem O_i64 : OneF Tryz.prog 2 := ⟨⟨_, Tryz.underlying2, rfl⟩, by kernel_rfl⟩
theorem O_bool : OneF Tryz.prog 4 := ⟨⟨_, Tryz.underlying4, rfl⟩, by kernel_rfl⟩
theorem O_str : OneF Tryz.prog 9 := ⟨⟨_, Tryz.underlying9, rfl⟩, by kernel_rfl⟩
theorem O_pex : OneF Tryz.prog 45 := ⟨⟨_, Tryz.underlying45, rfl⟩, by kernel_rfl⟩
theorem O_sIns : OneF Tryz.prog 26 := ⟨⟨_, Tryz.underlying26, rfl⟩, by kernel_rfl⟩
theorem SL_sIns : SlF Tryz.prog 26 59 7 64 (.agg #[.int .i64 0, .int .i64 0, .int .i64 0, .int .i64 0, .int .i64 0, .string ⟨#[]⟩, .int .i64 0]) := ⟨Tryz.underlying26, by kernel_rfl, rfl, by decide⟩
theorem O_sPath : OneF Tryz.prog 69 := ⟨⟨_, Tryz.underlying69, rfl⟩, by kernel_rfl⟩
theorem SL_sPath : SlF Tryz.prog 69 37 2 32 (.agg #[.bool false, .slice none 0 0]) := ⟨Tryz.underlying69, by kernel_rfl, rfl, by decide⟩
theorem O_sEx : OneF Tryz.prog 102 := ⟨⟨_, Tryz.underlying102, rfl⟩, by kernel_rfl⟩
theorem O_sSeg : OneF Tryz.prog 35 := ⟨⟨_, Tryz.underlying35, rfl⟩, by kernel_rfl⟩
theorem O_sSel : OneF Tryz.prog 42 := ⟨⟨_, Tryz.underlying42, rfl⟩, by kernel_rfl⟩
theorem O_sCPath : OneF Tryz.prog 23 := ⟨⟨_, Tryz.underlying23, rfl⟩, by kernel_rfl⟩
theorem SL_sCPath : SlF Tryz.prog 23 53 3 24 (.agg #[.bool false, .int .i64 0, .int .i64 0]) := ⟨Tryz.underlying23, by kernel_rfl, rfl, by decide⟩
theorem O_sCSeg : OneF Tryz.prog 24 := ⟨⟨_, Tryz.underlying24, rfl⟩, by kernel_rfl⟩
theorem SL_sCSeg : SlF Tryz.prog 24 55 3 24 (.agg #[.bool false, .int .i64 0, .int .i64 0]) := ⟨Tryz.underlying24, by kernel_rfl, rfl, by decide⟩
theorem O_sCSel : OneF Tryz.prog 25 := ⟨⟨_, Tryz.underlying25, rfl⟩, by kernel_rfl⟩
theorem SL_sCSel : SlF Tryz.prog 25 57 8 64 (.agg #[.int .i64 0, .string ⟨#[]⟩, .int .i64 0, .int .i64 0, .int .i64 0, .bool false, .bool false, .int .i64 0]) := ⟨Tryz.underlying25, by kernel_rfl, rfl, by decide⟩
theorem SL_sint : SlF Tryz.prog 147 3 1 8 (.int .i64 0) := ⟨Tryz.underlying147, by kernel_rfl, rfl, by decide⟩
/-- Cells that a slice reads as, wherever they lie. -/
def Rdd (w : World) (k : Nat) (A : Option Addr) (m : Nat) (xs : List Value) : Prop := Reads w w.heap.size k A m xs
theorem Rdd.kept {ex : List Nat} {w y : World} {k m : Nat} {A : Option Addr} {xs : List Value} (h : Rdd w k A m xs) (hy : Kept ex w y) (hx : ∀ a, A = some a → 0 < m → a.block ∉ ex) : Rdd y k A m xs :=
  ⟨h.1, fun h0 => by
    obtain ⟨ad, e, hlt, hc⟩ := h.2 h0
    refine ⟨ad, e, Nat.lt_of_lt_of_le hlt hy.1, fun j u hu => ?_⟩
    have h1 : (ad.add j).block = ad.block := by unfold Addr.add; split <;> rfl
    rw [World.cell?_of_block (w := w) (w' := y) (by rw [h1]; exact hy.2 _ hlt (hx ad e h0))]; exact hc j u hu⟩
theorem Rdd.bel {w w' : World} {k m : Nat} {A : Option Addr} {xs : List Value} (h : Rdd w k A m xs) (hb : Bel w.heap.size w w') : Rdd w' k A m xs :=
  h.kept (ex := []) ⟨hb.size, fun b hl _ => hb.block b hl⟩ fun _ _ _ => List.not_mem_nil
theorem Rdd.old {w y : World} {k m : Nat} {A : Option Addr} {xs : List Value} (h : Rdd w k A m xs) (hy : Kept [] w y) : Rdd y k A m xs := h.kept hy fun _ _ _ => List.not_mem_nil
/-- No block from before. -/
def FrA (w : World) (A : Option Addr) : Prop := ∀ a, A = some a → w.heap.size ≤ a.block ∧ a.spot = none
theorem FrA.le {w w' : World} {A : Option Addr} (h : FrA w' A) (hs : w.heap.size ≤ w'.heap.size) : FrA w A := fun a e => ⟨Nat.le_trans hs (h a e).1, (h a e).2⟩
theorem own_reads {w : World} {base k n : Nat} {e : TypeId} {v : Value} {xs : List Value} (h : w.ownsRow base e k v n xs) : ∃ A c, v = .slice A n c ∧ (n ≤ c ∧ c ≤ maxLen) ∧ (∀ a, A = some a → base ≤ a.block ∧ a.spot = none) ∧ Rdd w k A n xs := by
  rcases h.2 with ⟨rfl, h0⟩ | ⟨g, cap, cur, rfl, hb, hg, hle, hm, _⟩
  · subst h0
    exact ⟨none, 0, rfl, ⟨Nat.le_refl _, by unfold maxLen; omega⟩, fun a e => (by cases e), ⟨h.1, fun h => absurd h (by omega)⟩⟩
  · refine ⟨_, cap, rfl, ⟨hle, hm⟩, fun a e => (by cases e; exact ⟨hb, rfl⟩), h.1, fun _ => ⟨_, rfl, (Array.getElem?_eq_some_iff.1 hg).1, fun j u hu => ?_⟩⟩
    have := h.cells (g := g) rfl j u hu
    rw [add_lit]; rw [add_lit] at this; simpa using this
def insC (x : InsD) : List Value := [.int .i64 x.op, .int .i64 x.p, .int .i64 x.sign, .int .i64 x.kind, .int .i64 x.n, .string x.s, .int .i64 x.tt]
section
variable (B1 B2 B3 A4 A5 : Option Addr) (m1 d1 m2 d2 m3 d3 c4 n5 c5 : Nat) (w : World)

end

end
/- An append of a string to a row of Own, whose block is known; a Builder in Own's words: what it wrote. -/
section
open Go.RowKit

theorem run_append_str {P : Program} {w : World} (base : Nat) (t u ty e : TypeId) (i : TypeInfo) (ht : P.underlying t = some (.slice e)) (hu : P.underlying u = some .string) (hi : P.info? e = some i) (hz : i.zero = some (.int .u8 0)) (hsize : i.size = 1) (hby : i.bytes = 1)
    (v : Value) (n : Nat) (xs : List Value) (hown : w.ownsRow base e 1 v n xs) (s : ByteArray) (h63 : n + s.size ≤ maxLen) (hbytes : n + s.size ≤ 140737488355328) (hbase : base ≤ w.heap.size) :
    ∃ v' w', (Builtin.append_ #[t, u] ty #[v, .string s]).run P w = .ok v' w' ∧ w'.ownsRow base e 1 v' (n + s.size) (xs ++ Lib.strCells s) ∧ w.grownBy w' v.ownBlock ∧ (v'.ownBlock = v.ownBlock ∨ v'.ownBlock = some w.heap.size) := by
  obtain ⟨v', w', hr, h2, h3, h4⟩ := Lib.run_append_own_string (P := P) (w := w) base t u ty e i ht hu hi hz hsize hby v n xs hown s h63 hbytes hbase
  refine ⟨v', w', hr, h2, h3, ?_⟩
  have hsmall : n + s.size ≤ 9223372036854775807 := by simp only [maxLen] at h63; omega
  rcases hown.2 with ⟨rfl, rfl⟩ | ⟨g, cap, cur, rfl, hbg, hg, hnc, hcm, hcs, htake⟩
  · by_cases hm : s.size = 0
    · left
      rw [h4.2 ⟨rfl, hm⟩]
    · have hr2 := run_append_nil_string (P := P) w t u ty e i (.int .u8 0) ht hu hi hz s (by omega) (by omega) (by rw [hby]; omega)
      rw [hr] at hr2
      injection hr2 with e1 e2
      right
      rw [e1]; rfl
  · by_cases hroom : n + s.size ≤ cap
    · have hcs' : cur.size = cap := by simpa using hcs
      have hr2 := Lib.run_append_room_string (P := P) (w := w) t u ty e i ht hu hi hsize g n cap cur hg s hroom (by omega)
      rw [hr] at hr2
      injection hr2 with e1 e2
      left
      rw [e1]; rfl
    · have hxl : xs.length = n := by simpa using hown.1
      have holds : ∀ j u, xs[j]? = some u → w.cell? ((⟨g, 0, none⟩ : Addr).add j) = some u := hown.cells (g := g) rfl
      have hr2 := Lib.run_append_grow_string (P := P) (w := w) t u ty e i (.int .u8 0) ht hu hi hz ⟨g, 0, none⟩ n cap xs (by rw [hsize]; simpa using hxl) holds s (by omega) (by omega) (by rw [hby]; exact growslice_fits (by omega) (by omega))
      rw [hr] at hr2
      injection hr2 with e1 e2
      right
      rw [e1]; rfl
theorem Own.permL' {X : List Nat} {w0 w : World} {L L' : List BlkE} {rs : List RowE} {J : World → Prop} (M : Own X w0 w L rs J) (h : L.Perm L') : Own X w0 w L' rs J := by
  have hp : (exO L rs).Perm (exO L' rs) := (h.map _).append_right _
  exact ⟨M.os, M.output, M.size, M.out, fun x hx => M.low x (h.mem_iff.2 hx), fun x hx => M.blk x (h.mem_iff.2 hx), M.row, hp.nodup_iff.1 M.nodup, fun y hy => M.always y ⟨hy.1, fun b h1 h2 => hy.2 b h1 fun h => h2 (hp.mem_iff.2 h)⟩⟩
theorem Blk.shape {w : World} {g : Nat} {T : TypeId} {cs : Array Value} (h : Blk w g T cs) : w.shape? g = some (T, cs.size) := by
  have h' : w.heap[g]? = some (.cells cs T (0, 0)) := h
  simp [World.shape?, h']
/-- A type whose first two cells are a Builder. -/
structure BT (P : Program) (T : TypeId) : Prop where
  lies : liesAt P P.depth T (2 / P.cellsOf T) 0 80 1 = true
set_option maxRecDepth 100000 in
theorem BT_b : BT Tryz.prog 80 := ⟨Tryz.Builder_Extra_169.liesBuilder⟩
set_option maxRecDepth 100000 in
theorem BT_w : BT Tryz.prog 82 := ⟨by kernel_rfl⟩
def byC (t : List UInt8) : List Value := Lib.byteCells t
/-- A Builder at a pointer: what it has written. -/
def WrS (w0 w : World) (g : Nat) (T : TypeId) (L : List BlkE) (rs : List RowE) (J : World → Prop) (t : List UInt8) : Prop :=
  ∃ p v, Own [] w0 w ((g, T, #[p, v]) :: L) ((v, 5, 1, t.length, byC t) :: rs) J ∧ (p = .pointer none ∨ p = .pointer (some ⟨g, 0, none⟩))

set_option maxRecDepth 100000 in
set_option maxHeartbeats 1000000 in
theorem cc_fresh' (b : Nat) (T : TypeId) (hT : BT Tryz.prog T) (w : World) (h0 : w.cell? ⟨b, 0, none⟩ = some (.pointer none)) (hsh : w.shape? b = some (T, 2)) (hfz : w.frozen? ⟨b, 0, none⟩ = false) :
    Calls Tryz.prog 82 #[.pointer (some ⟨b, 0, none⟩)] w fun e w' => e = .returned (.tuple #[]) ∧ w' = w.setCell ⟨b, 0, none⟩ (.pointer (some ⟨b, 0, none⟩)) := by
  obtain ⟨j, hj, hjs⟩ := Option.map_eq_some_iff.1 Tryz.Builder_Extra_169.sizeBuilder
  go_enter Tryz.func82, Tryz.ntmps82
  go_wp2
  rw [Lib.run_to_unsafe w ⟨b, 0, none⟩ Tryz.underlying77 Tryz.underlying159 hj (by rw [hjs]; decide) hsh (Nat.zero_lt_succ 1)]
  simp only [Result.andThen]
  rw [Oper.upon_value]
  go_wp2
  rw [run_callFunc_extern Tryz.func105 (by kernel_rfl) (by kernel_rfl) (by kernel_rfl) (e := Extern.AbiNoEscape.same) (by kernel_rfl)]
  rw [Lib.run_noEscape]
  simp only [Result.andThen]
  rw [Oper.upon_value]
  go_wp2
  rw [Lib.run_from_unsafe w ⟨b, 0, none⟩ Tryz.underlying159 Tryz.underlying77 hj hsh hT.lies]
  simp only [Result.andThen]
  rw [Oper.upon_value]
  go_wp2
  go_end0
  exact ⟨rfl, rfl⟩
section
variable {w0 : World} {L : List BlkE} {rs : List RowE} {J : World → Prop}
theorem wcc_any (g : Nat) (T : TypeId) (hT : BT Tryz.prog T) (t : List UInt8) (w : World) (h : WrS w0 w g T L rs J t) : Calls Tryz.prog 82 #[.pointer (some ⟨g, 0, none⟩)] w fun e w' => e = .returned (.tuple #[]) ∧ ∃ v, Own [] w0 w' ((g, T, #[.pointer (some ⟨g, 0, none⟩), v]) :: L) ((v, 5, 1, t.length, byC t) :: rs) J := by
  obtain ⟨p, v, M, hp⟩ := h
  have hb := M.blk (g, T, #[p, v]) (by simp)
  rcases hp with rfl | rfl
  · refine (cc_fresh' g T hT w (hb.cell 0) hb.shape (hb.frozen 0)).mono ?_
    rintro e w' ⟨rfl, rfl⟩
    exact ⟨rfl, v, M.setCell (Upd.here _ _)⟩
  · refine (cc_used g w (hb.cell 0)).mono ?_
    rintro e w' ⟨rfl, rfl⟩
    exact ⟨rfl, v, M⟩
end

section
variable {P : Program} {X : List Nat} {w0 w : World} {L : List BlkE} {rs : List RowE} {J : World → Prop} {ops : Array Oper} {rest : List Oper} {a : Act} {Q : Exit → Act → World → Prop} {tt : TypeId} {pos : String} {af : Array Edge}
theorem g_apS (T U : TypeId) (d : Tmp) {s x : Operand} (h : wpList P ops Q (⟨some d, .call { callee := .builtin .append, args := #[s, x], argTypes := #[T, U] }, tt, pos, af, none⟩ :: rest) a w) : wpList P ops Q (⟨some d, .call { callee := .builtin .append, args := #[s, x], argTypes := #[T, U] }, tt, pos, af, none⟩ :: rest) a w := h
/-- append to a row of bytes of a string. -/
theorem l_apS {t u e : TypeId} (F : SlF P t e 1 1 (.int .u8 0)) (hu : P.underlying u = some .string) {d : Tmp} {s x : Operand} {v : Value} {n : Nat} {xs : List Value} {str : ByteArray} (hs : a.eval s = v) (hx : a.eval x = .string str) (M : Own X w0 w L rs J) (hrow : (v, e, 1, n, xs) ∈ rs) (h63 : n + str.size ≤ maxLen) (hb : n + str.size ≤ 140737488355328)
    (h : ∀ v' w', (∀ rs', UpdR (v, e, 1, n, xs) (v', e, 1, n + str.size, xs ++ Lib.strCells str) rs rs' → Own X w0 w' L rs' J) → wpList P ops Q rest (a.put (some d) v') w') : wpList P ops Q (⟨some d, .call { callee := .builtin .append, args := #[s, x], argTypes := #[t, u] }, tt, pos, af, none⟩ :: rest) a w := by
  obtain ⟨i, hi, hv⟩ := Option.map_eq_some_iff.1 F.i
  simp only [Prod.mk.injEq] at hv
  obtain ⟨v', w', hr, h2, h3, h4⟩ := run_append_str (P := P) (w := w) w0.heap.size t u tt e i F.u hu hi hv.1 hv.2.1 hv.2.2 v n xs (M.row _ hrow) str h63 hb M.size
  refine wpList_plain rfl fun K hK => ?_
  unfold Oper.wp execOp
  simp only [resolve, invoke, builtin, Sem.run_bind, Sem.run_pure, Result.andThen_ok, List.map_toArray, List.map_cons, List.map_nil, hs, hx, hr]
  exact hK _ _ (h v' w' fun rs' hu => M.grow hu h2 h3 h4)
end
theorem O_su8 : OneF Tryz.prog 78 := ⟨⟨_, Tryz.underlying78, rfl⟩, by kernel_rfl⟩
theorem SL_su8 : SlF Tryz.prog 78 5 1 1 (.int .u8 0) := ⟨Tryz.underlying78, by kernel_rfl, rfl, by decide⟩
section
variable {w0 : World} {L : List BlkE} {rs : List RowE} {J : World → Prop}
theorem byC_app (t u : List UInt8) : byC (t ++ u) = byC t ++ byC u := by unfold byC Lib.byteCells; rw [List.map_append]
theorem byC_str (s : ByteArray) : Lib.strCells s = byC s.data.toList := by
  unfold byC Lib.byteCells Lib.strCells
  simp

set_option maxRecDepth 100000 in
set_option maxHeartbeats 2000000 in
theorem wws_any (g : Nat) (T : TypeId) (hT : BT Tryz.prog T) (t : List UInt8) (s : ByteArray) (w : World) (h : WrS w0 w g T L rs J t) (hl : t.length + s.size ≤ 1000000000) : Calls Tryz.prog 56 #[.pointer (some ⟨g, 0, none⟩), .string s] w fun e w' => e = .returned (.tuple #[.int .i64 s.size, .nilIface]) ∧ WrS w0 w' g T L rs J (t ++ s.data.toList) := by
  go_enter Tryz.func56, Tryz.ntmps56
  go_wp2_with (first
    | (go_at_call 82; (with_reducible refine (wcc_any g T hT t _ h).mono ?_); rintro e w' ⟨rfl, v, hM⟩; have M := Lib.hid hM; clear hM)
    | ((with_reducible refine g_ld 78 ?_); refine l_ld1 O_su8 rfl M.out (by repeat constructor) (by exact rfl) ?_)
    | ((with_reducible refine g_apS 78 9 14 ?_); refine l_apS SL_su8 Tryz.underlying9 rfl rfl M.out (by repeat constructor) (by unfold maxLen; omega) (by omega) ?_; intro vn w' Mn; replace Mn := Mn _ (by repeat constructor); replace M := Lib.hid Mn; clear Mn; obtain ⟨An, cn, hvn, -⟩ := own_reads (M.out.row (vn, _) (by repeat constructor)); simp only at hvn; subst hvn)
    | ((with_reducible refine g_st 78 ?_); refine l_st1 (v := .slice An (t.length + s.size) cn) O_su8 rfl rfl (by exact rfl) M.out (by repeat constructor) ?_; clear M; intro w' M))
  go_ret2
  refine ⟨rfl, .pointer (some ⟨g, 0, none⟩), .slice An (t.length + s.size) cn, ?_, .inr rfl⟩
  rw [byC_app, ← byC_str, List.length_append, show s.data.toList.length = s.size from len_toList s]
  exact M.out

set_option maxRecDepth 100000 in
set_option maxHeartbeats 2000000 in
theorem wwb_any (g : Nat) (T : TypeId) (hT : BT Tryz.prog T) (t : List UInt8) (c : UInt8) (w : World) (h : WrS w0 w g T L rs J t) (hl : t.length ≤ 1000000000) : Calls Tryz.prog 139 #[.pointer (some ⟨g, 0, none⟩), .int .u8 (c.toNat : Int)] w fun e w' => e = .returned .nilIface ∧ WrS w0 w' g T L rs J (t ++ [c]) := by
  go_enter Tryz.func139, Tryz.ntmps139
  go_wp2_with (first
    | (go_at_call 82; (with_reducible refine (wcc_any g T hT t _ h).mono ?_); rintro e w' ⟨rfl, v, hM⟩; have M := Lib.hid hM; clear hM)
    | ((with_reducible refine g_ld 78 ?_); refine l_ld1 O_su8 rfl M.out (by repeat constructor) (by exact rfl) ?_)
    | ((with_reducible refine g_bs 78 13 ?_); refine l_bs SL_su8 (cs := #[.int .u8 (c.toNat : Int)]) (by kernel_rfl) M.out ?_; clear M; intro gb w' hgb M; replace M := Lib.hid (M.out.permL' (List.Perm.swap _ _ _)))
    | ((with_reducible refine g_ap 78 14 ?_); refine l_apB SL_su8 rfl rfl M.out (by repeat constructor) (by repeat constructor) (by exact rfl) (by exact rfl) (by unfold maxLen; omega) (by omega) ?_; intro vn w' Mn; replace Mn := Mn _ (by repeat constructor); replace M := Lib.hid Mn; clear Mn; obtain ⟨An, cn, hvn, -⟩ := own_reads (M.out.row (vn, _) (by repeat constructor)); simp only at hvn; subst hvn)
    | ((with_reducible refine g_st 78 ?_); refine l_st1 (v := .slice An (t.length + 1) cn) O_su8 rfl rfl (by exact rfl) M.out (by repeat constructor) ?_; clear M; intro w' M))
  go_ret
  refine ⟨rfl, .pointer (some ⟨g, 0, none⟩), .slice An (t.length + 1) cn, ?_, .inr rfl⟩
  rw [byC_app, List.length_append, List.length_singleton]
  exact (M.out.permL' (List.Perm.swap _ _ _)).freeze.imp fun y h => h.1
end

end
/- Queries written: the mirror on lists (plain; no word of a dump). -/
section

def intL (n : Int) : List UInt8 := Lib.itoa n
def hexC (d : Nat) : UInt8 := if d < 10 then UInt8.ofNat (48 + d) else UInt8.ofNat (87 + d)
/-- A byte below 32. -/
def signB (c : UInt8) : List UInt8 :=
  92 :: (if c = 8 then [98] else if c = 12 then [102] else if c = 10 then [110] else if c = 13 then [114] else if c = 9 then [116]
  else [117, 48, 48, hexC (c.toNat / 16), hexC (c.toNat % 16)])
/-- A byte between marks m. -/
def escB (m c : UInt8) : List UInt8 := if c = m ∨ c = 92 then [92, c] else if c.toNat < 32 then signB c else [c]
def txtL (m : UInt8) (t : List UInt8) : List UInt8 := m :: (t.flatMap (escB m) ++ [m])
def sliceW (x : SelT) : List UInt8 := (if x.hf then intL x.fr else []) ++ (58 :: ((if x.ht then intL x.tt else []) ++ (if x.step = 1 then [] else 58 :: intL x.step)))
section
variable (E : ExprT → List UInt8)
def selW (x : SelT) : List UInt8 :=
  if x.kind = 0 then txtL 39 x.name
  else if x.kind = 1 then [42]
  else if x.kind = 2 then intL x.index
  else if x.kind = 3 then sliceW x
  else match x.f with | some e => 63 :: E e | none => [63]
/-- Written one behind the other, with something between. -/
def joinW {α : Type} (sep : List UInt8) (f : α → List UInt8) : List α → List UInt8
  | [] => []
  | [x] => f x
  | x :: y :: r => f x ++ sep ++ joinW sep f (y :: r)
def segW (s : SegT) : List UInt8 := (if s.deep then [46, 46] else []) ++ (91 :: (joinW [44, 32] (selW E) s.sels ++ [93]))
def pathW (p : PathT) : List UInt8 := (if p.abs then 36 else 64) :: p.segs.flatMap (segW E)
def sideW (x : SideT) : List UInt8 :=
  if !x.lit then pathW E x.p
  else if x.kind = 2 then intL x.n
  else if x.kind = 3 then txtL 39 x.s
  else if x.kind = 1 then (if x.n = 1 then [116, 114, 117, 101] else [102, 97, 108, 115, 101])
  else [110, 117, 108, 108]
/-- In round brackets, or not. -/
def roundW (b : Bool) (x : ExprT) : List UInt8 := if b then 40 :: (E x ++ [41]) else E x
end
def opB (op : Int) : List UInt8 := if op = 0 then [61, 61] else if op = 1 then [33, 61] else if op = 2 then [60] else if op = 3 then [60, 61] else if op = 4 then [62] else [62, 61]
def exprW : Nat → ExprT → List UInt8
  | 0, _ => []
  | n + 1, x =>
    if x.kind = 0 then joinW [32, 124, 124, 32] (fun k => roundW (exprW n) (k.kind == 0) k) x.kids
    else if x.kind = 1 then joinW [32, 38, 38, 32] (fun k => roundW (exprW n) (k.kind == 0 || k.kind == 1) k) x.kids
    else if x.kind = 2 then 33 :: (match x.kids with | k :: _ => roundW (exprW n) (k.kind != 3) k | [] => [])
    else if x.kind = 3 then pathW (exprW n) x.q
    else sideW (exprW n) x.left ++ (32 :: (opB x.op ++ 32 :: sideW (exprW n) x.right))
/-- What is written of a query. -/
def showT (p : PathT) : List UInt8 := pathW (exprW 200) p

end
/- Texts whose bytes are scalars: what utf.Right tells (plain; no word of a dump). -/
section

/-- The machine's state behind bytes. -/
def runU (st : Int) (l : List UInt8) : Int := l.foldl (fun s b => ustep s b.toNat) st
def rightL (l : List UInt8) : Bool := runU 0 l == 0
theorem runU_app (st : Int) (a b : List UInt8) : runU st (a ++ b) = runU (runU st a) b := by unfold runU; rw [List.foldl_append]
theorem runU_cons (st : Int) (c : UInt8) (r : List UInt8) : runU st (c :: r) = runU (ustep st c.toNat) r := rfl
theorem runU_nil (st : Int) : runU st [] = st := rfl
theorem right_app {a b : List UInt8} (h : runU 0 a = 0) (h2 : runU 0 b = 0) : runU 0 (a ++ b) = 0 := by rw [runU_app, h, h2]
theorem ofN (n : Int) (h0 : 0 ≤ n) (h1 : n < 256) : ((UInt8.ofNat n.toNat).toNat : Int) = n := by
  rw [UInt8.toNat_ofNat']; omega
theorem us1b (b : Int) : ustep 1 b = if 128 ≤ b ∧ b ≤ 191 then 0 else 8 := by unfold ustep; simp
/-- A scalar's bytes are right. -/
theorem right_put {c : Int} (h0 : 0 ≤ c) (h1 : c ≤ 1114111) (h2 : c < 55296 ∨ 57343 < c) : runU 0 (putV c) = 0 := by
  unfold putV
  split
  · rw [runU_cons, runU_nil, ofN _ (by omega) (by omega)]
    unfold ustep ufirst; (repeat' split) <;> omega
  · split
    · rw [runU_cons, runU_cons, runU_nil, ofN _ (by omega) (by omega), ofN _ (by omega) (by omega)]
      have e1 : ustep 0 (192 + c / 64) = 1 := by unfold ustep ufirst; (repeat' split) <;> omega
      rw [e1]
      unfold ustep; (repeat' split) <;> omega
    · split
      · rw [runU_cons, runU_cons, runU_cons, runU_nil, ofN _ (by omega) (by omega), ofN _ (by omega) (by omega), ofN _ (by omega) (by omega)]
        have e1 : ustep (ustep 0 (224 + c / 4096)) (128 + c / 64 % 64) = 1 := by unfold ustep ufirst; (repeat' split) <;> omega
        rw [e1]
        unfold ustep; (repeat' split) <;> omega
      · rw [runU_cons, runU_cons, runU_cons, runU_cons, runU_nil, ofN _ (by omega) (by omega), ofN _ (by omega) (by omega), ofN _ (by omega) (by omega), ofN _ (by omega) (by omega)]
        have e0 : (ustep 0 (240 + c / 262144) = 6 ∧ c / 262144 = 0) ∨ (ustep 0 (240 + c / 262144) = 3 ∧ 1 ≤ c / 262144 ∧ c / 262144 ≤ 3) ∨ (ustep 0 (240 + c / 262144) = 7 ∧ c / 262144 = 4) := by
          have hq : 0 ≤ c / 262144 ∧ c / 262144 ≤ 4 := by omega
          have h5 : c / 262144 = 0 ∨ c / 262144 = 1 ∨ c / 262144 = 2 ∨ c / 262144 = 3 ∨ c / 262144 = 4 := by omega
          rcases h5 with h | h | h | h | h <;> rw [h] <;> decide
        have e1 : ustep (ustep 0 (240 + c / 262144)) (128 + c / 4096 % 64) = 2 := by
          rcases e0 with ⟨e, hq⟩ | ⟨e, hq⟩ | ⟨e, hq⟩
          · rw [e, us6, if_pos (by omega)]
          · rw [e, us3, if_pos (by omega)]
          · rw [e, us7, if_pos (by omega)]
        rw [e1, us2, if_pos (by omega), us1b, if_pos (by omega)]

def okU (c : Int) : Prop := 0 ≤ c ∧ c ≤ 1114111 ∧ (c < 55296 ∨ 57343 < c)
theorem us0_a {b : Int} (h : b < 128) : ustep 0 b = 0 := by unfold ustep ufirst; rw [if_pos rfl, if_pos h]
theorem us0_b {b : Int} (h : 194 ≤ b ∧ b ≤ 223) : ustep 0 b = 1 := by unfold ustep ufirst; rw [if_pos rfl, if_neg (by omega), if_pos h]
theorem us0_c {b : Int} (h : 224 ≤ b ∧ b ≤ 239) : (b = 224 ∧ ustep 0 b = 4) ∨ (b = 237 ∧ ustep 0 b = 5) ∨ (b ≠ 224 ∧ b ≠ 237 ∧ ustep 0 b = 2) := by
  unfold ustep ufirst; rw [if_pos rfl, if_neg (by omega), if_neg (by omega)]
  by_cases h4 : b = 224
  · rw [if_pos h4]; exact .inl ⟨h4, rfl⟩
  · rw [if_neg h4]
    by_cases h5 : b = 237
    · rw [if_pos h5]; exact .inr (.inl ⟨h5, rfl⟩)
    · rw [if_neg h5, if_pos (by omega)]; exact .inr (.inr ⟨h4, h5, rfl⟩)
theorem us0_d {b : Int} (h : 240 ≤ b ∧ b ≤ 244) : (b = 240 ∧ ustep 0 b = 6) ∨ (b = 244 ∧ ustep 0 b = 7) ∨ (241 ≤ b ∧ b ≤ 243 ∧ ustep 0 b = 3) := by
  unfold ustep ufirst; rw [if_pos rfl, if_neg (by omega), if_neg (by omega), if_neg (by omega), if_neg (by omega), if_neg (by omega)]
  by_cases h4 : b = 240
  · rw [if_pos h4]; exact .inl ⟨h4, rfl⟩
  · rw [if_neg h4]
    by_cases h5 : b = 244
    · rw [if_neg (by omega), if_pos h5]; exact .inr (.inl ⟨h5, rfl⟩)
    · rw [if_pos (by omega)]; exact .inr (.inr ⟨by omega, by omega, rfl⟩)
set_option maxRecDepth 10000 in
/-- Bytes that begin with a scalar: they are right, and it is one. -/
theorem right_scal (l : List UInt8) (h : 0 < (scalV l).2) : runU 0 (l.take (scalV l).2.toNat) = 0 ∧ okU (scalV l).1 := by
  have b256 : ∀ b : UInt8, (b.toNat : Int) < 256 := fun b => by have := UInt8.toNat_lt b; omega
  cases l with
  | nil => exact absurd (show (0 : Int) < 0 from h) (by omega)
  | cons b0 r =>
    unfold scalV at h ⊢
    simp only at h ⊢
    by_cases h1 : (b0.toNat : Int) < 128
    · rw [if_pos h1]
      refine ⟨?_, by unfold okU; simp only; omega⟩
      show runU 0 [b0] = 0
      rw [runU_cons, us0_a h1, runU_nil]
    · rw [if_neg h1] at h ⊢
      by_cases h2 : 194 ≤ (b0.toNat : Int) ∧ (b0.toNat : Int) ≤ 223
      · rw [if_pos h2] at h ⊢
        cases r with
        | nil => exact absurd (show (0 : Int) < 0 from h) (by omega)
        | cons b1 r =>
          simp only at h ⊢
          by_cases h3 : 128 ≤ (b1.toNat : Int) ∧ (b1.toNat : Int) ≤ 191
          · rw [if_pos h3]
            refine ⟨?_, by unfold okU; simp only; omega⟩
            show runU 0 [b0, b1] = 0
            rw [runU_cons, us0_b h2, runU_cons, us1b, if_pos h3, runU_nil]
          · rw [if_neg h3] at h; exact absurd (show (0 : Int) < 0 from h) (by omega)
      · rw [if_neg h2] at h ⊢
        by_cases h3 : 224 ≤ (b0.toNat : Int) ∧ (b0.toNat : Int) ≤ 239
        · rw [if_pos h3] at h ⊢
          match r, h with
          | [], h => exact absurd (show (0 : Int) < 0 from h) (by omega)
          | [_], h => exact absurd (show (0 : Int) < 0 from h) (by omega)
          | b1 :: b2 :: r, h =>
            simp only at h ⊢
            obtain ⟨lo, hlo⟩ : ∃ lo, (if (b0.toNat : Int) = 224 then (160 : Int) else 128) = lo := ⟨_, rfl⟩
            obtain ⟨hi, hhi⟩ : ∃ hi, (if (b0.toNat : Int) = 237 then (159 : Int) else 191) = hi := ⟨_, rfl⟩
            rw [hlo, hhi] at h ⊢
            by_cases h4 : lo ≤ (b1.toNat : Int) ∧ (b1.toNat : Int) ≤ hi ∧ 128 ≤ (b2.toNat : Int) ∧ (b2.toNat : Int) ≤ 191
            · rw [if_pos h4]
              obtain ⟨q1, q2, q3, q4⟩ := h4
              have e : ustep (ustep 0 b0.toNat) b1.toNat = 1 ∧ 128 ≤ (b1.toNat : Int) ∧ (b1.toNat : Int) ≤ 191 ∧ ((b0.toNat : Int) = 224 → 160 ≤ (b1.toNat : Int)) ∧ ((b0.toNat : Int) = 237 → (b1.toNat : Int) ≤ 159) := by
                rcases us0_c h3 with ⟨e1, e2⟩ | ⟨e1, e2⟩ | ⟨e1, e2, e3⟩
                · rw [if_pos e1] at hlo; rw [if_neg (by omega)] at hhi; rw [e2, us4, if_pos (by omega)]; exact ⟨rfl, by omega, by omega, by omega, by omega⟩
                · rw [if_neg (by omega)] at hlo; rw [if_pos e1] at hhi; rw [e2, us5, if_pos (by omega)]; exact ⟨rfl, by omega, by omega, by omega, by omega⟩
                · rw [if_neg e1] at hlo; rw [if_neg e2] at hhi; rw [e3, us2, if_pos (by omega)]; exact ⟨rfl, by omega, by omega, by omega, by omega⟩
              refine ⟨?_, by unfold okU; simp only; omega⟩
              show runU 0 [b0, b1, b2] = 0
              rw [runU_cons, runU_cons, e.1, runU_cons, us1b, if_pos ⟨q3, q4⟩, runU_nil]
            · rw [if_neg h4] at h; exact absurd (show (0 : Int) < 0 from h) (by omega)
        · rw [if_neg h3] at h ⊢
          by_cases h4 : 240 ≤ (b0.toNat : Int) ∧ (b0.toNat : Int) ≤ 244
          · rw [if_pos h4] at h ⊢
            match r, h with
            | [], h => exact absurd (show (0 : Int) < 0 from h) (by omega)
            | [_], h => exact absurd (show (0 : Int) < 0 from h) (by omega)
            | [_, _], h => exact absurd (show (0 : Int) < 0 from h) (by omega)
            | b1 :: b2 :: b3 :: r, h =>
              simp only at h ⊢
              obtain ⟨lo, hlo⟩ : ∃ lo, (if (b0.toNat : Int) = 240 then (144 : Int) else 128) = lo := ⟨_, rfl⟩
              obtain ⟨hi, hhi⟩ : ∃ hi, (if (b0.toNat : Int) = 244 then (143 : Int) else 191) = hi := ⟨_, rfl⟩
              rw [hlo, hhi] at h ⊢
              by_cases h5 : lo ≤ (b1.toNat : Int) ∧ (b1.toNat : Int) ≤ hi ∧ 128 ≤ (b2.toNat : Int) ∧ (b2.toNat : Int) ≤ 191 ∧ 128 ≤ (b3.toNat : Int) ∧ (b3.toNat : Int) ≤ 191
              · rw [if_pos h5]
                obtain ⟨q1, q2, q3, q4, q5, q6⟩ := h5
                have e : ustep (ustep 0 b0.toNat) b1.toNat = 2 ∧ 128 ≤ (b1.toNat : Int) ∧ (b1.toNat : Int) ≤ 191 ∧ ((b0.toNat : Int) = 240 → 144 ≤ (b1.toNat : Int)) ∧ ((b0.toNat : Int) = 244 → (b1.toNat : Int) ≤ 143) := by
                  rcases us0_d h4 with ⟨e1, e2⟩ | ⟨e1, e2⟩ | ⟨e1, e2, e3⟩
                  · rw [if_pos e1] at hlo; rw [if_neg (by omega)] at hhi; rw [e2, us6, if_pos (by omega)]; exact ⟨rfl, by omega, by omega, by omega, by omega⟩
                  · rw [if_neg (by omega)] at hlo; rw [if_pos e1] at hhi; rw [e2, us7, if_pos (by omega)]; exact ⟨rfl, by omega, by omega, by omega, by omega⟩
                  · rw [if_neg (by omega)] at hlo; rw [if_neg (by omega)] at hhi; rw [e3, us3, if_pos (by omega)]; exact ⟨rfl, by omega, by omega, by omega, by omega⟩
                refine ⟨?_, by unfold okU; simp only; omega⟩
                show runU 0 [b0, b1, b2, b3] = 0
                rw [runU_cons, runU_cons, e.1, runU_cons, us2, if_pos ⟨q3, q4⟩, runU_cons, us1b, if_pos ⟨q5, q6⟩, runU_nil]
              · rw [if_neg h5] at h; exact absurd (show (0 : Int) < 0 from h) (by omega)
          · rw [if_neg h4] at h; exact absurd (show (0 : Int) < 0 from h) (by omega)

end

end Go.Proofs.YtpcbcodmocmilaaGreatDoor
