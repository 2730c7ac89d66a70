/- G34: Ya, Yb, Yd, Yc, Ye, Yk, Vp, Cf, Zk joined. -/
import Derived.Deep.RegionHeld3
import Derived.Test.YtpcbcodmocmilaaGreatDoorQb
import Derived.Test.YtpcbcodmocmilaaGreatDoorG16
import Derived.Test.YtpcbcodmocmilaaGreatDoorG06
import Derived.Test.YtpcbcodmocmilaaGreatDoorQe0
import Derived.Test.YtpcbcodmocmilaaGreatDoorQd
import Derived.Test.YtpcbcodmocmilaaGreatDoorQf
import Derived.Test.YtpcbcodmocmilaaGreatDoorG32
import Derived.Test.YtpcbcodmocmilaaGreatDoorG12
import Derived.Test.YtpcbcodmocmilaaGreatDoorG01
import Derived.Test.YtpcbcodmocmilaaGreatDoorOz
import Derived.Test.YtpcbcodmocmilaaGreatDoorG24
namespace Go.Proofs.YtpcbcodmocmilaaGreatDoor
open Go.RowKit
/- ref17: the reader; over, at, kind, is, fail, form, next. -/
section
open Go.RowKit

/-- The reader as a value: all tokens, and which one is next. -/
abbrev rv (A : Option Addr) (n c : Nat) (k : Nat) (E : Int) (t : PSt) (dp : Int) : Value := .agg #[.slice A n c, .int .i64 (k : Int), .int .i64 E, .int .i64 t.fe, .int .i64 t.fa, .int .i64 dp]
/-- A token in memory. -/
theorem TkR.at_ {w : World} {A : Option Addr} {all : List TokD} {k : Nat} {x : TokD} (h : TkR w A all) (hx : all[k]? = some x) : ∃ b off, A = some ⟨b, off, none⟩ ∧ b < w.heap.size ∧ w.cell? ⟨b, off + k * 5, none⟩ = some (.int .i64 x.kind) ∧ w.cell? ⟨b, off + k * 5 + 1, none⟩ = some (.string (bs x.s)) ∧ w.cell? ⟨b, off + k * 5 + 2, none⟩ = some (.int .i64 x.n) ∧ w.cell? ⟨b, off + k * 5 + 3, none⟩ = some (.int .i64 (x.at_ : Nat)) ∧ w.cell? ⟨b, off + k * 5 + 4, none⟩ = some (.bool x.gap) := by
  obtain ⟨b, off, e, hlt, hc⟩ := h.resolve_left (by intro e; rw [e] at hx; simp at hx)
  exact ⟨b, off, e, hlt, hc k x hx⟩
section
variable (A : Option Addr) (all : List TokD) (c k : Nat) (E : Int) (t : PSt) (dp : Int) (w : World)

end

end
/- ref17: form, next, must, open, shut, number (printed by gen_rb.py). -/
section
open Go.RowKit

theorem Blk.drew {w : World} {k : Nat} {T : TypeId} {cs : Array Value} (h : Blk w k T cs) : Blk w.drew k T cs := h
theorem Bel.far6 {B : Nat} {a w : World} (h : Bel B a w) {k : Nat} (hk : B ≤ k) {u0 u1 u2 u3 u4 u5 : Value} : Bel B a ((((((w.setCell ⟨k, 0, none⟩ u0).setCell ⟨k, 1, none⟩ u1).setCell ⟨k, 2, none⟩ u2).setCell ⟨k, 3, none⟩ u3).setCell ⟨k, 4, none⟩ u4).setCell ⟨k, 5, none⟩ u5) :=
  (((((h.setCell hk u0).setCell hk u1).setCell hk u2).setCell hk u3).setCell hk u4).setCell hk u5
section
variable (A : Option Addr) (all : List TokD) (c k : Nat) (E : Int) (t : PSt) (dp : Int) (w : World)

end

end
/- ref17: number (printed by gen_rb.py). -/
section
open Go.RowKit

section
variable (A : Option Addr) (all : List TokD) (c k : Nat) (E : Int) (t : PSt) (dp : Int) (w : World)

end

end
/- ref17: open (printed by gen_rb.py). -/
section
open Go.RowKit

section
variable (A : Option Addr) (all : List TokD) (c k : Nat) (E : Int) (t : PSt) (dp : Int) (w : World)

end

end
/- ref17: sel, where it is no filter and no number (printed by gen_rsel.py). -/
section
open Go.RowKit

section
variable (A : Option Addr) (all : List TokD) (c k : Nat) (E : Int) (P : Nat → PSt → ExprT × PSt) (t : PSt) (d : Nat) (dp : Int) (w : World)

end

end
/- ref17 by own blocks: facts on types, the words of contracts, round (printed by gen_yk.py). -/
section
open Go.RowKit

section
variable {X : List Nat} {w0 w : World} {L L' : List BlkE} {rs : List RowE} {J S : World → Prop} {ops : Array Oper} {rest : List Oper} {o : Oper} {a : Act} {Q : Exit → Act → World → Prop} {md : Region.Mode} {fuel i : Nat} {listed : Array Bool} {is : List Nat} {dst : Option Tmp} {tt : TypeId} {pos : String} {af : Array Edge}
end

/-- What a callee has made, kept through what this call does with blocks of its own. -/
theorem Own.addK {X : List Nat} {w0 w w' : World} {L : List BlkE} {rs : List RowE} {J : World → Prop} {G : (Nat → Prop) → World → Prop} (hG : ∀ {K K' : Nat → Prop} {x y : World}, G K x → Kp K K' x y → G K' y) (M : Own X w0 w L rs J) (hb : Bel w.heap.size w w') (h : G (Fr w) w') : Own X w0 w' L rs (fun y => J y ∧ G (Fr w0) y) :=
  (M.bel hb).add fun _ hy => hG h ⟨hy.1, fun _ hK hl => ⟨Nat.le_trans M.size hK, hy.2 _ hl fun hm => absurd (M.ex_lt hm) (Nat.not_lt.2 hK)⟩⟩
theorem Own.call {P : Program} {X : List Nat} {w0 w : World} {L : List BlkE} {rs : List RowE} {J : World → Prop} {f : FuncId} {args : Array Value} {R : Ending → World → Prop} {v : Value} (M : Own X w0 w L rs J) (hc : Calls P f args w fun e w' => e = .returned v ∧ Bel w.heap.size w w') (h : ∀ w', Hid (Own X w0 w' L rs J) → R (.returned v) w') : Calls P f args w R :=
  hc.mono fun e w' ⟨h1, h2⟩ => by rw [h1]; exact h w' (Lib.hid (M.bel h2))
section
variable (A : Option Addr) (all : List TokD) (c k : Nat) (E : Int) (P : Nat → PSt → ExprT × PSt) (t : PSt) (d : Nat) (dp : Int) (w : World)
end

end
/- verify: sound code, on lists: plain (for the seat of laceworklaw20; no word of a dump in it). -/
section

structure InsD where
  op : Int
  p : Int
  sign : Int
  kind : Int
  n : Int
  s : ByteArray
  tt : Int
end
/- ref19: facts on types; put, meet (printed by gen_cf.py). -/
section
open Go.RowKit

theorem F_Path : TyF Tryz.prog 37 2 #[.bool false, .slice none 0 0] := ⟨⟨_, Tryz.underlying37, rfl⟩, by kernel_rfl, by kernel_rfl⟩
theorem F_Ex : TyF Tryz.prog 106 17 #[.int .i64 0, .slice none 0 0, .bool false, .slice none 0 0, .int .i64 0, .bool false, .int .i64 0, .int .i64 0, .string ⟨#[]⟩, .bool false, .slice none 0 0, .bool false, .int .i64 0, .int .i64 0, .string ⟨#[]⟩, .bool false, .slice none 0 0] := ⟨⟨_, Tryz.underlying106, rfl⟩, by kernel_rfl, by kernel_rfl⟩
theorem F_Seg : TyF Tryz.prog 44 2 #[.bool false, .slice none 0 0] := ⟨⟨_, Tryz.underlying44, rfl⟩, by kernel_rfl, by kernel_rfl⟩
theorem F_Sel : TyF Tryz.prog 47 9 #[.int .i64 0, .string ⟨#[]⟩, .int .i64 0, .int .i64 0, .int .i64 0, .int .i64 0, .bool false, .bool false, .pointer none] := ⟨⟨_, Tryz.underlying47, rfl⟩, by kernel_rfl, by kernel_rfl⟩
theorem O_int : OneF Tryz.prog 3 := ⟨⟨_, Tryz.underlying3, rfl⟩, by kernel_rfl⟩
theorem O_i64 : OneF Tryz.prog 2 := ⟨⟨_, Tryz.underlying2, rfl⟩, by kernel_rfl⟩
theorem O_bool : OneF Tryz.prog 4 := ⟨⟨_, Tryz.underlying4, rfl⟩, by kernel_rfl⟩
theorem O_str : OneF Tryz.prog 9 := ⟨⟨_, Tryz.underlying9, rfl⟩, by kernel_rfl⟩
theorem O_pex : OneF Tryz.prog 45 := ⟨⟨_, Tryz.underlying45, rfl⟩, by kernel_rfl⟩
theorem O_sEx : OneF Tryz.prog 102 := ⟨⟨_, Tryz.underlying102, rfl⟩, by kernel_rfl⟩
theorem O_sSeg : OneF Tryz.prog 35 := ⟨⟨_, Tryz.underlying35, rfl⟩, by kernel_rfl⟩
theorem O_sSel : OneF Tryz.prog 42 := ⟨⟨_, Tryz.underlying42, rfl⟩, by kernel_rfl⟩
/-- Cells that a slice reads as, wherever they lie. -/
def Rdd (w : World) (k : Nat) (A : Option Addr) (m : Nat) (xs : List Value) : Prop := Reads w w.heap.size k A m xs
theorem Rdd.kept {ex : List Nat} {w y : World} {k m : Nat} {A : Option Addr} {xs : List Value} (h : Rdd w k A m xs) (hy : Kept ex w y) (hx : ∀ a, A = some a → 0 < m → a.block ∉ ex) : Rdd y k A m xs :=
  ⟨h.1, fun h0 => by
    obtain ⟨ad, e, hlt, hc⟩ := h.2 h0
    refine ⟨ad, e, Nat.lt_of_lt_of_le hlt hy.1, fun j u hu => ?_⟩
    have h1 : (ad.add j).block = ad.block := by unfold Addr.add; split <;> rfl
    rw [World.cell?_of_block (w := w) (w' := y) (by rw [h1]; exact hy.2 _ hlt (hx ad e h0))]; exact hc j u hu⟩
theorem Rdd.bel {w w' : World} {k m : Nat} {A : Option Addr} {xs : List Value} (h : Rdd w k A m xs) (hb : Bel w.heap.size w w') : Rdd w' k A m xs :=
  h.kept (ex := []) ⟨hb.size, fun b hl _ => hb.block b hl⟩ fun _ _ _ => List.not_mem_nil
theorem Rdd.old {w y : World} {k m : Nat} {A : Option Addr} {xs : List Value} (h : Rdd w k A m xs) (hy : Kept [] w y) : Rdd y k A m xs := h.kept hy fun _ _ _ => List.not_mem_nil
theorem own_reads {w : World} {base k n : Nat} {e : TypeId} {v : Value} {xs : List Value} (h : w.ownsRow base e k v n xs) : ∃ A c, v = .slice A n c ∧ (n ≤ c ∧ c ≤ maxLen) ∧ (∀ a, A = some a → base ≤ a.block ∧ a.spot = none) ∧ Rdd w k A n xs := by
  rcases h.2 with ⟨rfl, h0⟩ | ⟨g, cap, cur, rfl, hb, hg, hle, hm, _⟩
  · subst h0
    exact ⟨none, 0, rfl, ⟨Nat.le_refl _, by unfold maxLen; omega⟩, fun a e => (by cases e), ⟨h.1, fun h => absurd h (by omega)⟩⟩
  · refine ⟨_, cap, rfl, ⟨hle, hm⟩, fun a e => (by cases e; exact ⟨hb, rfl⟩), h.1, fun _ => ⟨_, rfl, (Array.getElem?_eq_some_iff.1 hg).1, fun j u hu => ?_⟩⟩
    have := h.cells (g := g) rfl j u hu
    rw [add_lit]; rw [add_lit] at this; simpa using this
section
variable (B1 B2 B3 A4 A5 : Option Addr) (m1 d1 m2 d2 m3 d3 c4 n5 c5 : Nat) (w : World)

end

end
/- An append of a string to a row of Own, whose block is known; a Builder in Own's words: what it wrote. -/
section
open Go.RowKit

theorem run_append_str {P : Program} {w : World} (base : Nat) (t u ty e : TypeId) (i : TypeInfo) (ht : P.underlying t = some (.slice e)) (hu : P.underlying u = some .string) (hi : P.info? e = some i) (hz : i.zero = some (.int .u8 0)) (hsize : i.size = 1) (hby : i.bytes = 1)
    (v : Value) (n : Nat) (xs : List Value) (hown : w.ownsRow base e 1 v n xs) (s : ByteArray) (h63 : n + s.size ≤ maxLen) (hbytes : n + s.size ≤ 140737488355328) (hbase : base ≤ w.heap.size) :
    ∃ v' w', (Builtin.append_ #[t, u] ty #[v, .string s]).run P w = .ok v' w' ∧ w'.ownsRow base e 1 v' (n + s.size) (xs ++ Lib.strCells s) ∧ w.grownBy w' v.ownBlock ∧ (v'.ownBlock = v.ownBlock ∨ v'.ownBlock = some w.heap.size) := by
  obtain ⟨v', w', hr, h2, h3, h4⟩ := Lib.run_append_own_string (P := P) (w := w) base t u ty e i ht hu hi hz hsize hby v n xs hown s h63 hbytes hbase
  refine ⟨v', w', hr, h2, h3, ?_⟩
  have hsmall : n + s.size ≤ 9223372036854775807 := by simp only [maxLen] at h63; omega
  rcases hown.2 with ⟨rfl, rfl⟩ | ⟨g, cap, cur, rfl, hbg, hg, hnc, hcm, hcs, htake⟩
  · by_cases hm : s.size = 0
    · left
      rw [h4.2 ⟨rfl, hm⟩]
    · have hr2 := run_append_nil_string (P := P) w t u ty e i (.int .u8 0) ht hu hi hz s (by omega) (by omega) (by rw [hby]; omega)
      rw [hr] at hr2
      injection hr2 with e1 e2
      right
      rw [e1]; rfl
  · by_cases hroom : n + s.size ≤ cap
    · have hcs' : cur.size = cap := by simpa using hcs
      have hr2 := Lib.run_append_room_string (P := P) (w := w) t u ty e i ht hu hi hsize g n cap cur hg s hroom (by omega)
      rw [hr] at hr2
      injection hr2 with e1 e2
      left
      rw [e1]; rfl
    · have hxl : xs.length = n := by simpa using hown.1
      have holds : ∀ j u, xs[j]? = some u → w.cell? ((⟨g, 0, none⟩ : Addr).add j) = some u := hown.cells (g := g) rfl
      have hr2 := Lib.run_append_grow_string (P := P) (w := w) t u ty e i (.int .u8 0) ht hu hi hz ⟨g, 0, none⟩ n cap xs (by rw [hsize]; simpa using hxl) holds s (by omega) (by omega) (by rw [hby]; exact growslice_fits (by omega) (by omega))
      rw [hr] at hr2
      injection hr2 with e1 e2
      right
      rw [e1]; rfl
theorem Own.permL' {X : List Nat} {w0 w : World} {L L' : List BlkE} {rs : List RowE} {J : World → Prop} (M : Own X w0 w L rs J) (h : L.Perm L') : Own X w0 w L' rs J := by
  have hp : (exO L rs).Perm (exO L' rs) := (h.map _).append_right _
  exact ⟨M.os, M.output, M.size, M.out, fun x hx => M.low x (h.mem_iff.2 hx), fun x hx => M.blk x (h.mem_iff.2 hx), M.row, hp.nodup_iff.1 M.nodup, fun y hy => M.always y ⟨hy.1, fun b h1 h2 => hy.2 b h1 fun h => h2 (hp.mem_iff.2 h)⟩⟩
theorem Blk.shape {w : World} {g : Nat} {T : TypeId} {cs : Array Value} (h : Blk w g T cs) : w.shape? g = some (T, cs.size) := by
  have h' : w.heap[g]? = some (.cells cs T (0, 0)) := h
  simp [World.shape?, h']
/-- A type whose first two cells are a Builder. -/
structure BT (P : Program) (T : TypeId) : Prop where
  lies : liesAt P P.depth T (2 / P.cellsOf T) 0 80 1 = true
set_option maxRecDepth 100000 in
theorem BT_b : BT Tryz.prog 80 := ⟨Tryz.Builder_Extra_169.liesBuilder⟩
set_option maxRecDepth 100000 in
theorem BT_w : BT Tryz.prog 82 := ⟨by kernel_rfl⟩
def byC (t : List UInt8) : List Value := Lib.byteCells t
/-- A Builder at a pointer: what it has written. -/
def WrS (w0 w : World) (g : Nat) (T : TypeId) (L : List BlkE) (rs : List RowE) (J : World → Prop) (t : List UInt8) : Prop :=
  ∃ p v, Own [] w0 w ((g, T, #[p, v]) :: L) ((v, 5, 1, t.length, byC t) :: rs) J ∧ (p = .pointer none ∨ p = .pointer (some ⟨g, 0, none⟩))

set_option maxRecDepth 100000 in
set_option maxHeartbeats 1000000 in
theorem cc_fresh' (b : Nat) (T : TypeId) (hT : BT Tryz.prog T) (w : World) (h0 : w.cell? ⟨b, 0, none⟩ = some (.pointer none)) (hsh : w.shape? b = some (T, 2)) (hfz : w.frozen? ⟨b, 0, none⟩ = false) :
    Calls Tryz.prog 82 #[.pointer (some ⟨b, 0, none⟩)] w fun e w' => e = .returned (.tuple #[]) ∧ w' = w.setCell ⟨b, 0, none⟩ (.pointer (some ⟨b, 0, none⟩)) := by
  obtain ⟨j, hj, hjs⟩ := Option.map_eq_some_iff.1 Tryz.Builder_Extra_169.sizeBuilder
  go_enter Tryz.func82, Tryz.ntmps82
  go_wp2
  rw [Lib.run_to_unsafe w ⟨b, 0, none⟩ Tryz.underlying77 Tryz.underlying159 hj (by rw [hjs]; decide) hsh (Nat.zero_lt_succ 1)]
  simp only [Result.andThen]
  rw [Oper.upon_value]
  go_wp2
  rw [run_callFunc_extern Tryz.func105 (by kernel_rfl) (by kernel_rfl) (by kernel_rfl) (e := Extern.AbiNoEscape.same) (by kernel_rfl)]
  rw [Lib.run_noEscape]
  simp only [Result.andThen]
  rw [Oper.upon_value]
  go_wp2
  rw [Lib.run_from_unsafe w ⟨b, 0, none⟩ Tryz.underlying159 Tryz.underlying77 hj hsh hT.lies]
  simp only [Result.andThen]
  rw [Oper.upon_value]
  go_wp2
  go_end0
  exact ⟨rfl, rfl⟩
section
variable {w0 : World} {L : List BlkE} {rs : List RowE} {J : World → Prop}
theorem wcc_any (g : Nat) (T : TypeId) (hT : BT Tryz.prog T) (t : List UInt8) (w : World) (h : WrS w0 w g T L rs J t) : Calls Tryz.prog 82 #[.pointer (some ⟨g, 0, none⟩)] w fun e w' => e = .returned (.tuple #[]) ∧ ∃ v, Own [] w0 w' ((g, T, #[.pointer (some ⟨g, 0, none⟩), v]) :: L) ((v, 5, 1, t.length, byC t) :: rs) J := by
  obtain ⟨p, v, M, hp⟩ := h
  have hb := M.blk (g, T, #[p, v]) (by simp)
  rcases hp with rfl | rfl
  · refine (cc_fresh' g T hT w (hb.cell 0) hb.shape (hb.frozen 0)).mono ?_
    rintro e w' ⟨rfl, rfl⟩
    exact ⟨rfl, v, M.setCell (Upd.here _ _)⟩
  · refine (cc_used g w (hb.cell 0)).mono ?_
    rintro e w' ⟨rfl, rfl⟩
    exact ⟨rfl, v, M⟩
end

section
variable {P : Program} {X : List Nat} {w0 w : World} {L : List BlkE} {rs : List RowE} {J : World → Prop} {ops : Array Oper} {rest : List Oper} {a : Act} {Q : Exit → Act → World → Prop} {tt : TypeId} {pos : String} {af : Array Edge}
theorem g_apS (T U : TypeId) (d : Tmp) {s x : Operand} (h : wpList P ops Q (⟨some d, .call { callee := .builtin .append, args := #[s, x], argTypes := #[T, U] }, tt, pos, af, none⟩ :: rest) a w) : wpList P ops Q (⟨some d, .call { callee := .builtin .append, args := #[s, x], argTypes := #[T, U] }, tt, pos, af, none⟩ :: rest) a w := h
/-- append to a row of bytes of a string. -/
theorem l_apS {t u e : TypeId} (F : SlF P t e 1 1 (.int .u8 0)) (hu : P.underlying u = some .string) {d : Tmp} {s x : Operand} {v : Value} {n : Nat} {xs : List Value} {str : ByteArray} (hs : a.eval s = v) (hx : a.eval x = .string str) (M : Own X w0 w L rs J) (hrow : (v, e, 1, n, xs) ∈ rs) (h63 : n + str.size ≤ maxLen) (hb : n + str.size ≤ 140737488355328)
    (h : ∀ v' w', (∀ rs', UpdR (v, e, 1, n, xs) (v', e, 1, n + str.size, xs ++ Lib.strCells str) rs rs' → Own X w0 w' L rs' J) → wpList P ops Q rest (a.put (some d) v') w') : wpList P ops Q (⟨some d, .call { callee := .builtin .append, args := #[s, x], argTypes := #[t, u] }, tt, pos, af, none⟩ :: rest) a w := by
  obtain ⟨i, hi, hv⟩ := Option.map_eq_some_iff.1 F.i
  simp only [Prod.mk.injEq] at hv
  obtain ⟨v', w', hr, h2, h3, h4⟩ := run_append_str (P := P) (w := w) w0.heap.size t u tt e i F.u hu hi hv.1 hv.2.1 hv.2.2 v n xs (M.row _ hrow) str h63 hb M.size
  refine wpList_plain rfl fun K hK => ?_
  unfold Oper.wp execOp
  simp only [resolve, invoke, builtin, Sem.run_bind, Sem.run_pure, Result.andThen_ok, List.map_toArray, List.map_cons, List.map_nil, hs, hx, hr]
  exact hK _ _ (h v' w' fun rs' hu => M.grow hu h2 h3 h4)
end
theorem O_su8 : OneF Tryz.prog 78 := ⟨⟨_, Tryz.underlying78, rfl⟩, by kernel_rfl⟩
theorem SL_su8 : SlF Tryz.prog 78 5 1 1 (.int .u8 0) := ⟨Tryz.underlying78, by kernel_rfl, rfl, by decide⟩
section
variable {w0 : World} {L : List BlkE} {rs : List RowE} {J : World → Prop}
theorem byC_app (t u : List UInt8) : byC (t ++ u) = byC t ++ byC u := by unfold byC Lib.byteCells; rw [List.map_append]
theorem byC_str (s : ByteArray) : Lib.strCells s = byC s.data.toList := by
  unfold byC Lib.byteCells Lib.strCells
  simp

set_option maxRecDepth 100000 in
set_option maxHeartbeats 2000000 in
theorem wws_any (g : Nat) (T : TypeId) (hT : BT Tryz.prog T) (t : List UInt8) (s : ByteArray) (w : World) (h : WrS w0 w g T L rs J t) (hl : t.length + s.size ≤ 1000000000) : Calls Tryz.prog 56 #[.pointer (some ⟨g, 0, none⟩), .string s] w fun e w' => e = .returned (.tuple #[.int .i64 s.size, .nilIface]) ∧ WrS w0 w' g T L rs J (t ++ s.data.toList) := by
  go_enter Tryz.func56, Tryz.ntmps56
  go_wp2_with (first
    | (go_at_call 82; (with_reducible refine (wcc_any g T hT t _ h).mono ?_); rintro e w' ⟨rfl, v, hM⟩; have M := Lib.hid hM; clear hM)
    | ((with_reducible refine g_ld 78 ?_); refine l_ld1 O_su8 rfl M.out (by repeat constructor) (by exact rfl) ?_)
    | ((with_reducible refine g_apS 78 9 14 ?_); refine l_apS SL_su8 Tryz.underlying9 rfl rfl M.out (by repeat constructor) (by unfold maxLen; omega) (by omega) ?_; intro vn w' Mn; replace Mn := Mn _ (by repeat constructor); replace M := Lib.hid Mn; clear Mn; obtain ⟨An, cn, hvn, -⟩ := own_reads (M.out.row (vn, _) (by repeat constructor)); simp only at hvn; subst hvn)
    | ((with_reducible refine g_st 78 ?_); refine l_st1 (v := .slice An (t.length + s.size) cn) O_su8 rfl rfl (by exact rfl) M.out (by repeat constructor) ?_; clear M; intro w' M))
  go_ret2
  refine ⟨rfl, .pointer (some ⟨g, 0, none⟩), .slice An (t.length + s.size) cn, ?_, .inr rfl⟩
  rw [byC_app, ← byC_str, List.length_append, show s.data.toList.length = s.size from len_toList s]
  exact M.out

set_option maxRecDepth 100000 in
set_option maxHeartbeats 2000000 in
theorem wwb_any (g : Nat) (T : TypeId) (hT : BT Tryz.prog T) (t : List UInt8) (c : UInt8) (w : World) (h : WrS w0 w g T L rs J t) (hl : t.length ≤ 1000000000) : Calls Tryz.prog 139 #[.pointer (some ⟨g, 0, none⟩), .int .u8 (c.toNat : Int)] w fun e w' => e = .returned .nilIface ∧ WrS w0 w' g T L rs J (t ++ [c]) := by
  go_enter Tryz.func139, Tryz.ntmps139
  go_wp2_with (first
    | (go_at_call 82; (with_reducible refine (wcc_any g T hT t _ h).mono ?_); rintro e w' ⟨rfl, v, hM⟩; have M := Lib.hid hM; clear hM)
    | ((with_reducible refine g_ld 78 ?_); refine l_ld1 O_su8 rfl M.out (by repeat constructor) (by exact rfl) ?_)
    | ((with_reducible refine g_bs 78 13 ?_); refine l_bs SL_su8 (cs := #[.int .u8 (c.toNat : Int)]) (by kernel_rfl) M.out ?_; clear M; intro gb w' hgb M; replace M := Lib.hid (M.out.permL' (List.Perm.swap _ _ _)))
    | ((with_reducible refine g_ap 78 14 ?_); refine l_apB SL_su8 rfl rfl M.out (by repeat constructor) (by repeat constructor) (by exact rfl) (by exact rfl) (by unfold maxLen; omega) (by omega) ?_; intro vn w' Mn; replace Mn := Mn _ (by repeat constructor); replace M := Lib.hid Mn; clear Mn; obtain ⟨An, cn, hvn, -⟩ := own_reads (M.out.row (vn, _) (by repeat constructor)); simp only at hvn; subst hvn)
    | ((with_reducible refine g_st 78 ?_); refine l_st1 (v := .slice An (t.length + 1) cn) O_su8 rfl rfl (by exact rfl) M.out (by repeat constructor) ?_; clear M; intro w' M))
  go_ret
  refine ⟨rfl, .pointer (some ⟨g, 0, none⟩), .slice An (t.length + 1) cn, ?_, .inr rfl⟩
  rw [byC_app, List.length_append, List.length_singleton]
  exact (M.out.permL' (List.Perm.swap _ _ _)).freeze.imp fun y h => h.1
end

end

end Go.Proofs.YtpcbcodmocmilaaGreatDoor
