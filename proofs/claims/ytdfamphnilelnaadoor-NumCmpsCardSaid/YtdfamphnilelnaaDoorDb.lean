/- num: size. -/
import Derived.Test.YtdfamphnilelnaaDoorNd
import Derived.Lib.BufferWrite
import Derived.Deep.RegionLaw
namespace Go.Proofs.YtdfamphnilelnaaDoor
open Go.RowKit Go.Lib

theorem u8_one : (Tryd.prog.info? 5).map (·.size) = some 1 := by kernel_rfl
abbrev ARR : TypeId := 56
abbrev Z20 : Array Value := #[.int .u8 0, .int .u8 0, .int .u8 0, .int .u8 0, .int .u8 0, .int .u8 0, .int .u8 0, .int .u8 0, .int .u8 0, .int .u8 0, .int .u8 0, .int .u8 0, .int .u8 0, .int .u8 0, .int .u8 0, .int .u8 0, .int .u8 0, .int .u8 0, .int .u8 0, .int .u8 0]
/-- 'copy(dst, s)', dst a whole row, s a string of whatever length. -/
theorem run_copy_min {P : Program} (w : World) (dT sT ty elem : TypeId) (g dLen dCap : Nat) (s : ByteArray) (cur : Array Value) (t : TypeId)
    (hu : P.underlying dT = some (.slice elem)) (hs : (P.info? elem).map (·.size) = some 1) (hg : w.heap[g]? = some (.cells cur t (0, 0))) (hle : cur.size = dLen) :
    (Builtin.copy_ #[dT, sT] ty #[.slice (some ⟨g, 0, none⟩) dLen dCap, .string s]).run P w =
      .ok (goInt (Nat.min s.size dLen)) (w.setRow g (byteCells (s.data.toList.take dLen) ++ cur.toList.drop (Nat.min s.size dLen)).toArray) := by
  have hlen : (byteCells (s.data.toList.take dLen)).length = Nat.min s.size dLen := by rw [byteCells_length, List.length_take, ← size_eq, Nat.min_comm]
  have hst := run_storeCells_at P g 0 t (byteCells (s.data.toList.take dLen)) 0 cur w hg (by rw [hlen]; have : Nat.min s.size dLen ≤ dLen := Nat.min_le_right s.size dLen; simp; omega) (byteCells_one _)
  have htk : List.take (Nat.min s.size dLen) (List.map (fun b : UInt8 => Value.int IntKind.u8 (b.toNat : Int)) s.data.toList) = byteCells (s.data.toList.take dLen) := by
    unfold byteCells
    rw [← List.map_take]
    congr 1
    have e : s.size = s.data.toList.length := size_eq s
    rcases Nat.le_total s.size dLen with h | h
    · rw [show Nat.min s.size dLen = s.size from Nat.min_eq_left h, List.take_of_length_le (by omega), List.take_of_length_le (by omega)]
    · rw [show Nat.min s.size dLen = dLen from Nat.min_eq_right h]
  rw [hlen] at hst
  simp only [Nat.add_zero, Nat.zero_add, List.take_zero, List.nil_append] at hst
  cases hq : P.info? elem with
  | none => simp [hq] at hs
  | some i =>
    simp [Builtin.copy_, run_underlying hu, Builtin.lenOf, Builtin.firstCells, sizeOf, typeInfo, hq]
    rw [htk, hst]
    simp [Result.andThen]
theorem step_copy_min {P : Program} {ops : Array Oper} {o : Oper} {a : Act} {w : World} {K : Act → World → Prop} {Q : Exit → Act → World → Prop} {E : Prop}
    (hg : o.guard = none) (d x : Operand) (dT sT : TypeId) (hop : o.op = Op.call { callee := Callee.builtin Builtin.copy, args := #[d, x], argTypes := #[dT, sT] })
    (elem : TypeId) (hu : P.underlying dT = some (.slice elem)) (hs : (P.info? elem).map (·.size) = some 1)
    (b dLen dCap : Nat) (hd : a.eval d = .slice (some ⟨b, 0, none⟩) dLen dCap) (t : ByteArray) (hx : a.eval x = .string t) (cur : Array Value) (ty : TypeId)
    (hrow : w.heap[b]? = some (.cells cur ty (0, 0))) (hle : cur.size = dLen)
    (hK : K (a.put o.dst (goInt (Nat.min t.size dLen))) (w.setRow b (byteCells (t.data.toList.take dLen) ++ cur.toList.drop (Nat.min t.size dLen)).toArray)) :
    if Region.wanted o (yielded ops a.tmps) = true then Oper.wp P o a w K Q else E := by
  have hw : Region.wanted o (yielded ops a.tmps) = true := by simp [Region.wanted, hg]
  rw [if_pos hw]
  have hrun := run_copy_min (P := P) w dT sT o.type elem b dLen dCap t cur ty hu hs hrow hle
  unfold Oper.wp
  simp [execOp, hop, resolve, invoke, builtin, hd, hx, hrun, Result.andThen]
  exact hK

/-- A value's digits in an array of 20. -/
def padV (l : L8) : Array Value := (byteCells (l.take 20) ++ Z20.toList.drop (Nat.min l.length 20)).toArray
def pbI (l : L8) (i : Nat) : Int := ((l.getD i 0).toNat : Int)
theorem padV_at (l : L8) (i : Nat) (h : i < 20) : (padV l)[i]? = some (.int .u8 (pbI l i)) := by
  unfold padV byteCells pbI
  rw [List.getElem?_toArray]
  rcases Nat.lt_or_ge i l.length with hl | hl
  · rw [List.getElem?_append_left (by simp; omega)]
    simp [h, List.getD_eq_getElem?_getD, hl]
  · have hlen : l.length < 20 := by omega
    rw [List.getElem?_append_right (by simp; omega)]
    have e1 : (List.map (fun b : UInt8 => Value.int IntKind.u8 (b.toNat : Int)) (l.take 20)).length = l.length := by simp; omega
    rw [e1, show Nat.min l.length 20 = l.length from Nat.min_eq_left (by omega), List.getElem?_drop, show l.length + (i - l.length) = i by omega]
    have hz : ∀ k, k < 20 → Z20.toList[k]? = some (.int .u8 0) := fun k hk => by
      show (List.replicate 20 (Value.int .u8 0))[k]? = _
      rw [List.getElem?_replicate, if_pos hk]
    rw [hz i h, List.getD_eq_getElem?_getD, List.getElem?_eq_none hl]; rfl
theorem pbI_bd (l : L8) (i : Nat) : 0 ≤ pbI l i ∧ pbI l i ≤ 255 := by unfold pbI; have := (l.getD i 0).toNat_lt; omega
/-- The comparing from a place on; n places are left. -/
def lexF (a b : L8) : Nat → Nat → Int
  | _, 0 => 0
  | i, n + 1 => if pbI a i < pbI b i then -1 else if pbI b i < pbI a i then 1 else lexF a b (i + 1) n
def sizeV (a b : NV) : Int := if a.p < b.p then -1 else if b.p < a.p then 1 else lexF a.d b.d 0 20
def SZ (w wx : World) (ca cb x y : Array Value) : Prop :=
  Blk wx w.heap.size 40 ca ∧ Blk wx (w.heap.size + 1) 40 cb ∧ Blk wx (w.heap.size + 1 + 1) ARR x ∧ Blk wx (w.heap.size + 1 + 1 + 1) ARR y ∧ Bel w.heap.size w wx
section
variable {w wx : World} {ca cb x y : Array Value}
theorem SZ.start (w : World) (ca cb : Array Value) : SZ w ((((w.alloc (.cells ca 40)).alloc (.cells cb 40)).alloc (.cells Z20 ARR)).alloc (.cells Z20 ARR)) ca cb Z20 Z20 := by
  refine ⟨(((Blk.new w _ _).alloc _).alloc _).alloc _, ((Blk.new1 w _ _ _).alloc _).alloc _, ?_, ?_, Bel.of (by (repeat' (first | (with_reducible exact Below.refl _ _) | (with_reducible refine Below.trans ?_ (below_drewN _ _ _)) | (with_reducible refine Below.alloc ?_ ?_ _) | (with_reducible refine Below.setCell ?_ ?_ _) | (with_reducible refine Below.drew ?_) | go_size)))⟩
  · have := (Blk.new1 (w.alloc (.cells ca 40)) (.cells cb 40) ARR Z20).alloc (.cells Z20 ARR); simpa using this
  · have := Blk.new1 ((w.alloc (.cells ca 40)).alloc (.cells cb 40)) (.cells Z20 ARR) ARR Z20; simpa using this
theorem SZ.drew (h : SZ w wx ca cb x y) : SZ w wx.drew ca cb x y := ⟨h.1, h.2.1, h.2.2.1, h.2.2.2.1, h.2.2.2.2.drew⟩
theorem SZ.drewN (h : SZ w wx ca cb x y) (n : Nat) : SZ w (wx.drewN n) ca cb x y := ⟨h.1, h.2.1, h.2.2.1, h.2.2.2.1, h.2.2.2.2.drewN n⟩
theorem bel_row {B g : Nat} {a w : World} (h : Bel B a w) (hB : B ≤ g) (cs : Array Value) : Bel B a (w.setRow g cs) :=
  h.trans ⟨rfl, rfl, by simp [World.setRow], fun k hk => setRow_other w g k cs (by omega)⟩
theorem SZ.setx (h : SZ w wx ca cb x y) (z : Array Value) : SZ w (wx.setRow (w.heap.size + 1 + 1) z) ca cb z y :=
  ⟨(setRow_other wx _ _ z (by omega)).trans h.1, (setRow_other wx _ _ z (by omega)).trans h.2.1, setRow_heap _ _ _ _ _ _ h.2.2.1, (setRow_other wx _ _ z (by omega)).trans h.2.2.2.1, bel_row h.2.2.2.2 (by omega) z⟩
theorem SZ.sety (h : SZ w wx ca cb x y) (z : Array Value) : SZ w (wx.setRow (w.heap.size + 1 + 1 + 1) z) ca cb x z :=
  ⟨(setRow_other wx _ _ z (by omega)).trans h.1, (setRow_other wx _ _ z (by omega)).trans h.2.1, (setRow_other wx _ _ z (by omega)).trans h.2.2.1, setRow_heap _ _ _ _ _ _ h.2.2.2.1, bel_row h.2.2.2.2 (by omega) z⟩
end

set_option maxRecDepth 100000 in
set_option maxHeartbeats 1000000 in
theorem size_any (ma mb : Bool) (a b : ByteArray) (pa pb : Int) (w : World) :
    Calls Tryd.prog 19 #[.agg #[.bool ma, .string a, .int .i64 pa], .agg #[.bool mb, .string b, .int .i64 pb]] w fun e w' => e = .returned (.int .i64 (sizeV ⟨ma, a.data.toList, pa⟩ ⟨mb, b.data.toList, pb⟩)) ∧ Bel w.heap.size w w' := by
  by_cases h1 : pa < pb
  · have HV := Lib.hid (show sizeV ⟨ma, a.data.toList, pa⟩ ⟨mb, b.data.toList, pb⟩ = -1 by unfold sizeV; rw [if_pos h1])
    go_enter Tryd.func19, Tryd.ntmps19
    go_wp2
    go_ret
    exact ⟨ret_int HV.out.symm, Bel.of (by (repeat' (first | (with_reducible exact Below.refl _ _) | (with_reducible refine Below.trans ?_ (below_drewN _ _ _)) | (with_reducible refine Below.alloc ?_ ?_ _) | (with_reducible refine Below.setCell ?_ ?_ _) | (with_reducible refine Below.drew ?_) | go_size)))⟩
  · by_cases h2 : pb < pa
    · have HV := Lib.hid (show sizeV ⟨ma, a.data.toList, pa⟩ ⟨mb, b.data.toList, pb⟩ = 1 by unfold sizeV; rw [if_neg h1, if_pos h2])
      go_enter Tryd.func19, Tryd.ntmps19
      go_wp2
      go_ret
      exact ⟨ret_int HV.out.symm, Bel.of (by (repeat' (first | (with_reducible exact Below.refl _ _) | (with_reducible refine Below.trans ?_ (below_drewN _ _ _)) | (with_reducible refine Below.alloc ?_ ?_ _) | (with_reducible refine Below.setCell ?_ ?_ _) | (with_reducible refine Below.drew ?_) | go_size)))⟩
    · obtain rfl : pa = pb := by omega
      have HV := Lib.hid (show sizeV ⟨ma, a.data.toList, pa⟩ ⟨mb, b.data.toList, pa⟩ = lexF a.data.toList b.data.toList 0 20 by unfold sizeV; rw [if_neg h1, if_neg h1])
      have HS0 := Lib.hid (SZ.start w #[.bool ma, .string a, .int .i64 pa] #[.bool mb, .string b, .int .i64 pa])
      clear h1 h2
      go_enter Tryd.func19, Tryd.ntmps19
      go_upto_region 6 with fail
      go_cut [20] (fun _ wx => Hid (SZ w wx #[.bool ma, .string a, .int .i64 pa] #[.bool mb, .string b, .int .i64 pa] (padV a.data.toList) Z20))
      case first =>
        go_region_law ((refine step_copy_min (by rfl) _ _ _ _ (by rfl) 5 (by exact Tryd.underlying52) u8_one (w.heap.size + 1 + 1) 20 20 (by rfl) a (by rfl) _ ARR HS0.out.drew.2.2.1 (by rfl) ?_))
        go_wp2
        go_meet
        case rel => exact Lib.hid (HS0.out.drew.setx _)
      case rest =>
        have HS := hcut; clear hcut HS0
        obtain ⟨hx1, hx2, hx3, hx4, hbe⟩ := HS.out
        obtain ⟨asz, ⟨a0, a1, a2⟩, i0, i1, i2⟩ := hx1.three
        obtain ⟨bsz, ⟨b0, b1, b2⟩, j0, j1, j2⟩ := hx2.three
        have hxs := hx3.lt; have hys := hx4.lt
        clear hx1 hx2
        clear hbe hx3 hx4
        go_upto_region 7 with fail
        go_cut [24] (fun _ wx => Hid (SZ w wx #[.bool ma, .string a, .int .i64 pa] #[.bool mb, .string b, .int .i64 pa] (padV a.data.toList) (padV b.data.toList)))
        case first =>
          go_region_law ((refine step_copy_min (by rfl) _ _ _ _ (by rfl) 5 (by exact Tryd.underlying52) u8_one (w.heap.size + 1 + 1 + 1) 20 20 (by rfl) b (by rfl) _ ARR HS.out.drew.2.2.2.1 (by rfl) ?_))
          go_wp2
          go_meet
          case rel => exact Lib.hid (HS.out.drew.sety _)
        case rest =>
          have HS1 := hcut; clear hcut HS asz a0 a1 a2 i0 i1 i2 bsz b0 b1 b2 j0 j1 j2 hxs hys
          go_wp2
          go_loopw [28] (fun i wr => ∃ k : Nat, k ≤ 20 ∧ i = .int .i64 k ∧ Hid (lexF a.data.toList b.data.toList 0 20 = lexF a.data.toList b.data.toList k (20 - k)) ∧ Hid (SZ w wr #[.bool ma, .string a, .int .i64 pa] #[.bool mb, .string b, .int .i64 pa] (padV a.data.toList) (padV b.data.toList))) (fun i _ => 20 - (intOf i).toNat)
          case atStart => exact ⟨0, by omega, rfl, Lib.hid rfl, HS1⟩
          case round =>
            clear HS1
            obtain ⟨k, hk, rfl, HL, HS⟩ := hrel
            obtain ⟨hx1, hx2, hx3, hx4, hbe⟩ := HS.out
            obtain ⟨asz, ⟨a0, a1, a2⟩, i0, i1, i2⟩ := hx1.three
            obtain ⟨bsz, ⟨b0, b1, b2⟩, j0, j1, j2⟩ := hx2.three
            have hxs := hx3.lt; have hys := hx4.lt
            clear hx1 hx2
            have HW := Lib.hid hbe
            by_cases hlt : k < 20
            · have hxk := (hx3.cell k).trans (padV_at a.data.toList k hlt)
              have hyk := (hx4.cell k).trans (padV_at b.data.toList k hlt)
              have hub := pbI_bd a.data.toList k
              have hvb := pbI_bd b.data.toList k
              have HL2 := Lib.hid (HL.out.trans (by rw [show 20 - k = (20 - (k + 1)) + 1 by omega, lexF] : _ = if pbI a.data.toList k < pbI b.data.toList k then -1 else if pbI b.data.toList k < pbI a.data.toList k then 1 else lexF a.data.toList b.data.toList (k + 1) (20 - (k + 1))))
              generalize pbI a.data.toList k = u at *
              generalize pbI b.data.toList k = v at *
              obtain ⟨hu0, hu1⟩ := hub
              obtain ⟨hv0, hv1⟩ := hvb
              clear hx3 hx4 hbe HL
              by_cases c1 : u < v
              · have HQ := Lib.hid (HV.out.trans (HL2.out.trans (if_pos c1)))
                go_wp2
                go_quiet (fail)
                go_wp2
                go_ret
                exact ⟨ret_int HQ.out.symm, by (repeat' (first | (with_reducible exact HW.out) | (with_reducible exact HB5.out) | (with_reducible refine Bel.setCell ?_ (by first | exact Nat.le_refl _ | (simp; omega) | omega | (simp <;> omega)) _) | (with_reducible refine Bel.alloc ?_ (by first | exact Nat.le_refl _ | (simp; omega) | omega | (simp <;> omega)) _) | (with_reducible refine Bel.drew ?_) | (with_reducible refine Bel.drewN ?_ _)))⟩
              · by_cases c2 : v < u
                · have HQ := Lib.hid (HV.out.trans (HL2.out.trans ((if_neg c1).trans (if_pos c2))))
                  go_wp2
                  go_quiet (fail)
                  go_wp2
                  go_quiet (fail)
                  go_wp2
                  go_ret
                  exact ⟨ret_int HQ.out.symm, by (repeat' (first | (with_reducible exact HW.out) | (with_reducible exact HB5.out) | (with_reducible refine Bel.setCell ?_ (by first | exact Nat.le_refl _ | (simp; omega) | omega | (simp <;> omega)) _) | (with_reducible refine Bel.alloc ?_ (by first | exact Nat.le_refl _ | (simp; omega) | omega | (simp <;> omega)) _) | (with_reducible refine Bel.drew ?_) | (with_reducible refine Bel.drewN ?_ _)))⟩
                · have HQ := Lib.hid (HL2.out.trans ((if_neg c1).trans (if_neg c2)))
                  go_wp2
                  go_quiet (fail)
                  go_wp2
                  go_quiet (fail)
                  go_wp2
                  go_roundw
                  case rel => exact ⟨k + 1, by omega, by go_num, HQ, Lib.hid (HS.out.drewN _)⟩
                  case measure => simp [intOf]; omega
            · have HQ := Lib.hid (HV.out.trans (HL.out.trans (by rw [show 20 - k = 0 by omega]; rfl : lexF a.data.toList b.data.toList k (20 - k) = 0)))
              clear hx3 hx4 hbe
              go_wp2
              go_ret
              exact ⟨ret_int HQ.out.symm, by (repeat' (first | (with_reducible exact HW.out) | (with_reducible exact HB5.out) | (with_reducible refine Bel.setCell ?_ (by first | exact Nat.le_refl _ | (simp; omega) | omega | (simp <;> omega)) _) | (with_reducible refine Bel.alloc ?_ (by first | exact Nat.le_refl _ | (simp; omega) | omega | (simp <;> omega)) _) | (with_reducible refine Bel.drew ?_) | (with_reducible refine Bel.drewN ?_ _)))⟩

end Go.Proofs.YtdfamphnilelnaaDoor
