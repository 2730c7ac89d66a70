/- marks.Places and marks.Parens. -/
import Derived.Test.YtppeahlnpidheaaJc
namespace Go.Proofs.Ytppeahlnpidheaa
open Go.RowKit Go.Shelf

attribute [local go_sem] Oper.semAt_some

set_option maxHeartbeats 1000000 in
theorem each_in (n : Nat) (s : ByteArray) (w : World) :
    CallsIn Fence.wide n Try.prog 23 #[.string s] w fun e w' => e = .returned (.func (.func 30) #[] #[.pointer (some ⟨w.heap.size, 0, none⟩)]) ∧ w' = w.alloc (.cells #[.string s] 9) := by
  refine callsIn_of_wp Try.func23 rfl trivial ?_ rfl
  simp only [Try.ntmps23, List.size_toArray, List.length_cons, List.length_nil, Nat.reduceAdd, Nat.reduceSub, Array.replicate_succ, Array.replicate_zero, List.push_toArray, List.append_toArray, List.nil_append, List.cons_append]
  gi_wp2
  go_ret
  exact ⟨rfl, rfl⟩

theorem each_stops (n : Nat) (hn : 1 ≤ n) (Bn : Nat) (s : ByteArray) (hs : s.size ≤ maxLen - 2) (w : World) (hb : Bn < w.heap.size)
    (hc : w.cell? ⟨Bn, 0, none⟩ = some (.string s)) :
    SeqStopsK Fence.wide n Try.prog 30 #[.pointer (some ⟨Bn, 0, none⟩)] (fun x : Nat × UInt8 => #[Value.int .i64 x.1, .int .u8 x.2.toNat]) (KpB Bn) (fun ys => ys = mk 0 s.data.toList 0) (fun _ => True) (mk 0 s.data.toList 0).length w := fun l J Jx W hW _ _ hY h0 =>
  each1_in n hn l Bn s hs J Jx hY W ((hW.cell (p := ⟨Bn, 0, none⟩) hb).trans hc) h0

theorem info_int : (Try.prog.info? 3).map (fun i => (i.zero, i.size, i.bytes)) = some (some (.int .i64 0), 1, 8) := by kernel_rfl
theorem info_bool : (Try.prog.info? 4).map (fun i => (i.zero, i.size, i.bytes)) = some (some (.bool false), 1, 1) := by kernel_rfl

/-- Another box behind an append that is stored into a box. -/
theorem _root_.Go.Boxed.appended2 {W w1 : World} {n₀ B B' : Nat} {t e : TypeId} {size : Nat} {u v : Value} {k : Nat} {xs : List Value} {tmp : Obj}
    (hS : Boxed W B t u) (hrow : W.ownsRow n₀ e size v k xs) (hgrow : (W.alloc tmp).grownBy w1 v.ownBlock) (hte : t ≠ e) (hne : B ≠ B') (v' : Value) : Boxed (w1.setCell ⟨B', 0, none⟩ v') B t u :=
  ((hS.alloc tmp).kept hgrow (hS.not_row hte hrow)).other hne v'

def encP (x : Nat × UInt8) : Value := .int .i64 x.1

set_option maxRecDepth 100000 in
set_option maxHeartbeats 2000000 in
theorem places_in (n : Nat) (hn : 3 ≤ n) (s : ByteArray) (hs : s.size * 8 ≤ 140737488355328) (w : World) :
    CallsIn Fence.wide n Try.prog 9 #[.string s] w fun e W' => ∃ v, e = .returned v ∧ W'.ownsRow w.heap.size 3 1 v (mk 0 s.data.toList 0).length ((mk 0 s.data.toList 0).map encP) ∧ (v = .slice none 0 0 ↔ mk 0 s.data.toList 0 = []) ∧ Below w.heap.size w W' := by
  have h1 : 1 ≤ n := by omega
  have hml : (mk 0 s.data.toList 0).length ≤ s.size := by have := mk_len 0 s.data.toList 0; simpa using this
  obtain ⟨i0, hi, hz0, hz1, hz2⟩ := info_parts info_int
  refine callsIn_of_wp_marks Try.func9 rfl trivial ?_ rfl
  simp only [Try.ntmps9, List.size_toArray, List.length_cons, List.length_nil, Nat.reduceAdd, Nat.reduceSub, Array.replicate_succ, Array.replicate_zero, List.push_toArray, List.append_toArray, List.nil_append, List.cons_append]
  gi_wp2_with (refine ⟨trivial, ?_⟩; gi_at_call 23; refine (each_in (n - 1) _ _).mono ?_; rintro e w' ⟨rfl, rfl⟩)
  have bO := Boxed.new w 26 (.slice none 0 0)
  have bN := Boxed.new (w.alloc (.cells #[.slice none 0 0] 26)) 9 (.string s)
  rw [World.size_alloc] at bN
  have hB0 : Below w.heap.size w ((w.alloc (.cells #[.slice none 0 0] 26)).alloc (.cells #[.string s] 9)) := ((Below.refl _ w).alloc (Nat.le_refl _) _).alloc (by simp) _
  refine wpIn_rangeFunc_ownG rfl h1 (gf := 30) (lb := #[.pointer (some ⟨w.heap.size + 1, 0, none⟩)]) rfl trivial (enters_of Try.func30 (by kernel_rfl) rfl)
    (each_stops (n - 1) (by omega) (w.heap.size + 1) s (by unfold maxLen; omega) _ (by simp) bN.cell) KpB.t (KpB.b (by simp)) (Below.refl _ _) (fun _ => rfl)
    (fun pre W => (∃ v, Boxed W w.heap.size 26 v ∧ W.ownsRow w.heap.size 3 1 v pre.length (pre.map encP) ∧ (v = .slice none 0 0 ↔ pre = [])) ∧ Boxed W (w.heap.size + 1) 9 (.string s) ∧ Below w.heap.size w W)
    (fun _ _ _ => False)
    (OwnFrom.and (Own.from (holdsRow_own w.heap.size w.heap.size 26 3 1 (fun pre => pre.length) (fun pre => pre.map encP) (fun pre v => v = .slice none 0 0 ↔ pre = [])) _) (OwnFrom.and (Own.from (boxed_own (w.heap.size + 1) 9 (fun _ => .string s)) _) (ownFrom_below (Nat.le_refl _) (by simp; omega))))
    (fun _ _ _ _ _ hs _ _ => hs)
    ⟨⟨_, bO.alloc _, World.ownsRow_nil _ _ _ _, by simp⟩, bN, hB0⟩
    (fun x => { tmps := #[.string s, undef, .slice none 0 0, .pointer (some ⟨w.heap.size, 0, none⟩), .int .i64 x.1, .string s, .func (.func 30) #[] #[.pointer (some ⟨w.heap.size + 1, 0, none⟩)], .int .i64 x.1, .int .u8 x.2.toNat, undef, undef, undef, undef, undef], defers := [] }) ?assign ?body ?done ?stop
  case assign =>
    intro l x W K hK
    gi_wp2
    exact hK
  case body =>
    rintro l pre x W ⟨⟨v, hv, hrow, hnil⟩, hS, hB⟩ hlt
    have hc := hv.cell
    gi_wp2_with (gi_at_builtin; refine wpListIn_append_own _ rfl _ _ 26 rfl w.heap.size 3 i0 (.int .i64 0) 1 8 Try.underlying26 hi hz0 hz1 hz2 rfl (by decide) _ _ _ rfl (hrow.alloc _) ⟨W.heap.size, 0, none⟩ 1 1 [.int .i64 x.1] rfl rfl (cell_one_new _ _ _) (by simp [Value.oneCell']) (by unfold maxLen; omega) (by omega) (by have := hB.size; simp; omega) ?_; intro v' w1 hown' hgrow _; obtain ⟨g', cap', rfl⟩ := ownsRow_succ hown'; obtain ⟨hv1, hv2, hr2, hk2, hb2⟩ := hv.appended (by decide) hrow hB.size (Nat.le_refl _) hown' hgrow; have hc1 := hv1.cell; have hf1 := hv1.frozen; have hS2 := hS.appended2 hrow hgrow (by decide) (by omega : w.heap.size + 1 ≠ w.heap.size) (.slice (some ⟨g', 0, none⟩) (pre.length + 1) cap'))
    exact ⟨hk2.from _, KpB.box hS hS2, ⟨_, hv2, by simpa [encP] using hr2, by simp⟩, hS2, hB.trans hb2⟩
  case done =>
    rintro D ys W hD rfl ⟨⟨v, hv, hrow, hnil⟩, hS, hB⟩ hK
    have hc := hv.cell
    gi_wp2
    refine ⟨by simp, .inl ⟨_, _, rfl, run_takeDeferred hK, ?_⟩⟩
    exact ⟨_, results_tmp rfl _ _ _, v, rfl, ownsRow_putObj hrow _ hK rfl, hnil, hB.trans (belowK_b (w := w) (Nat.le_refl _) W D _ _ (by simp at hD; omega) hK rfl rfl)⟩
  case stop =>
    rintro D c pre W _ _ h _
    exact h.elim

end Go.Proofs.Ytppeahlnpidheaa
