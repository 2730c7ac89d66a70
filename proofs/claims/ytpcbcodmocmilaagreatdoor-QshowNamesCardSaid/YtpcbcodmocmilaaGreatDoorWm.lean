/- qlex: text, walked. -/
import Derived.Test.YtpcbcodmocmilaaGreatDoorG27
namespace Go.Proofs.YtpcbcodmocmilaaGreatDoor
open Go.RowKit

/-- What is returned of a string: its text, and how many bytes with both marks. -/
def TxE (o : Option (List UInt8 × Nat)) (e : Ending) : Prop :=
  match o with
  | none => e = .returned (.tuple #[.string ⟨#[]⟩, .int .i64 0])
  | some (t, k) => e = .returned (.tuple #[.string (bs t), .int .i64 ((k + 1 : Nat) : Int)])
theorem TxE.no {o : Option (List UInt8 × Nat)} (h : o = none) : TxE o (.returned (.tuple #[.string ⟨#[]⟩, .int .i64 0])) := by rw [h]; rfl
theorem TxE.yes {o : Option (List UInt8 × Nat)} {t : List UInt8} {k : Nat} {u : ByteArray} {m : Int} (h : o = some (t, k)) (h1 : u = bs t) (h2 : m = ((k + 1 : Nat) : Int)) : TxE o (.returned (.tuple #[.string u, .int .i64 m])) := by rw [h, h1, h2]; rfl
/-- What is behind p, with what was read ahead of it. -/
def txR (f : Nat) (mark : UInt8) (s : ByteArray) (p : Nat) (t : List UInt8) : Option (List UInt8 × Nat) := (txtF f mark (dr s p)).map fun x => (t ++ x.1, p - 1 + x.2)
theorem txR_none {f : Nat} {mark : UInt8} {s : ByteArray} {p : Nat} {t : List UInt8} (h : p < s.size) (hm : s[p] ≠ mark) (hc : charT mark (dr s p) = none) : txR (f + 1) mark s p t = none := by
  unfold txR txtF
  rw [dr, drop_cons s p h] at hc ⊢
  simp only; rw [if_neg hm, hc]; rfl
theorem txR_some {f : Nat} {mark : UInt8} {s : ByteArray} {p : Nat} {t : List UInt8} {x : Int} {n : Nat} (h : p < s.size) (hp : 1 ≤ p) (hm : s[p] ≠ mark) (hc : charT mark (dr s p) = some (x, n)) : txR (f + 1) mark s p t = txR f mark s (p + n) (t ++ putV x) := by
  unfold txR
  have e : dr s p = s[p] :: dr s (p + 1) := drop_cons s p h
  rw [← dr_dr s p n]
  rw [e] at hc ⊢
  rw [show txtF (f + 1) mark (s[p] :: dr s (p + 1)) = if s[p] = mark then some ([], 1) else match charT mark (s[p] :: dr s (p + 1)) with | none => none | some (x, n) => (txtF f mark ((s[p] :: dr s (p + 1)).drop n)).map fun (t, k) => (putV x ++ t, n + k) from rfl]
  simp only; rw [if_neg hm, hc]
  simp only [Option.map_map]
  congr 1
  funext y
  simp only [Function.comp, List.append_assoc, Prod.mk.injEq, true_and]
  omega
theorem txR_end {f : Nat} {mark : UInt8} {s : ByteArray} {p : Nat} {t : List UInt8} (h : s.size ≤ p) : txR f mark s p t = none := by
  unfold txR dr
  rw [drop_nil s p h]
  cases f <;> rfl
theorem txR_mark {f : Nat} {mark : UInt8} {s : ByteArray} {p : Nat} {t : List UInt8} (h : p < s.size) (hp : 1 ≤ p) (hm : s[p] = mark) : txR (f + 1) mark s p t = some (t, p) := by
  unfold txR txtF
  rw [dr, drop_cons s p h]
  simp only; rw [if_pos hm]
  simp; omega

set_option maxRecDepth 100000 in
set_option maxHeartbeats 4000000 in
theorem text_any (s : ByteArray) (mark : UInt8) (w : World) (hs : s.size ≤ 1000000) (h0 : 0 < s.size) (hm : s[0] = mark) :
    Calls Tryz.prog 73 #[.string s] w fun e w' => TxE (txtF s.size mark (dr s 1)) e ∧ Bel w.heap.size w w' := by
  have hmk := mark.toNat_lt
  have hm0 : (s[0].toNat : Int) = (mark.toNat : Int) := by rw [hm]
  go_enter Tryz.func73, Tryz.ntmps73
  go_wp2
  go_loopg [8, 9] (s.size - 1) (fun k _ _ wr => ∃ (p f : Nat) (t : List UInt8), k = s.size - p ∧ 1 ≤ p ∧ p ≤ s.size ∧ s.size + 1 ≤ p + f ∧ t.length ≤ 4 * p ∧ Hid (txtF s.size mark (dr s 1) = txR f mark s p t) ∧ Hid (TX w wr s mark p t))
  case atStart => exact ⟨1, s.size, [], by omega, by omega, by omega, by omega, by simp, Lib.hid (by unfold txR; cases txtF s.size mark (dr s 1) with | none => rfl | some x => simp), Lib.hid (by rw [← hm]; exact TX.start w s _)⟩
  case round =>
    obtain ⟨p, f, t, hgk, hp1, hp, hf, ht, HF, HT⟩ := hrel
    have HGK := Lib.hid hgk; clear hgk
    have c1 : wr.cell? ⟨w.heap.size, 0, none⟩ = some (.string s) := HT.out.1.cell 0
    have c4 : wr.cell? ⟨w.heap.size + 1, 0, none⟩ = some (.int .u8 mark.toNat) := HT.out.2.1.cell 0
    have c5 : wr.cell? ⟨w.heap.size + 1 + 1, 0, none⟩ = some (.int .i64 p) := HT.out.2.2.1.cell 0
    have hsz := HT.out.2.2.2.2.2
    obtain ⟨f', rfl⟩ : ∃ f', f = f' + 1 := ⟨f - 1, by omega⟩
    by_cases hlt : p < s.size
    · have hbi := s[p].toNat_lt
      by_cases hx : s[p] = mark
      · have HE := Lib.hid (HF.out.trans (txR_mark (t := t) (f := f') hlt hp1 hx))
        have hb : ((s[p].toNat : Int) != (mark.toNat : Int)) = false := by simp [hx]
        clear hx
        go_wp2
        go_quiet (fail)
        go_wp2
        go_region_with (go_at_call 35; refine (Tryz.Builder_String_any _ _ t _ (by exact HT.out.2.2.2.1) (by simp; omega)).mono ?_; rintro e w2 ⟨rfl, hbb⟩; have c6 : w2.cell? ⟨w.heap.size + 1 + 1, 0, none⟩ = some (.int .i64 p) := (hbb.cell (p := ⟨w.heap.size + 1 + 1, 0, none⟩) (by show w.heap.size + 1 + 1 < w.heap.size + 1 + 1 + 1; omega)).trans c5)
        all_goals
          go_wp2
          go_ret2
          exact ⟨TxE.yes HE.out (by rfl) (by rw [IntWalk.i64_in _ (by omega)]; omega), (HT.out.2.2.2.2.1.drewN _).trans ((Bel.of hbb).mono (by omega))⟩
      · have hb : ((s[p].toNat : Int) != (mark.toNat : Int)) = true := by
          rw [bne_iff_ne]; intro e; exact hx (UInt8.toNat_inj.1 (by omega))
        have hch := fun w' h1 h2 h3 => char_any w.heap.size (w.heap.size + 1 + 1) (w.heap.size + 1) p s mark w' hs hlt h1 h2 h3
        cases hc : charT mark (dr s p) with
        | none =>
          have HE := Lib.hid (HF.out.trans (txR_none (t := t) (f := f') hlt hx hc))
          rw [hc] at hch
          clear hc hx
          go_wp2
          go_quiet (fail)
          go_wp2_with (go_at_call 96; refine (hch _ (by exact c1) (by exact c5) (by exact c4)).mono ?_; rintro e w2 ⟨⟨m, rfl⟩, n2, rfl⟩)
          go_ret2
          exact ⟨TxE.no HE.out, HT.out.2.2.2.2.1.drewN _⟩
        | some xm =>
          obtain ⟨x, m⟩ := xm
          have hok := charT_val _ _ _ _ hc
          obtain ⟨hm0', hml⟩ := charT_len _ _ _ _ hc
          rw [dr, List.length_drop, len_toList] at hml
          have HF := Lib.hid (HF.out.trans (txR_some (t := t) (f := f') hlt hp1 hx hc))
          rw [hc] at hch
          have hx0 : 0 ≤ x := hok.1
          have HOK := Lib.hid hok
          have hlen := putV_len x
          have HLB := Lib.hid (show (Lib.byteCells t).length + (bs (putV x)).size ≤ 140737488355328 by rw [Lib.byteCells_length, ← len_toList, bs_list]; omega)
          clear hc hx hok
          go_wp2
          go_quiet (fail)
          go_wp2_with (first
            | (go_at_call 96; refine (hch _ (by exact c1) (by exact c5) (by exact c4)).mono ?_; rintro e w2 ⟨rfl, n2, rfl⟩)
            | (go_at_call 100; refine (uput_at x _ HOK.out).mono ?_; rintro e w2 ⟨rfl, hb2⟩; have HT2 : Hid (TX w w2 s mark p t) := Lib.hid (TX.bel HT.out (((Bel.refl wr.heap.size wr).drewN _).trans (Bel.of hb2))))
            | (go_at_call 56; refine (wrs_any _ _ (Lib.byteCells t) _ _ (by exact HT2.out.2.2.2.1) HLB.out (by have := HT2.out.2.2.2.2.2; omega)).mono ?_; rintro e w3 ⟨rfl, hib, hb3⟩; have HT3 : Hid (TX w w3 s mark p (t ++ putV x)) := Lib.hid (TX.wrote HT2.out hib hb3); have c6 := HT3.out.2.2.1.cell 0; have c7 := HT3.out.2.2.1.frozen 0))
          go_roundg (s.size - (p + m))
          case measure => have := HGK.out; simp; omega
          case rel => exact ⟨p + m, f', _, rfl, by omega, by omega, by omega, by simp; omega, HF, Lib.hid (by have := HT3.out.moved (p + m); rw [Int.natCast_add] at this; exact this)⟩
    · have HE := Lib.hid (HF.out.trans (txR_end (t := t) (f := f' + 1) (mark := mark) (show s.size ≤ p by omega)))
      go_wp2
      go_quiet (fail)
      go_wp2
      go_ret2
      exact ⟨TxE.no HE.out, HT.out.2.2.2.2.1.drewN _⟩

end Go.Proofs.YtpcbcodmocmilaaGreatDoor
