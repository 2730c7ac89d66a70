/- qlex: text. -/
import Derived.Test.YtihfhohdnjbahaaDoorWk
import Derived.Test.YtihfhohdnjbahaaDoorWd
import Derived.Deep.CutBlock
import Derived.Deep.LoopGhost
namespace Go.Proofs.YtihfhohdnjbahaaDoor
open Go.RowKit

theorem uput_at (c : Int) (w : World) (h : okS c) :
    Calls Tryd.prog 36 #[.int .i64 c] w fun e w' => e = .returned (.string (bs (putV c))) ∧ Below w.heap.size w w' := by
  have h' := h
  unfold okS at h'
  rw [← put_val c h]; exact uput_any c w h'.1 (by omega)

/-- The text's memory: s, mark and at in boxes, the builder. -/
def TX (w wr : World) (s : ByteArray) (mark : UInt8) (p : Nat) (t : List UInt8) : Prop :=
  Blk wr w.heap.size 9 #[.string s] ∧ Blk wr (w.heap.size + 1) 5 #[.int .u8 mark.toNat] ∧ Blk wr (w.heap.size + 1 + 1) 3 #[.int .i64 p] ∧
  Lib.IsBuilder 62 5 (w.heap.size + 1 + 1 + 1) (w.heap.size + 1 + 1 + 1) (Lib.byteCells t) wr ∧ Bel w.heap.size w wr ∧ w.heap.size + 1 + 1 + 1 < wr.heap.size
theorem IsB_keep {T e : TypeId} {B b : Nat} {l : List Value} {w w' : World} (h : Lib.IsBuilder T e B b l w) (hk : ∀ k, B ≤ k → k < w.heap.size → w'.heap[k]? = w.heap[k]?) : Lib.IsBuilder T e B b l w' := by
  have key : ∀ p, Lib.BuilderAt T e B b p l w → Lib.BuilderAt T e B b p l w' := by
    rintro p ⟨hB, v, hb, hown, hne⟩
    refine ⟨hB, v, (hk b hB ?_).trans hb, ⟨hown.1, ?_⟩, hne⟩
    · rcases Nat.lt_or_ge b w.heap.size with h' | h'
      · exact h'
      · simp [Array.getElem?_eq_none h'] at hb
    · rcases hown.2 with h | ⟨g, cap, cur, h1, h2, h3, h4⟩
      · exact .inl h
      · exact .inr ⟨g, cap, cur, h1, h2, (hk g h2 (Array.getElem?_eq_some_iff.1 h3).1).trans h3, h4⟩
  exact h.elim (fun h => .inl (key _ h)) (fun h => .inr (key _ h))
theorem IsB_new (w : World) (T e : TypeId) : Lib.IsBuilder T e w.heap.size w.heap.size [] (w.alloc (.cells #[.pointer none, .slice none 0 0] T)) :=
  .inl ⟨Nat.le_refl _, .slice none 0 0, heap_alloc_new w _, ⟨by simp, .inl ⟨rfl, rfl⟩⟩, by simp [Value.ownBlock]⟩
theorem TX.start (w : World) (s : ByteArray) (mark : UInt8) : TX w ((((w.alloc (.cells #[.string s] 9)).alloc (.cells #[.int .u8 mark.toNat] 5)).alloc (.cells #[.int .i64 1] 3)).alloc (.cells #[.pointer none, .slice none 0 0] 62)) s mark 1 [] := by
  refine ⟨(((Blk.new w _ _).alloc _).alloc _).alloc _, ?_, ?_, ?_, (((((Bel.refl _ _).alloc (Nat.le_refl _) _).alloc (by simp) _).alloc (by simp; omega) _).alloc (by simp; omega) _), by simp⟩
  · have := Blk.new (w.alloc (.cells #[.string s] 9)) 5 #[.int .u8 mark.toNat]
    rw [show (w.alloc (.cells #[.string s] 9)).heap.size = w.heap.size + 1 by simp] at this
    exact (this.alloc _).alloc _
  · have := Blk.new ((w.alloc (.cells #[.string s] 9)).alloc (.cells #[.int .u8 mark.toNat] 5)) 3 #[.int .i64 1]
    rw [show ((w.alloc (.cells #[.string s] 9)).alloc (.cells #[.int .u8 mark.toNat] 5)).heap.size = w.heap.size + 1 + 1 by simp] at this
    exact this.alloc _
  · have := IsB_new (((w.alloc (.cells #[.string s] 9)).alloc (.cells #[.int .u8 mark.toNat] 5)).alloc (.cells #[.int .i64 1] 3)) 62 5
    rw [show (((w.alloc (.cells #[.string s] 9)).alloc (.cells #[.int .u8 mark.toNat] 5)).alloc (.cells #[.int .i64 1] 3)).heap.size = w.heap.size + 1 + 1 + 1 by simp] at this
    exact this
theorem TX.bel {w wr w2 : World} {s : ByteArray} {mark : UInt8} {p : Nat} {t : List UInt8} (h : TX w wr s mark p t) (hb : Bel wr.heap.size wr w2) : TX w w2 s mark p t :=
  ⟨h.1.bel hb h.1.lt, h.2.1.bel hb h.2.1.lt, h.2.2.1.bel hb h.2.2.1.lt, IsB_keep h.2.2.2.1 (fun k _ hk => hb.block k hk), h.2.2.2.2.1.next hb, Nat.lt_of_lt_of_le h.2.2.2.2.2 hb.size⟩
theorem TX.wrote {w wr w2 : World} {s : ByteArray} {mark : UInt8} {p : Nat} {t u : List UInt8} (h : TX w wr s mark p t) (h1 : Lib.IsBuilder 62 5 (w.heap.size + 1 + 1 + 1) (w.heap.size + 1 + 1 + 1) (Lib.byteCells t ++ Lib.strCells (bs u)) w2) (h2 : Below (w.heap.size + 1 + 1 + 1) wr w2) : TX w w2 s mark p (t ++ u) := by
  have hb := Bel.of h2
  refine ⟨h.1.bel hb (by omega), h.2.1.bel hb (by omega), h.2.2.1.bel hb (by omega), ?_, h.2.2.2.2.1.trans (hb.mono (by omega)), Nat.lt_of_lt_of_le h.2.2.2.2.2 hb.size⟩
  rw [Lib.strCells_eq, bs_list] at h1
  rw [show Lib.byteCells (t ++ u) = Lib.byteCells t ++ Lib.byteCells u by simp [Lib.byteCells]]
  exact h1
theorem TX.moved {w wr : World} {s : ByteArray} {mark : UInt8} {p : Nat} {t : List UInt8} (h : TX w wr s mark p t) (q : Nat) : TX w (wr.setCell ⟨w.heap.size + 1 + 1, 0, none⟩ (.int .i64 q)) s mark q t :=
  ⟨h.1.far (by simp <;> omega) _, h.2.1.far (by simp) _, h.2.2.1.set_ 0 _, IsB_keep h.2.2.2.1 (fun k hk _ => Below.heap_setCell wr _ _ k (by simp; omega)), h.2.2.2.2.1.setCell (by simp <;> omega) _, by simpa using h.2.2.2.2.2⟩

end Go.Proofs.YtihfhohdnjbahaaDoor
