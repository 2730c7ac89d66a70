/- Rows that grow, of elements that lie in memory themselves. -/
import Derived.Test.YtpcbcodmocmilaaDoorG10
namespace Go.Proofs.YtpcbcodmocmilaaDoor
open Go.RowKit

abbrev Rel (α : Type) := (Nat → Prop) → Nat → World → List Value → α → Prop
/-- A relation that keeps. -/
structure RelOk {α : Type} (k : Nat) (R : Rel α) : Prop where
  keep : ∀ {K K' : Nat → Prop} {m m' : Nat} {w w' : World} {cs : List Value} {x : α}, R K m w cs x → Kp K K' w w' → m ≤ m' → R K' m' w' cs x
  len : ∀ {K : Nat → Prop} {m : Nat} {w : World} {cs : List Value} {x : α}, R K m w cs x → cs.length = k
def RSel : Rel SelT := fun K m w cs x => SelC K (ExR K m w) w cs x
def RSeg : Rel SegT := fun K m w cs x => SegC K (ExR K m w) w cs x
def REx : Rel ExprT := fun K m w cs x => ExR K m w cs x
theorem RSel_ok : RelOk 9 RSel := ⟨fun h hk hm => SelC.keep h hk fun _ _ h => ExR.keep hk _ _ hm _ _ h, fun ⟨_, h, _⟩ => by rw [h]; rfl⟩
theorem RSeg_ok : RelOk 2 RSeg := ⟨fun h hk hm => SegC.keep h hk fun _ _ h => ExR.keep hk _ _ hm _ _ h, fun ⟨_, h, _⟩ => by rw [h]; rfl⟩
theorem REx_ok : RelOk 17 REx := ⟨fun h hk hm => ExR.keep hk _ _ hm _ _ h, fun {K m w cs x} h => by
  cases m with
  | zero => exact h.elim
  | succ m => obtain ⟨kv, qv, lv, rv, h, _⟩ := h; rw [h]; rfl⟩
theorem flat_at : ∀ (css : List (List Value)) (k : Nat), (∀ cs ∈ css, cs.length = k) → ∀ (i j : Nat), j < k → css.flatten[i * k + j]? = (css[i]?).bind fun cs => cs[j]?
  | [], _, _, _, _, _ => by simp
  | cs :: r, k, h, 0, j, hj => by
    rw [List.flatten_cons, List.getElem?_append_left (by rw [h cs (by simp)]; omega)]; simp
  | cs :: r, k, h, i + 1, j, hj => by
    rw [List.flatten_cons, List.getElem?_append_right (by rw [h cs (by simp), Nat.add_mul]; omega), h cs (by simp), show (i + 1) * k + j - k = i * k + j by rw [Nat.add_mul]; omega, flat_at r k (fun c hc => h c (by simp [hc])) i j hj]
    simp
section
variable {α : Type} {k : Nat} {T : TypeId} {R : Rel α} {m : Nat} {w0 wr w2 : World} {v : Value} {l : List α} {css : List (List Value)}
end
theorem info_sel : (Tryd.prog.info? 70).map (fun i => (i.zero, i.size, i.bytes)) = some (some (.agg #[.int .i64 0, .string ⟨#[]⟩, .int .i64 0, .int .i64 0, .int .i64 0, .int .i64 0, .bool false, .bool false, .pointer none]), 9, 72) := by kernel_rfl
theorem info_seg : (Tryd.prog.info? 66).map (fun i => (i.zero, i.size, i.bytes)) = some (some (.agg #[.bool false, .slice none 0 0]), 2, 32) := by kernel_rfl
theorem info_ex : (Tryd.prog.info? 97).map (fun i => (i.zero, i.size, i.bytes)) = some (some (.agg #[.int .i64 0, .slice none 0 0, .bool false, .slice none 0 0, .int .i64 0, .bool false, .int .i64 0, .int .i64 0, .string ⟨#[]⟩, .bool false, .slice none 0 0, .bool false, .int .i64 0, .int .i64 0, .string ⟨#[]⟩, .bool false, .slice none 0 0]), 17, 216) := by kernel_rfl

end Go.Proofs.YtpcbcodmocmilaaDoor
