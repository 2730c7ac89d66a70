/- qlex: signs, one. -/
import Derived.Test.YtihfhohdnjbahaaDoorUq
namespace Go.Proofs.YtihfhohdnjbahaaDoor
open Go.RowKit

set_option maxRecDepth 100000 in
set_option maxHeartbeats 1000000 in
theorem signs_any (w : World) :
    Calls Tryd.prog 23 #[] w fun e w' => e = .returned (.slice (some ⟨w.heap.size, 0, none⟩) 21 21) ∧ w' = w.alloc (.cells sgA 9) := by
  go_enter Tryd.func23, Tryd.ntmps23
  go_wp2
  go_ret
  exact ⟨rfl, rfl⟩
/-- What is returned of a token. -/
def tokVV (k : Int) (s : ByteArray) (n : Int) : Value := .agg #[.int .i64 k, .string s, .int .i64 n, .int .i64 0, .bool false]
def OneE (l : List UInt8) (e : Ending) : Prop :=
  match tokT l with
  | .error x => ∃ (k : Int) (s : ByteArray) (n m : Int), e = .returned (.tuple #[tokVV k s n, .int .i64 m, .int .i64 x])
  | .ok (k, t, v, n) => e = .returned (.tuple #[tokVV k (bs t) v, .int .i64 (n : Nat), .int .i64 0])
theorem OneE.no {l : List UInt8} {x : Int} (h : tokT l = .error x) (k : Int) (s : ByteArray) (n m : Int) : OneE l (.returned (.tuple #[tokVV k s n, .int .i64 m, .int .i64 x])) := by
  unfold OneE; rw [h]; exact ⟨k, s, n, m, rfl⟩
theorem OneE.yes {l : List UInt8} {k v : Int} {t : List UInt8} {n : Nat} (h : tokT l = .ok (k, t, v, n)) {s : ByteArray} {m : Int} (h1 : s = bs t) (h2 : m = n) : OneE l (.returned (.tuple #[tokVV k s v, .int .i64 m, .int .i64 0])) := by
  unfold OneE; rw [h, h1, h2]
end Go.Proofs.YtihfhohdnjbahaaDoor
