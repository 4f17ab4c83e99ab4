/-
  Walks: the rings' helpers of the laws (toRing, eqRing, szRing, markRing, heldRing).
-/
import Derived.Test.YtcbdphflockopaaD5
import Derived.Test.YtcbdphflockopaaS2
import Derived.Test.YtcbdphflockopaaPlainR
namespace Go.Proofs.Ytcbdphflockopaa
open Go.RowKit
/-- a ring as a value of the machine -/
def ringV (h t : Int) (v : Value) : Value := .agg #[v, .int .i64 h, .int .i64 t]
theorem set30 {w : World} {g : Nat} {a b c : Value} {t : TypeId} (e : w.heap[g]? = some (.cells #[a, b, c] t (0, 0))) (u : Value) : (w.setCell ⟨g, 0, none⟩ u).heap[g]? = some (.cells #[u, b, c] t (0, 0)) := by
  rw [heap_setCell_same w g 0 _ t u e]; rfl
theorem set31 {w : World} {g : Nat} {a b c : Value} {t : TypeId} (e : w.heap[g]? = some (.cells #[a, b, c] t (0, 0))) (u : Value) : (w.setCell ⟨g, 1, none⟩ u).heap[g]? = some (.cells #[a, u, c] t (0, 0)) := by
  rw [heap_setCell_same w g 1 _ t u e]; rfl
theorem set32 {w : World} {g : Nat} {a b c : Value} {t : TypeId} (e : w.heap[g]? = some (.cells #[a, b, c] t (0, 0))) (u : Value) : (w.setCell ⟨g, 2, none⟩ u).heap[g]? = some (.cells #[a, b, u] t (0, 0)) := by
  rw [heap_setCell_same w g 2 _ t u e]; rfl
theorem frz3 {w : World} {g : Nat} {cs : Array Value} {t : TypeId} (e : w.heap[g]? = some (.cells cs t (0, 0))) :
    w.frozen? ⟨g, 0, none⟩ = false ∧ w.frozen? ⟨g, 1, none⟩ = false ∧ w.frozen? ⟨g, 2, none⟩ = false := ⟨frzRow e 0, frzRow e 1, frzRow e 2⟩
def ringEq (x y : Rng) : Bool := decide (x.slots = y.slots ∧ x.head = y.head ∧ x.tail = y.tail)
end Go.Proofs.Ytcbdphflockopaa
