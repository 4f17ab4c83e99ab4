/-
  What a law's walk knows of the boxes of its two struct parameters.
-/
import Derived.Test.YthnebfcclkebeaaC2
import Derived.Deep.RegionHeld3
namespace Go.Proofs.Ythnebfcclkebeaa
open Go.RowKit

/-- the first two new blocks hold o and o'; nothing that was there has changed -/
structure BX2 (w0 : World) (o o' : Obj) (W : World) : Prop where
  one : W.heap[w0.heap.size]? = some o
  two : W.heap[w0.heap.size + 1]? = some o'
  bel : Below w0.heap.size w0 W
theorem BX2.start (w : World) (o o' : Obj) : BX2 w o o' ((w.alloc o).alloc o') :=
  ⟨keepRow (heap_alloc_new w _) (below_new _ _), by have := heap_alloc_new (w.alloc o) o'; rwa [World.size_alloc] at this, (below_new w o).alloc (Nat.le_of_lt (by simp)) o'⟩
theorem BX2.keep {w0 : World} {o o' : Obj} {W W' : World} (h : BX2 w0 o o' W) (b : Below W.heap.size W W') : BX2 w0 o o' W' :=
  ⟨keepRow h.one b, keepRow h.two b, below_later h.bel b (Nat.le_refl _)⟩
theorem BX2.drew {w0 : World} {o o' : Obj} {W : World} (h : BX2 w0 o o' W) : BX2 w0 o o' W.drew := ⟨h.one, h.two, below_drewN h.bel 1⟩
theorem BX2.cells {w0 W : World} {a b c d a' b' c' d' : Value} {t t' : TypeId} (h : BX2 w0 (.cells #[a, b, c, d] t) (.cells #[a', b', c', d'] t') W) :
    (W.cell? ⟨w0.heap.size, 0, none⟩ = some a ∧ W.cell? ⟨w0.heap.size, 1, none⟩ = some b ∧ W.cell? ⟨w0.heap.size, 2, none⟩ = some c ∧ W.cell? ⟨w0.heap.size, 3, none⟩ = some d) ∧
    (W.cell? ⟨w0.heap.size + 1, 0, none⟩ = some a' ∧ W.cell? ⟨w0.heap.size + 1, 1, none⟩ = some b' ∧ W.cell? ⟨w0.heap.size + 1, 2, none⟩ = some c' ∧ W.cell? ⟨w0.heap.size + 1, 3, none⟩ = some d') :=
  ⟨cells4 h.one, cells4 h.two⟩
end Go.Proofs.Ythnebfcclkebeaa
