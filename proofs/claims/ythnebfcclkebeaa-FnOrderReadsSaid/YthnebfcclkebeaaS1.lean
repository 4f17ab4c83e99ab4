/-
  Words for structs that lie in memory: a block that stands, its cells, a result that holds a new slice. No function of the program in sight.
-/
import Derived.Test.YthnebfcclkebeaaKit
namespace Go.Proofs.Ythnebfcclkebeaa
open Go.RowKit

/-- A call's end: a value with a new slice of n elements in it; nothing that was there has changed. -/
def RetF (w : World) (e : TypeId) (s n : Nat) (xs : List Value) (f : Value → Value) (en : Ending) (w' : World) : Prop :=
  ∃ A c, en = .returned (f (.slice A n c)) ∧ Own w' w.heap.size w'.heap.size e s A n c xs ∧ Below w.heap.size w w'
/-- A call's end: marks in a slice of the caller's. -/
def RetMk (w : World) (lo hi : Nat) (e : TypeId) (s : Nat) (A : Option Addr) (n c : Nat) (xs : List Value) (m : Int) (en : Ending) (w' : World) : Prop :=
  en = .returned (.int .i64 m) ∧ Own w' lo hi e s A n c xs ∧ Fr lo hi w w'
theorem rowKeep {w w' : World} {g : Nat} {o : Obj} (e : w.heap[g]? = some o) (b : Below w.heap.size w w') : w'.heap[g]? = some o := by
  rw [b.block g (Array.getElem?_eq_some_iff.1 e).1]; exact e
theorem rowFr {w w' : World} {g lo hi : Nat} {o : Obj} (e : w.heap[g]? = some o) (f : Fr lo hi w w') (h : g < lo ∨ hi ≤ g) : w'.heap[g]? = some o := by
  rw [f.block g (Array.getElem?_eq_some_iff.1 e).1 h]; exact e
theorem rowLt {w : World} {g : Nat} {o : Obj} (e : w.heap[g]? = some o) : g < w.heap.size := (Array.getElem?_eq_some_iff.1 e).1
theorem rowSet {w : World} {g : Nat} {o : Obj} (e : w.heap[g]? = some o) (p : Addr) (u : Value) (h : g ≠ p.block) : (w.setCell p u).heap[g]? = some o := by
  rw [heap_setCell_other w p g u h]; exact e
theorem cells1 {w : World} {g : Nat} {a : Value} {t : TypeId} {fr : Nat × Nat} (e : w.heap[g]? = some (.cells #[a] t fr)) : w.cell? ⟨g, 0, none⟩ = some a := cell_of_row w g 0 _ t fr e
theorem cells3 {w : World} {g : Nat} {a b c : Value} {t : TypeId} {fr : Nat × Nat} (e : w.heap[g]? = some (.cells #[a, b, c] t fr)) :
    w.cell? ⟨g, 0, none⟩ = some a ∧ w.cell? ⟨g, 1, none⟩ = some b ∧ w.cell? ⟨g, 2, none⟩ = some c :=
  ⟨cell_of_row w g 0 _ t fr e, cell_of_row w g 1 _ t fr e, cell_of_row w g 2 _ t fr e⟩
theorem cells6 {w : World} {g : Nat} {a b c d x y : Value} {t : TypeId} {fr : Nat × Nat} (e : w.heap[g]? = some (.cells #[a, b, c, d, x, y] t fr)) :
    w.cell? ⟨g, 0, none⟩ = some a ∧ w.cell? ⟨g, 1, none⟩ = some b ∧ w.cell? ⟨g, 2, none⟩ = some c ∧ w.cell? ⟨g, 3, none⟩ = some d ∧ w.cell? ⟨g, 4, none⟩ = some x ∧ w.cell? ⟨g, 5, none⟩ = some y :=
  ⟨cell_of_row w g 0 _ t fr e, cell_of_row w g 1 _ t fr e, cell_of_row w g 2 _ t fr e, cell_of_row w g 3 _ t fr e, cell_of_row w g 4 _ t fr e, cell_of_row w g 5 _ t fr e⟩
theorem frzRow {w : World} {g : Nat} {cs : Array Value} {t : TypeId} (e : w.heap[g]? = some (.cells cs t (0, 0))) (i : Nat) : w.frozen? ⟨g, i, none⟩ = false := frozen_of_row w g i cs t e
theorem setRowAt {w : World} {g : Nat} {cs : Array Value} {t : TypeId} (h : w.heap[g]? = some (.cells cs t (0, 0))) (j : Nat) (u : Value) :
    (w.setCell ⟨g, j, none⟩ u).heap[g]? = some (.cells (cs.setIfInBounds j u) t (0, 0)) := heap_setCell_same w g j cs t u h
section
variable {w : World} {lo hi s n c : Nat} {e : TypeId} {A : Option Addr} {xs : List Value}
theorem Own.setOther (h : Own w lo hi e s A n c xs) (p : Addr) (u : Value) (hp : p.block < lo ∨ hi ≤ p.block) : Own (w.setCell p u) lo hi e s A n c xs :=
  h.keep fun g h1 h2 _ => heap_setCell_other w p g u (by omega)
theorem Sees.setOther {B : Nat} (h : Sees w B s A n c xs) (p : Addr) (u : Value) (hp : B ≤ p.block) : Sees (w.setCell p u) B s A n c xs :=
  h.keep fun q hq => World.cell?_of_block (heap_setCell_other w p q.block u (by omega))
end
/-- what a call that only makes memory leaves of the blocks laid just before it -/
theorem rows1 {w w1 : World} {o1 : Obj} (b : Below (w.alloc o1).heap.size (w.alloc o1) w1) : w1.heap[w.heap.size]? = some o1 ∧ w.heap.size + 1 ≤ w1.heap.size ∧ Below w.heap.size w w1 :=
  ⟨rowKeep (heap_alloc_new w _) b, by have := b.size; rwa [World.size_alloc] at this, below_later (below_new w _) b (Nat.le_refl _)⟩
theorem rows2 {w w1 : World} {o1 o2 : Obj} (b : Below ((w.alloc o1).alloc o2).heap.size ((w.alloc o1).alloc o2) w1) :
    w1.heap[w.heap.size]? = some o1 ∧ w1.heap[w.heap.size + 1]? = some o2 ∧ w.heap.size + 1 + 1 ≤ w1.heap.size ∧ Below w.heap.size w w1 := by
  obtain ⟨r, s, h⟩ := rows1 b
  rw [World.size_alloc] at r s
  exact ⟨rowKeep (rowKeep (heap_alloc_new w _) (below_new _ _)) b, r, s, below_later ((below_new w _).alloc (Nat.le_of_lt (by simp)) _) b (Nat.le_refl _)⟩
theorem rows3 {w w1 : World} {o1 o2 o3 : Obj} (b : Below (((w.alloc o1).alloc o2).alloc o3).heap.size (((w.alloc o1).alloc o2).alloc o3) w1) :
    w1.heap[w.heap.size]? = some o1 ∧ w1.heap[w.heap.size + 1]? = some o2 ∧ w1.heap[w.heap.size + 1 + 1]? = some o3 ∧ w.heap.size + 1 + 1 + 1 ≤ w1.heap.size ∧ Below w.heap.size w w1 := by
  obtain ⟨r, s, h⟩ := rows1 b
  simp only [World.size_alloc] at r s
  have r2 : (((w.alloc o1).alloc o2).alloc o3).heap[(w.alloc o1).heap.size]? = some o2 := rowKeep (heap_alloc_new (w.alloc o1) o2) (below_new _ _)
  rw [World.size_alloc] at r2
  exact ⟨rowKeep (rowKeep (rowKeep (heap_alloc_new w _) (below_new _ _)) (below_new _ _)) b, rowKeep r2 b, r, s, below_later (((below_new w _).alloc (Nat.le_of_lt (by simp)) _).alloc (Nat.le_of_lt (by simp; omega)) _) b (Nat.le_refl _)⟩
/-- a block of one cell, behind a store into it -/
theorem set1 {w : World} {g : Nat} {a : Value} {t : TypeId} (e : w.heap[g]? = some (.cells #[a] t (0, 0))) (u : Value) : (w.setCell ⟨g, 0, none⟩ u).heap[g]? = some (.cells #[u] t (0, 0)) := by
  rw [heap_setCell_same w g 0 _ t u e]; rfl
theorem RetF.of {w w' : World} {e : TypeId} {s n lo hi : Nat} {xs : List Value} {A : Option Addr} {c : Nat} {f : Value → Value} (o : Own w' lo hi e s A n c xs) (h1 : w.heap.size ≤ lo) (h2 : hi ≤ w'.heap.size) (hB : Below w.heap.size w w') :
    RetF w e s n xs f (.returned (f (.slice A n c))) w' := ⟨A, c, rfl, o.wide h1 h2, hB⟩
theorem newEmpty (w : World) (e : TypeId) (s : Nat) : Own (w.alloc (.cells #[] e)) w.heap.size (w.heap.size + 1) e s (some ⟨w.heap.size, 0, none⟩) 0 0 [] :=
  Own.made (by simp) (Nat.le_refl _) (by omega) (by simp) (Nat.le_refl _) (by omega)
end Go.Proofs.Ythnebfcclkebeaa
