/-
  Words for a struct of six cells that lies in a block. No function of the program in sight.
-/
import Derived.Test.YthkiollagnjfaaaS1
namespace Go.Proofs.Ythkiollagnjfaaa
open Go.RowKit
abbrev st6 (w : World) (g : Nat) (a b c d x y : Value) : World :=
  (((((w.setCell ⟨g, 0, none⟩ a).setCell ⟨g, 1, none⟩ b).setCell ⟨g, 2, none⟩ c).setCell ⟨g, 3, none⟩ d).setCell ⟨g, 4, none⟩ x).setCell ⟨g, 5, none⟩ y
theorem frz6 {w : World} {g : Nat} {cs : Array Value} {t : TypeId} (e : w.heap[g]? = some (.cells cs t (0, 0))) :
    w.frozen? ⟨g, 0, none⟩ = false ∧ w.frozen? ⟨g, 1, none⟩ = false ∧ w.frozen? ⟨g, 2, none⟩ = false ∧ w.frozen? ⟨g, 3, none⟩ = false ∧ w.frozen? ⟨g, 4, none⟩ = false ∧ w.frozen? ⟨g, 5, none⟩ = false :=
  ⟨frzRow e 0, frzRow e 1, frzRow e 2, frzRow e 3, frzRow e 4, frzRow e 5⟩
section
variable {w : World} {g : Nat} {t : TypeId} {x0 x1 x2 x3 x4 x5 : Value}
theorem put0 (e : w.heap[g]? = some (.cells #[x0, x1, x2, x3, x4, x5] t (0, 0))) (u : Value) : (w.setCell ⟨g, 0, none⟩ u).heap[g]? = some (.cells #[u, x1, x2, x3, x4, x5] t (0, 0)) := by rw [heap_setCell_same w g 0 _ t u e]; rfl
theorem put1 (e : w.heap[g]? = some (.cells #[x0, x1, x2, x3, x4, x5] t (0, 0))) (u : Value) : (w.setCell ⟨g, 1, none⟩ u).heap[g]? = some (.cells #[x0, u, x2, x3, x4, x5] t (0, 0)) := by rw [heap_setCell_same w g 1 _ t u e]; rfl
theorem put2 (e : w.heap[g]? = some (.cells #[x0, x1, x2, x3, x4, x5] t (0, 0))) (u : Value) : (w.setCell ⟨g, 2, none⟩ u).heap[g]? = some (.cells #[x0, x1, u, x3, x4, x5] t (0, 0)) := by rw [heap_setCell_same w g 2 _ t u e]; rfl
theorem put3 (e : w.heap[g]? = some (.cells #[x0, x1, x2, x3, x4, x5] t (0, 0))) (u : Value) : (w.setCell ⟨g, 3, none⟩ u).heap[g]? = some (.cells #[x0, x1, x2, u, x4, x5] t (0, 0)) := by rw [heap_setCell_same w g 3 _ t u e]; rfl
theorem put4 (e : w.heap[g]? = some (.cells #[x0, x1, x2, x3, x4, x5] t (0, 0))) (u : Value) : (w.setCell ⟨g, 4, none⟩ u).heap[g]? = some (.cells #[x0, x1, x2, x3, u, x5] t (0, 0)) := by rw [heap_setCell_same w g 4 _ t u e]; rfl
theorem put5 (e : w.heap[g]? = some (.cells #[x0, x1, x2, x3, x4, x5] t (0, 0))) (u : Value) : (w.setCell ⟨g, 5, none⟩ u).heap[g]? = some (.cells #[x0, x1, x2, x3, x4, u] t (0, 0)) := by rw [heap_setCell_same w g 5 _ t u e]; rfl
theorem put6 (e : w.heap[g]? = some (.cells #[x0, x1, x2, x3, x4, x5] t (0, 0))) (a b c d x y : Value) : (st6 w g a b c d x y).heap[g]? = some (.cells #[a, b, c, d, x, y] t (0, 0)) :=
  put5 (put4 (put3 (put2 (put1 (put0 e a) b) c) d) x) y
theorem rowSet6 {k : Nat} {o : Obj} (e : w.heap[k]? = some o) (h : k ≠ g) (a b c d x y : Value) : (st6 w g a b c d x y).heap[k]? = some o :=
  rowSet (rowSet (rowSet (rowSet (rowSet (rowSet e _ a h) _ b h) _ c h) _ d h) _ x h) _ y h
theorem below6 {B : Nat} {a0 : World} (hb : Below B a0 w) (hg : B ≤ g) (a b c d x y : Value) : Below B a0 (st6 w g a b c d x y) :=
  (((((hb.setCell hg a).setCell hg b).setCell hg c).setCell hg d).setCell hg x).setCell hg y
theorem own6 {lo hi s n c' : Nat} {e : TypeId} {A : Option Addr} {xs : List Value} (o : Own w lo hi e s A n c' xs) (h : g < lo ∨ hi ≤ g) (a b c d x y : Value) : Own (st6 w g a b c d x y) lo hi e s A n c' xs :=
  (((((o.setOther _ a h).setOther _ b h).setOther _ c h).setOther _ d h).setOther _ x h).setOther _ y h
theorem size6 (w : World) (g : Nat) (a b c d x y : Value) : (st6 w g a b c d x y).heap.size = w.heap.size := by simp only [World.size_setCell]
end
end Go.Proofs.Ythkiollagnjfaaa
