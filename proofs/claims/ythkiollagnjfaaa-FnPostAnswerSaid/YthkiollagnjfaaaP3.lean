/-
  Walks: l20Disk draws some list of numbers.
-/
import Derived.Test.YthkiollagnjfaaaP2
import Derived.Test.YthkiollagnjfaaaD3
namespace Go.Proofs.Ythkiollagnjfaaa
open Go.RowKit

theorem Rd.keep {w w' : World} {R p : Nat} (h : Rd w R p) (hk : ∀ k, k ≤ R → w'.heap[k]? = w.heap[k]?) : Rd w' R p := by
  obtain ⟨A, n, c, bs, h⟩ := h
  exact ⟨A, n, c, bs, by rw [hk R (Nat.le_refl _)]; exact h.blk, h.see.keep fun q hq => World.cell?_of_block (hk _ (Nat.le_of_lt hq)), h.bd⟩
theorem Rd.lt {w : World} {R p : Nat} (h : Rd w R p) : R < w.heap.size := by
  obtain ⟨A, n, c, bs, h⟩ := h
  exact (Array.getElem?_eq_some_iff.1 h.blk).1
theorem Rd.alloc {w : World} {R p : Nat} (h : Rd w R p) (o : Obj) : Rd (w.alloc o) R p := h.keep fun k hk => Below.heap_alloc w o k (by have := h.lt; omega)
theorem Rd.below {w w' : World} {R p : Nat} (h : Rd w R p) (hb : Below w.heap.size w w') : Rd w' R p := h.keep fun k hk => hb.block k (by have := h.lt; omega)
theorem Rd.fr {w w' : World} {R p lo hi : Nat} (h : Rd w R p) (hf : Fr lo hi w w') (hR : R < lo) : Rd w' R p := h.keep fun k hk => hf.block k (by have := h.lt; omega) (.inl (by omega))
/-- What l20Disk leaves: a new list of at most 'most' numbers; the reader some places further; nothing else has changed. -/
def RetDisk (w : World) (R p most : Nat) (en : Ending) (w' : World) : Prop :=
  ∃ A n c d q, en = .returned (.slice A n c) ∧ Own w' w.heap.size w'.heap.size 3 1 A n c (ints d) ∧ n ≤ most ∧ (p ≤ q ∧ q ≤ p + 400) ∧ Rd w' R q ∧ Fr R (R + 1) w w'
def IsDraw (w wr : World) (R p most : Nat) (j : Int) (A : Option Addr) (n c : Nat) : Prop :=
  ∃ d q, (Own wr w.heap.size wr.heap.size 3 1 A n c (ints d) ∧ (n : Int) + j ≤ most) ∧ (p ≤ q ∧ (q : Int) + 4 * j ≤ p + 1 + 4 * most) ∧ Rd wr R q ∧ Fr R (R + 1) w wr
theorem pick5 (a b k : Int) (h0 : 0 ≤ k) (h1 : k < 5) : ∃ v : Int, (#[Value.int .i64 0, .int .i64 1, .int .i64 a, .int .i64 b, .int .i64 255] : Array Value)[k.toNat]? = some (.int .i64 v) := by
  have : k = 0 ∨ k = 1 ∨ k = 2 ∨ k = 3 ∨ k = 4 := by omega
  rcases this with rfl | rfl | rfl | rfl | rfl <;> exact ⟨_, rfl⟩
theorem pick2 (a b k : Int) (h0 : 0 ≤ k) (h1 : k < 2) : ∃ v : Int, (#[Value.int .i64 a, .int .i64 b] : Array Value)[k.toNat]? = some (.int .i64 v) := by
  have : k = 0 ∨ k = 1 := by omega
  rcases this with rfl | rfl <;> exact ⟨_, rfl⟩
theorem zeros_ints (n : Nat) : (madeCells #[Value.int .i64 0] n).toList = ints (List.replicate n 0) := by
  rw [toList_madeCells_one]; simp [ints]
theorem Own.keepOut {w w' : World} {lo hi s n c R : Nat} {e : TypeId} {A : Option Addr} {xs : List Value} (h : Own w lo hi e s A n c xs) (hf : Fr R (R + 1) w w') (hR : R < lo) : Own w' lo hi e s A n c xs := h.fr hf (.inr (by omega))

end Go.Proofs.Ythkiollagnjfaaa
