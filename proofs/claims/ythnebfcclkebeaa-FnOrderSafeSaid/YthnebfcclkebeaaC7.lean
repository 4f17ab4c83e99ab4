/-
  Walk: ExecuteCommand of the program.
-/
import Derived.Test.YthnebfcclkebeaaC6
import Derived.Deep.DeepCutAuto
namespace Go.Proofs.Ythnebfcclkebeaa
open Go.RowKit

theorem exD_64 (d : List Int) (cm : Cmd) : (exD d cm).length ≤ 64 := by
  unfold exD
  split
  · next h =>
    rw [Bool.and_eq_true] at h
    rw [xdisk_len d cm h.2]
    have := ((dval_iff d).1 h.1).1
    omega
  · simp
theorem exR_64 (d : List Int) (cm : Cmd) : (exR d cm).length ≤ 64 := by
  unfold exR
  split
  · next h =>
    rw [Bool.and_eq_true] at h
    have := ((dval_iff d).1 h.1).1
    unfold xread
    split
    · rw [List.length_take, List.length_drop]; omega
    · simp
  · simp
theorem RetPair.after {w w1 : World} {xs ys : List Int} {en : Ending} {w' : World} (h : RetPair w1 xs ys en w') (hB : Below w.heap.size w w1) : RetPair w xs ys en w' := by
  obtain ⟨A, c, A', c', mid, rfl, o, o', h1, h2, hb⟩ := h
  have := hB.size
  exact ⟨A, c, A', c', mid, rfl, o.wide this (Nat.le_refl _), o', by omega, h2, below_later hB hb (Nat.le_refl _)⟩
/-- behind a statement that leaves a pair of new slices: the box of the struct parameter stands, and nothing that was there has changed -/
def AtPair (w wx : World) (o : Obj) (xs ys : List Int) (x y : Value) : Prop :=
  wx.heap[w.heap.size]? = some o ∧ ∃ A c A' c' lo mid, x = .slice A xs.length c ∧ y = .slice A' ys.length c' ∧ Own wx lo mid 3 1 A xs.length c (ints xs) ∧ Own wx mid wx.heap.size 3 1 A' ys.length c' (ints ys) ∧ w.heap.size < lo ∧ lo ≤ mid ∧ mid ≤ wx.heap.size ∧ Below w.heap.size w wx
theorem pair_nil {w W : World} (hB : Below w.heap.size w W) : RetPair w [] [] (.returned (.tuple #[.slice none 0 0, .slice none 0 0])) W :=
  RetPair.of (Own.nil _ _ W.heap.size _ _) (Own.nil _ _ W.heap.size _ _) hB.size (Nat.le_refl _) (Nat.le_refl _) hB
end Go.Proofs.Ythnebfcclkebeaa
