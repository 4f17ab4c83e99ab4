/-
  Walks: ReadSectors and WriteSectors of the program and of the reference.
-/
import Derived.Test.YthnebfcclkebeaaD2
import Derived.Test.YthnebfcclkebeaaD4
namespace Go.Proofs.Ythnebfcclkebeaa
open Go.RowKit

theorem empty_made (w : World) (e : TypeId) (s : Nat) : Own (w.alloc (.cells #[] e)) w.heap.size (w.heap.size + 1) e s (some ⟨w.heap.size, 0, none⟩) 0 0 [] :=
  Own.made (by simp) (Nat.le_refl _) (by omega) (by simp) (Nat.le_refl _) (by omega)
theorem fresh_empty (w : World) (e : TypeId) (s : Nat) : RetFresh w e s 0 [] (.returned (.slice (some ⟨w.heap.size, 0, none⟩) 0 0)) (w.alloc (.cells #[] e)) :=
  ⟨_, _, rfl, (empty_made w e s).wide (Nat.le_refl _) (by simp), (Below.refl _ _).alloc (Nat.le_refl _) _⟩
theorem fresh_nil (w : World) (e : TypeId) (s : Nat) : RetFresh w e s 0 [] (.returned (.slice none 0 0)) w := ⟨_, _, rfl, Own.nil _ _ _ _ _, Below.refl _ _⟩





end Go.Proofs.Ythnebfcclkebeaa
