/-
  Walks: the copy of a list of numbers, the test whether two are equal, the marks that a law writes into one and looks for again; slices.Clone.
-/
import Derived.Test.YthkiollagnjfaaaD1
import Derived.Deep.OwnRows
namespace Go.Proofs.Ythkiollagnjfaaa
open Go.RowKit

theorem int_info : (Try.prog.info? 3).map (fun i => (i.zero, i.size, i.bytes)) = some (some (.int .i64 0), 1, 8) := by kernel_rfl
/-- The call writes the numbers from k on into the list, and returns the number behind the last. -/
def RetMark (w : World) (lo hi : Nat) (e : TypeId) (s : Nat) (A : Option Addr) (n c : Nat) (xs : List Value) (m : Int) (en : Ending) (w' : World) : Prop :=
  en = .returned (.int .i64 m) ∧ Own w' lo hi e s A n c xs ∧ Fr lo hi w w' ∧ w'.heap.size = w.heap.size
end Go.Proofs.Ythkiollagnjfaaa
