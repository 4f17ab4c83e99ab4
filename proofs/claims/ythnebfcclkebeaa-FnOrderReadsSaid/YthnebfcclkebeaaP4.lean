/-
  Walks: the drawn arguments of the disk chapter.
-/
import Derived.Test.YthnebfcclkebeaaP3
import Derived.Deep.RegionWith
import Derived.Deep.DrawnRows
namespace Go.Proofs.Ythnebfcclkebeaa
open Go.RowKit
attribute [local go_sem ↓] Go.wp_at_zero Go.wp_at_succ

/-- What a draw of a list leaves: a new list of at most 65 numbers; nothing that was there has changed. -/
def RetDraw (w : World) (en : Ending) (w' : World) : Prop :=
  ∃ A n c d, en = .returned (.slice A n c) ∧ Own w' w.heap.size w'.heap.size 3 1 A n c (ints d) ∧ n ≤ 65 ∧ Below w.heap.size w w'
theorem draw_end {w w1 w2 : World} {en : Ending} (h1 : Below w.heap.size w w1) (h2 : RetDisk w1 w.heap.size 0 65 en w2) : RetDraw w en w2 := by
  obtain ⟨A, n, c, d, q, h3, h4, h5, _, _, h8⟩ := h2
  exact ⟨A, n, c, d, h3, h4.wide h1.size (Nat.le_refl _), h5, h8.below h1 (Nat.le_refl _) (Nat.le_refl _)⟩
theorem drawDiskSum_any (A : Option Addr) (n c B : Nat) (bs : List Int) (w : World) (h : Sees w B 1 A n c (byts bs)) (hB : B ≤ w.heap.size) (hb : ∀ v ∈ bs, 0 ≤ v ∧ v ≤ 255) :
    Calls Try.prog 38 #[.slice A n c] w (RetDraw w) := by
  go_enter Try.func38, Try.ntmps38
  go_wp2_with fail
  refine (open_any _ _ _ _ _ _ h hB hb).mono ?_
  rintro e w1 ⟨rfl, hr, hb1, _⟩
  go_wp2_with fail
  refine (disk_any w.heap.size 0 16 9 _ hr (by omega) (by omega) (by omega) (by omega)).mono ?_
  intro e w2 h2
  have H := Lib.hid (draw_end hb1 h2)
  obtain ⟨A2, n2, c2, d, q, rfl, _⟩ := h2
  go_wp2_with fail
  go_ret
  exact H.out

/-- a disk, a place and a list -/
def RetDraw3 (w : World) (en : Ending) (w' : World) : Prop :=
  ∃ A n c d A2 n2 c2 vs, ∃ a : Int, en = .returned (.tuple #[.slice A n c, .int .i64 a, .slice A2 n2 c2]) ∧ Own w' w.heap.size w'.heap.size 3 1 A n c (ints d) ∧ n ≤ 65 ∧ Own w' w.heap.size w'.heap.size 3 1 A2 n2 c2 (ints vs) ∧ n2 ≤ 65 ∧ (-1 ≤ a ∧ a ≤ 66) ∧ Below w.heap.size w w'
end Go.Proofs.Ythnebfcclkebeaa
