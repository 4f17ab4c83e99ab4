/-
  Walks: the drawn arguments of the disk chapter.
-/
import Derived.Test.YtnhjooikeofkkaaP3
import Derived.Deep.RegionWith
import Derived.Deep.DrawnRows
namespace Go.Proofs.Ytnhjooikeofkkaa
open Go.RowKit
attribute [local go_sem ↓] Go.wp_at_zero Go.wp_at_succ

/-- What a draw of a list leaves: a new list of at most 65 numbers; nothing that was there has changed. -/
def RetDraw (w : World) (en : Ending) (w' : World) : Prop :=
  ∃ A n c d, en = .returned (.slice A n c) ∧ Own w' w.heap.size w'.heap.size 3 1 A n c (ints d) ∧ n ≤ 65 ∧ Below w.heap.size w w'
theorem draw_end {w w1 w2 : World} {en : Ending} (h1 : Below w.heap.size w w1) (h2 : RetDisk w1 w.heap.size 0 65 en w2) : RetDraw w en w2 := by
  obtain ⟨A, n, c, d, q, h3, h4, h5, _, _, h8⟩ := h2
  exact ⟨A, n, c, d, h3, h4.wide h1.size (Nat.le_refl _), h5, h8.below h1 (Nat.le_refl _) (Nat.le_refl _)⟩
/-- a disk, a place and a list -/
def RetDraw3 (w : World) (en : Ending) (w' : World) : Prop :=
  ∃ A n c d A2 n2 c2 vs, ∃ a : Int, en = .returned (.tuple #[.slice A n c, .int .i64 a, .slice A2 n2 c2]) ∧ Own w' w.heap.size w'.heap.size 3 1 A n c (ints d) ∧ n ≤ 65 ∧ Own w' w.heap.size w'.heap.size 3 1 A2 n2 c2 (ints vs) ∧ n2 ≤ 65 ∧ (-1 ≤ a ∧ a ≤ 66) ∧ Below w.heap.size w w'
theorem drawWrite_any (A : Option Addr) (n c B : Nat) (bs : List Int) (w : World) (h : Sees w B 1 A n c (byts bs)) (hB : B ≤ w.heap.size) (hb : ∀ v ∈ bs, 0 ≤ v ∧ v ≤ 255) :
    Calls Try.prog 4 #[.slice A n c] w (RetDraw3 w) := by
  go_enter Try.func4, Try.ntmps4
  go_wp2_with fail
  refine (open_any _ _ _ _ _ _ h hB hb).mono ?_
  rintro e w1 ⟨rfl, hr, hb1, _⟩
  go_wp2_with fail
  refine (disk_any w.heap.size 0 16 12 _ hr (by omega) (by omega) (by omega) (by omega)).mono ?_
  rintro e w2 ⟨A2, n2, c2, d, q, rfl, hown2, hn2, hq2, hr2, hf2⟩
  go_wp2_with fail
  refine (pick_any _ _ _ _ hr2 (by omega)).mono ?_
  rintro e w3 ⟨k, rfl, hk, hr3, hf3, hs3⟩
  have hk' : 0 ≤ k ∧ k ≤ 66 := by have := hk.2.1 (by omega); omega
  have hw1 := hb1.size
  have hRlt := hr.lt
  have hown3 := (hown2.keepOut hf3 hRlt).wide (Nat.le_refl _) hf3.size
  have hfr3 := hf2.trans hf3
  clear hk hs3 hown2 hf2 hf3 hr2
  go_wp2_with fail
  refine (disk_any w.heap.size (q + 1) 5 12 _ hr3 (by omega) (by omega) (by omega) (by omega)).mono ?_
  rintro e w4 ⟨A4, n4, c4, d4, q4, rfl, hown4, hn4, hq4, hr4, hf4⟩
  have hfr4 := hfr3.trans hf4
  have hown3' := (hown3.keepOut hf4 hRlt).wide hw1 hf4.size
  have hsz := hfr3.size
  have hown4' := hown4.wide (show w.heap.size ≤ w3.heap.size by omega) (Nat.le_refl _)
  go_wp2_with fail
  go_ret3
  exact ⟨A2, n2, c2, d, A4, n4, c4, d4, _, rfl, hown3', hn2, hown4', hn4, by omega, hfr4.below hb1 (Nat.le_refl _) (Nat.le_refl _)⟩
end Go.Proofs.Ytnhjooikeofkkaa
