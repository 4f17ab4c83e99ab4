/-
  Walk: the law FnExactDiskValid returns true.
-/
import Derived.Test.YthjmjnekimkflaaD2
import Derived.Test.YthjmjnekimkflaaD3
namespace Go.Proofs.Ythjmjnekimkflaa
open Go.RowKit
theorem law_FnExactDiskValid (w : World) (A : Option Addr) (n c : Nat) (d : List Int) (h : Sees w w.heap.size 1 A n c (ints d)) (_hd : ∀ v ∈ d, -9223372036854775808 ≤ v ∧ v ≤ 9223372036854775807) :
    Calls Try.prog 4 #[.slice A n c] w (RetPure w (.bool true)) := by
  obtain rfl := h.int
  have hc1 := h.cap
  have hc2 := h.big
  by_cases hbail : 1048576 < d.length
  · go_enter Try.func4, Try.ntmps4
    go_wp2_with fail
    go_ret
    exact ⟨rfl, Below.refl _ _⟩
  have hB : Below w.heap.size w w := Below.refl _ _
  go_enter Try.func4, Try.ntmps4
  go_wp2_with fail
  refine (toIntS_any _ _ _ _ _ _ h hB.size (by omega)).mono ?_
  rintro e w1 ⟨At, ct, rfl, ot, b1⟩
  have s1 := b1.size
  replace h := h.below b1 hB.size
  replace hB := below_later hB b1 (Nat.le_refl _)
  clear b1
  go_wp2_with fail
  refine (specDiskValid_any _ _ _ _ _ _ ot.sees).mono ?_
  rintro e w' ⟨rfl, rfl⟩
  clear ot
  go_wp2_with fail
  refine (toIntS_any _ _ _ _ _ _ h hB.size (by omega)).mono ?_
  rintro e w2 ⟨Ax, cx, rfl, ox, b2⟩
  have s2 := b2.size
  replace h := h.below b2 hB.size
  replace hB := below_later hB b2 (Nat.le_refl _)
  clear b2
  go_wp2_with fail
  refine (implDiskValid_any _ _ _ _ _ _ ox.sees).mono ?_
  rintro e w' ⟨rfl, rfl⟩
  go_wp2_with fail
  refine (toIntS_any _ _ _ _ _ _ h hB.size (by omega)).mono ?_
  rintro e w3 ⟨Ay, cy, rfl, oy, b3⟩
  have s3 := b3.size
  replace ox := ox.below b3
  replace h := h.below b3 hB.size
  replace hB := below_later hB b3 (Nat.le_refl _)
  clear b3
  go_wp2_with fail
  refine (eqIntS_t _ _ _ _ _ _ _ _ _ _ ox.sees oy.sees).mono ?_
  rintro e w4 ⟨rfl, b4⟩
  have s4 := b4.size
  replace ox := ox.below b4
  replace oy := oy.below b4
  replace h := h.below b4 hB.size
  replace hB := below_later hB b4 (Nat.le_refl _)
  clear b4
  go_wp2_with fail
  go_ret
  exact ⟨rfl, hB⟩
end Go.Proofs.Ythjmjnekimkflaa
