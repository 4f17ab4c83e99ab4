/-
  Walk: the law FnExactBatchValid returns true.
-/
import Derived.Test.YthnebfcclkebeaaM2
import Derived.Test.YthnebfcclkebeaaM5
namespace Go.Proofs.Ythnebfcclkebeaa
open Go.RowKit
theorem law_FnExactBatchValid (w : World) (A : Option Addr) (n c : Nat) (l : List Cmd) (h : Sees w w.heap.size 4 A n c (cmdC l)) (size : Int) (hsz : -9223372036854775808 ≤ size ∧ size ≤ 9223372036854775807) :
    Calls Try.prog 5 #[.slice A n c, .int .i64 size] w (RetPure w (.bool true)) := by
  have hn := h.cmd
  have hc1 := h.cap
  have hc2 := h.big
  clear hn
  by_cases hbail : (1048576 : Int) - n < 0
  · have hz := szCommandS_any A n c 1048576 w (by omega) (by omega) (by omega)
    rw [if_pos hbail] at hz
    go_enter Try.func5, Try.ntmps5
    go_wp2_with fail
    refine hz.mono ?_
    rintro e w' ⟨rfl, rfl⟩
    go_wp2_with fail
    go_ret
    exact ⟨rfl, Below.refl _ _⟩
  have hz := szCommandS_any A n c 1048576 w (by omega) (by omega) (by omega)
  rw [if_neg hbail] at hz
  have hB : Below w.heap.size w w := Below.refl _ _
  go_enter Try.func5, Try.ntmps5
  go_wp2_with fail
  refine hz.mono ?_
  rintro e w' ⟨rfl, rfl⟩
  clear hz
  go_wp2_with fail
  refine (toCommandS_any _ _ _ _ _ _ h hB.size (by omega)).mono ?_
  rintro e w1 ⟨At, ct, rfl, ot, b1⟩
  have s1 := b1.size
  replace h := h.below b1 hB.size
  replace hB := below_later hB b1 (Nat.le_refl _)
  clear b1
  go_wp2_with fail
  refine (specBatchValid_any _ _ _ _ _ _ _ ot.sees (Nat.le_refl _) hsz.2).mono ?_
  rintro e w2 ⟨rfl, b2⟩
  have s2 := b2.size
  replace h := h.below b2 hB.size
  replace hB := below_later hB b2 (Nat.le_refl _)
  clear ot b2
  go_wp2_with fail
  refine (toCommandS_any _ _ _ _ _ _ h hB.size (by omega)).mono ?_
  rintro e w3 ⟨Ax, cx, rfl, ox, b3⟩
  have s3 := b3.size
  replace h := h.below b3 hB.size
  replace hB := below_later hB b3 (Nat.le_refl _)
  clear b3
  go_wp2_with fail
  refine (implBatchValid_any _ _ _ _ _ _ _ ox.sees (Nat.le_refl _) hsz.2).mono ?_
  rintro e w4 ⟨rfl, b4⟩
  have s4 := b4.size
  replace ox := ox.below b4
  replace h := h.below b4 hB.size
  replace hB := below_later hB b4 (Nat.le_refl _)
  clear b4
  go_wp2_with fail
  refine (toCommandS_any _ _ _ _ _ _ h hB.size (by omega)).mono ?_
  rintro e w5 ⟨Ay, cy, rfl, oy, b5⟩
  have s5 := b5.size
  replace ox := ox.below b5
  replace h := h.below b5 hB.size
  replace hB := below_later hB b5 (Nat.le_refl _)
  clear b5
  go_wp2_with fail
  refine (eqCommandS_t _ _ _ _ _ _ _ _ _ _ ox.sees oy.sees (by omega) (by omega)).mono ?_
  rintro e w6 ⟨rfl, b6⟩
  replace hB := below_later hB b6 (Nat.le_refl _)
  clear b6
  go_wp2_with fail
  go_ret
  exact ⟨rfl, hB⟩
end Go.Proofs.Ythnebfcclkebeaa
