/-
  Walk: the law FnExactOrderSafe returns true.
-/
import Derived.Test.YthnebfcclkebeaaM2
import Derived.Test.YthnebfcclkebeaaM9
import Derived.Test.YthnebfcclkebeaaD3
namespace Go.Proofs.Ythnebfcclkebeaa
open Go.RowKit
set_option linter.unusedSimpArgs false
set_option linter.unusedVariables false
set_option maxHeartbeats 4000000 in
theorem law_FnExactOrderSafe (w : World) (A : Option Addr) (n c : Nat) (l : List Cmd) (h : Sees w w.heap.size 4 A n c (cmdC l)) (A' : Option Addr) (n' c' : Nat) (o : List Int) (h' : Sees w w.heap.size 1 A' n' c' (ints o)) (hob : ∀ v ∈ o, -9223372036854775808 ≤ v ∧ v ≤ 9223372036854775807) :
    Calls Try.prog 11 #[.slice A n c, .slice A' n' c'] w (RetPure w (.bool true)) := by
  obtain rfl := h.cmd
  have hc1 := h.cap
  have hc2 := h.big
  clear hob
  obtain rfl := h'.int
  have hc3 := h'.cap
  have hc4 := h'.big
  by_cases hb0 : 1048576 < o.length
  · go_enter Try.func11, Try.ntmps11
    go_wp2_with fail
    go_ret
    exact ⟨rfl, Below.refl _ _⟩
  by_cases hbail : (1048576 : Int) - l.length < 0
  · have hz := szCommandS_any A l.length c 1048576 w (by omega) (by omega) (by omega)
    rw [if_pos hbail] at hz
    go_enter Try.func11, Try.ntmps11
    go_wp2_with fail
    refine hz.mono ?_
    rintro e w' ⟨rfl, rfl⟩
    go_wp2_with fail
    go_ret
    exact ⟨rfl, Below.refl _ _⟩
  have hz := szCommandS_any A l.length c 1048576 w (by omega) (by omega) (by omega)
  rw [if_neg hbail] at hz
  have hB : Below w.heap.size w w := Below.refl _ _
  go_enter Try.func11, Try.ntmps11
  go_wp2_with fail
  refine (hz).mono ?_
  rintro e w' ⟨rfl, rfl⟩
  clear hz
  obtain ⟨ok, hletter⟩ : ∃ y, safeO l o = y := ⟨_, rfl⟩
  have HK := Lib.hid hletter
  clear hletter
  go_wp2_with fail
  refine (toCommandS_any _ _ _ _ _ _ h hB.size (by omega)).mono ?_
  rintro e w1 ⟨At, ct, rfl, ot, b1⟩
  have s1 := b1.size
  replace h := h.below b1 hB.size
  replace h' := h'.below b1 hB.size
  replace hB := below_later hB b1 (Nat.le_refl _)
  clear b1
  go_wp2_with fail
  refine (toIntS_any _ _ _ _ _ _ h' hB.size (by omega)).mono ?_
  rintro e w2 ⟨As, cs, rfl, os, b2⟩
  have s2 := b2.size
  replace ot := ot.below b2
  replace h := h.below b2 hB.size
  replace h' := h'.below b2 hB.size
  replace hB := below_later hB b2 (Nat.le_refl _)
  clear b2
  go_wp2_with fail
  have q := specOrderSafe_any _ _ _ _ _ _ _ _ _ _ _ ot.sees os.sees (by omega) (by omega)
  rw [HK.out] at q
  refine q.mono ?_
  clear q
  rintro e w3 ⟨rfl, b3⟩
  have s3 := b3.size
  replace ot := ot.below b3
  replace os := os.below b3
  replace h := h.below b3 hB.size
  replace h' := h'.below b3 hB.size
  replace hB := below_later hB b3 (Nat.le_refl _)
  clear b3
  clear ot
  clear os
  go_wp2_with fail
  refine (toCommandS_any _ _ _ _ _ _ h hB.size (by omega)).mono ?_
  rintro e w4 ⟨Ax, cx, rfl, ox, b4⟩
  have s4 := b4.size
  replace h := h.below b4 hB.size
  replace h' := h'.below b4 hB.size
  replace hB := below_later hB b4 (Nat.le_refl _)
  clear b4
  go_wp2_with fail
  refine (toIntS_any _ _ _ _ _ _ h' hB.size (by omega)).mono ?_
  rintro e w5 ⟨Av, cv, rfl, ov, b5⟩
  have s5 := b5.size
  replace ox := ox.below b5
  replace h := h.below b5 hB.size
  replace h' := h'.below b5 hB.size
  replace hB := below_later hB b5 (Nat.le_refl _)
  clear b5
  go_wp2_with fail
  have q := implOrderSafe_any _ _ _ _ _ _ _ _ _ _ _ ox.sees ov.sees (by omega) (by omega)
  rw [HK.out] at q
  refine q.mono ?_
  clear q
  rintro e w6 ⟨rfl, b6⟩
  have s6 := b6.size
  replace ox := ox.below b6
  replace ov := ov.below b6
  replace h := h.below b6 hB.size
  replace h' := h'.below b6 hB.size
  replace hB := below_later hB b6 (Nat.le_refl _)
  clear b6
  cases ok
  all_goals
    go_wp2_with fail
    refine (toCommandS_any _ _ _ _ _ _ h hB.size (by omega)).mono ?_
    rintro e w7 ⟨Ay, cy, rfl, oy, b7⟩
    have s7 := b7.size
    replace ox := ox.below b7
    replace ov := ov.below b7
    replace h := h.below b7 hB.size
    replace h' := h'.below b7 hB.size
    replace hB := below_later hB b7 (Nat.le_refl _)
    clear b7
    go_wp2_with fail
    refine (eqCommandS_t _ _ _ _ _ _ _ _ _ _ ox.sees oy.sees (by omega) (by omega)).mono ?_
    rintro e w8 ⟨rfl, b8⟩
    have s8 := b8.size
    replace ox := ox.below b8
    replace ov := ov.below b8
    replace oy := oy.below b8
    replace h := h.below b8 hB.size
    replace h' := h'.below b8 hB.size
    replace hB := below_later hB b8 (Nat.le_refl _)
    clear b8
    clear oy
    go_wp2_with fail
    refine (toIntS_any _ _ _ _ _ _ h' hB.size (by omega)).mono ?_
    rintro e w9 ⟨Ay, cy, rfl, oy, b9⟩
    have s9 := b9.size
    replace ox := ox.below b9
    replace ov := ov.below b9
    replace h := h.below b9 hB.size
    replace h' := h'.below b9 hB.size
    replace hB := below_later hB b9 (Nat.le_refl _)
    clear b9
    go_wp2_with fail
    refine (eqIntS_t _ _ _ _ _ _ _ _ _ _ ov.sees oy.sees).mono ?_
    rintro e w10 ⟨rfl, b10⟩
    have s10 := b10.size
    replace ox := ox.below b10
    replace ov := ov.below b10
    replace oy := oy.below b10
    replace h := h.below b10 hB.size
    replace h' := h'.below b10 hB.size
    replace hB := below_later hB b10 (Nat.le_refl _)
    clear b10
    clear oy
    go_wp2_with fail
    go_ret
    exact ⟨rfl, hB⟩
end Go.Proofs.Ythnebfcclkebeaa
