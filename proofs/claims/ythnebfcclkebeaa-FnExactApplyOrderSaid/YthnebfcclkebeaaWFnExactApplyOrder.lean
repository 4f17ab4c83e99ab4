/-
  Walk: the law FnExactApplyOrder returns true.
-/
import Derived.Test.YthnebfcclkebeaaM2
import Derived.Test.YthnebfcclkebeaaM8
import Derived.Test.YthnebfcclkebeaaD3
namespace Go.Proofs.Ythnebfcclkebeaa
open Go.RowKit
set_option linter.unusedSimpArgs false
set_option linter.unusedVariables false
set_option maxHeartbeats 4000000 in
theorem law_FnExactApplyOrder (w : World) (A : Option Addr) (n c : Nat) (l : List Cmd) (h : Sees w w.heap.size 4 A n c (cmdC l)) (A' : Option Addr) (n' c' : Nat) (o : List Int) (h' : Sees w w.heap.size 1 A' n' c' (ints o)) (hob : ∀ v ∈ o, -9223372036854775808 ≤ v ∧ v ≤ 9223372036854775807) :
    Calls Try.prog 9 #[.slice A n c, .slice A' n' c'] w (RetPure w (.bool true)) := by
  obtain rfl := h.cmd
  have hc1 := h.cap
  have hc2 := h.big
  clear hob
  obtain rfl := h'.int
  have hc3 := h'.cap
  have hc4 := h'.big
  by_cases hb0 : 1048576 < o.length
  · go_enter Try.func9, Try.ntmps9
    go_wp2_with fail
    go_ret
    exact ⟨rfl, Below.refl _ _⟩
  by_cases hbail : (1048576 : Int) - l.length < 0
  · have hz := szCommandS_any A l.length c 1048576 w (by omega) (by omega) (by omega)
    rw [if_pos hbail] at hz
    go_enter Try.func9, Try.ntmps9
    go_wp2_with fail
    refine hz.mono ?_
    rintro e w' ⟨rfl, rfl⟩
    go_wp2_with fail
    go_ret
    exact ⟨rfl, Below.refl _ _⟩
  have hz := szCommandS_any A l.length c 1048576 w (by omega) (by omega) (by omega)
  rw [if_neg hbail] at hz
  have hB : Below w.heap.size w w := Below.refl _ _
  go_enter Try.func9, Try.ntmps9
  go_wp2_with fail
  refine (hz).mono ?_
  rintro e w' ⟨rfl, rfl⟩
  clear hz
  have hR12 : (applyO l o).length ≤ 12 := by unfold applyO; split; (next hq => rw [List.length_map]; simp only [Bool.and_eq_true, decide_eq_true_eq] at hq; have := ((isOrd_iff _ _).1 hq.2).1; omega); (exact Nat.zero_le _)
  obtain ⟨R, hletter⟩ : ∃ y, applyO l o = y := ⟨_, rfl⟩
  rw [hletter] at hR12
  have HR := Lib.hid hletter
  clear hletter
  go_wp2_with fail
  refine (toCommandS_any _ _ _ _ _ _ h hB.size (by omega)).mono ?_
  rintro e w1 ⟨At, ct, rfl, ot, b1⟩
  have s1 := b1.size
  replace h := h.below b1 hB.size
  replace h' := h'.below b1 hB.size
  replace hB := below_later hB b1 (Nat.le_refl _)
  clear b1
  go_wp2_with fail
  refine (toIntS_any _ _ _ _ _ _ h' hB.size (by omega)).mono ?_
  rintro e w2 ⟨As, cs, rfl, os, b2⟩
  have s2 := b2.size
  replace ot := ot.below b2
  replace h := h.below b2 hB.size
  replace h' := h'.below b2 hB.size
  replace hB := below_later hB b2 (Nat.le_refl _)
  clear b2
  go_wp2_with fail
  have q := specApplyOrder_any _ _ _ _ _ _ _ _ _ _ _ ot.sees os.sees (by omega) (by omega)
  rw [HR.out] at q
  refine q.mono ?_
  clear q
  rintro e w3 ⟨Ar, cr, rfl, or, b3⟩
  have s3 := b3.size
  replace ot := ot.below b3
  replace os := os.below b3
  replace h := h.below b3 hB.size
  replace h' := h'.below b3 hB.size
  replace hB := below_later hB b3 (Nat.le_refl _)
  clear b3
  clear ot
  clear os
  go_wp2_with fail
  refine (toCommandS_any _ _ _ _ _ _ h hB.size (by omega)).mono ?_
  rintro e w4 ⟨Ax, cx, rfl, ox, b4⟩
  have s4 := b4.size
  replace or := or.below b4
  replace h := h.below b4 hB.size
  replace h' := h'.below b4 hB.size
  replace hB := below_later hB b4 (Nat.le_refl _)
  clear b4
  go_wp2_with fail
  refine (toIntS_any _ _ _ _ _ _ h' hB.size (by omega)).mono ?_
  rintro e w5 ⟨Av, cv, rfl, ov, b5⟩
  have s5 := b5.size
  replace or := or.below b5
  replace ox := ox.below b5
  replace h := h.below b5 hB.size
  replace h' := h'.below b5 hB.size
  replace hB := below_later hB b5 (Nat.le_refl _)
  clear b5
  go_wp2_with fail
  have q := implApplyOrder_any _ _ _ _ _ _ _ _ _ _ _ ox.sees ov.sees (by omega) (by omega)
  rw [HR.out] at q
  refine q.mono ?_
  clear q
  rintro e w6 ⟨Ag, cg, rfl, og, b6⟩
  have s6 := b6.size
  replace or := or.below b6
  replace ox := ox.below b6
  replace ov := ov.below b6
  replace h := h.below b6 hB.size
  replace h' := h'.below b6 hB.size
  replace hB := below_later hB b6 (Nat.le_refl _)
  clear b6
  go_wp2_with fail
  refine (eqCommandS_t _ _ _ _ _ _ _ _ _ _ og.sees or.sees (by omega) (by omega)).mono ?_
  rintro e w7 ⟨rfl, b7⟩
  have s7 := b7.size
  replace or := or.below b7
  replace ox := ox.below b7
  replace ov := ov.below b7
  replace og := og.below b7
  replace h := h.below b7 hB.size
  replace h' := h'.below b7 hB.size
  replace hB := below_later hB b7 (Nat.le_refl _)
  clear b7
  go_wp2_with fail
  refine (toCommandS_any _ _ _ _ _ _ h hB.size (by omega)).mono ?_
  rintro e w8 ⟨Ay, cy, rfl, oy, b8⟩
  have s8 := b8.size
  replace or := or.below b8
  replace ox := ox.below b8
  replace ov := ov.below b8
  replace og := og.below b8
  replace h := h.below b8 hB.size
  replace h' := h'.below b8 hB.size
  replace hB := below_later hB b8 (Nat.le_refl _)
  clear b8
  go_wp2_with fail
  refine (eqCommandS_t _ _ _ _ _ _ _ _ _ _ ox.sees oy.sees (by omega) (by omega)).mono ?_
  rintro e w9 ⟨rfl, b9⟩
  have s9 := b9.size
  replace or := or.below b9
  replace ox := ox.below b9
  replace ov := ov.below b9
  replace og := og.below b9
  replace oy := oy.below b9
  replace h := h.below b9 hB.size
  replace h' := h'.below b9 hB.size
  replace hB := below_later hB b9 (Nat.le_refl _)
  clear b9
  clear oy
  go_wp2_with fail
  refine (toIntS_any _ _ _ _ _ _ h' hB.size (by omega)).mono ?_
  rintro e w10 ⟨Ay, cy, rfl, oy, b10⟩
  have s10 := b10.size
  replace or := or.below b10
  replace ox := ox.below b10
  replace ov := ov.below b10
  replace og := og.below b10
  replace h := h.below b10 hB.size
  replace h' := h'.below b10 hB.size
  replace hB := below_later hB b10 (Nat.le_refl _)
  clear b10
  go_wp2_with fail
  refine (eqIntS_t _ _ _ _ _ _ _ _ _ _ ov.sees oy.sees).mono ?_
  rintro e w11 ⟨rfl, b11⟩
  have s11 := b11.size
  replace or := or.below b11
  replace ox := ox.below b11
  replace ov := ov.below b11
  replace og := og.below b11
  replace oy := oy.below b11
  replace h := h.below b11 hB.size
  replace h' := h'.below b11 hB.size
  replace hB := below_later hB b11 (Nat.le_refl _)
  clear b11
  clear oy
  go_wp2_with fail
  refine (markCommandS_any _ _ _ _ _ _ (1) _ ox (by omega) (by omega)).mono ?_
  rintro e w12 ⟨rfl, qx, f12⟩
  have s12 := f12.size
  replace or := or.fr f12 (by omega)
  replace ov := ov.fr f12 (by omega)
  replace og := og.fr f12 (by omega)
  replace h := h.fr f12 (by omega) hB.size
  replace h' := h'.fr f12 (by omega) hB.size
  replace hB := f12.below hB (by omega) (Nat.le_refl _)
  clear f12 ox
  have ox := qx
  clear qx
  clear ox
  go_wp2_with fail
  refine (markIntS_any _ _ _ _ _ _ (1 + 4 * (l.length : Int)) _ ov (by omega) (by omega)).mono ?_
  rintro e w13 ⟨rfl, qv, f13, _⟩
  have s13 := f13.size
  replace or := or.fr f13 (by omega)
  replace og := og.fr f13 (by omega)
  replace h := h.fr f13 (by omega) hB.size
  replace h' := h'.fr f13 (by omega) hB.size
  replace hB := f13.below hB (by omega) (Nat.le_refl _)
  clear f13 ov
  have ov := qv
  clear qv
  clear ov
  go_wp2_with fail
  refine (eqCommandS_t _ _ _ _ _ _ _ _ _ _ og.sees or.sees (by omega) (by omega)).mono ?_
  rintro e w14 ⟨rfl, b14⟩
  have s14 := b14.size
  replace or := or.below b14
  replace og := og.below b14
  replace h := h.below b14 hB.size
  replace h' := h'.below b14 hB.size
  replace hB := below_later hB b14 (Nat.le_refl _)
  clear b14
  go_wp2_with fail
  refine (markCommandS_any _ _ _ _ _ _ (1) _ og (by omega) (by omega)).mono ?_
  rintro e w15 ⟨rfl, qg, f15⟩
  have s15 := f15.size
  replace or := or.fr f15 (by omega)
  replace h := h.fr f15 (by omega) hB.size
  replace h' := h'.fr f15 (by omega) hB.size
  replace hB := f15.below hB (by omega) (Nat.le_refl _)
  clear f15 og
  have og := qg
  clear qg
  go_wp2_with fail
  refine (heldCommandS_any _ _ _ _ (1) _ og.sees (by omega) (by omega)).mono ?_
  rintro e w' ⟨rfl, rfl⟩
  go_wp2_with fail
  refine (toCommandS_any _ _ _ _ _ _ h hB.size (by omega)).mono ?_
  rintro e w16 ⟨At, ct, rfl, ot, b16⟩
  have s16 := b16.size
  replace or := or.below b16
  replace og := og.below b16
  replace h := h.below b16 hB.size
  replace h' := h'.below b16 hB.size
  replace hB := below_later hB b16 (Nat.le_refl _)
  clear b16
  go_wp2_with fail
  refine (toIntS_any _ _ _ _ _ _ h' hB.size (by omega)).mono ?_
  rintro e w17 ⟨As, cs, rfl, os, b17⟩
  have s17 := b17.size
  replace or := or.below b17
  replace og := og.below b17
  replace ot := ot.below b17
  replace h := h.below b17 hB.size
  replace h' := h'.below b17 hB.size
  replace hB := below_later hB b17 (Nat.le_refl _)
  clear b17
  go_wp2_with fail
  have q := implApplyOrder_any _ _ _ _ _ _ _ _ _ _ _ ot.sees os.sees (by omega) (by omega)
  rw [HR.out] at q
  refine q.mono ?_
  clear q
  rintro e w18 ⟨Ah, ch, rfl, oh, b18⟩
  have s18 := b18.size
  replace or := or.below b18
  replace og := og.below b18
  replace ot := ot.below b18
  replace os := os.below b18
  replace h := h.below b18 hB.size
  replace h' := h'.below b18 hB.size
  replace hB := below_later hB b18 (Nat.le_refl _)
  clear b18
  clear ot
  clear os
  go_wp2_with fail
  refine (eqCommandS_t _ _ _ _ _ _ _ _ _ _ oh.sees or.sees (by omega) (by omega)).mono ?_
  rintro e w19 ⟨rfl, b19⟩
  have s19 := b19.size
  replace or := or.below b19
  replace og := og.below b19
  replace oh := oh.below b19
  replace h := h.below b19 hB.size
  replace h' := h'.below b19 hB.size
  replace hB := below_later hB b19 (Nat.le_refl _)
  clear b19
  clear oh
  clear or
  go_wp2_with fail
  refine (heldCommandS_any _ _ _ _ (1) _ og.sees (by omega) (by omega)).mono ?_
  rintro e w' ⟨rfl, rfl⟩
  go_wp2_with fail
  go_ret
  exact ⟨rfl, hB⟩
end Go.Proofs.Ythnebfcclkebeaa
