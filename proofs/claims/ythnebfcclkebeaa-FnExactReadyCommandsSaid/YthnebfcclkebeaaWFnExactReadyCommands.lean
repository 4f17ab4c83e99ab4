/-
  Walk: the law FnExactReadyCommands returns true.
-/
import Derived.Test.YthnebfcclkebeaaM2
import Derived.Test.YthnebfcclkebeaaM10
import Derived.Test.YthnebfcclkebeaaD3
namespace Go.Proofs.Ythnebfcclkebeaa
open Go.RowKit
set_option linter.unusedSimpArgs false
set_option linter.unusedVariables false
set_option maxHeartbeats 4000000 in
theorem law_FnExactReadyCommands (w : World) (A : Option Addr) (n c : Nat) (l : List Cmd) (h : Sees w w.heap.size 4 A n c (cmdC l)) :
    Calls Try.prog 10 #[.slice A n c] w (RetPure w (.bool true)) := by
  obtain rfl := h.cmd
  have hc1 := h.cap
  have hc2 := h.big
  by_cases hbail : (1048576 : Int) - l.length < 0
  · have hz := szCommandS_any A l.length c 1048576 w (by omega) (by omega) (by omega)
    rw [if_pos hbail] at hz
    go_enter Try.func10, Try.ntmps10
    go_wp2_with fail
    refine hz.mono ?_
    rintro e w' ⟨rfl, rfl⟩
    go_wp2_with fail
    go_ret
    exact ⟨rfl, Below.refl _ _⟩
  have hz := szCommandS_any A l.length c 1048576 w (by omega) (by omega) (by omega)
  rw [if_neg hbail] at hz
  have hB : Below w.heap.size w w := Below.refl _ _
  go_enter Try.func10, Try.ntmps10
  go_wp2_with fail
  refine (hz).mono ?_
  rintro e w' ⟨rfl, rfl⟩
  clear hz
  have hR12 : (readyL l).length ≤ 12 := by unfold readyL; split; (next hq => have := ((bval_iff _ _).1 hq).1; exact Nat.le_trans (readyTo_len _ _) this); (exact Nat.zero_le _)
  obtain ⟨R, hletter⟩ : ∃ y, readyL l = y := ⟨_, rfl⟩
  rw [hletter] at hR12
  have HR := Lib.hid hletter
  clear hletter
  go_wp2_with fail
  refine (toCommandS_any _ _ _ _ _ _ h hB.size (by omega)).mono ?_
  rintro e w1 ⟨At, ct, rfl, ot, b1⟩
  have s1 := b1.size
  replace h := h.below b1 hB.size
  replace hB := below_later hB b1 (Nat.le_refl _)
  clear b1
  go_wp2_with fail
  have q := specReadyCommands_any _ _ _ _ _ _ ot.sees (by omega)
  rw [HR.out] at q
  refine q.mono ?_
  clear q
  rintro e w2 ⟨Ar, cr, rfl, or, b2⟩
  have s2 := b2.size
  replace ot := ot.below b2
  replace h := h.below b2 hB.size
  replace hB := below_later hB b2 (Nat.le_refl _)
  clear b2
  clear ot
  go_wp2_with fail
  refine (toCommandS_any _ _ _ _ _ _ h hB.size (by omega)).mono ?_
  rintro e w3 ⟨Ax, cx, rfl, ox, b3⟩
  have s3 := b3.size
  replace or := or.below b3
  replace h := h.below b3 hB.size
  replace hB := below_later hB b3 (Nat.le_refl _)
  clear b3
  go_wp2_with fail
  have q := implReadyCommands_any _ _ _ _ _ _ ox.sees (by omega)
  rw [HR.out] at q
  refine q.mono ?_
  clear q
  rintro e w4 ⟨Ag, cg, rfl, og, b4⟩
  have s4 := b4.size
  replace or := or.below b4
  replace ox := ox.below b4
  replace h := h.below b4 hB.size
  replace hB := below_later hB b4 (Nat.le_refl _)
  clear b4
  go_wp2_with fail
  refine (eqIntS_t _ _ _ _ _ _ _ _ _ _ og.sees or.sees).mono ?_
  rintro e w5 ⟨rfl, b5⟩
  have s5 := b5.size
  replace or := or.below b5
  replace ox := ox.below b5
  replace og := og.below b5
  replace h := h.below b5 hB.size
  replace hB := below_later hB b5 (Nat.le_refl _)
  clear b5
  go_wp2_with fail
  refine (toCommandS_any _ _ _ _ _ _ h hB.size (by omega)).mono ?_
  rintro e w6 ⟨Ay, cy, rfl, oy, b6⟩
  have s6 := b6.size
  replace or := or.below b6
  replace ox := ox.below b6
  replace og := og.below b6
  replace h := h.below b6 hB.size
  replace hB := below_later hB b6 (Nat.le_refl _)
  clear b6
  go_wp2_with fail
  refine (eqCommandS_t _ _ _ _ _ _ _ _ _ _ ox.sees oy.sees (by omega) (by omega)).mono ?_
  rintro e w7 ⟨rfl, b7⟩
  have s7 := b7.size
  replace or := or.below b7
  replace ox := ox.below b7
  replace og := og.below b7
  replace oy := oy.below b7
  replace h := h.below b7 hB.size
  replace hB := below_later hB b7 (Nat.le_refl _)
  clear b7
  clear oy
  go_wp2_with fail
  refine (markCommandS_any _ _ _ _ _ _ (1) _ ox (by omega) (by omega)).mono ?_
  rintro e w8 ⟨rfl, qx, f8⟩
  have s8 := f8.size
  replace or := or.fr f8 (by omega)
  replace og := og.fr f8 (by omega)
  replace h := h.fr f8 (by omega) hB.size
  replace hB := f8.below hB (by omega) (Nat.le_refl _)
  clear f8 ox
  have ox := qx
  clear qx
  clear ox
  go_wp2_with fail
  refine (eqIntS_t _ _ _ _ _ _ _ _ _ _ og.sees or.sees).mono ?_
  rintro e w9 ⟨rfl, b9⟩
  have s9 := b9.size
  replace or := or.below b9
  replace og := og.below b9
  replace h := h.below b9 hB.size
  replace hB := below_later hB b9 (Nat.le_refl _)
  clear b9
  go_wp2_with fail
  refine (markIntS_any _ _ _ _ _ _ (1) _ og (by omega) (by omega)).mono ?_
  rintro e w10 ⟨rfl, qg, f10, _⟩
  have s10 := f10.size
  replace or := or.fr f10 (by omega)
  replace h := h.fr f10 (by omega) hB.size
  replace hB := f10.below hB (by omega) (Nat.le_refl _)
  clear f10 og
  have og := qg
  clear qg
  go_wp2_with fail
  refine (heldIntS_any _ _ _ _ (1) _ og.sees (by omega) (by omega)).mono ?_
  rintro e w' ⟨rfl, rfl⟩
  go_wp2_with fail
  refine (toCommandS_any _ _ _ _ _ _ h hB.size (by omega)).mono ?_
  rintro e w11 ⟨At, ct, rfl, ot, b11⟩
  have s11 := b11.size
  replace or := or.below b11
  replace og := og.below b11
  replace h := h.below b11 hB.size
  replace hB := below_later hB b11 (Nat.le_refl _)
  clear b11
  go_wp2_with fail
  have q := implReadyCommands_any _ _ _ _ _ _ ot.sees (by omega)
  rw [HR.out] at q
  refine q.mono ?_
  clear q
  rintro e w12 ⟨Ah, ch, rfl, oh, b12⟩
  have s12 := b12.size
  replace or := or.below b12
  replace og := og.below b12
  replace ot := ot.below b12
  replace h := h.below b12 hB.size
  replace hB := below_later hB b12 (Nat.le_refl _)
  clear b12
  clear ot
  go_wp2_with fail
  refine (eqIntS_t _ _ _ _ _ _ _ _ _ _ oh.sees or.sees).mono ?_
  rintro e w13 ⟨rfl, b13⟩
  have s13 := b13.size
  replace or := or.below b13
  replace og := og.below b13
  replace oh := oh.below b13
  replace h := h.below b13 hB.size
  replace hB := below_later hB b13 (Nat.le_refl _)
  clear b13
  clear oh
  clear or
  go_wp2_with fail
  refine (heldIntS_any _ _ _ _ (1) _ og.sees (by omega) (by omega)).mono ?_
  rintro e w' ⟨rfl, rfl⟩
  go_wp2_with fail
  go_ret
  exact ⟨rfl, hB⟩
end Go.Proofs.Ythnebfcclkebeaa
