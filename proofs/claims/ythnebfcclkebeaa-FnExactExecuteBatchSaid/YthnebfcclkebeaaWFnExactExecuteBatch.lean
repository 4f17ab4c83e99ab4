/-
  Walk: the law FnExactExecuteBatch returns true.
-/
import Derived.Test.YthnebfcclkebeaaM2
import Derived.Test.YthnebfcclkebeaaM14
import Derived.Test.YthnebfcclkebeaaD3
namespace Go.Proofs.Ythnebfcclkebeaa
open Go.RowKit
set_option linter.unusedSimpArgs false
set_option linter.unusedVariables false
set_option maxHeartbeats 4000000 in
theorem law_FnExactExecuteBatch (w : World) (A' : Option Addr) (n' c' : Nat) (d : List Int) (h' : Sees w w.heap.size 1 A' n' c' (ints d)) (hob : ∀ v ∈ d, -9223372036854775808 ≤ v ∧ v ≤ 9223372036854775807) (A : Option Addr) (n c : Nat) (l : List Cmd) (h : Sees w w.heap.size 4 A n c (cmdC l)) :
    Calls Try.prog 3 #[.slice A' n' c', .slice A n c] w (RetPure w (.bool true)) := by
  clear hob
  obtain rfl := h'.int
  have hc3 := h'.cap
  have hc4 := h'.big
  obtain rfl := h.cmd
  have hc1 := h.cap
  have hc2 := h.big
  by_cases hb0 : 1048576 < d.length
  · go_enter Try.func3, Try.ntmps3
    go_wp2_with fail
    go_ret
    exact ⟨rfl, Below.refl _ _⟩
  by_cases hbail : (1048576 : Int) - l.length < 0
  · have hz := szCommandS_any A l.length c 1048576 w (by omega) (by omega) (by omega)
    rw [if_pos hbail] at hz
    go_enter Try.func3, Try.ntmps3
    go_wp2_with fail
    refine hz.mono ?_
    rintro e w' ⟨rfl, rfl⟩
    go_wp2_with fail
    go_ret
    exact ⟨rfl, Below.refl _ _⟩
  have hz := szCommandS_any A l.length c 1048576 w (by omega) (by omega) (by omega)
  rw [if_neg hbail] at hz
  have hB : Below w.heap.size w w := Below.refl _ _
  go_enter Try.func3, Try.ntmps3
  go_wp2_with fail
  refine (hz).mono ?_
  rintro e w' ⟨rfl, rfl⟩
  clear hz
  have hX64 := exBD_64 d l
  have hRt := exBR_tot d l
  obtain ⟨X, hletter⟩ : ∃ y, exBD d l = y := ⟨_, rfl⟩
  rw [hletter] at hX64
  have HX := Lib.hid hletter
  clear hletter
  obtain ⟨R, hletter⟩ : ∃ y, exBR d l = y := ⟨_, rfl⟩
  rw [hletter] at hRt
  have HR := Lib.hid hletter
  clear hletter
  obtain ⟨hRt, hR12⟩ := hRt
  go_wp2_with fail
  refine (toIntS_any _ _ _ _ _ _ h' hB.size (by omega)).mono ?_
  rintro e w1 ⟨At, ct, rfl, ot, b1⟩
  have s1 := b1.size
  replace h := h.below b1 hB.size
  replace h' := h'.below b1 hB.size
  replace hB := below_later hB b1 (Nat.le_refl _)
  clear b1
  go_wp2_with fail
  refine (toCommandS_any _ _ _ _ _ _ h hB.size (by omega)).mono ?_
  rintro e w2 ⟨As, cs, rfl, os, b2⟩
  have s2 := b2.size
  replace ot := ot.below b2
  replace h := h.below b2 hB.size
  replace h' := h'.below b2 hB.size
  replace hB := below_later hB b2 (Nat.le_refl _)
  clear b2
  go_wp2_with fail
  have q := specExecuteBatch_any _ _ _ _ _ _ _ _ _ _ _ ot.sees os.sees (by omega) (by omega)
  rw [HX.out, HR.out] at q
  refine q.mono ?_
  clear q
  rintro e w3 ⟨Aw, nw, cw, Bw, kw, ew, lw, mw, low, hiw, Lw, Hw, vsw, rfl, st⟩
  have b3 := st.bel
  have n_w := st.len
  have s3 := b3.size
  replace ot := ot.below b3
  replace os := os.below b3
  replace h := h.below b3 hB.size
  replace h' := h'.below b3 hB.size
  replace hB := below_later hB b3 (Nat.le_refl _)
  clear b3
  have sw := st.sp
  clear st
  clear ot
  clear os
  go_wp2_with fail
  refine (toIntS_any _ _ _ _ _ _ h' hB.size (by omega)).mono ?_
  rintro e w4 ⟨Av, cv, rfl, ov, b4⟩
  have s4 := b4.size
  replace sw := sw.below b4
  replace h := h.below b4 hB.size
  replace h' := h'.below b4 hB.size
  replace hB := below_later hB b4 (Nat.le_refl _)
  clear b4
  go_wp2_with fail
  refine (toCommandS_any _ _ _ _ _ _ h hB.size (by omega)).mono ?_
  rintro e w5 ⟨Ax, cx, rfl, ox, b5⟩
  have s5 := b5.size
  replace sw := sw.below b5
  replace ov := ov.below b5
  replace h := h.below b5 hB.size
  replace h' := h'.below b5 hB.size
  replace hB := below_later hB b5 (Nat.le_refl _)
  clear b5
  go_wp2_with fail
  have q := implExecuteBatch_any _ _ _ _ _ _ _ _ _ _ _ ov.sees ox.sees (by omega) (by omega)
  rw [HX.out, HR.out] at q
  refine q.mono ?_
  clear q
  rintro e w6 ⟨Ag, ng, cg, Bg, kg, eg, lg, mg, log, hig, Lg, Hg, vsg, rfl, st⟩
  have b6 := st.bel
  have n_g := st.len
  have s6 := b6.size
  replace sw := sw.below b6
  replace ov := ov.below b6
  replace ox := ox.below b6
  replace h := h.below b6 hB.size
  replace h' := h'.below b6 hB.size
  replace hB := below_later hB b6 (Nat.le_refl _)
  clear b6
  have sg := st.sp
  clear st
  go_wp2_with fail
  refine (eqIntS_t _ _ _ _ _ _ _ _ _ _ sg.seeD sw.seeD).mono ?_
  rintro e w7 ⟨rfl, b7⟩
  have s7 := b7.size
  replace sw := sw.below b7
  replace sg := sg.below b7
  replace ov := ov.below b7
  replace ox := ox.below b7
  replace h := h.below b7 hB.size
  replace h' := h'.below b7 hB.size
  replace hB := below_later hB b7 (Nat.le_refl _)
  clear b7
  go_wp2_with fail
  refine (eqIntSS_t _ _ _ _ _ _ _ _ _ _ _ _ sg.seeO sg.see sw.seeO sw.see sg.up sw.up).mono ?_
  rintro e w8 ⟨rfl, b8⟩
  have s8 := b8.size
  replace sw := sw.below b8
  replace sg := sg.below b8
  replace ov := ov.below b8
  replace ox := ox.below b8
  replace h := h.below b8 hB.size
  replace h' := h'.below b8 hB.size
  replace hB := below_later hB b8 (Nat.le_refl _)
  clear b8
  go_wp2_with fail
  refine (toIntS_any _ _ _ _ _ _ h' hB.size (by omega)).mono ?_
  rintro e w9 ⟨Ay, cy, rfl, oy, b9⟩
  have s9 := b9.size
  replace sw := sw.below b9
  replace sg := sg.below b9
  replace ov := ov.below b9
  replace ox := ox.below b9
  replace h := h.below b9 hB.size
  replace h' := h'.below b9 hB.size
  replace hB := below_later hB b9 (Nat.le_refl _)
  clear b9
  go_wp2_with fail
  refine (eqIntS_t _ _ _ _ _ _ _ _ _ _ ov.sees oy.sees).mono ?_
  rintro e w10 ⟨rfl, b10⟩
  have s10 := b10.size
  replace sw := sw.below b10
  replace sg := sg.below b10
  replace ov := ov.below b10
  replace ox := ox.below b10
  replace oy := oy.below b10
  replace h := h.below b10 hB.size
  replace h' := h'.below b10 hB.size
  replace hB := below_later hB b10 (Nat.le_refl _)
  clear b10
  clear oy
  go_wp2_with fail
  refine (toCommandS_any _ _ _ _ _ _ h hB.size (by omega)).mono ?_
  rintro e w11 ⟨Ay, cy, rfl, oy, b11⟩
  have s11 := b11.size
  replace sw := sw.below b11
  replace sg := sg.below b11
  replace ov := ov.below b11
  replace ox := ox.below b11
  replace h := h.below b11 hB.size
  replace h' := h'.below b11 hB.size
  replace hB := below_later hB b11 (Nat.le_refl _)
  clear b11
  go_wp2_with fail
  refine (eqCommandS_t _ _ _ _ _ _ _ _ _ _ ox.sees oy.sees (by omega) (by omega)).mono ?_
  rintro e w12 ⟨rfl, b12⟩
  have s12 := b12.size
  replace sw := sw.below b12
  replace sg := sg.below b12
  replace ov := ov.below b12
  replace ox := ox.below b12
  replace oy := oy.below b12
  replace h := h.below b12 hB.size
  replace h' := h'.below b12 hB.size
  replace hB := below_later hB b12 (Nat.le_refl _)
  clear b12
  clear oy
  go_wp2_with fail
  refine (markIntS_any _ _ _ _ _ _ (1) _ ov (by omega) (by omega)).mono ?_
  rintro e w13 ⟨rfl, qv, f13, _⟩
  have s13 := f13.size
  replace ox := ox.fr f13 (by omega)
  replace h := h.fr f13 (by omega) hB.size
  replace h' := h'.fr f13 (by omega) hB.size
  replace sg := sg.fr f13 (by omega)
  replace sw := sw.fr f13 (by omega)
  replace hB := f13.below hB (by omega) (Nat.le_refl _)
  clear f13 ov
  have ov := qv
  clear qv
  clear ov
  go_wp2_with fail
  refine (markCommandS_any _ _ _ _ _ _ (1 + (d.length : Int)) _ ox (by omega) (by omega)).mono ?_
  rintro e w14 ⟨rfl, qx, f14⟩
  have s14 := f14.size
  replace h := h.fr f14 (by omega) hB.size
  replace h' := h'.fr f14 (by omega) hB.size
  replace sg := sg.fr f14 (by omega)
  replace sw := sw.fr f14 (by omega)
  replace hB := f14.below hB (by omega) (Nat.le_refl _)
  clear f14 ox
  have ox := qx
  clear qx
  clear ox
  go_wp2_with fail
  refine (eqIntS_t _ _ _ _ _ _ _ _ _ _ sg.seeD sw.seeD).mono ?_
  rintro e w15 ⟨rfl, b15⟩
  have s15 := b15.size
  replace sw := sw.below b15
  replace sg := sg.below b15
  replace h := h.below b15 hB.size
  replace h' := h'.below b15 hB.size
  replace hB := below_later hB b15 (Nat.le_refl _)
  clear b15
  go_wp2_with fail
  refine (eqIntSS_t _ _ _ _ _ _ _ _ _ _ _ _ sg.seeO sg.see sw.seeO sw.see sg.up sw.up).mono ?_
  rintro e w16 ⟨rfl, b16⟩
  have s16 := b16.size
  replace sw := sw.below b16
  replace sg := sg.below b16
  replace h := h.below b16 hB.size
  replace h' := h'.below b16 hB.size
  replace hB := below_later hB b16 (Nat.le_refl _)
  clear b16
  go_wp2_with fail
  refine (markIntS_any _ _ _ _ _ _ (1) _ sg.disk (by omega) (by omega)).mono ?_
  rintro e w17 ⟨rfl, qd, f17, _⟩
  have s17 := f17.size
  have bd_sg := sg.bd
  replace sw := sw.fr f17 (by omega)
  replace sg := sg.markD qd f17
  replace h := h.fr f17 (by omega) hB.size
  replace h' := h'.fr f17 (by omega) hB.size
  replace hB := f17.below hB (by omega) (Nat.le_refl _)
  clear f17 qd bd_sg
  go_wp2_with fail
  refine (markIntSS_any _ _ _ _ _ _ _ _ _ (1 + (ng : Int)) _ sg.rows sg.at_ sg.rr sg.or_ (by omega) (by omega)).mono ?_
  rintro e w18 ⟨rfl, qd, f18⟩
  have s18 := f18.size
  replace sw := sw.frR f18 (sg.apart (by omega))
  replace h := h.frR f18 (sg.apartS (by omega)) hB.size
  replace h' := h'.frR f18 (sg.apartS (by omega)) hB.size
  replace hB := sg.frBelow hB f18 (by omega) (Nat.le_refl _)
  replace sg := sg.markR (mixR_length _ _ _) qd f18
  clear f18 qd
  go_wp2_with fail
  refine (heldIntS_any _ _ _ _ 1 _ sg.seeD (by omega) (by omega)).mono ?_
  rintro e w' ⟨rfl, rfl⟩
  go_wp2_with fail
  refine (heldIntSS_any _ _ _ _ _ R (1 + (ng : Int)) _ sg.seeO sg.see (by omega) (by omega)).mono ?_
  rintro e w' ⟨rfl, rfl⟩
  go_wp2_with fail
  refine (toIntS_any _ _ _ _ _ _ h' hB.size (by omega)).mono ?_
  rintro e w19 ⟨At, ct, rfl, ot, b19⟩
  have s19 := b19.size
  replace sw := sw.below b19
  replace sg := sg.below b19
  replace h := h.below b19 hB.size
  replace h' := h'.below b19 hB.size
  replace hB := below_later hB b19 (Nat.le_refl _)
  clear b19
  go_wp2_with fail
  refine (toCommandS_any _ _ _ _ _ _ h hB.size (by omega)).mono ?_
  rintro e w20 ⟨As, cs, rfl, os, b20⟩
  have s20 := b20.size
  replace sw := sw.below b20
  replace sg := sg.below b20
  replace ot := ot.below b20
  replace h := h.below b20 hB.size
  replace h' := h'.below b20 hB.size
  replace hB := below_later hB b20 (Nat.le_refl _)
  clear b20
  go_wp2_with fail
  have q := implExecuteBatch_any _ _ _ _ _ _ _ _ _ _ _ ot.sees os.sees (by omega) (by omega)
  rw [HX.out, HR.out] at q
  refine q.mono ?_
  clear q
  rintro e w21 ⟨Ah, nh, ch, Bh, kh, eh, lh, mh, loh, hih, Lh, Hh, vsh, rfl, st⟩
  have b21 := st.bel
  have n_h := st.len
  have s21 := b21.size
  replace sw := sw.below b21
  replace sg := sg.below b21
  replace ot := ot.below b21
  replace os := os.below b21
  replace h := h.below b21 hB.size
  replace h' := h'.below b21 hB.size
  replace hB := below_later hB b21 (Nat.le_refl _)
  clear b21
  have sh := st.sp
  clear st
  clear ot
  clear os
  go_wp2_with fail
  refine (eqIntS_t _ _ _ _ _ _ _ _ _ _ sh.seeD sw.seeD).mono ?_
  rintro e w22 ⟨rfl, b22⟩
  have s22 := b22.size
  replace sw := sw.below b22
  replace sg := sg.below b22
  replace sh := sh.below b22
  replace h := h.below b22 hB.size
  replace h' := h'.below b22 hB.size
  replace hB := below_later hB b22 (Nat.le_refl _)
  clear b22
  go_wp2_with fail
  refine (eqIntSS_t _ _ _ _ _ _ _ _ _ _ _ _ sh.seeO sh.see sw.seeO sw.see sh.up sw.up).mono ?_
  rintro e w23 ⟨rfl, b23⟩
  have s23 := b23.size
  replace sw := sw.below b23
  replace sg := sg.below b23
  replace sh := sh.below b23
  replace h := h.below b23 hB.size
  replace h' := h'.below b23 hB.size
  replace hB := below_later hB b23 (Nat.le_refl _)
  clear b23
  clear sh
  clear sw
  go_wp2_with fail
  refine (heldIntS_any _ _ _ _ 1 _ sg.seeD (by omega) (by omega)).mono ?_
  rintro e w' ⟨rfl, rfl⟩
  go_wp2_with fail
  refine (heldIntSS_any _ _ _ _ _ R (1 + (ng : Int)) _ sg.seeO sg.see (by omega) (by omega)).mono ?_
  rintro e w' ⟨rfl, rfl⟩
  go_wp2_with fail
  go_ret
  exact ⟨rfl, hB⟩
end Go.Proofs.Ythnebfcclkebeaa
