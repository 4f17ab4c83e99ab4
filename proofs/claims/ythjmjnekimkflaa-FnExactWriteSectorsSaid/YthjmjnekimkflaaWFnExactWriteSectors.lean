/-
  Walk: the law FnExactWriteSectors returns true.
-/
import Derived.Test.YthjmjnekimkflaaD5
namespace Go.Proofs.Ythjmjnekimkflaa
open Go.RowKit
theorem law_FnExactWriteSectors (w : World) (A : Option Addr) (n c : Nat) (d : List Int) (h : Sees w w.heap.size 1 A n c (ints d)) (_hd : ∀ v ∈ d, -9223372036854775808 ≤ v ∧ v ≤ 9223372036854775807) (a : Int) (_ha : -9223372036854775808 ≤ a ∧ a ≤ 9223372036854775807) (A' : Option Addr) (n' c' : Nat) (vs : List Int) (h' : Sees w w.heap.size 1 A' n' c' (ints vs)) (_hd' : ∀ v ∈ vs, -9223372036854775808 ≤ v ∧ v ≤ 9223372036854775807) :
    Calls Try.prog 9 #[.slice A n c, .int .i64 a, .slice A' n' c'] w (RetPure w (.bool true)) := by
  obtain rfl := h.int
  have hc1 := h.cap
  have hc2 := h.big
  obtain rfl := h'.int
  have hc3 := h'.cap
  have hc4 := h'.big
  have hlen : (wrS d a vs).length ≤ 64 := wrS_64 d a vs
  by_cases hbail : 1048576 < d.length
  · go_enter Try.func9, Try.ntmps9
    go_wp2_with fail
    go_ret
    exact ⟨rfl, Below.refl _ _⟩
  have hB : Below w.heap.size w w := Below.refl _ _
  by_cases hbail2 : 1048576 < vs.length
  · go_enter Try.func9, Try.ntmps9
    go_wp2_with fail
    go_ret
    exact ⟨rfl, Below.refl _ _⟩
  go_enter Try.func9, Try.ntmps9
  go_wp2_with fail
  refine (toIntS_any _ _ _ _ _ _ h hB.size (by omega)).mono ?_
  rintro e w1 ⟨As, cs, rfl, os, b1⟩
  have s1 := b1.size
  replace h := h.below b1 hB.size
  replace h' := h'.below b1 hB.size
  replace hB := below_later hB b1 (Nat.le_refl _)
  clear b1
  go_wp2_with fail
  refine (toIntS_any _ _ _ _ _ _ h' hB.size (by omega)).mono ?_
  rintro e w2 ⟨At, ct, rfl, ot, b2⟩
  have s2 := b2.size
  replace os := os.below b2
  replace h := h.below b2 hB.size
  replace h' := h'.below b2 hB.size
  replace hB := below_later hB b2 (Nat.le_refl _)
  clear b2
  go_wp2_with fail
  refine (specWriteSectors_any _ _ _ _ _ _ _ _ _ _ _ _ os.sees (by omega) ot.sees (by omega)).mono ?_
  rintro e w3 ⟨Ar, cr, rfl, or, b3⟩
  have s3 := b3.size
  replace os := os.below b3
  replace ot := ot.below b3
  replace h := h.below b3 hB.size
  replace h' := h'.below b3 hB.size
  replace hB := below_later hB b3 (Nat.le_refl _)
  clear b3
  clear os
  clear ot
  go_wp2_with fail
  refine (toIntS_any _ _ _ _ _ _ h hB.size (by omega)).mono ?_
  rintro e w4 ⟨Ax, cx, rfl, ox, b4⟩
  have s4 := b4.size
  replace or := or.below b4
  replace h := h.below b4 hB.size
  replace h' := h'.below b4 hB.size
  replace hB := below_later hB b4 (Nat.le_refl _)
  clear b4
  go_wp2_with fail
  refine (toIntS_any _ _ _ _ _ _ h' hB.size (by omega)).mono ?_
  rintro e w5 ⟨Ay, cy, rfl, oy, b5⟩
  have s5 := b5.size
  replace or := or.below b5
  replace ox := ox.below b5
  replace h := h.below b5 hB.size
  replace h' := h'.below b5 hB.size
  replace hB := below_later hB b5 (Nat.le_refl _)
  clear b5
  go_wp2_with fail
  refine (implWriteSectors_any _ _ _ _ _ _ _ _ _ _ _ _ ox.sees (by omega) oy.sees (by omega)).mono ?_
  rintro e w6 ⟨Ag, cg, rfl, og, b6⟩
  have s6 := b6.size
  replace or := or.below b6
  replace ox := ox.below b6
  replace oy := oy.below b6
  replace h := h.below b6 hB.size
  replace h' := h'.below b6 hB.size
  replace hB := below_later hB b6 (Nat.le_refl _)
  clear b6
  go_wp2_with fail
  refine (eqIntS_t _ _ _ _ _ _ _ _ _ _ og.sees or.sees).mono ?_
  rintro e w7 ⟨rfl, b7⟩
  have s7 := b7.size
  replace or := or.below b7
  replace ox := ox.below b7
  replace oy := oy.below b7
  replace og := og.below b7
  replace h := h.below b7 hB.size
  replace h' := h'.below b7 hB.size
  replace hB := below_later hB b7 (Nat.le_refl _)
  clear b7
  go_wp2_with fail
  refine (toIntS_any _ _ _ _ _ _ h hB.size (by omega)).mono ?_
  rintro e w8 ⟨Au, cu, rfl, ou, b8⟩
  have s8 := b8.size
  replace or := or.below b8
  replace ox := ox.below b8
  replace oy := oy.below b8
  replace og := og.below b8
  replace h := h.below b8 hB.size
  replace h' := h'.below b8 hB.size
  replace hB := below_later hB b8 (Nat.le_refl _)
  clear b8
  go_wp2_with fail
  refine (eqIntS_t _ _ _ _ _ _ _ _ _ _ ox.sees ou.sees).mono ?_
  rintro e w9 ⟨rfl, b9⟩
  have s9 := b9.size
  replace or := or.below b9
  replace ox := ox.below b9
  replace oy := oy.below b9
  replace og := og.below b9
  replace ou := ou.below b9
  replace h := h.below b9 hB.size
  replace h' := h'.below b9 hB.size
  replace hB := below_later hB b9 (Nat.le_refl _)
  clear b9
  clear ou
  go_wp2_with fail
  refine (toIntS_any _ _ _ _ _ _ h' hB.size (by omega)).mono ?_
  rintro e w10 ⟨Au, cu, rfl, ou, b10⟩
  have s10 := b10.size
  replace or := or.below b10
  replace ox := ox.below b10
  replace oy := oy.below b10
  replace og := og.below b10
  replace h := h.below b10 hB.size
  replace h' := h'.below b10 hB.size
  replace hB := below_later hB b10 (Nat.le_refl _)
  clear b10
  go_wp2_with fail
  refine (eqIntS_t _ _ _ _ _ _ _ _ _ _ oy.sees ou.sees).mono ?_
  rintro e w11 ⟨rfl, b11⟩
  have s11 := b11.size
  replace or := or.below b11
  replace ox := ox.below b11
  replace oy := oy.below b11
  replace og := og.below b11
  replace ou := ou.below b11
  replace h := h.below b11 hB.size
  replace h' := h'.below b11 hB.size
  replace hB := below_later hB b11 (Nat.le_refl _)
  clear b11
  clear ou
  go_wp2_with fail
  refine (markIntS_any _ _ _ _ _ _ 1 _ ox (by omega) (by omega)).mono ?_
  rintro e w12 ⟨rfl, qx, f12, z12⟩
  have s12 : w11.heap.size ≤ w12.heap.size := Nat.le_of_eq z12.symm
  clear z12
  replace or := or.fr f12 (by omega)
  replace oy := oy.fr f12 (by omega)
  replace og := og.fr f12 (by omega)
  replace h := h.fr f12 (by omega) hB.size
  replace h' := h'.fr f12 (by omega) hB.size
  clear ox
  replace hB := f12.below hB (by omega) (Nat.le_refl _)
  clear f12
  have ox := qx
  clear qx
  clear ox
  go_wp2_with fail
  refine (markIntS_any _ _ _ _ _ _ (1 + d.length) _ oy (by omega) (by omega)).mono ?_
  rintro e w13 ⟨rfl, qy, f13, z13⟩
  have s13 : w12.heap.size ≤ w13.heap.size := Nat.le_of_eq z13.symm
  clear z13
  replace or := or.fr f13 (by omega)
  replace og := og.fr f13 (by omega)
  replace h := h.fr f13 (by omega) hB.size
  replace h' := h'.fr f13 (by omega) hB.size
  clear oy
  replace hB := f13.below hB (by omega) (Nat.le_refl _)
  clear f13
  have oy := qy
  clear qy
  clear oy
  go_wp2_with fail
  refine (eqIntS_t _ _ _ _ _ _ _ _ _ _ og.sees or.sees).mono ?_
  rintro e w14 ⟨rfl, b14⟩
  have s14 := b14.size
  replace or := or.below b14
  replace og := og.below b14
  replace h := h.below b14 hB.size
  replace h' := h'.below b14 hB.size
  replace hB := below_later hB b14 (Nat.le_refl _)
  clear b14
  go_wp2_with fail
  refine (markIntS_any _ _ _ _ _ _ 1 _ og (by omega) (by omega)).mono ?_
  rintro e w15 ⟨rfl, qg, f15, z15⟩
  have s15 : w14.heap.size ≤ w15.heap.size := Nat.le_of_eq z15.symm
  clear z15
  replace or := or.fr f15 (by omega)
  replace h := h.fr f15 (by omega) hB.size
  replace h' := h'.fr f15 (by omega) hB.size
  clear og
  replace hB := f15.below hB (by omega) (Nat.le_refl _)
  clear f15
  have og := qg
  clear qg
  go_wp2_with fail
  refine (heldIntS_any _ _ _ _ 1 _ og.sees (by omega) (by omega)).mono ?_
  rintro e w' ⟨rfl, rfl⟩
  go_wp2_with fail
  refine (toIntS_any _ _ _ _ _ _ h hB.size (by omega)).mono ?_
  rintro e w16 ⟨As, cs, rfl, os, b16⟩
  have s16 := b16.size
  replace or := or.below b16
  replace og := og.below b16
  replace h := h.below b16 hB.size
  replace h' := h'.below b16 hB.size
  replace hB := below_later hB b16 (Nat.le_refl _)
  clear b16
  go_wp2_with fail
  refine (toIntS_any _ _ _ _ _ _ h' hB.size (by omega)).mono ?_
  rintro e w17 ⟨At, ct, rfl, ot, b17⟩
  have s17 := b17.size
  replace or := or.below b17
  replace og := og.below b17
  replace os := os.below b17
  replace h := h.below b17 hB.size
  replace h' := h'.below b17 hB.size
  replace hB := below_later hB b17 (Nat.le_refl _)
  clear b17
  go_wp2_with fail
  refine (implWriteSectors_any _ _ _ _ _ _ _ _ _ _ _ _ os.sees (by omega) ot.sees (by omega)).mono ?_
  rintro e w18 ⟨Av, cv, rfl, ov, b18⟩
  have s18 := b18.size
  replace or := or.below b18
  replace og := og.below b18
  replace os := os.below b18
  replace ot := ot.below b18
  replace h := h.below b18 hB.size
  replace h' := h'.below b18 hB.size
  replace hB := below_later hB b18 (Nat.le_refl _)
  clear b18
  clear os
  clear ot
  go_wp2_with fail
  refine (eqIntS_t _ _ _ _ _ _ _ _ _ _ ov.sees or.sees).mono ?_
  rintro e w19 ⟨rfl, b19⟩
  have s19 := b19.size
  replace or := or.below b19
  replace og := og.below b19
  replace ov := ov.below b19
  replace h := h.below b19 hB.size
  replace h' := h'.below b19 hB.size
  replace hB := below_later hB b19 (Nat.le_refl _)
  clear b19
  go_wp2_with fail
  refine (heldIntS_any _ _ _ _ 1 _ og.sees (by omega) (by omega)).mono ?_
  rintro e w' ⟨rfl, rfl⟩
  go_wp2_with fail
  go_ret
  exact ⟨rfl, hB⟩
end Go.Proofs.Ythjmjnekimkflaa
