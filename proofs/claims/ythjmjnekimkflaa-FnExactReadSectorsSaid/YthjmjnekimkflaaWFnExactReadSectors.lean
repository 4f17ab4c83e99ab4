/-
  Walk: the law FnExactReadSectors returns true.
-/
import Derived.Test.YthjmjnekimkflaaD5
namespace Go.Proofs.Ythjmjnekimkflaa
open Go.RowKit
theorem law_FnExactReadSectors (w : World) (A : Option Addr) (n c : Nat) (d : List Int) (h : Sees w w.heap.size 1 A n c (ints d)) (_hd : ∀ v ∈ d, -9223372036854775808 ≤ v ∧ v ≤ 9223372036854775807) (a : Int) (_ha : -9223372036854775808 ≤ a ∧ a ≤ 9223372036854775807) (m : Int) (_hm : -9223372036854775808 ≤ m ∧ m ≤ 9223372036854775807) :
    Calls Try.prog 7 #[.slice A n c, .int .i64 a, .int .i64 m] w (RetPure w (.bool true)) := by
  obtain rfl := h.int
  have hc1 := h.cap
  have hc2 := h.big
  have hlen : (rdS d a m).length ≤ 64 := rdS_64 d a m
  by_cases hbail : 1048576 < d.length
  · go_enter Try.func7, Try.ntmps7
    go_wp2_with fail
    go_ret
    exact ⟨rfl, Below.refl _ _⟩
  have hB : Below w.heap.size w w := Below.refl _ _
  go_enter Try.func7, Try.ntmps7
  go_wp2_with fail
  refine (toIntS_any _ _ _ _ _ _ h hB.size (by omega)).mono ?_
  rintro e w1 ⟨At, ct, rfl, ot, b1⟩
  have s1 := b1.size
  replace h := h.below b1 hB.size
  replace hB := below_later hB b1 (Nat.le_refl _)
  clear b1
  go_wp2_with fail
  refine (specReadSectors_any _ _ _ _ _ _ _ _ ot.sees (Nat.le_refl _)).mono ?_
  rintro e w2 ⟨Ar, cr, rfl, or, b2⟩
  have s2 := b2.size
  replace ot := ot.below b2
  replace h := h.below b2 hB.size
  replace hB := below_later hB b2 (Nat.le_refl _)
  clear b2
  clear ot
  go_wp2_with fail
  refine (toIntS_any _ _ _ _ _ _ h hB.size (by omega)).mono ?_
  rintro e w3 ⟨Ax, cx, rfl, ox, b3⟩
  have s3 := b3.size
  replace or := or.below b3
  replace h := h.below b3 hB.size
  replace hB := below_later hB b3 (Nat.le_refl _)
  clear b3
  go_wp2_with fail
  refine (implReadSectors_any _ _ _ _ _ _ _ _ ox.sees (Nat.le_refl _)).mono ?_
  rintro e w4 ⟨Ag, cg, rfl, og, b4⟩
  have s4 := b4.size
  replace or := or.below b4
  replace ox := ox.below b4
  replace h := h.below b4 hB.size
  replace hB := below_later hB b4 (Nat.le_refl _)
  clear b4
  go_wp2_with fail
  refine (eqIntS_t _ _ _ _ _ _ _ _ _ _ og.sees or.sees).mono ?_
  rintro e w5 ⟨rfl, b5⟩
  have s5 := b5.size
  replace or := or.below b5
  replace ox := ox.below b5
  replace og := og.below b5
  replace h := h.below b5 hB.size
  replace hB := below_later hB b5 (Nat.le_refl _)
  clear b5
  go_wp2_with fail
  refine (toIntS_any _ _ _ _ _ _ h hB.size (by omega)).mono ?_
  rintro e w6 ⟨Ay, cy, rfl, oy, b6⟩
  have s6 := b6.size
  replace or := or.below b6
  replace ox := ox.below b6
  replace og := og.below b6
  replace h := h.below b6 hB.size
  replace hB := below_later hB b6 (Nat.le_refl _)
  clear b6
  go_wp2_with fail
  refine (eqIntS_t _ _ _ _ _ _ _ _ _ _ ox.sees oy.sees).mono ?_
  rintro e w7 ⟨rfl, b7⟩
  have s7 := b7.size
  replace or := or.below b7
  replace ox := ox.below b7
  replace og := og.below b7
  replace oy := oy.below b7
  replace h := h.below b7 hB.size
  replace hB := below_later hB b7 (Nat.le_refl _)
  clear b7
  clear oy
  go_wp2_with fail
  refine (markIntS_any _ _ _ _ _ _ 1 _ ox (by omega) (by omega)).mono ?_
  rintro e w8 ⟨rfl, qx, f8, z8⟩
  have s8 : w7.heap.size ≤ w8.heap.size := Nat.le_of_eq z8.symm
  clear z8
  replace or := or.fr f8 (by omega)
  replace og := og.fr f8 (by omega)
  replace h := h.fr f8 (by omega) hB.size
  clear ox
  replace hB := f8.below hB (by omega) (Nat.le_refl _)
  clear f8
  have ox := qx
  clear qx
  clear ox
  go_wp2_with fail
  refine (eqIntS_t _ _ _ _ _ _ _ _ _ _ og.sees or.sees).mono ?_
  rintro e w9 ⟨rfl, b9⟩
  have s9 := b9.size
  replace or := or.below b9
  replace og := og.below b9
  replace h := h.below b9 hB.size
  replace hB := below_later hB b9 (Nat.le_refl _)
  clear b9
  go_wp2_with fail
  refine (markIntS_any _ _ _ _ _ _ 1 _ og (by omega) (by omega)).mono ?_
  rintro e w10 ⟨rfl, qg, f10, z10⟩
  have s10 : w9.heap.size ≤ w10.heap.size := Nat.le_of_eq z10.symm
  clear z10
  replace or := or.fr f10 (by omega)
  replace h := h.fr f10 (by omega) hB.size
  clear og
  replace hB := f10.below hB (by omega) (Nat.le_refl _)
  clear f10
  have og := qg
  clear qg
  go_wp2_with fail
  refine (heldIntS_any _ _ _ _ 1 _ og.sees (by omega) (by omega)).mono ?_
  rintro e w' ⟨rfl, rfl⟩
  go_wp2_with fail
  refine (toIntS_any _ _ _ _ _ _ h hB.size (by omega)).mono ?_
  rintro e w11 ⟨Au, cu, rfl, ou, b11⟩
  have s11 := b11.size
  replace or := or.below b11
  replace og := og.below b11
  replace h := h.below b11 hB.size
  replace hB := below_later hB b11 (Nat.le_refl _)
  clear b11
  go_wp2_with fail
  refine (implReadSectors_any _ _ _ _ _ _ _ _ ou.sees (Nat.le_refl _)).mono ?_
  rintro e w12 ⟨Av, cv, rfl, ov, b12⟩
  have s12 := b12.size
  replace or := or.below b12
  replace og := og.below b12
  replace ou := ou.below b12
  replace h := h.below b12 hB.size
  replace hB := below_later hB b12 (Nat.le_refl _)
  clear b12
  clear ou
  go_wp2_with fail
  refine (eqIntS_t _ _ _ _ _ _ _ _ _ _ ov.sees or.sees).mono ?_
  rintro e w13 ⟨rfl, b13⟩
  have s13 := b13.size
  replace or := or.below b13
  replace og := og.below b13
  replace ov := ov.below b13
  replace h := h.below b13 hB.size
  replace hB := below_later hB b13 (Nat.le_refl _)
  clear b13
  go_wp2_with fail
  refine (heldIntS_any _ _ _ _ 1 _ og.sees (by omega) (by omega)).mono ?_
  rintro e w' ⟨rfl, rfl⟩
  go_wp2_with fail
  go_ret
  exact ⟨rfl, hB⟩
end Go.Proofs.Ythjmjnekimkflaa
