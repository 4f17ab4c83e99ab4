/-
  Walk: the law FnExactExecuteCommand returns true.
-/
import Derived.Test.YtmdkihinhoclbaaC7
import Derived.Test.YtmdkihinhoclbaaC3
namespace Go.Proofs.Ytmdkihinhoclbaa
open Go.RowKit
set_option maxHeartbeats 4000000 in
theorem law_FnExactExecuteCommand (w : World) (A : Option Addr) (n c : Nat) (d : List Int) (h : Sees w w.heap.size 1 A n c (ints d)) (_hd : ∀ v ∈ d, -9223372036854775808 ≤ v ∧ v ≤ 9223372036854775807) (k p m v : Int) :
    Calls Try.prog 9 #[.slice A n c, .agg #[.int .i64 k, .int .i64 p, .int .i64 m, .int .i64 v]] w (RetPure w (.bool true)) := by
  obtain rfl := h.int
  have hc1 := h.cap
  have hc2 := h.big
  by_cases hbail : 1048576 < d.length
  · go_enter Try.func9, Try.ntmps9
    go_wp2_with fail
    go_ret
    exact ⟨rfl, below_new _ _⟩
  go_enter Try.func9, Try.ntmps9
  go_upto_region 3 with fail
  go_cut [5, 6] from 18 to 25 (fun x y wx => AtPair w wx (.cells #[.int .i64 k, .int .i64 p, .int .i64 m, .int .i64 v] 23) (exD d ⟨k, p, m, v⟩) (exR d ⟨k, p, m, v⟩) x y)
  case first =>
    have hR : (w.alloc (.cells #[.int .i64 k, .int .i64 p, .int .i64 m, .int .i64 v] 23)).heap[w.heap.size]? = some (.cells #[.int .i64 k, .int .i64 p, .int .i64 m, .int .i64 v] 23 (0, 0)) := heap_alloc_new w _
    have hB := below_new w (.cells #[.int .i64 k, .int .i64 p, .int .i64 m, .int .i64 v] 23)
    have hs := h.below hB (Nat.le_refl _)
    have hlt : w.heap.size < (w.alloc (.cells #[.int .i64 k, .int .i64 p, .int .i64 m, .int .i64 v] 23)).heap.size := by simp
    generalize (w.alloc (.cells #[.int .i64 k, .int .i64 p, .int .i64 m, .int .i64 v] 23)) = W at hR hB hs hlt ⊢
    obtain ⟨m0, m1, m2, m3⟩ := cells4 hR
    go_region_with
      (first
        | (go_at_call 28; refine (toIntS_any _ _ _ _ _ _ (hs.drewN 1) hB.size (by omega)).mono ?_; rintro e w1 ⟨A1, c1, rfl, o1, b1⟩; have hR1 := keepRow (w := W.drew) hR b1; have hB1 := below_later (below_drewN hB 1) b1 (Nat.le_refl _); have z1 : W.heap.size ≤ w1.heap.size := b1.size; obtain ⟨n0, n1, n2, n3⟩ := cells4 hR1)
        | (go_at_call 15; refine (toCommand_any ⟨k, p, m, v⟩ _).mono ?_; rintro e w2 ⟨rfl, b2⟩; simp only [cmdV]; have hR2 := keepRow hR1 b2; have hB2 := below_later hB1 b2 (Nat.le_refl _); have z2 := b2.size; have o2 := o1.below b2)
        | (go_at_call 27; refine (specExecuteCommand_any _ _ _ _ d ⟨k, p, m, v⟩ _ o2.sees z2).mono ?_; rintro e w3 ⟨A3, c3, A4, c4, mid, rfl, o3, o4, h1, h2, b3⟩; have hR3 := keepRow hR2 b3; have hB3 := below_later hB2 b3 (Nat.le_refl _)))
    all_goals
      go_wp2_with fail
      go_meet
      exact ⟨hR3, A3, c3, A4, c4, _, mid, rfl, rfl, o3, o4, by omega, h1, h2, hB3⟩
  case rest =>
    obtain ⟨rc, As, cs, At, ct, lo, mid, rfl, rfl, os, ot, hlo, g1, g2, hB⟩ := hcut
    replace h := h.below hB (Nat.le_refl _)
    obtain ⟨mc0, mc1, mc2, mc3⟩ := cells4 rc
    have hl1 : (exD d ⟨k, p, m, v⟩).length ≤ 64 := exD_64 d _
    have hl2 : (exR d ⟨k, p, m, v⟩).length ≤ 64 := exR_64 d _
    go_wp2_with fail
    refine (toIntS_any _ _ _ _ _ _ h hB.size (by omega)).mono ?_
    rintro e w1 ⟨Ax, cx, rfl, ox, b1⟩
    replace rc := keepRow rc b1
    clear mc0 mc1 mc2 mc3
    obtain ⟨mc0, mc1, mc2, mc3⟩ := cells4 rc
    have s1 := b1.size
    replace os := os.below b1
    replace ot := ot.below b1
    replace h := h.below b1 hB.size
    replace hB := below_later hB b1 (Nat.le_refl _)
    clear b1
    go_wp2_with fail
    refine (toCommand_any ⟨k, p, m, v⟩ _).mono ?_
    rintro e w2 ⟨rfl, b2⟩
    replace rc := keepRow rc b2
    clear mc0 mc1 mc2 mc3
    obtain ⟨mc0, mc1, mc2, mc3⟩ := cells4 rc
    have s2 := b2.size
    replace os := os.below b2
    replace ot := ot.below b2
    replace ox := ox.below b2
    replace h := h.below b2 hB.size
    replace hB := below_later hB b2 (Nat.le_refl _)
    clear b2
    simp only [cmdV]
    go_wp2_with fail
    refine (implExecuteCommand_any _ _ _ _ d ⟨k, p, m, v⟩ _ ox.sees (by omega)).mono ?_
    rintro e w3 ⟨Ag, cg, Av, cv, mid3, rfl, og, ov, p3, q3, b3⟩
    replace rc := keepRow rc b3
    clear mc0 mc1 mc2 mc3
    obtain ⟨mc0, mc1, mc2, mc3⟩ := cells4 rc
    have s3 := b3.size
    replace os := os.below b3
    replace ot := ot.below b3
    replace ox := ox.below b3
    replace h := h.below b3 hB.size
    replace hB := below_later hB b3 (Nat.le_refl _)
    clear b3
    go_wp2_with fail
    refine (eqIntS_t _ _ _ _ _ _ _ _ _ _ og.sees os.sees).mono ?_
    rintro e w4 ⟨rfl, b4⟩
    replace rc := keepRow rc b4
    clear mc0 mc1 mc2 mc3
    obtain ⟨mc0, mc1, mc2, mc3⟩ := cells4 rc
    have s4 := b4.size
    replace os := os.below b4
    replace ot := ot.below b4
    replace ox := ox.below b4
    replace og := og.below b4
    replace ov := ov.below b4
    replace h := h.below b4 hB.size
    replace hB := below_later hB b4 (Nat.le_refl _)
    clear b4
    go_wp2_with fail
    refine (eqIntS_t _ _ _ _ _ _ _ _ _ _ ov.sees ot.sees).mono ?_
    rintro e w5 ⟨rfl, b5⟩
    replace rc := keepRow rc b5
    clear mc0 mc1 mc2 mc3
    obtain ⟨mc0, mc1, mc2, mc3⟩ := cells4 rc
    have s5 := b5.size
    replace os := os.below b5
    replace ot := ot.below b5
    replace ox := ox.below b5
    replace og := og.below b5
    replace ov := ov.below b5
    replace h := h.below b5 hB.size
    replace hB := below_later hB b5 (Nat.le_refl _)
    clear b5
    go_wp2_with fail
    refine (toIntS_any _ _ _ _ _ _ h hB.size (by omega)).mono ?_
    rintro e w6 ⟨Ay, cy, rfl, oy, b6⟩
    replace rc := keepRow rc b6
    clear mc0 mc1 mc2 mc3
    obtain ⟨mc0, mc1, mc2, mc3⟩ := cells4 rc
    have s6 := b6.size
    replace os := os.below b6
    replace ot := ot.below b6
    replace ox := ox.below b6
    replace og := og.below b6
    replace ov := ov.below b6
    replace h := h.below b6 hB.size
    replace hB := below_later hB b6 (Nat.le_refl _)
    clear b6
    go_wp2_with fail
    refine (eqIntS_t _ _ _ _ _ _ _ _ _ _ ox.sees oy.sees).mono ?_
    rintro e w7 ⟨rfl, b7⟩
    replace rc := keepRow rc b7
    clear mc0 mc1 mc2 mc3
    obtain ⟨mc0, mc1, mc2, mc3⟩ := cells4 rc
    have s7 := b7.size
    replace os := os.below b7
    replace ot := ot.below b7
    replace ox := ox.below b7
    replace og := og.below b7
    replace ov := ov.below b7
    replace oy := oy.below b7
    replace h := h.below b7 hB.size
    replace hB := below_later hB b7 (Nat.le_refl _)
    clear b7
    clear oy
    go_wp2_with fail
    refine (markIntS_any _ _ _ _ _ _ 1 _ ox (by omega) (by omega)).mono ?_
    rintro e w8 ⟨rfl, qx, f8, z8⟩
    have s8 : w7.heap.size ≤ w8.heap.size := Nat.le_of_eq z8.symm
    clear z8
    replace os := os.fr f8 (by omega)
    replace ot := ot.fr f8 (by omega)
    replace og := og.fr f8 (by omega)
    replace ov := ov.fr f8 (by omega)
    replace h := h.fr f8 (by omega) hB.size
    clear ox
    replace rc := (f8.block w.heap.size (by omega) (.inl (by omega))).trans rc
    clear mc0 mc1 mc2 mc3
    obtain ⟨mc0, mc1, mc2, mc3⟩ := cells4 rc
    replace hB := f8.below hB (by omega) (Nat.le_refl _)
    clear f8
    have ox := qx
    clear qx
    clear ox
    go_wp2_with fail
    refine (eqIntS_t _ _ _ _ _ _ _ _ _ _ og.sees os.sees).mono ?_
    rintro e w9 ⟨rfl, b9⟩
    replace rc := keepRow rc b9
    clear mc0 mc1 mc2 mc3
    obtain ⟨mc0, mc1, mc2, mc3⟩ := cells4 rc
    have s9 := b9.size
    replace os := os.below b9
    replace ot := ot.below b9
    replace og := og.below b9
    replace ov := ov.below b9
    replace h := h.below b9 hB.size
    replace hB := below_later hB b9 (Nat.le_refl _)
    clear b9
    go_wp2_with fail
    refine (eqIntS_t _ _ _ _ _ _ _ _ _ _ ov.sees ot.sees).mono ?_
    rintro e w10 ⟨rfl, b10⟩
    replace rc := keepRow rc b10
    clear mc0 mc1 mc2 mc3
    obtain ⟨mc0, mc1, mc2, mc3⟩ := cells4 rc
    have s10 := b10.size
    replace os := os.below b10
    replace ot := ot.below b10
    replace og := og.below b10
    replace ov := ov.below b10
    replace h := h.below b10 hB.size
    replace hB := below_later hB b10 (Nat.le_refl _)
    clear b10
    go_wp2_with fail
    refine (markIntS_any _ _ _ _ _ _ 1 _ og (by omega) (by omega)).mono ?_
    rintro e w11 ⟨rfl, qg, f11, z11⟩
    have s11 : w10.heap.size ≤ w11.heap.size := Nat.le_of_eq z11.symm
    clear z11
    replace os := os.fr f11 (by omega)
    replace ot := ot.fr f11 (by omega)
    replace ov := ov.fr f11 (by omega)
    replace h := h.fr f11 (by omega) hB.size
    clear og
    replace rc := (f11.block w.heap.size (by omega) (.inl (by omega))).trans rc
    clear mc0 mc1 mc2 mc3
    obtain ⟨mc0, mc1, mc2, mc3⟩ := cells4 rc
    replace hB := f11.below hB (by omega) (Nat.le_refl _)
    clear f11
    have og := qg
    clear qg
    go_wp2_with fail
    refine (markIntS_any _ _ _ _ _ _ (1 + (exD d ⟨k, p, m, v⟩).length) _ ov (by omega) (by omega)).mono ?_
    rintro e w12 ⟨rfl, qv, f12, z12⟩
    have s12 : w11.heap.size ≤ w12.heap.size := Nat.le_of_eq z12.symm
    clear z12
    replace os := os.fr f12 (by omega)
    replace ot := ot.fr f12 (by omega)
    replace og := og.fr f12 (by omega)
    replace h := h.fr f12 (by omega) hB.size
    clear ov
    replace rc := (f12.block w.heap.size (by omega) (.inl (by omega))).trans rc
    clear mc0 mc1 mc2 mc3
    obtain ⟨mc0, mc1, mc2, mc3⟩ := cells4 rc
    replace hB := f12.below hB (by omega) (Nat.le_refl _)
    clear f12
    have ov := qv
    clear qv
    go_wp2_with fail
    refine (heldIntS_any _ _ _ _ 1 _ og.sees (by omega) (by omega)).mono ?_
    rintro e w' ⟨rfl, rfl⟩
    go_wp2_with fail
    refine (heldIntS_any _ _ _ _ (1 + (exD d ⟨k, p, m, v⟩).length) _ ov.sees (by omega) (by omega)).mono ?_
    rintro e w' ⟨rfl, rfl⟩
    go_upto_region 26 with fail
    go_cut [13, 14] from 86 to 93 (fun x y wx => RetPair w12 (exD d ⟨k, p, m, v⟩) (exR d ⟨k, p, m, v⟩) (.returned (.tuple #[x, y])) wx)
    case first =>
      go_region_with
        (first
          | (go_at_call 28; refine (toIntS_any _ _ _ _ _ _ (h.drewN 1) hB.size (by omega)).mono ?_; rintro e x1 ⟨X1, d1, rfl, j1, b1⟩; have hR1 := keepRow (w := w12.drew) rc b1; have hB1 := below_later (below_drewN (Below.refl w12.heap.size w12) 1) b1 (Nat.le_refl _); obtain ⟨n0, n1, n2, n3⟩ := cells4 hR1)
          | (go_at_call 15; refine (toCommand_any ⟨k, p, m, v⟩ _).mono ?_; rintro e x2 ⟨rfl, b2⟩; simp only [cmdV]; have hR2 := keepRow hR1 b2; have hB2 := below_later hB1 b2 (Nat.le_refl _); have z2 := b2.size; have j2 := j1.below b2)
          | (go_at_call 29; refine (implExecuteCommand_any _ _ _ _ d ⟨k, p, m, v⟩ _ j2.sees z2).mono ?_; rintro e x3 hp; replace hp := hp.after hB2; obtain ⟨A3, c3, A4, c4, mid', rfl, o3, o4, h1, h2, b3⟩ := hp))
      all_goals
        go_wp2_with fail
        go_meet
        exact ⟨A3, c3, A4, c4, mid', rfl, o3, o4, h1, h2, b3⟩
    case rest =>
      obtain ⟨Ae, ce, Af, cf, mide, he, oe, of, pe, qe, b13⟩ := hcut
      simp only [Ending.returned.injEq, Value.tuple.injEq, Array.mk.injEq, List.cons.injEq, and_true] at he
      obtain ⟨rfl, rfl⟩ := he
      replace rc := keepRow rc b13
      clear mc0 mc1 mc2 mc3
      obtain ⟨mc0, mc1, mc2, mc3⟩ := cells4 rc
      have s13 := b13.size
      replace os := os.below b13
      replace ot := ot.below b13
      replace og := og.below b13
      replace ov := ov.below b13
      replace h := h.below b13 hB.size
      replace hB := below_later hB b13 (Nat.le_refl _)
      clear b13
      go_wp2_with fail
      refine (eqIntS_t _ _ _ _ _ _ _ _ _ _ oe.sees os.sees).mono ?_
      rintro e w14 ⟨rfl, b14⟩
      replace rc := keepRow rc b14
      clear mc0 mc1 mc2 mc3
      obtain ⟨mc0, mc1, mc2, mc3⟩ := cells4 rc
      have s14 := b14.size
      replace os := os.below b14
      replace ot := ot.below b14
      replace og := og.below b14
      replace ov := ov.below b14
      replace oe := oe.below b14
      replace of := of.below b14
      replace h := h.below b14 hB.size
      replace hB := below_later hB b14 (Nat.le_refl _)
      clear b14
      go_wp2_with fail
      refine (eqIntS_t _ _ _ _ _ _ _ _ _ _ of.sees ot.sees).mono ?_
      rintro e w15 ⟨rfl, b15⟩
      replace rc := keepRow rc b15
      clear mc0 mc1 mc2 mc3
      obtain ⟨mc0, mc1, mc2, mc3⟩ := cells4 rc
      have s15 := b15.size
      replace os := os.below b15
      replace ot := ot.below b15
      replace og := og.below b15
      replace ov := ov.below b15
      replace oe := oe.below b15
      replace of := of.below b15
      replace h := h.below b15 hB.size
      replace hB := below_later hB b15 (Nat.le_refl _)
      clear b15
      go_wp2_with fail
      refine (heldIntS_any _ _ _ _ 1 _ og.sees (by omega) (by omega)).mono ?_
      rintro e w' ⟨rfl, rfl⟩
      go_wp2_with fail
      refine (heldIntS_any _ _ _ _ (1 + (exD d ⟨k, p, m, v⟩).length) _ ov.sees (by omega) (by omega)).mono ?_
      rintro e w' ⟨rfl, rfl⟩
      go_wp2_with fail
      go_ret
      exact ⟨rfl, hB⟩
end Go.Proofs.Ytmdkihinhoclbaa
