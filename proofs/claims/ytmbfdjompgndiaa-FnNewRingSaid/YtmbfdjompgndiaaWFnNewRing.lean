/-
  Walk: the law FnNewRing returns true.
-/
import Derived.Test.YtmbfdjompgndiaaR9
import Derived.Test.YtmbfdjompgndiaaR7
import Derived.Test.YtmbfdjompgndiaaA
namespace Go.Proofs.Ytmbfdjompgndiaa
open Go.RowKit
set_option maxHeartbeats 2000000 in
theorem law_FnNewRing (w : World) (A : Option Addr) (n c : Nat) (bs : List Int) (h : Sees w w.heap.size 1 A n c (byts bs)) (hb : ∀ v ∈ bs, 0 ≤ v ∧ v ≤ 255) :
    Calls Try.prog 7 #[.slice A n c] w (RetPure w (.bool true)) := by
  have hc1 := h.cap
  have hc2 := h.big
  by_cases hn : 1048576 < n
  · go_enter Try.func7, Try.ntmps7
    go_wp2_with fail
    go_ret
    exact ⟨rfl, Below.refl _ _⟩
  have hB : Below w.heap.size w w := Below.refl _ _
  go_enter Try.func7, Try.ntmps7
  go_wp2_with fail
  refine (drawNewRing_any _ _ _ _ _ _ h (Nat.le_refl _) hb).mono ?_
  rintro e w1 ⟨q, rfl, hq, b1⟩
  have s1 := b1.size
  replace hB := below_later hB b1 (Nat.le_refl _)
  clear b1
  have hl := rnew_16 q
  clear h hb
  go_wp2_with fail
  refine (implNewRing_any q _).mono ?_
  rintro e w2 ⟨At, ct, rfl, ot, b2⟩
  have s2 := b2.size
  replace hB := below_later hB b2 (Nat.le_refl _)
  clear b2
  simp only [ringV]
  have hn3 := below_new w2 (.cells #[.slice At (rnew q).length ct, .int .i64 0, .int .i64 0] 27)
  replace ot := ot.below hn3
  replace hB := below_later hB hn3 (Nat.le_refl _)
  clear hn3
  have rt : (w2.alloc (.cells #[.slice At (rnew q).length ct, .int .i64 0, .int .i64 0] 27)).heap[w2.heap.size]? = some (.cells #[.slice At (rnew q).length ct, .int .i64 0, .int .i64 0] 27 (0, 0)) := heap_alloc_new _ _
  obtain ⟨mt0, mt1, mt2⟩ := cells3 rt
  have s3 : w2.heap.size < (w2.alloc (.cells #[.slice At (rnew q).length ct, .int .i64 0, .int .i64 0] 27)).heap.size := by rw [World.size_alloc]; exact Nat.lt_succ_self _
  go_wp2_with fail
  generalize (w2.alloc (.cells #[.slice At (rnew q).length ct, .int .i64 0, .int .i64 0] 27)) = u3 at *
  go_region_held3 (fun w' => w'.cell? ⟨w2.heap.size, 0, none⟩ = some (.slice At (rnew q).length ct) ∧ w'.cell? ⟨w2.heap.size, 1, none⟩ = some (.int .i64 0) ∧ w'.cell? ⟨w2.heap.size, 2, none⟩ = some (.int .i64 0)) (first | (refine ⟨?_, ?_, ?_⟩ <;> assumption) | go_keep)
    (first
      | (go_at_call 22; refine (specNewRing_any q _).mono ?_; rintro e w4 ⟨Ay, cy, rfl, oy, b4⟩; replace b4 := drew_below b4; simp only [ringV]; have s4 := b4.size; replace ot := ot.below b4; replace rt := rowKeep rt b4; clear mt0 mt1 mt2; obtain ⟨mt0, mt1, mt2⟩ := cells3 rt; replace hB := below_later hB b4 (Nat.le_refl _); clear b4)
      | (go_at_call 31; refine (sameRing_t _ _ _ _ _ _ _ _ _ _ _ _ ot.sees oy.sees (by omega) (by show _ ≤ _; omega)).mono ?_; rintro e w5 ⟨rfl, b5⟩; have s5 := b5.size; replace ot := ot.below b5; replace oy := oy.below b5; replace rt := rowKeep rt b5; clear mt0 mt1 mt2; obtain ⟨mt0, mt1, mt2⟩ := cells3 rt; replace hB := below_later hB b5 (Nat.le_refl _); clear b5))
  clear oy
  have hv : rval ⟨rnew q, 0, 0⟩ = win q 2 16 := rnew_val q
  have hp : rpopped ⟨rnew q, 0, 0⟩ = false := by unfold rpopped rnone; simp
  have HV := Lib.hid hv
  have HP := Lib.hid hp
  clear hv hp
  go_wp2_with fail
  refine (implRingPop_any At (rnew q).length ct _ (rnew q) 0 0 _ ot.sees (by omega)).mono ?_
  unfold popV ringV
  rw [HP.out]
  rintro e w6 ⟨Ap, cp, rfl, op, b6⟩
  have s6 := b6.size
  replace ot := ot.below b6
  replace rt := rowKeep rt b6
  clear mt0 mt1 mt2
  obtain ⟨mt0, mt1, mt2⟩ := cells3 rt
  replace hB := below_later hB b6 (Nat.le_refl _)
  clear b6
  generalize hr : rpop ⟨rnew q, 0, 0⟩ = r at *
  obtain ⟨pd, ph, pt⟩ := r
  clear hr
  dsimp only at op
  have hn7 := below_new w6 (.cells #[.slice Ap pd.length cp, .int .i64 ph, .int .i64 pt] 27)
  replace ot := ot.below hn7
  replace op := op.below hn7
  replace rt := rowKeep rt hn7
  clear mt0 mt1 mt2
  obtain ⟨mt0, mt1, mt2⟩ := cells3 rt
  replace hB := below_later hB hn7 (Nat.le_refl _)
  clear hn7
  have rp : (w6.alloc (.cells #[.slice Ap pd.length cp, .int .i64 ph, .int .i64 pt] 27)).heap[w6.heap.size]? = some (.cells #[.slice Ap pd.length cp, .int .i64 ph, .int .i64 pt] 27 (0, 0)) := heap_alloc_new _ _
  obtain ⟨mp0, mp1, mp2⟩ := cells3 rp
  have s7 : w6.heap.size < (w6.alloc (.cells #[.slice Ap pd.length cp, .int .i64 ph, .int .i64 pt] 27)).heap.size := by rw [World.size_alloc]; exact Nat.lt_succ_self _
  cases hw : win q 2 16
  · have hn2 := (win_no _ _ _).1 hw
    by_cases hlo : q < 2
    · have HW := Lib.hid hw
      clear hw
      have hz : decide (2 ≤ q) = false := decide_eq_false (by omega)
      go_wp2_with fail
      generalize (w6.alloc (.cells #[.slice Ap pd.length cp, .int .i64 ph, .int .i64 pt] 27)) = u7 at *
      refine (implRingValid_any At (rnew q).length ct _ (rnew q) 0 0 _ ot.sees).mono ?_
      rw [HV.out, HW.out]
      rintro e w8 ⟨rfl, b8⟩
      have s8 := b8.size
      replace ot := ot.below b8
      replace op := op.below b8
      replace rt := rowKeep rt b8
      clear mt0 mt1 mt2
      obtain ⟨mt0, mt1, mt2⟩ := cells3 rt
      replace rp := rowKeep rp b8
      clear mp0 mp1 mp2
      obtain ⟨mp0, mp1, mp2⟩ := cells3 rp
      replace hB := below_later hB b8 (Nat.le_refl _)
      clear b8
      go_wp2_with fail
      refine (alive_any _).mono ?_
      rintro e w9 ⟨rfl, b9⟩
      have s9 := b9.size
      replace ot := ot.below b9
      replace op := op.below b9
      replace rt := rowKeep rt b9
      clear mt0 mt1 mt2
      obtain ⟨mt0, mt1, mt2⟩ := cells3 rt
      replace rp := rowKeep rp b9
      clear mp0 mp1 mp2
      obtain ⟨mp0, mp1, mp2⟩ := cells3 rp
      replace hB := below_later hB b9 (Nat.le_refl _)
      clear b9
      go_wp2_with fail
      go_ret
      exact ⟨rfl, hB⟩
    · have HW := Lib.hid hw
      clear hw
      have hz : decide (q ≤ 16) = false := decide_eq_false (by omega)
      have hz2 : 2 ≤ q := by omega
      go_wp2_with fail
      generalize (w6.alloc (.cells #[.slice Ap pd.length cp, .int .i64 ph, .int .i64 pt] 27)) = u7 at *
      refine (implRingValid_any At (rnew q).length ct _ (rnew q) 0 0 _ ot.sees).mono ?_
      rw [HV.out, HW.out]
      rintro e w8 ⟨rfl, b8⟩
      have s8 := b8.size
      replace ot := ot.below b8
      replace op := op.below b8
      replace rt := rowKeep rt b8
      clear mt0 mt1 mt2
      obtain ⟨mt0, mt1, mt2⟩ := cells3 rt
      replace rp := rowKeep rp b8
      clear mp0 mp1 mp2
      obtain ⟨mp0, mp1, mp2⟩ := cells3 rp
      replace hB := below_later hB b8 (Nat.le_refl _)
      clear b8
      go_wp2_with fail
      refine (alive_any _).mono ?_
      rintro e w9 ⟨rfl, b9⟩
      have s9 := b9.size
      replace ot := ot.below b9
      replace op := op.below b9
      replace rt := rowKeep rt b9
      clear mt0 mt1 mt2
      obtain ⟨mt0, mt1, mt2⟩ := cells3 rt
      replace rp := rowKeep rp b9
      clear mp0 mp1 mp2
      obtain ⟨mp0, mp1, mp2⟩ := cells3 rp
      replace hB := below_later hB b9 (Nat.le_refl _)
      clear b9
      go_wp2_with fail
      go_ret
      exact ⟨rfl, hB⟩
  · have HW := Lib.hid hw
    have hq2 := (win_iff _ _ _).1 hw
    clear hw
    go_wp2_with fail
    generalize (w6.alloc (.cells #[.slice Ap pd.length cp, .int .i64 ph, .int .i64 pt] 27)) = u7 at *
    refine (implRingValid_any At (rnew q).length ct _ (rnew q) 0 0 _ ot.sees).mono ?_
    rw [HV.out, HW.out]
    rintro e w8 ⟨rfl, b8⟩
    have s8 := b8.size
    replace ot := ot.below b8
    replace op := op.below b8
    replace rt := rowKeep rt b8
    clear mt0 mt1 mt2
    obtain ⟨mt0, mt1, mt2⟩ := cells3 rt
    replace rp := rowKeep rp b8
    clear mp0 mp1 mp2
    obtain ⟨mp0, mp1, mp2⟩ := cells3 rp
    replace hB := below_later hB b8 (Nat.le_refl _)
    clear b8
    go_wp2_with fail
    refine (alive_any _).mono ?_
    rintro e w9 ⟨rfl, b9⟩
    have s9 := b9.size
    replace ot := ot.below b9
    replace op := op.below b9
    replace rt := rowKeep rt b9
    clear mt0 mt1 mt2
    obtain ⟨mt0, mt1, mt2⟩ := cells3 rt
    replace rp := rowKeep rp b9
    clear mp0 mp1 mp2
    obtain ⟨mp0, mp1, mp2⟩ := cells3 rp
    replace hB := below_later hB b9 (Nat.le_refl _)
    clear b9
    go_wp2_with fail
    go_ret
    exact ⟨rfl, hB⟩
end Go.Proofs.Ytmbfdjompgndiaa
