/-
  Walk: the law FnExactRingCount returns true.
-/
import Derived.Test.YtmbfdjompgndiaaR2
namespace Go.Proofs.Ytmbfdjompgndiaa
open Go.RowKit
theorem law_FnExactRingCount (w : World) (A : Option Addr) (n c : Nat) (d : List Int) (h : Sees w w.heap.size 1 A n c (ints d)) (_hd : ∀ v ∈ d, -9223372036854775808 ≤ v ∧ v ≤ 9223372036854775807) (hd : Int) (_hh : -9223372036854775808 ≤ hd ∧ hd ≤ 9223372036854775807) (tl : Int) (_ht : -9223372036854775808 ≤ tl ∧ tl ≤ 9223372036854775807) :
    Calls Try.prog 5 #[.agg #[.slice A n c, .int .i64 hd, .int .i64 tl]] w (RetPure w (.bool true)) := by
  obtain rfl := h.int
  have hc1 := h.cap
  have hc2 := h.big
  by_cases hbail : 1048576 < d.length
  · go_enter Try.func5, Try.ntmps5
    go_wp2_with fail
    refine (szRing_any _ _ _ _ _ _ _ (by omega) (by omega) (by omega)).mono ?_
    rw [if_pos (by omega)]
    rintro e w1 ⟨rfl, b1⟩
    go_wp2_with fail
    go_ret
    exact ⟨rfl, below_later (below_new _ _) b1 (Nat.le_refl _)⟩
  have hB : Below w.heap.size w w := Below.refl _ _
  have hn1 := below_new w (.cells #[.slice A d.length c, .int .i64 hd, .int .i64 tl] 24)
  replace h := h.below hn1 hB.size
  replace hB := below_later hB hn1 (Nat.le_refl _)
  clear hn1
  have ra : (w.alloc (.cells #[.slice A d.length c, .int .i64 hd, .int .i64 tl] 24)).heap[w.heap.size]? = some (.cells #[.slice A d.length c, .int .i64 hd, .int .i64 tl] 24 (0, 0)) := heap_alloc_new _ _
  obtain ⟨ma0, ma1, ma2⟩ := cells3 ra
  have s1 : w.heap.size < (w.alloc (.cells #[.slice A d.length c, .int .i64 hd, .int .i64 tl] 24)).heap.size := by rw [World.size_alloc]; exact Nat.lt_succ_self _
  go_enter Try.func5, Try.ntmps5
  go_wp2_with fail
  generalize (w.alloc (.cells #[.slice A d.length c, .int .i64 hd, .int .i64 tl] 24)) = u1 at *
  refine (szRing_any _ _ _ _ _ _ _ (by omega) (by omega) (by omega)).mono ?_
  rw [if_neg (by omega)]
  rintro e w2 ⟨rfl, b2⟩
  have s2 := b2.size
  replace h := h.below b2 hB.size
  replace ra := rowKeep ra b2
  clear ma0 ma1 ma2
  obtain ⟨ma0, ma1, ma2⟩ := cells3 ra
  replace hB := below_later hB b2 (Nat.le_refl _)
  clear b2
  go_wp2_with fail
  refine (toRing_any _ _ _ _ _ _ _ _ h hB.size (by omega)).mono ?_
  rintro e w3 ⟨At, ct, rfl, ot, b3⟩
  have s3 := b3.size
  replace h := h.below b3 hB.size
  replace ra := rowKeep ra b3
  clear ma0 ma1 ma2
  obtain ⟨ma0, ma1, ma2⟩ := cells3 ra
  replace hB := below_later hB b3 (Nat.le_refl _)
  clear b3
  simp only [ringV]
  go_wp2_with fail
  refine (specRingCount_any _ _ _ _ _ _ _ _ ot.sees (by omega)).mono ?_
  rintro e w4 ⟨rfl, b4⟩
  have s4 := b4.size
  replace ot := ot.below b4
  replace h := h.below b4 hB.size
  replace ra := rowKeep ra b4
  clear ma0 ma1 ma2
  obtain ⟨ma0, ma1, ma2⟩ := cells3 ra
  replace hB := below_later hB b4 (Nat.le_refl _)
  clear b4
  clear ot
  go_wp2_with fail
  refine (toRing_any _ _ _ _ _ _ _ _ h hB.size (by omega)).mono ?_
  rintro e w5 ⟨Ax, cx, rfl, ox, b5⟩
  have s5 := b5.size
  replace h := h.below b5 hB.size
  replace ra := rowKeep ra b5
  clear ma0 ma1 ma2
  obtain ⟨ma0, ma1, ma2⟩ := cells3 ra
  replace hB := below_later hB b5 (Nat.le_refl _)
  clear b5
  simp only [ringV]
  have hn6 := below_new w5 (.cells #[.slice Ax d.length cx, .int .i64 hd, .int .i64 tl] 27)
  replace ox := ox.below hn6
  replace h := h.below hn6 hB.size
  replace ra := rowKeep ra hn6
  clear ma0 ma1 ma2
  obtain ⟨ma0, ma1, ma2⟩ := cells3 ra
  replace hB := below_later hB hn6 (Nat.le_refl _)
  clear hn6
  have rx : (w5.alloc (.cells #[.slice Ax d.length cx, .int .i64 hd, .int .i64 tl] 27)).heap[w5.heap.size]? = some (.cells #[.slice Ax d.length cx, .int .i64 hd, .int .i64 tl] 27 (0, 0)) := heap_alloc_new _ _
  obtain ⟨mx0, mx1, mx2⟩ := cells3 rx
  have s6 : w5.heap.size < (w5.alloc (.cells #[.slice Ax d.length cx, .int .i64 hd, .int .i64 tl] 27)).heap.size := by rw [World.size_alloc]; exact Nat.lt_succ_self _
  go_wp2_with fail
  generalize (w5.alloc (.cells #[.slice Ax d.length cx, .int .i64 hd, .int .i64 tl] 27)) = u6 at *
  refine (implRingCount_any _ _ _ _ _ _ _ _ ox.sees (by omega)).mono ?_
  rintro e w7 ⟨rfl, b7⟩
  have s7 := b7.size
  replace ox := ox.below b7
  replace h := h.below b7 hB.size
  replace ra := rowKeep ra b7
  clear ma0 ma1 ma2
  obtain ⟨ma0, ma1, ma2⟩ := cells3 ra
  replace rx := rowKeep rx b7
  clear mx0 mx1 mx2
  obtain ⟨mx0, mx1, mx2⟩ := cells3 rx
  replace hB := below_later hB b7 (Nat.le_refl _)
  clear b7
  go_wp2_with fail
  go_region_held3 (fun w' => w'.cell? ⟨w5.heap.size, 0, none⟩ = some (.slice Ax d.length cx) ∧ w'.cell? ⟨w5.heap.size, 1, none⟩ = some (.int .i64 hd) ∧ w'.cell? ⟨w5.heap.size, 2, none⟩ = some (.int .i64 tl) ∧ w'.cell? ⟨w.heap.size, 0, none⟩ = some (.slice A d.length c) ∧ w'.cell? ⟨w.heap.size, 1, none⟩ = some (.int .i64 hd) ∧ w'.cell? ⟨w.heap.size, 2, none⟩ = some (.int .i64 tl)) (first | (refine ⟨?_, ?_, ?_, ?_, ?_, ?_⟩ <;> assumption) | go_keep)
    (first
      | (go_at_call 19; refine (toRing_any _ _ _ _ _ _ _ _ (h.drewN 1) hB.size (by omega)).mono ?_; rintro e w8 ⟨Ay, cy, rfl, oy, b8⟩; replace b8 := drew_below b8; simp only [ringV]; have s8 := b8.size; replace ox := ox.below b8; replace h := h.below b8 hB.size; replace ra := rowKeep ra b8; clear ma0 ma1 ma2; obtain ⟨ma0, ma1, ma2⟩ := cells3 ra; replace rx := rowKeep rx b8; clear mx0 mx1 mx2; obtain ⟨mx0, mx1, mx2⟩ := cells3 rx; replace hB := below_later hB b8 (Nat.le_refl _); clear b8)
      | (go_at_call 21; refine (eqRing_t _ _ _ _ _ _ _ _ _ _ _ _ ox.sees oy.sees (by omega) (by omega)).mono ?_; rintro e w9 ⟨rfl, b9⟩; have s9 := b9.size; replace ox := ox.below b9; replace oy := oy.below b9; replace h := h.below b9 hB.size; replace ra := rowKeep ra b9; clear ma0 ma1 ma2; obtain ⟨ma0, ma1, ma2⟩ := cells3 ra; replace rx := rowKeep rx b9; clear mx0 mx1 mx2; obtain ⟨mx0, mx1, mx2⟩ := cells3 rx; replace hB := below_later hB b9 (Nat.le_refl _); clear b9))
  clear oy
  go_wp2_with fail
  go_ret
  exact ⟨rfl, hB⟩
end Go.Proofs.Ytmbfdjompgndiaa
