/-
  Walk: the law FnExactRingList returns true.
-/
import Derived.Test.YtmbfdjompgndiaaR4
namespace Go.Proofs.Ytmbfdjompgndiaa
open Go.RowKit
theorem law_FnExactRingList (w : World) (A : Option Addr) (n c : Nat) (d : List Int) (h : Sees w w.heap.size 1 A n c (ints d)) (_hd : ∀ v ∈ d, -9223372036854775808 ≤ v ∧ v ≤ 9223372036854775807) (hd : Int) (_hh : -9223372036854775808 ≤ hd ∧ hd ≤ 9223372036854775807) (tl : Int) (_ht : -9223372036854775808 ≤ tl ∧ tl ≤ 9223372036854775807) :
    Calls Try.prog 8 #[.agg #[.slice A n c, .int .i64 hd, .int .i64 tl]] w (RetPure w (.bool true)) := by
  obtain rfl := h.int
  have hc1 := h.cap
  have hc2 := h.big
  have hl : (rlist ⟨d, hd, tl⟩).length ≤ 16 := rlist_16 _
  by_cases hbail : 1048576 < d.length
  · go_enter Try.func8, Try.ntmps8
    go_wp2_with fail
    refine (szRing_any _ _ _ _ _ _ _ (by omega) (by omega) (by omega)).mono ?_
    rw [if_pos (by omega)]
    rintro e w1 ⟨rfl, b1⟩
    go_wp2_with fail
    go_ret
    exact ⟨rfl, below_later (below_new _ _) b1 (Nat.le_refl _)⟩
  have hB : Below w.heap.size w w := Below.refl _ _
  have hn1 := below_new w (.cells #[.slice A d.length c, .int .i64 hd, .int .i64 tl] 24)
  replace h := h.below hn1 hB.size
  replace hB := below_later hB hn1 (Nat.le_refl _)
  clear hn1
  have ra : (w.alloc (.cells #[.slice A d.length c, .int .i64 hd, .int .i64 tl] 24)).heap[w.heap.size]? = some (.cells #[.slice A d.length c, .int .i64 hd, .int .i64 tl] 24 (0, 0)) := heap_alloc_new _ _
  obtain ⟨ma0, ma1, ma2⟩ := cells3 ra
  have s1 : w.heap.size < (w.alloc (.cells #[.slice A d.length c, .int .i64 hd, .int .i64 tl] 24)).heap.size := by rw [World.size_alloc]; exact Nat.lt_succ_self _
  go_enter Try.func8, Try.ntmps8
  go_wp2_with fail
  generalize (w.alloc (.cells #[.slice A d.length c, .int .i64 hd, .int .i64 tl] 24)) = u1 at *
  refine (szRing_any _ _ _ _ _ _ _ (by omega) (by omega) (by omega)).mono ?_
  rw [if_neg (by omega)]
  rintro e w2 ⟨rfl, b2⟩
  have s2 := b2.size
  replace h := h.below b2 hB.size
  replace ra := rowKeep ra b2
  clear ma0 ma1 ma2
  obtain ⟨ma0, ma1, ma2⟩ := cells3 ra
  replace hB := below_later hB b2 (Nat.le_refl _)
  clear b2
  go_wp2_with fail
  refine (toRing_any _ _ _ _ _ _ _ _ h hB.size (by omega)).mono ?_
  rintro e w3 ⟨At, ct, rfl, ot, b3⟩
  have s3 := b3.size
  replace h := h.below b3 hB.size
  replace ra := rowKeep ra b3
  clear ma0 ma1 ma2
  obtain ⟨ma0, ma1, ma2⟩ := cells3 ra
  replace hB := below_later hB b3 (Nat.le_refl _)
  clear b3
  simp only [ringV]
  go_wp2_with fail
  refine (specRingList_any _ _ _ _ _ _ _ _ ot.sees (by omega)).mono ?_
  rintro e w4 ⟨As, cs, rfl, os, b4⟩
  have s4 := b4.size
  replace ot := ot.below b4
  replace h := h.below b4 hB.size
  replace ra := rowKeep ra b4
  clear ma0 ma1 ma2
  obtain ⟨ma0, ma1, ma2⟩ := cells3 ra
  replace hB := below_later hB b4 (Nat.le_refl _)
  clear b4
  clear ot
  go_wp2_with fail
  refine (toRing_any _ _ _ _ _ _ _ _ h hB.size (by omega)).mono ?_
  rintro e w5 ⟨Ax, cx, rfl, ox, b5⟩
  have s5 := b5.size
  replace os := os.below b5
  replace h := h.below b5 hB.size
  replace ra := rowKeep ra b5
  clear ma0 ma1 ma2
  obtain ⟨ma0, ma1, ma2⟩ := cells3 ra
  replace hB := below_later hB b5 (Nat.le_refl _)
  clear b5
  simp only [ringV]
  have hn6 := below_new w5 (.cells #[.slice Ax d.length cx, .int .i64 hd, .int .i64 tl] 27)
  replace os := os.below hn6
  replace ox := ox.below hn6
  replace h := h.below hn6 hB.size
  replace ra := rowKeep ra hn6
  clear ma0 ma1 ma2
  obtain ⟨ma0, ma1, ma2⟩ := cells3 ra
  replace hB := below_later hB hn6 (Nat.le_refl _)
  clear hn6
  have rx : (w5.alloc (.cells #[.slice Ax d.length cx, .int .i64 hd, .int .i64 tl] 27)).heap[w5.heap.size]? = some (.cells #[.slice Ax d.length cx, .int .i64 hd, .int .i64 tl] 27 (0, 0)) := heap_alloc_new _ _
  obtain ⟨mx0, mx1, mx2⟩ := cells3 rx
  have s6 : w5.heap.size < (w5.alloc (.cells #[.slice Ax d.length cx, .int .i64 hd, .int .i64 tl] 27)).heap.size := by rw [World.size_alloc]; exact Nat.lt_succ_self _
  go_wp2_with fail
  generalize (w5.alloc (.cells #[.slice Ax d.length cx, .int .i64 hd, .int .i64 tl] 27)) = u6 at *
  refine (implRingList_any _ _ _ _ _ _ _ _ ox.sees (by omega)).mono ?_
  rintro e w7 ⟨Ag, cg, rfl, og, b7⟩
  have s7 := b7.size
  replace os := os.below b7
  replace ox := ox.below b7
  replace h := h.below b7 hB.size
  replace ra := rowKeep ra b7
  clear ma0 ma1 ma2
  obtain ⟨ma0, ma1, ma2⟩ := cells3 ra
  replace rx := rowKeep rx b7
  clear mx0 mx1 mx2
  obtain ⟨mx0, mx1, mx2⟩ := cells3 rx
  replace hB := below_later hB b7 (Nat.le_refl _)
  clear b7
  go_wp2_with fail
  refine (eqIntS_t _ _ _ _ _ _ _ _ _ _ og.sees os.sees).mono ?_
  rintro e w8 ⟨rfl, b8⟩
  have s8 := b8.size
  replace os := os.below b8
  replace ox := ox.below b8
  replace og := og.below b8
  replace h := h.below b8 hB.size
  replace ra := rowKeep ra b8
  clear ma0 ma1 ma2
  obtain ⟨ma0, ma1, ma2⟩ := cells3 ra
  replace rx := rowKeep rx b8
  clear mx0 mx1 mx2
  obtain ⟨mx0, mx1, mx2⟩ := cells3 rx
  replace hB := below_later hB b8 (Nat.le_refl _)
  clear b8
  go_wp2_with fail
  go_region_held3 (fun w' => w'.cell? ⟨w5.heap.size, 0, none⟩ = some (.slice Ax d.length cx) ∧ w'.cell? ⟨w5.heap.size, 1, none⟩ = some (.int .i64 hd) ∧ w'.cell? ⟨w5.heap.size, 2, none⟩ = some (.int .i64 tl) ∧ w'.cell? ⟨w.heap.size, 0, none⟩ = some (.slice A d.length c) ∧ w'.cell? ⟨w.heap.size, 1, none⟩ = some (.int .i64 hd) ∧ w'.cell? ⟨w.heap.size, 2, none⟩ = some (.int .i64 tl)) (first | (refine ⟨?_, ?_, ?_, ?_, ?_, ?_⟩ <;> assumption) | go_keep)
    (first
      | (go_at_call 19; refine (toRing_any _ _ _ _ _ _ _ _ (h.drewN 1) hB.size (by omega)).mono ?_; rintro e w9 ⟨Ay, cy, rfl, oy, b9⟩; replace b9 := drew_below b9; simp only [ringV]; have s9 := b9.size; replace os := os.below b9; replace ox := ox.below b9; replace og := og.below b9; replace h := h.below b9 hB.size; replace ra := rowKeep ra b9; clear ma0 ma1 ma2; obtain ⟨ma0, ma1, ma2⟩ := cells3 ra; replace rx := rowKeep rx b9; clear mx0 mx1 mx2; obtain ⟨mx0, mx1, mx2⟩ := cells3 rx; replace hB := below_later hB b9 (Nat.le_refl _); clear b9)
      | (go_at_call 21; refine (eqRing_t _ _ _ _ _ _ _ _ _ _ _ _ ox.sees oy.sees (by omega) (by omega)).mono ?_; rintro e w10 ⟨rfl, b10⟩; have s10 := b10.size; replace os := os.below b10; replace ox := ox.below b10; replace og := og.below b10; replace oy := oy.below b10; replace h := h.below b10 hB.size; replace ra := rowKeep ra b10; clear ma0 ma1 ma2; obtain ⟨ma0, ma1, ma2⟩ := cells3 ra; replace rx := rowKeep rx b10; clear mx0 mx1 mx2; obtain ⟨mx0, mx1, mx2⟩ := cells3 rx; replace hB := below_later hB b10 (Nat.le_refl _); clear b10))
  clear oy
  go_wp2_with fail
  refine (markRing_any _ _ _ _ _ _ _ _ 1 _ ox (by omega) (by omega)).mono ?_
  rintro e w11 ⟨rfl, qx, f11⟩
  have s11 := f11.size
  replace os := os.fr f11 (by omega)
  replace og := og.fr f11 (by omega)
  replace h := h.fr f11 (by omega) hB.size
  replace ra := rowFr ra f11 (by omega)
  clear ma0 ma1 ma2
  obtain ⟨ma0, ma1, ma2⟩ := cells3 ra
  replace rx := rowFr rx f11 (by omega)
  clear mx0 mx1 mx2
  obtain ⟨mx0, mx1, mx2⟩ := cells3 rx
  replace hB := f11.below hB (by omega) (Nat.le_refl _)
  clear f11 ox
  have ox := qx
  clear qx
  clear ox
  clear rx mx0 mx1 mx2
  go_wp2_with fail
  refine (eqIntS_t _ _ _ _ _ _ _ _ _ _ og.sees os.sees).mono ?_
  rintro e w12 ⟨rfl, b12⟩
  have s12 := b12.size
  replace os := os.below b12
  replace og := og.below b12
  replace h := h.below b12 hB.size
  replace ra := rowKeep ra b12
  clear ma0 ma1 ma2
  obtain ⟨ma0, ma1, ma2⟩ := cells3 ra
  replace hB := below_later hB b12 (Nat.le_refl _)
  clear b12
  go_wp2_with fail
  refine (markIntS_any _ _ _ _ _ _ 1 _ og (by omega) (by omega)).mono ?_
  rintro e w13 ⟨rfl, qg, f13, _⟩
  have s13 := f13.size
  replace os := os.fr f13 (by omega)
  replace h := h.fr f13 (by omega) hB.size
  replace ra := rowFr ra f13 (by omega)
  clear ma0 ma1 ma2
  obtain ⟨ma0, ma1, ma2⟩ := cells3 ra
  replace hB := f13.below hB (by omega) (Nat.le_refl _)
  clear f13 og
  have og := qg
  clear qg
  go_wp2_with fail
  refine (heldIntS_any _ _ _ _ 1 _ og.sees (by omega) (by omega)).mono ?_
  rintro e w' ⟨rfl, rfl⟩
  go_wp2_with fail
  refine (toRing_any _ _ _ _ _ _ _ _ h hB.size (by omega)).mono ?_
  rintro e w14 ⟨At, ct, rfl, ot, b14⟩
  have s14 := b14.size
  replace os := os.below b14
  replace og := og.below b14
  replace h := h.below b14 hB.size
  replace ra := rowKeep ra b14
  clear ma0 ma1 ma2
  obtain ⟨ma0, ma1, ma2⟩ := cells3 ra
  replace hB := below_later hB b14 (Nat.le_refl _)
  clear b14
  simp only [ringV]
  go_wp2_with fail
  refine (implRingList_any _ _ _ _ _ _ _ _ ot.sees (by omega)).mono ?_
  rintro e w15 ⟨Av, cv, rfl, ov, b15⟩
  have s15 := b15.size
  replace os := os.below b15
  replace og := og.below b15
  replace ot := ot.below b15
  replace h := h.below b15 hB.size
  replace ra := rowKeep ra b15
  clear ma0 ma1 ma2
  obtain ⟨ma0, ma1, ma2⟩ := cells3 ra
  replace hB := below_later hB b15 (Nat.le_refl _)
  clear b15
  clear ot
  go_wp2_with fail
  refine (eqIntS_t _ _ _ _ _ _ _ _ _ _ ov.sees os.sees).mono ?_
  rintro e w16 ⟨rfl, b16⟩
  have s16 := b16.size
  replace os := os.below b16
  replace og := og.below b16
  replace ov := ov.below b16
  replace h := h.below b16 hB.size
  replace ra := rowKeep ra b16
  clear ma0 ma1 ma2
  obtain ⟨ma0, ma1, ma2⟩ := cells3 ra
  replace hB := below_later hB b16 (Nat.le_refl _)
  clear b16
  go_wp2_with fail
  refine (heldIntS_any _ _ _ _ 1 _ og.sees (by omega) (by omega)).mono ?_
  rintro e w' ⟨rfl, rfl⟩
  go_wp2_with fail
  go_ret
  exact ⟨rfl, hB⟩
end Go.Proofs.Ytmbfdjompgndiaa
