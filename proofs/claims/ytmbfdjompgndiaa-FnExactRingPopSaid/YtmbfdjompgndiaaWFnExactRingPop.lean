/-
  Walk: the law FnExactRingPop returns true.
-/
import Derived.Test.YtmbfdjompgndiaaR7
namespace Go.Proofs.Ytmbfdjompgndiaa
open Go.RowKit
theorem law_FnExactRingPop (w : World) (A : Option Addr) (n c : Nat) (d : List Int) (h : Sees w w.heap.size 1 A n c (ints d)) (_hd : ∀ v ∈ d, -9223372036854775808 ≤ v ∧ v ≤ 9223372036854775807) (hd : Int) (_hh : -9223372036854775808 ≤ hd ∧ hd ≤ 9223372036854775807) (tl : Int) (_ht : -9223372036854775808 ≤ tl ∧ tl ≤ 9223372036854775807) :
    Calls Try.prog 10 #[.agg #[.slice A n c, .int .i64 hd, .int .i64 tl]] w (RetPure w (.bool true)) := by
  obtain rfl := h.int
  have hc1 := h.cap
  have hc2 := h.big
  have hl : (rpop ⟨d, hd, tl⟩).slots.length ≤ 16 := rpop_16 _
  by_cases hbail : 1048576 < d.length
  · go_enter Try.func10, Try.ntmps10
    go_wp2_with fail
    refine (szRing_any _ _ _ _ _ _ _ (by omega) (by omega) (by omega)).mono ?_
    rw [if_pos (by omega)]
    rintro e w1 ⟨rfl, b1⟩
    go_wp2_with fail
    go_ret
    exact ⟨rfl, below_later (below_new _ _) b1 (Nat.le_refl _)⟩
  have hB : Below w.heap.size w w := Below.refl _ _
  have hn1 := below_new w (.cells #[.slice A d.length c, .int .i64 hd, .int .i64 tl] 24)
  replace h := h.below hn1 hB.size
  replace hB := below_later hB hn1 (Nat.le_refl _)
  clear hn1
  have ra : (w.alloc (.cells #[.slice A d.length c, .int .i64 hd, .int .i64 tl] 24)).heap[w.heap.size]? = some (.cells #[.slice A d.length c, .int .i64 hd, .int .i64 tl] 24 (0, 0)) := heap_alloc_new _ _
  obtain ⟨ma0, ma1, ma2⟩ := cells3 ra
  have s1 : w.heap.size < (w.alloc (.cells #[.slice A d.length c, .int .i64 hd, .int .i64 tl] 24)).heap.size := by rw [World.size_alloc]; exact Nat.lt_succ_self _
  go_enter Try.func10, Try.ntmps10
  go_wp2_with fail
  generalize (w.alloc (.cells #[.slice A d.length c, .int .i64 hd, .int .i64 tl] 24)) = u1 at *
  refine (szRing_any _ _ _ _ _ _ _ (by omega) (by omega) (by omega)).mono ?_
  rw [if_neg (by omega)]
  rintro e w2 ⟨rfl, b2⟩
  have s2 := b2.size
  replace h := h.below b2 hB.size
  replace ra := rowKeep ra b2
  clear ma0 ma1 ma2
  obtain ⟨ma0, ma1, ma2⟩ := cells3 ra
  replace hB := below_later hB b2 (Nat.le_refl _)
  clear b2
  go_wp2_with fail
  refine (toRing_any _ _ _ _ _ _ _ _ h hB.size (by omega)).mono ?_
  rintro e w3 ⟨At, ct, rfl, ot, b3⟩
  have s3 := b3.size
  replace h := h.below b3 hB.size
  replace ra := rowKeep ra b3
  clear ma0 ma1 ma2
  obtain ⟨ma0, ma1, ma2⟩ := cells3 ra
  replace hB := below_later hB b3 (Nat.le_refl _)
  clear b3
  simp only [ringV]
  go_wp2_with fail
  refine (specRingPop_any _ _ _ _ _ _ _ _ ot.sees (by omega)).mono ?_
  rintro e w4 ⟨As, cs, rfl, os, b4⟩
  have s4 := b4.size
  replace ot := ot.below b4
  replace h := h.below b4 hB.size
  replace ra := rowKeep ra b4
  clear ma0 ma1 ma2
  obtain ⟨ma0, ma1, ma2⟩ := cells3 ra
  replace hB := below_later hB b4 (Nat.le_refl _)
  clear b4
  simp only [popV, ringV]
  clear ot
  have hn5 := below_new w4 (.cells #[.slice As (rpop ⟨d, hd, tl⟩).slots.length cs, .int .i64 (rpop ⟨d, hd, tl⟩).head, .int .i64 (rpop ⟨d, hd, tl⟩).tail] 27)
  replace os := os.below hn5
  replace h := h.below hn5 hB.size
  replace ra := rowKeep ra hn5
  clear ma0 ma1 ma2
  obtain ⟨ma0, ma1, ma2⟩ := cells3 ra
  replace hB := below_later hB hn5 (Nat.le_refl _)
  clear hn5
  have rs : (w4.alloc (.cells #[.slice As (rpop ⟨d, hd, tl⟩).slots.length cs, .int .i64 (rpop ⟨d, hd, tl⟩).head, .int .i64 (rpop ⟨d, hd, tl⟩).tail] 27)).heap[w4.heap.size]? = some (.cells #[.slice As (rpop ⟨d, hd, tl⟩).slots.length cs, .int .i64 (rpop ⟨d, hd, tl⟩).head, .int .i64 (rpop ⟨d, hd, tl⟩).tail] 27 (0, 0)) := heap_alloc_new _ _
  obtain ⟨ms0, ms1, ms2⟩ := cells3 rs
  have s5 : w4.heap.size < (w4.alloc (.cells #[.slice As (rpop ⟨d, hd, tl⟩).slots.length cs, .int .i64 (rpop ⟨d, hd, tl⟩).head, .int .i64 (rpop ⟨d, hd, tl⟩).tail] 27)).heap.size := by rw [World.size_alloc]; exact Nat.lt_succ_self _
  go_wp2_with fail
  generalize (w4.alloc (.cells #[.slice As (rpop ⟨d, hd, tl⟩).slots.length cs, .int .i64 (rpop ⟨d, hd, tl⟩).head, .int .i64 (rpop ⟨d, hd, tl⟩).tail] 27)) = u5 at *
  refine (toRing_any _ _ _ _ _ _ _ _ h hB.size (by omega)).mono ?_
  rintro e w6 ⟨Ax, cx, rfl, ox, b6⟩
  have s6 := b6.size
  replace os := os.below b6
  replace h := h.below b6 hB.size
  replace ra := rowKeep ra b6
  clear ma0 ma1 ma2
  obtain ⟨ma0, ma1, ma2⟩ := cells3 ra
  replace rs := rowKeep rs b6
  clear ms0 ms1 ms2
  obtain ⟨ms0, ms1, ms2⟩ := cells3 rs
  replace hB := below_later hB b6 (Nat.le_refl _)
  clear b6
  simp only [ringV]
  have hn7 := below_new w6 (.cells #[.slice Ax d.length cx, .int .i64 hd, .int .i64 tl] 27)
  replace os := os.below hn7
  replace ox := ox.below hn7
  replace h := h.below hn7 hB.size
  replace ra := rowKeep ra hn7
  clear ma0 ma1 ma2
  obtain ⟨ma0, ma1, ma2⟩ := cells3 ra
  replace rs := rowKeep rs hn7
  clear ms0 ms1 ms2
  obtain ⟨ms0, ms1, ms2⟩ := cells3 rs
  replace hB := below_later hB hn7 (Nat.le_refl _)
  clear hn7
  have rx : (w6.alloc (.cells #[.slice Ax d.length cx, .int .i64 hd, .int .i64 tl] 27)).heap[w6.heap.size]? = some (.cells #[.slice Ax d.length cx, .int .i64 hd, .int .i64 tl] 27 (0, 0)) := heap_alloc_new _ _
  obtain ⟨mx0, mx1, mx2⟩ := cells3 rx
  have s7 : w6.heap.size < (w6.alloc (.cells #[.slice Ax d.length cx, .int .i64 hd, .int .i64 tl] 27)).heap.size := by rw [World.size_alloc]; exact Nat.lt_succ_self _
  go_wp2_with fail
  generalize (w6.alloc (.cells #[.slice Ax d.length cx, .int .i64 hd, .int .i64 tl] 27)) = u7 at *
  refine (implRingPop_any _ _ _ _ _ _ _ _ ox.sees (by omega)).mono ?_
  rintro e w8 ⟨Ag, cg, rfl, og, b8⟩
  have s8 := b8.size
  replace os := os.below b8
  replace ox := ox.below b8
  replace h := h.below b8 hB.size
  replace ra := rowKeep ra b8
  clear ma0 ma1 ma2
  obtain ⟨ma0, ma1, ma2⟩ := cells3 ra
  replace rs := rowKeep rs b8
  clear ms0 ms1 ms2
  obtain ⟨ms0, ms1, ms2⟩ := cells3 rs
  replace rx := rowKeep rx b8
  clear mx0 mx1 mx2
  obtain ⟨mx0, mx1, mx2⟩ := cells3 rx
  replace hB := below_later hB b8 (Nat.le_refl _)
  clear b8
  simp only [popV, ringV]
  have hn9 := below_new w8 (.cells #[.slice Ag (rpop ⟨d, hd, tl⟩).slots.length cg, .int .i64 (rpop ⟨d, hd, tl⟩).head, .int .i64 (rpop ⟨d, hd, tl⟩).tail] 27)
  replace os := os.below hn9
  replace ox := ox.below hn9
  replace og := og.below hn9
  replace h := h.below hn9 hB.size
  replace ra := rowKeep ra hn9
  clear ma0 ma1 ma2
  obtain ⟨ma0, ma1, ma2⟩ := cells3 ra
  replace rs := rowKeep rs hn9
  clear ms0 ms1 ms2
  obtain ⟨ms0, ms1, ms2⟩ := cells3 rs
  replace rx := rowKeep rx hn9
  clear mx0 mx1 mx2
  obtain ⟨mx0, mx1, mx2⟩ := cells3 rx
  replace hB := below_later hB hn9 (Nat.le_refl _)
  clear hn9
  have rg : (w8.alloc (.cells #[.slice Ag (rpop ⟨d, hd, tl⟩).slots.length cg, .int .i64 (rpop ⟨d, hd, tl⟩).head, .int .i64 (rpop ⟨d, hd, tl⟩).tail] 27)).heap[w8.heap.size]? = some (.cells #[.slice Ag (rpop ⟨d, hd, tl⟩).slots.length cg, .int .i64 (rpop ⟨d, hd, tl⟩).head, .int .i64 (rpop ⟨d, hd, tl⟩).tail] 27 (0, 0)) := heap_alloc_new _ _
  obtain ⟨mg0, mg1, mg2⟩ := cells3 rg
  have s9 : w8.heap.size < (w8.alloc (.cells #[.slice Ag (rpop ⟨d, hd, tl⟩).slots.length cg, .int .i64 (rpop ⟨d, hd, tl⟩).head, .int .i64 (rpop ⟨d, hd, tl⟩).tail] 27)).heap.size := by rw [World.size_alloc]; exact Nat.lt_succ_self _
  go_wp2_with fail
  generalize (w8.alloc (.cells #[.slice Ag (rpop ⟨d, hd, tl⟩).slots.length cg, .int .i64 (rpop ⟨d, hd, tl⟩).head, .int .i64 (rpop ⟨d, hd, tl⟩).tail] 27)) = u9 at *
  refine (eqRing_t _ _ _ _ _ _ _ _ _ _ _ _ og.sees os.sees (by omega) (by omega)).mono ?_
  rintro e w10 ⟨rfl, b10⟩
  have s10 := b10.size
  replace os := os.below b10
  replace ox := ox.below b10
  replace og := og.below b10
  replace h := h.below b10 hB.size
  replace ra := rowKeep ra b10
  clear ma0 ma1 ma2
  obtain ⟨ma0, ma1, ma2⟩ := cells3 ra
  replace rs := rowKeep rs b10
  clear ms0 ms1 ms2
  obtain ⟨ms0, ms1, ms2⟩ := cells3 rs
  replace rx := rowKeep rx b10
  clear mx0 mx1 mx2
  obtain ⟨mx0, mx1, mx2⟩ := cells3 rx
  replace rg := rowKeep rg b10
  clear mg0 mg1 mg2
  obtain ⟨mg0, mg1, mg2⟩ := cells3 rg
  replace hB := below_later hB b10 (Nat.le_refl _)
  clear b10
  go_wp2_with fail
  go_region_held3 (fun w' => w'.cell? ⟨w6.heap.size, 0, none⟩ = some (.slice Ax d.length cx) ∧ w'.cell? ⟨w6.heap.size, 1, none⟩ = some (.int .i64 hd) ∧ w'.cell? ⟨w6.heap.size, 2, none⟩ = some (.int .i64 tl) ∧ w'.cell? ⟨w.heap.size, 0, none⟩ = some (.slice A d.length c) ∧ w'.cell? ⟨w.heap.size, 1, none⟩ = some (.int .i64 hd) ∧ w'.cell? ⟨w.heap.size, 2, none⟩ = some (.int .i64 tl)) (first | (refine ⟨?_, ?_, ?_, ?_, ?_, ?_⟩ <;> assumption) | go_keep)
    (first
      | (go_at_call 19; refine (toRing_any _ _ _ _ _ _ _ _ (h.drewN 1) hB.size (by omega)).mono ?_; rintro e w11 ⟨Ay, cy, rfl, oy, b11⟩; replace b11 := drew_below b11; simp only [ringV]; have s11 := b11.size; replace os := os.below b11; replace ox := ox.below b11; replace og := og.below b11; replace h := h.below b11 hB.size; replace ra := rowKeep ra b11; clear ma0 ma1 ma2; obtain ⟨ma0, ma1, ma2⟩ := cells3 ra; replace rs := rowKeep rs b11; clear ms0 ms1 ms2; obtain ⟨ms0, ms1, ms2⟩ := cells3 rs; replace rx := rowKeep rx b11; clear mx0 mx1 mx2; obtain ⟨mx0, mx1, mx2⟩ := cells3 rx; replace rg := rowKeep rg b11; clear mg0 mg1 mg2; obtain ⟨mg0, mg1, mg2⟩ := cells3 rg; replace hB := below_later hB b11 (Nat.le_refl _); clear b11)
      | (go_at_call 21; refine (eqRing_t _ _ _ _ _ _ _ _ _ _ _ _ ox.sees oy.sees (by omega) (by omega)).mono ?_; rintro e w12 ⟨rfl, b12⟩; have s12 := b12.size; replace os := os.below b12; replace ox := ox.below b12; replace og := og.below b12; replace oy := oy.below b12; replace h := h.below b12 hB.size; replace ra := rowKeep ra b12; clear ma0 ma1 ma2; obtain ⟨ma0, ma1, ma2⟩ := cells3 ra; replace rs := rowKeep rs b12; clear ms0 ms1 ms2; obtain ⟨ms0, ms1, ms2⟩ := cells3 rs; replace rx := rowKeep rx b12; clear mx0 mx1 mx2; obtain ⟨mx0, mx1, mx2⟩ := cells3 rx; replace rg := rowKeep rg b12; clear mg0 mg1 mg2; obtain ⟨mg0, mg1, mg2⟩ := cells3 rg; replace hB := below_later hB b12 (Nat.le_refl _); clear b12))
  clear oy
  go_wp2_with fail
  refine (markRing_any _ _ _ _ _ _ _ _ 1 _ ox (by omega) (by omega)).mono ?_
  rintro e w13 ⟨rfl, qx, f13⟩
  have s13 := f13.size
  replace os := os.fr f13 (by omega)
  replace og := og.fr f13 (by omega)
  replace h := h.fr f13 (by omega) hB.size
  replace ra := rowFr ra f13 (by omega)
  clear ma0 ma1 ma2
  obtain ⟨ma0, ma1, ma2⟩ := cells3 ra
  replace rs := rowFr rs f13 (by omega)
  clear ms0 ms1 ms2
  obtain ⟨ms0, ms1, ms2⟩ := cells3 rs
  replace rx := rowFr rx f13 (by omega)
  clear mx0 mx1 mx2
  obtain ⟨mx0, mx1, mx2⟩ := cells3 rx
  replace rg := rowFr rg f13 (by omega)
  clear mg0 mg1 mg2
  obtain ⟨mg0, mg1, mg2⟩ := cells3 rg
  replace hB := f13.below hB (by omega) (Nat.le_refl _)
  clear f13 ox
  have ox := qx
  clear qx
  clear ox
  clear rx mx0 mx1 mx2
  go_wp2_with fail
  refine (eqRing_t _ _ _ _ _ _ _ _ _ _ _ _ og.sees os.sees (by omega) (by omega)).mono ?_
  rintro e w14 ⟨rfl, b14⟩
  have s14 := b14.size
  replace os := os.below b14
  replace og := og.below b14
  replace h := h.below b14 hB.size
  replace ra := rowKeep ra b14
  clear ma0 ma1 ma2
  obtain ⟨ma0, ma1, ma2⟩ := cells3 ra
  replace rs := rowKeep rs b14
  clear ms0 ms1 ms2
  obtain ⟨ms0, ms1, ms2⟩ := cells3 rs
  replace rg := rowKeep rg b14
  clear mg0 mg1 mg2
  obtain ⟨mg0, mg1, mg2⟩ := cells3 rg
  replace hB := below_later hB b14 (Nat.le_refl _)
  clear b14
  go_wp2_with fail
  refine (markRing_any _ _ _ _ _ _ _ _ 1 _ og (by omega) (by omega)).mono ?_
  rintro e w15 ⟨rfl, qg, f15⟩
  have s15 := f15.size
  replace os := os.fr f15 (by omega)
  replace h := h.fr f15 (by omega) hB.size
  replace ra := rowFr ra f15 (by omega)
  clear ma0 ma1 ma2
  obtain ⟨ma0, ma1, ma2⟩ := cells3 ra
  replace rs := rowFr rs f15 (by omega)
  clear ms0 ms1 ms2
  obtain ⟨ms0, ms1, ms2⟩ := cells3 rs
  replace rg := rowFr rg f15 (by omega)
  clear mg0 mg1 mg2
  obtain ⟨mg0, mg1, mg2⟩ := cells3 rg
  replace hB := f15.below hB (by omega) (Nat.le_refl _)
  clear f15 og
  have og := qg
  clear qg
  go_wp2_with fail
  refine (heldRing_any _ _ _ _ _ _ 1 _ og.sees (by omega) (by omega) (by omega)).mono ?_
  rintro e w16 ⟨rfl, b16⟩
  have s16 := b16.size
  replace os := os.below b16
  replace og := og.below b16
  replace h := h.below b16 hB.size
  replace ra := rowKeep ra b16
  clear ma0 ma1 ma2
  obtain ⟨ma0, ma1, ma2⟩ := cells3 ra
  replace rs := rowKeep rs b16
  clear ms0 ms1 ms2
  obtain ⟨ms0, ms1, ms2⟩ := cells3 rs
  replace rg := rowKeep rg b16
  clear mg0 mg1 mg2
  obtain ⟨mg0, mg1, mg2⟩ := cells3 rg
  replace hB := below_later hB b16 (Nat.le_refl _)
  clear b16
  go_wp2_with fail
  refine (toRing_any _ _ _ _ _ _ _ _ h hB.size (by omega)).mono ?_
  rintro e w17 ⟨At, ct, rfl, ot, b17⟩
  have s17 := b17.size
  replace os := os.below b17
  replace og := og.below b17
  replace h := h.below b17 hB.size
  replace ra := rowKeep ra b17
  clear ma0 ma1 ma2
  obtain ⟨ma0, ma1, ma2⟩ := cells3 ra
  replace rs := rowKeep rs b17
  clear ms0 ms1 ms2
  obtain ⟨ms0, ms1, ms2⟩ := cells3 rs
  replace rg := rowKeep rg b17
  clear mg0 mg1 mg2
  obtain ⟨mg0, mg1, mg2⟩ := cells3 rg
  replace hB := below_later hB b17 (Nat.le_refl _)
  clear b17
  simp only [ringV]
  go_wp2_with fail
  refine (implRingPop_any _ _ _ _ _ _ _ _ ot.sees (by omega)).mono ?_
  rintro e w18 ⟨Av, cv, rfl, ov, b18⟩
  have s18 := b18.size
  replace os := os.below b18
  replace og := og.below b18
  replace ot := ot.below b18
  replace h := h.below b18 hB.size
  replace ra := rowKeep ra b18
  clear ma0 ma1 ma2
  obtain ⟨ma0, ma1, ma2⟩ := cells3 ra
  replace rs := rowKeep rs b18
  clear ms0 ms1 ms2
  obtain ⟨ms0, ms1, ms2⟩ := cells3 rs
  replace rg := rowKeep rg b18
  clear mg0 mg1 mg2
  obtain ⟨mg0, mg1, mg2⟩ := cells3 rg
  replace hB := below_later hB b18 (Nat.le_refl _)
  clear b18
  simp only [popV, ringV]
  clear ot
  have hn19 := below_new w18 (.cells #[.slice Av (rpop ⟨d, hd, tl⟩).slots.length cv, .int .i64 (rpop ⟨d, hd, tl⟩).head, .int .i64 (rpop ⟨d, hd, tl⟩).tail] 27)
  replace os := os.below hn19
  replace og := og.below hn19
  replace ov := ov.below hn19
  replace h := h.below hn19 hB.size
  replace ra := rowKeep ra hn19
  clear ma0 ma1 ma2
  obtain ⟨ma0, ma1, ma2⟩ := cells3 ra
  replace rs := rowKeep rs hn19
  clear ms0 ms1 ms2
  obtain ⟨ms0, ms1, ms2⟩ := cells3 rs
  replace rg := rowKeep rg hn19
  clear mg0 mg1 mg2
  obtain ⟨mg0, mg1, mg2⟩ := cells3 rg
  replace hB := below_later hB hn19 (Nat.le_refl _)
  clear hn19
  have rv : (w18.alloc (.cells #[.slice Av (rpop ⟨d, hd, tl⟩).slots.length cv, .int .i64 (rpop ⟨d, hd, tl⟩).head, .int .i64 (rpop ⟨d, hd, tl⟩).tail] 27)).heap[w18.heap.size]? = some (.cells #[.slice Av (rpop ⟨d, hd, tl⟩).slots.length cv, .int .i64 (rpop ⟨d, hd, tl⟩).head, .int .i64 (rpop ⟨d, hd, tl⟩).tail] 27 (0, 0)) := heap_alloc_new _ _
  obtain ⟨mv0, mv1, mv2⟩ := cells3 rv
  have s19 : w18.heap.size < (w18.alloc (.cells #[.slice Av (rpop ⟨d, hd, tl⟩).slots.length cv, .int .i64 (rpop ⟨d, hd, tl⟩).head, .int .i64 (rpop ⟨d, hd, tl⟩).tail] 27)).heap.size := by rw [World.size_alloc]; exact Nat.lt_succ_self _
  go_wp2_with fail
  generalize (w18.alloc (.cells #[.slice Av (rpop ⟨d, hd, tl⟩).slots.length cv, .int .i64 (rpop ⟨d, hd, tl⟩).head, .int .i64 (rpop ⟨d, hd, tl⟩).tail] 27)) = u19 at *
  refine (eqRing_t _ _ _ _ _ _ _ _ _ _ _ _ ov.sees os.sees (by omega) (by omega)).mono ?_
  rintro e w20 ⟨rfl, b20⟩
  have s20 := b20.size
  replace os := os.below b20
  replace og := og.below b20
  replace ov := ov.below b20
  replace h := h.below b20 hB.size
  replace ra := rowKeep ra b20
  clear ma0 ma1 ma2
  obtain ⟨ma0, ma1, ma2⟩ := cells3 ra
  replace rs := rowKeep rs b20
  clear ms0 ms1 ms2
  obtain ⟨ms0, ms1, ms2⟩ := cells3 rs
  replace rg := rowKeep rg b20
  clear mg0 mg1 mg2
  obtain ⟨mg0, mg1, mg2⟩ := cells3 rg
  replace rv := rowKeep rv b20
  clear mv0 mv1 mv2
  obtain ⟨mv0, mv1, mv2⟩ := cells3 rv
  replace hB := below_later hB b20 (Nat.le_refl _)
  clear b20
  go_wp2_with fail
  refine (heldRing_any _ _ _ _ _ _ 1 _ og.sees (by omega) (by omega) (by omega)).mono ?_
  rintro e w21 ⟨rfl, b21⟩
  have s21 := b21.size
  replace os := os.below b21
  replace og := og.below b21
  replace ov := ov.below b21
  replace h := h.below b21 hB.size
  replace ra := rowKeep ra b21
  clear ma0 ma1 ma2
  obtain ⟨ma0, ma1, ma2⟩ := cells3 ra
  replace rs := rowKeep rs b21
  clear ms0 ms1 ms2
  obtain ⟨ms0, ms1, ms2⟩ := cells3 rs
  replace rg := rowKeep rg b21
  clear mg0 mg1 mg2
  obtain ⟨mg0, mg1, mg2⟩ := cells3 rg
  replace rv := rowKeep rv b21
  clear mv0 mv1 mv2
  obtain ⟨mv0, mv1, mv2⟩ := cells3 rv
  replace hB := below_later hB b21 (Nat.le_refl _)
  clear b21
  go_wp2_with fail
  go_ret
  exact ⟨rfl, hB⟩
end Go.Proofs.Ytmbfdjompgndiaa
