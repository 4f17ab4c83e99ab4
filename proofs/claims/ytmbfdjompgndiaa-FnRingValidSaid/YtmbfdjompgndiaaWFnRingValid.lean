/-
  Walk: the law FnRingValid returns true.
-/
import Derived.Test.YtmbfdjompgndiaaR9
import Derived.Test.YtmbfdjompgndiaaR7
import Derived.Test.YtmbfdjompgndiaaA
namespace Go.Proofs.Ytmbfdjompgndiaa
open Go.RowKit
set_option maxHeartbeats 2000000 in
theorem law_FnRingValid (w : World) (A : Option Addr) (n c : Nat) (bs : List Int) (h : Sees w w.heap.size 1 A n c (byts bs)) (hb : ∀ v ∈ bs, 0 ≤ v ∧ v ≤ 255) :
    Calls Try.prog 6 #[.slice A n c] w (RetPure w (.bool true)) := by
  have hc1 := h.cap
  have hc2 := h.big
  by_cases hn : 1048576 < n
  · go_enter Try.func6, Try.ntmps6
    go_wp2_with fail
    go_ret
    exact ⟨rfl, Below.refl _ _⟩
  have hB : Below w.heap.size w w := Below.refl _ _
  go_enter Try.func6, Try.ntmps6
  go_wp2_with fail
  refine (drawRingValid_any _ _ _ _ _ _ h (Nat.le_refl _) hb).mono ?_
  rintro e w1 ⟨At, ct, d, hd, tl, rfl, ⟨ot, hdl⟩, ⟨hb1, hb2⟩, b1⟩
  have s1 := b1.size
  replace hB := below_later hB b1 (Nat.le_refl _)
  clear b1
  clear h hb
  have hc3 := ot.cap
  have hc4 := ot.big
  have hn2 := below_new w1 (.cells #[.slice At d.length ct, .int .i64 hd, .int .i64 tl] 27)
  replace ot := ot.below hn2
  replace hB := below_later hB hn2 (Nat.le_refl _)
  clear hn2
  have rt : (w1.alloc (.cells #[.slice At d.length ct, .int .i64 hd, .int .i64 tl] 27)).heap[w1.heap.size]? = some (.cells #[.slice At d.length ct, .int .i64 hd, .int .i64 tl] 27 (0, 0)) := heap_alloc_new _ _
  obtain ⟨mt0, mt1, mt2⟩ := cells3 rt
  have s2 : w1.heap.size < (w1.alloc (.cells #[.slice At d.length ct, .int .i64 hd, .int .i64 tl] 27)).heap.size := by rw [World.size_alloc]; exact Nat.lt_succ_self _
  go_wp2_with fail
  generalize (w1.alloc (.cells #[.slice At d.length ct, .int .i64 hd, .int .i64 tl] 27)) = u2 at *
  refine (implRingValid_any At d.length ct _ d hd tl _ ot.sees).mono ?_
  rintro e w3 ⟨rfl, b3⟩
  have s3 := b3.size
  replace ot := ot.below b3
  replace rt := rowKeep rt b3
  clear mt0 mt1 mt2
  obtain ⟨mt0, mt1, mt2⟩ := cells3 rt
  replace hB := below_later hB b3 (Nat.le_refl _)
  clear b3
  go_wp2_with fail
  refine (specRingValid_any At d.length ct _ d hd tl _ ot.sees).mono ?_
  rintro e w4 ⟨rfl, b4⟩
  have s4 := b4.size
  replace ot := ot.below b4
  replace rt := rowKeep rt b4
  clear mt0 mt1 mt2
  obtain ⟨mt0, mt1, mt2⟩ := cells3 rt
  replace hB := below_later hB b4 (Nat.le_refl _)
  clear b4
  have h1 : rval ⟨d, (d.length : Int), 0⟩ = false := by rw [Bool.eq_false_iff]; intro h; have := (rval_iff _).1 h; simp only at this; omega
  have h2 : rval ⟨[1], 0, 0⟩ = false := by decide
  have H1 := Lib.hid h1
  have H2 := Lib.hid h2
  clear h1 h2
  go_wp2_with fail
  refine (implRingValid_any At d.length ct _ d (d.length : Int) 0 _ ot.sees).mono ?_
  rw [H1.out]
  rintro e w5 ⟨rfl, b5⟩
  have s5 := b5.size
  replace ot := ot.below b5
  replace rt := rowKeep rt b5
  clear mt0 mt1 mt2
  obtain ⟨mt0, mt1, mt2⟩ := cells3 rt
  replace hB := below_later hB b5 (Nat.le_refl _)
  clear b5
  have hn6 := below_new w5 (.cells #[.int .i64 1] 3)
  replace ot := ot.below hn6
  replace rt := rowKeep rt hn6
  clear mt0 mt1 mt2
  obtain ⟨mt0, mt1, mt2⟩ := cells3 rt
  replace hB := below_later hB hn6 (Nat.le_refl _)
  clear hn6
  have rq : (w5.alloc (.cells #[.int .i64 1] 3)).heap[w5.heap.size]? = some (.cells #[.int .i64 1] 3 (0, 0)) := heap_alloc_new _ _
  have mq0 := cells1 rq
  have s6 : w5.heap.size < (w5.alloc (.cells #[.int .i64 1] 3)).heap.size := by rw [World.size_alloc]; exact Nat.lt_succ_self _
  go_wp2_with fail
  generalize (w5.alloc (.cells #[.int .i64 1] 3)) = u6 at *
  refine (implRingValid_any _ 1 1 _ [1] 0 0 _ (seesRow1 rq)).mono ?_
  rw [H2.out]
  rintro e w7 ⟨rfl, b7⟩
  have s7 := b7.size
  replace ot := ot.below b7
  replace rt := rowKeep rt b7
  clear mt0 mt1 mt2
  obtain ⟨mt0, mt1, mt2⟩ := cells3 rt
  replace rq := rowKeep rq b7
  clear mq0
  have mq0 := cells1 rq
  replace hB := below_later hB b7 (Nat.le_refl _)
  clear b7
  go_wp2_with fail
  refine (alive_any _).mono ?_
  rintro e w8 ⟨rfl, b8⟩
  have s8 := b8.size
  replace ot := ot.below b8
  replace rt := rowKeep rt b8
  clear mt0 mt1 mt2
  obtain ⟨mt0, mt1, mt2⟩ := cells3 rt
  replace rq := rowKeep rq b8
  clear mq0
  have mq0 := cells1 rq
  replace hB := below_later hB b8 (Nat.le_refl _)
  clear b8
  go_wp2_with fail
  go_ret
  exact ⟨rfl, hB⟩
end Go.Proofs.Ytmbfdjompgndiaa
