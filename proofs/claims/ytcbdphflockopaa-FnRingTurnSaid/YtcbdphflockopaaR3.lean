/-
  Walks: the copy of a ring, of the program (cloneRing) and of the reference (l3Copy).
-/
import Derived.Test.YtcbdphflockopaaR2
namespace Go.Proofs.Ytcbdphflockopaa
open Go.RowKit
theorem cloneRing_any (A : Option Addr) (n c B : Nat) (d : List Int) (hd tl : Int) (w : World) (h : Sees w B 1 A n c (ints d)) (hB : B ≤ w.heap.size) (hn : n ≤ 1048576) :
    Calls Try.prog 15 #[.agg #[.slice A n c, .int .i64 hd, .int .i64 tl]] w (RetF w 3 1 n (ints d) (ringV hd tl)) := by
  have hc1 := h.cap
  have hc2 := h.big
  have b0 : Below w.heap.size w ((w.alloc (.cells #[.slice A n c, .int .i64 hd, .int .i64 tl] 25)).alloc (.cells #[.slice none 0 0, .int .i64 0, .int .i64 0] 25)) := (below_new _ _).alloc (Nat.le_of_lt (by simp)) _
  have h0 := h.below b0 hB
  have hs0 : w.heap.size + 1 + 1 = ((w.alloc (.cells #[.slice A n c, .int .i64 hd, .int .i64 tl] 25)).alloc (.cells #[.slice none 0 0, .int .i64 0, .int .i64 0] 25)).heap.size := by simp
  obtain ⟨q0, q1⟩ : ((w.alloc (.cells #[.slice A n c, .int .i64 hd, .int .i64 tl] 25)).alloc (.cells #[.slice none 0 0, .int .i64 0, .int .i64 0] 25)).heap[w.heap.size]? = some (.cells #[.slice A n c, .int .i64 hd, .int .i64 tl] 25 (0, 0)) ∧
      ((w.alloc (.cells #[.slice A n c, .int .i64 hd, .int .i64 tl] 25)).alloc (.cells #[.slice none 0 0, .int .i64 0, .int .i64 0] 25)).heap[w.heap.size + 1]? = some (.cells #[.slice none 0 0, .int .i64 0, .int .i64 0] 25 (0, 0)) :=
    ⟨rowKeep (heap_alloc_new w _) (below_new _ _), by have := heap_alloc_new (w.alloc (.cells #[.slice A n c, .int .i64 hd, .int .i64 tl] 25)) (.cells #[.slice none 0 0, .int .i64 0, .int .i64 0] 25); rwa [World.size_alloc] at this⟩
  go_enter Try.func15, Try.ntmps15
  go_wp2_with fail
  generalize ((w.alloc (.cells #[.slice A n c, .int .i64 hd, .int .i64 tl] 25)).alloc (.cells #[.slice none 0 0, .int .i64 0, .int .i64 0] 25)) = W at *
  obtain ⟨m0, m1, m2⟩ := cells3 q0
  obtain ⟨n0, n1, n2⟩ := cells3 q1
  obtain ⟨f0, f1, f2⟩ := frz3 q1
  go_region_held3 (fun w' => w'.cell? ⟨w.heap.size, 0, none⟩ = some (.slice A n c) ∧ w'.cell? ⟨w.heap.size, 1, none⟩ = some (.int .i64 hd) ∧ w'.cell? ⟨w.heap.size, 2, none⟩ = some (.int .i64 tl)) (first | (refine ⟨?_, ?_, ?_⟩ <;> assumption) | go_keep)
    (first
      | (go_at_call 24; refine (clone_any _ _ _ _ _ _ (h0.drewN 1) (ints_one _) (by show _ ≤ W.heap.size; omega) (by omega)).mono ?_; rintro e w2 ⟨A2, c2, rfl, o2, b2⟩; replace b2 := drew_below b2; have r0 := rowKeep q0 b2; have r1 := rowKeep q1 b2; clear m0 m1 m2 n0 n1 n2 f0 f1 f2; obtain ⟨m0, m1, m2⟩ := cells3 r0; obtain ⟨n0, n1, n2⟩ := cells3 r1; obtain ⟨f0, f1, f2⟩ := frz3 r1))
  go_wp2_with fail
  refine bodyPost_ret (v := .agg #[.slice A2 n c2, .int .i64 hd, .int .i64 tl]) (by simp [results, Try.results15, go_sem, n0, n1, n2]) rfl ?_
  have o3 : Own w2 W.heap.size w2.heap.size 3 1 A2 n c2 (ints d) := o2
  have B3 := below_later b0 b2 (Nat.le_refl _)
  exact RetF.of (f := ringV hd tl) (((o3.setOther _ _ (.inl (by show w.heap.size + 1 < _; omega))).setOther _ _ (.inl (by show w.heap.size + 1 < _; omega))).setOther _ _ (.inl (by show w.heap.size + 1 < _; omega))) (by omega) (by simp) (((B3.setCell (by simp) _).setCell (by simp) _).setCell (by simp) _)
theorem l3Copy_any (A : Option Addr) (n c B : Nat) (d : List Int) (hd tl : Int) (w : World) (h : Sees w B 1 A n c (ints d)) (hB : B ≤ w.heap.size) (hn : n ≤ 1048576) :
    Calls Try.prog 17 #[.agg #[.slice A n c, .int .i64 hd, .int .i64 tl]] w (RetF w 3 1 n (ints d) (ringV hd tl)) := by
  have hc1 := h.cap
  have hc2 := h.big
  have b0 : Below w.heap.size w ((w.alloc (.cells #[.slice A n c, .int .i64 hd, .int .i64 tl] 25)).alloc (.cells #[.slice none 0 0, .int .i64 0, .int .i64 0] 25)) := (below_new _ _).alloc (Nat.le_of_lt (by simp)) _
  have h0 := h.below b0 hB
  have hs0 : w.heap.size + 1 + 1 = ((w.alloc (.cells #[.slice A n c, .int .i64 hd, .int .i64 tl] 25)).alloc (.cells #[.slice none 0 0, .int .i64 0, .int .i64 0] 25)).heap.size := by simp
  obtain ⟨q0, q1⟩ : ((w.alloc (.cells #[.slice A n c, .int .i64 hd, .int .i64 tl] 25)).alloc (.cells #[.slice none 0 0, .int .i64 0, .int .i64 0] 25)).heap[w.heap.size]? = some (.cells #[.slice A n c, .int .i64 hd, .int .i64 tl] 25 (0, 0)) ∧
      ((w.alloc (.cells #[.slice A n c, .int .i64 hd, .int .i64 tl] 25)).alloc (.cells #[.slice none 0 0, .int .i64 0, .int .i64 0] 25)).heap[w.heap.size + 1]? = some (.cells #[.slice none 0 0, .int .i64 0, .int .i64 0] 25 (0, 0)) :=
    ⟨rowKeep (heap_alloc_new w _) (below_new _ _), by have := heap_alloc_new (w.alloc (.cells #[.slice A n c, .int .i64 hd, .int .i64 tl] 25)) (.cells #[.slice none 0 0, .int .i64 0, .int .i64 0] 25); rwa [World.size_alloc] at this⟩
  go_enter Try.func17, Try.ntmps17
  go_wp2_with fail
  generalize ((w.alloc (.cells #[.slice A n c, .int .i64 hd, .int .i64 tl] 25)).alloc (.cells #[.slice none 0 0, .int .i64 0, .int .i64 0] 25)) = W at *
  obtain ⟨m0, m1, m2⟩ := cells3 q0
  obtain ⟨n0, n1, n2⟩ := cells3 q1
  obtain ⟨f0, f1, f2⟩ := frz3 q1
  obtain ⟨i0, hi0, hz0, hz1, hz2⟩ := info_parts int_info
  have hlt := b0.size
  have hE := (newEmpty W 3 1).drewN 1
  have h9 := (h0.below (below_new W (.cells #[] 3)) (by omega)).drewN 1
  go_region_held3 (fun w' => w'.cell? ⟨w.heap.size, 0, none⟩ = some (.slice A n c) ∧ w'.cell? ⟨w.heap.size, 1, none⟩ = some (.int .i64 hd) ∧ w'.cell? ⟨w.heap.size, 2, none⟩ = some (.int .i64 tl)) (first | (refine ⟨?_, ?_, ?_⟩ <;> assumption) | go_keep)
    ((refine step_app (by rfl) (.tmp 3) (.tmp 5) _ (by rfl) 3 i0 (.int .i64 0) 1 8 Try.underlying23 hi0 hz0 hz1 hz2 rfl (by decide) _ _ _ 0 0 [] (by rfl) hE _ _ _ _ _ (by rfl) h9 (ints_one _) (by omega) (by omega) (by simp) ?_; intro A2 c2 w2 o2 f2; simp only [Nat.zero_add, List.nil_append] at o2; have b2 : Below W.heap.size W w2 := f2.below (below_drewN (below_new W (.cells #[] 3)) 1) (Nat.le_refl _) (Nat.le_refl _); have r0 := rowKeep q0 b2; have r1 := rowKeep q1 b2; clear m0 m1 m2 n0 n1 n2 f0 f1 f2; obtain ⟨m0, m1, m2⟩ := cells3 r0; obtain ⟨n0, n1, n2⟩ := cells3 r1; obtain ⟨f0, f1, f2⟩ := frz3 r1))
  go_wp2_with fail
  refine bodyPost_ret (v := .agg #[.slice A2 n c2, .int .i64 hd, .int .i64 tl]) (by simp [results, Try.results17, go_sem, n0, n1, n2]) rfl ?_
  have o3 : Own w2 W.heap.size w2.heap.size 3 1 A2 n c2 (ints d) := o2
  have B3 := below_later b0 b2 (Nat.le_refl _)
  exact RetF.of (f := ringV hd tl) (((o3.setOther _ _ (.inl (by show w.heap.size + 1 < _; omega))).setOther _ _ (.inl (by show w.heap.size + 1 < _; omega))).setOther _ _ (.inl (by show w.heap.size + 1 < _; omega))) (by omega) (by simp) (((B3.setCell (by simp) _).setCell (by simp) _).setCell (by simp) _)
end Go.Proofs.Ytcbdphflockopaa
