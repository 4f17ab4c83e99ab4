/-
  Walks: the draws of rings; sameRing of the laws.
-/
import Derived.Test.YtcbdphflockopaaR8
namespace Go.Proofs.Ytcbdphflockopaa
open Go.RowKit
/-- A call's end: some number within bounds; nothing that was there has changed. -/
def RetIn (w : World) (lo hi : Int) (en : Ending) (w' : World) : Prop := ∃ k : Int, en = .returned (.int .i64 k) ∧ (lo ≤ k ∧ k ≤ hi) ∧ Below w.heap.size w w'
/-- A call's end: some ring in new memory; nothing that was there has changed. -/
def RetSomeRing (w : World) (en : Ending) (w' : World) : Prop :=
  ∃ A c d hd tl, en = .returned (.agg #[.slice A (List.length d) c, .int .i64 hd, .int .i64 tl]) ∧ (Own w' w.heap.size w'.heap.size 3 1 A (List.length d) c (ints d) ∧ List.length d ≤ 17) ∧ ((-1 ≤ hd ∧ hd ≤ 17) ∧ (-1 ≤ tl ∧ tl ≤ 17)) ∧ Below w.heap.size w w'
def RetRingInt (w : World) (en : Ending) (w' : World) : Prop :=
  ∃ A c d hd tl, ∃ v : Int, en = .returned (.tuple #[.agg #[.slice A (List.length d) c, .int .i64 hd, .int .i64 tl], .int .i64 v]) ∧ (Own w' w.heap.size w'.heap.size 3 1 A (List.length d) c (ints d) ∧ List.length d ≤ 17) ∧ ((-1 ≤ hd ∧ hd ≤ 17) ∧ (-1 ≤ tl ∧ tl ≤ 17) ∧ (-50 ≤ v ∧ v ≤ 150)) ∧ Below w.heap.size w w'
theorem drawRingPop_any (A : Option Addr) (n c B : Nat) (bs : List Int) (w : World) (h : Sees w B 1 A n c (byts bs)) (hB : B ≤ w.heap.size) (hb : ∀ v ∈ bs, 0 ≤ v ∧ v ≤ 255) :
    Calls Try.prog 4 #[.slice A n c] w (RetSomeRing w) := by
  have b0 := below_new w (.cells #[.slice none 0 0, .int .i64 0, .int .i64 0] 25)
  have r0 : (w.alloc (.cells #[.slice none 0 0, .int .i64 0, .int .i64 0] 25)).heap[w.heap.size]? = some (.cells #[.slice none 0 0, .int .i64 0, .int .i64 0] 25 (0, 0)) := heap_alloc_new w _
  have h0 := h.below b0 hB
  have zz : w.heap.size < (w.alloc (.cells #[.slice none 0 0, .int .i64 0, .int .i64 0] 25)).heap.size := by simp
  go_enter Try.func4, Try.ntmps4
  go_wp2_with fail
  generalize (w.alloc (.cells #[.slice none 0 0, .int .i64 0, .int .i64 0] 25)) = W at *
  refine (open_any _ _ _ _ _ _ h0 (by omega) hb).mono ?_
  rintro e w1 ⟨rfl, hr, hb1, hs1⟩
  have s1 : W.heap.size < w1.heap.size := by omega
  replace r0 := rowKeep r0 hb1
  replace b0 := below_later b0 hb1 (Nat.le_refl _)
  clear h0 hb1 hs1
  go_wp2_with fail
  refine (ring_any W.heap.size 0 9 _ hr (by omega) (by omega) (by omega)).mono ?_
  rintro e w2 ⟨A2, c2, d, hd, tl, q, rfl, ⟨ho, hdl⟩, hbd, hq, hr2, hf⟩
  have s2 := hf.size
  replace r0 := rowFr r0 hf (.inl (by omega))
  replace b0 := hf.below b0 (by omega) (by omega)
  clear hf hr hr2
  obtain ⟨m0, m1, m2⟩ := cells3 r0
  obtain ⟨mf0, mf1, mf2⟩ := frz3 r0
  obtain ⟨k0, k1, k2⟩ := cells3 (set32 (set31 (set30 r0 (.slice A2 d.length c2)) (.int .i64 hd)) (.int .i64 tl))
  go_wp2_with fail
  refine bodyPost_ret (v := .agg #[.slice A2 d.length c2, .int .i64 hd, .int .i64 tl]) (by simp [results, Try.results4, go_sem, k0, k1, k2]) rfl ?_
  exact ⟨A2, c2, d, hd, tl, rfl, ⟨(((ho.setOther ⟨w.heap.size, 0, none⟩ _ (.inl (by simp <;> omega))).setOther ⟨w.heap.size, 1, none⟩ _ (.inl (by simp <;> omega))).setOther ⟨w.heap.size, 2, none⟩ _ (.inl (by simp <;> omega))).wide (by omega) (by simp), hdl⟩, hbd, ((b0.setCell (by simp) _).setCell (by simp) _).setCell (by simp) _⟩
theorem seesRow1 {w : World} {g : Nat} {v : Int} {t : TypeId} {fr : Nat × Nat} (e : w.heap[g]? = some (.cells #[.int .i64 v] t fr)) : Sees w (g + 1) 1 (some ⟨g, 0, none⟩) 1 1 (ints [v]) :=
  ⟨rfl, Nat.le_refl _, by omega, fun _ => ⟨g, 0, rfl, by omega, fun j u hu => by
    match j, hu with
    | 0, hu => simp [ints] at hu; subst hu; exact cell_of_row w g 0 _ t fr e⟩⟩
theorem sameRing_any (A A' : Option Addr) (n c n' c' B B' : Nat) (x y : List Int) (h1 t1 h2 t2 : Int) (w : World) (h : Sees w B 1 A n c (ints x)) (h' : Sees w B' 1 A' n' c' (ints y)) (hB : B ≤ w.heap.size) (hB' : B' ≤ w.heap.size) :
    Calls Try.prog 7 #[.agg #[.slice A n c, .int .i64 h1, .int .i64 t1], .agg #[.slice A' n' c', .int .i64 h2, .int .i64 t2]] w (RetPure w (.bool (ringEq ⟨x, h1, t1⟩ ⟨y, h2, t2⟩))) := by
  have b0 : Below w.heap.size w ((w.alloc (.cells #[.slice A n c, .int .i64 h1, .int .i64 t1] 25)).alloc (.cells #[.slice A' n' c', .int .i64 h2, .int .i64 t2] 25)) := (below_new _ _).alloc (Nat.le_of_lt (by simp)) _
  have j0 := h.below b0 hB
  have j1 := h'.below b0 hB'
  by_cases hx : x = y
  · have HX := Lib.hid hx
    have hs := sameInts_any _ _ _ _ _ _ _ _ _ _ _ j0 j1
    rw [decide_eq_true hx] at hs
    clear hx
    go_enter Try.func7, Try.ntmps7
    go_wp2_with fail
    refine hs.mono ?_
    rintro e w1 ⟨rfl, b1⟩
    obtain ⟨r0, r1, _, B1⟩ := rows2 b1
    obtain ⟨m0, m1, m2⟩ := cells3 r0
    obtain ⟨n0, n1, n2⟩ := cells3 r1
    clear j0 j1 hs
    go_wp2_with fail
    all_goals
      go_ret
      refine ⟨ret_bool ?_, B1⟩
      have := HX.out
      subst this
      rw [Bool.eq_iff_iff]
      simp only [ringEq, decide_eq_true_iff, true_and, beq_iff_eq, Bool.false_eq_true, false_iff, not_and] at *
      simp_all
  · have HX := Lib.hid hx
    have hs := sameInts_any _ _ _ _ _ _ _ _ _ _ _ j0 j1
    rw [decide_eq_false hx] at hs
    clear hx
    go_enter Try.func7, Try.ntmps7
    go_wp2_with fail
    refine hs.mono ?_
    rintro e w1 ⟨rfl, b1⟩
    obtain ⟨r0, r1, _, B1⟩ := rows2 b1
    clear j0 j1 hs
    go_wp2_with fail
    go_ret
    refine ⟨ret_bool ?_, B1⟩
    rw [eq_comm, Bool.eq_false_iff]
    intro h
    simp only [ringEq, decide_eq_true_iff] at h
    exact HX.out h.1
theorem sameRing_t (A A' : Option Addr) (n c n' c' B B' : Nat) (x : List Int) (h1 t1 : Int) (w : World) (h : Sees w B 1 A n c (ints x)) (h' : Sees w B' 1 A' n' c' (ints x)) (hB : B ≤ w.heap.size) (hB' : B' ≤ w.heap.size) :
    Calls Try.prog 7 #[.agg #[.slice A n c, .int .i64 h1, .int .i64 t1], .agg #[.slice A' n' c', .int .i64 h1, .int .i64 t1]] w (RetPure w (.bool true)) := by
  have := sameRing_any A A' n c n' c' B B' x x h1 t1 h1 t1 w h h' hB hB'
  rw [show ringEq ⟨x, h1, t1⟩ ⟨x, h1, t1⟩ = true by simp [ringEq]] at this
  exact this
end Go.Proofs.Ytcbdphflockopaa
