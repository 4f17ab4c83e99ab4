/-
  Walks: the rings' helpers of the laws (toRing, eqRing, szRing, markRing, heldRing).
-/
import Derived.Test.YtmbfdjompgndiaaD5
import Derived.Test.YtmbfdjompgndiaaS2
import Derived.Test.YtmbfdjompgndiaaPlainR
namespace Go.Proofs.Ytmbfdjompgndiaa
open Go.RowKit
theorem szIntS_any (A : Option Addr) (n c : Nat) (left : Int) (w : World) (hn : n ≤ 9223372036854775807) (h0 : 0 ≤ left) (h1 : left ≤ 9223372036854775807) :
    Calls Try.prog 46 #[.slice A n c, .int .i64 left] w fun e w' => e = .returned (.int .i64 (if left - n < 0 then -1 else left - n)) ∧ w = w' := by
  by_cases hl : left - n < 0
  · rw [if_pos hl]
    go_enter Try.func46, Try.ntmps46
    go_wp2_with fail
    go_ret
    exact ⟨rfl, rfl⟩
  · rw [if_neg hl]
    go_enter Try.func46, Try.ntmps46
    go_wp2_with fail
    go_ret
    exact ⟨rfl, rfl⟩
/-- a ring as a value of the machine -/
def ringV (h t : Int) (v : Value) : Value := .agg #[v, .int .i64 h, .int .i64 t]
theorem set30 {w : World} {g : Nat} {a b c : Value} {t : TypeId} (e : w.heap[g]? = some (.cells #[a, b, c] t (0, 0))) (u : Value) : (w.setCell ⟨g, 0, none⟩ u).heap[g]? = some (.cells #[u, b, c] t (0, 0)) := by
  rw [heap_setCell_same w g 0 _ t u e]; rfl
theorem set31 {w : World} {g : Nat} {a b c : Value} {t : TypeId} (e : w.heap[g]? = some (.cells #[a, b, c] t (0, 0))) (u : Value) : (w.setCell ⟨g, 1, none⟩ u).heap[g]? = some (.cells #[a, u, c] t (0, 0)) := by
  rw [heap_setCell_same w g 1 _ t u e]; rfl
theorem set32 {w : World} {g : Nat} {a b c : Value} {t : TypeId} (e : w.heap[g]? = some (.cells #[a, b, c] t (0, 0))) (u : Value) : (w.setCell ⟨g, 2, none⟩ u).heap[g]? = some (.cells #[a, b, u] t (0, 0)) := by
  rw [heap_setCell_same w g 2 _ t u e]; rfl
theorem frz3 {w : World} {g : Nat} {cs : Array Value} {t : TypeId} (e : w.heap[g]? = some (.cells cs t (0, 0))) :
    w.frozen? ⟨g, 0, none⟩ = false ∧ w.frozen? ⟨g, 1, none⟩ = false ∧ w.frozen? ⟨g, 2, none⟩ = false := ⟨frzRow e 0, frzRow e 1, frzRow e 2⟩
theorem toRing_any (A : Option Addr) (n c B : Nat) (d : List Int) (hd tl : Int) (w : World) (h : Sees w B 1 A n c (ints d)) (hB : B ≤ w.heap.size) (hn8 : n ≤ 17592186044416) :
    Calls Try.prog 19 #[.agg #[.slice A n c, .int .i64 hd, .int .i64 tl]] w (RetF w 3 1 n (ints d) (ringV hd tl)) := by
  have b0 : Below w.heap.size w (((w.alloc (.cells #[.slice A n c, .int .i64 hd, .int .i64 tl] 24)).alloc (.cells #[.slice none 0 0, .int .i64 0, .int .i64 0] 27)).alloc (.cells #[.slice none 0 0, .int .i64 0, .int .i64 0] 27)) := ((below_new _ _).alloc (Nat.le_of_lt (by simp)) _).alloc (Nat.le_of_lt (by simp; omega)) _
  have h0 := h.below b0 hB
  go_enter Try.func19, Try.ntmps19
  go_wp2_with fail
  refine (toIntS_any _ _ _ _ _ _ h0 (by simp; omega) hn8).mono ?_
  rintro e w1 ⟨A1, c1, rfl, o1, b1⟩
  obtain ⟨r0, r1, r2, z1, B1⟩ := rows3 b1
  clear h0
  obtain ⟨m0, m1, m2⟩ := cells3 r0
  obtain ⟨n0, n1, n2⟩ := cells3 r1
  obtain ⟨p0, p1, p2⟩ := cells3 r2
  obtain ⟨f0, f1, f2⟩ := frz3 r1
  obtain ⟨g0, g1, g2⟩ := frz3 r2
  go_wp2_with fail
  refine bodyPost_ret (v := .agg #[.slice A1 n c1, .int .i64 hd, .int .i64 tl]) (by simp [results, Try.results19, go_sem, n0, n1, n2]) rfl ?_
  have B4 := (((B1.setCell (p := ⟨w.heap.size + 1 + 1, 0, none⟩) (by simp <;> omega) (.slice A1 n c1)).setCell (p := ⟨w.heap.size + 1 + 1, 1, none⟩) (by simp <;> omega) (.int .i64 hd)).setCell (p := ⟨w.heap.size + 1 + 1, 2, none⟩) (by simp <;> omega) (.int .i64 tl))
  have o4 := (((o1.setOther ⟨w.heap.size + 1 + 1, 0, none⟩ (.slice A1 n c1) (.inl (by simp <;> omega))).setOther ⟨w.heap.size + 1 + 1, 1, none⟩ (.int .i64 hd) (.inl (by simp <;> omega))).setOther ⟨w.heap.size + 1 + 1, 2, none⟩ (.int .i64 tl) (.inl (by simp <;> omega)))
  exact RetF.of (f := ringV hd tl) (((o4.setOther _ _ (.inl (by simp <;> omega))).setOther _ _ (.inl (by simp <;> omega))).setOther _ _ (.inl (by simp <;> omega))) (by simp <;> omega) (by simp) (((B4.setCell (by simp) _).setCell (by simp) _).setCell (by simp) _)
def ringEq (x y : Rng) : Bool := decide (x.slots = y.slots ∧ x.head = y.head ∧ x.tail = y.tail)
theorem eqRing_any (A A' : Option Addr) (n c n' c' B B' : Nat) (x y : List Int) (h1 t1 h2 t2 : Int) (w : World) (h : Sees w B 1 A n c (ints x)) (h' : Sees w B' 1 A' n' c' (ints y)) (hB : B ≤ w.heap.size) (hB' : B' ≤ w.heap.size) :
    Calls Try.prog 21 #[.agg #[.slice A n c, .int .i64 h1, .int .i64 t1], .agg #[.slice A' n' c', .int .i64 h2, .int .i64 t2]] w (RetPure w (.bool (ringEq ⟨x, h1, t1⟩ ⟨y, h2, t2⟩))) := by
  have b0 : Below w.heap.size w ((w.alloc (.cells #[.slice A n c, .int .i64 h1, .int .i64 t1] 27)).alloc (.cells #[.slice A' n' c', .int .i64 h2, .int .i64 t2] 27)) := (below_new _ _).alloc (Nat.le_of_lt (by simp)) _
  have j0 := h.below b0 hB
  have j1 := h'.below b0 hB'
  go_enter Try.func21, Try.ntmps21
  go_wp2_with fail
  refine (eqIntS_any _ _ _ _ _ _ _ _ _ _ _ j0 j1).mono ?_
  rintro e w1 ⟨rfl, b1⟩
  obtain ⟨r0, r1, _, B1⟩ := rows2 b1
  obtain ⟨m0, m1, m2⟩ := cells3 r0
  obtain ⟨n0, n1, n2⟩ := cells3 r1
  clear j0 j1
  go_wp2_with fail
  all_goals
    go_ret
    refine ⟨ret_bool ?_, B1⟩
    rw [Bool.eq_iff_iff]
    simp only [ringEq, decide_eq_true_iff, bne_iff_ne, ne_eq, bne_eq_false_iff_eq, Bool.false_eq_true, false_iff, true_iff, not_and] at *
    simp_all
theorem eqRing_t (A A' : Option Addr) (n c n' c' B B' : Nat) (x : List Int) (h1 t1 : Int) (w : World) (h : Sees w B 1 A n c (ints x)) (h' : Sees w B' 1 A' n' c' (ints x)) (hB : B ≤ w.heap.size) (hB' : B' ≤ w.heap.size) :
    Calls Try.prog 21 #[.agg #[.slice A n c, .int .i64 h1, .int .i64 t1], .agg #[.slice A' n' c', .int .i64 h1, .int .i64 t1]] w (RetPure w (.bool true)) := by
  have := eqRing_any A A' n c n' c' B B' x x h1 t1 h1 t1 w h h' hB hB'
  rw [show ringEq ⟨x, h1, t1⟩ ⟨x, h1, t1⟩ = true by simp [ringEq]] at this
  exact this
theorem szRing_any (A : Option Addr) (n c : Nat) (hd tl left : Int) (w : World) (hn : n ≤ 9223372036854775807) (h0 : 0 ≤ left) (h1 : left ≤ 9223372036854775807) :
    Calls Try.prog 17 #[.agg #[.slice A n c, .int .i64 hd, .int .i64 tl], .int .i64 left] w (RetPure w (.int .i64 (if left - n < 0 then -1 else left - n))) := by
  by_cases hl : left - n < 0
  · rw [if_pos hl]
    go_enter Try.func17, Try.ntmps17
    go_wp2_with fail
    refine (szIntS_any _ _ _ _ _ hn h0 h1).mono ?_
    rw [if_pos (by omega)]
    rintro e w1 ⟨rfl, rfl⟩
    go_wp2_with fail
    go_ret
    exact ⟨rfl, below_new _ _⟩
  · rw [if_neg hl]
    go_enter Try.func17, Try.ntmps17
    go_wp2_with fail
    refine (szIntS_any _ _ _ _ _ hn h0 h1).mono ?_
    rw [if_neg (by omega)]
    rintro e w1 ⟨rfl, rfl⟩
    go_wp2_with fail
    go_ret
    exact ⟨rfl, below_new _ _⟩
theorem markRing_any (A : Option Addr) (n c lo hi : Nat) (d : List Int) (hd tl k0 : Int) (w : World) (h : Own w lo hi 3 1 A n c (ints d)) (hk0 : 0 ≤ k0) (hk1 : k0 + n ≤ 9223372036854775807) :
    Calls Try.prog 24 #[.agg #[.slice A n c, .int .i64 hd, .int .i64 tl], .int .i64 k0] w (RetMk w lo hi 3 1 A n c (ints (upfrom k0 n)) (k0 + n)) := by
  go_enter Try.func24, Try.ntmps24
  go_wp2_with fail
  refine (markIntS_any _ _ _ _ _ _ _ _ (h.below (below_new _ _)) hk0 hk1).mono ?_
  rintro e w1 ⟨rfl, o1, f1, z1⟩
  have F := (Fr.of_below (below_new w (.cells #[.slice A n c, .int .i64 hd, .int .i64 tl] 27)) lo hi).trans f1
  clear z1
  go_wp2_with fail
  go_ret
  exact ⟨rfl, o1, F⟩
theorem heldRing_any (A : Option Addr) (n c B : Nat) (hd tl k0 : Int) (w : World) (h : Sees w B 1 A n c (ints (upfrom k0 n))) (hB : B ≤ w.heap.size) (hk0 : 0 ≤ k0) (hk1 : k0 + n ≤ 9223372036854775807) :
    Calls Try.prog 25 #[.agg #[.slice A n c, .int .i64 hd, .int .i64 tl], .int .i64 k0] w (RetPure w (.int .i64 (k0 + n))) := by
  go_enter Try.func25, Try.ntmps25
  go_wp2_with fail
  refine (heldIntS_any _ _ _ _ _ _ (h.below (below_new _ _) hB) hk0 hk1).mono ?_
  rintro e w1 ⟨rfl, rfl⟩
  go_wp2_with fail
  go_ret
  exact ⟨rfl, below_new _ _⟩
end Go.Proofs.Ytmbfdjompgndiaa
