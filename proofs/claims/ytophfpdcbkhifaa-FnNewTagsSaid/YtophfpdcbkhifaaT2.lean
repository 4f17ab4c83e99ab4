/-
  Walks: the tags' helpers of the laws (toTags, eqTags, szTags, markTags, heldTags).
-/
import Derived.Test.YtophfpdcbkhifaaB1
import Derived.Test.YtophfpdcbkhifaaS1
import Derived.Test.YtophfpdcbkhifaaPlainT
namespace Go.Proofs.Ytophfpdcbkhifaa
open Go.RowKit
/-- tags as a value of the machine -/
def tagV (v : Value) : Value := .agg #[v]
theorem toTags_any (A : Option Addr) (n c B : Nat) (d : List Bool) (w : World) (h : Sees w B 1 A n c (bools d)) (hB : B ≤ w.heap.size) (hn8 : n ≤ 17592186044416) :
    Calls Try.prog 16 #[.agg #[.slice A n c]] w (RetF w 4 1 n (bools d) tagV) := by
  have b0 : Below w.heap.size w (((w.alloc (.cells #[.slice A n c] 29)).alloc (.cells #[.slice none 0 0] 24)).alloc (.cells #[.slice none 0 0] 24)) := ((below_new _ _).alloc (Nat.le_of_lt (by simp)) _).alloc (Nat.le_of_lt (by simp; omega)) _
  have h0 := h.below b0 hB
  go_enter Try.func16, Try.ntmps16
  go_wp2_with fail
  refine (toBoolS_any _ _ _ _ _ _ h0 (by simp; omega) hn8).mono ?_
  rintro e w1 ⟨A1, c1, rfl, o1, b1⟩
  obtain ⟨r0, r1, r2, z1, B1⟩ := rows3 b1
  have c2 := cells1 r2
  have f2 := frzRow r2 0
  have e2 := set1 r2 (.slice A1 n c1)
  have d2 := cells1 e2
  have e1 := rowSet r1 ⟨w.heap.size + 1 + 1, 0, none⟩ (.slice A1 n c1) (by simp)
  have d1 := cells1 e1
  have g1 := frzRow e1 0
  have k1 := cells1 (set1 e1 (.slice A1 n c1))
  clear h0
  go_wp2_with fail
  refine bodyPost_ret (v := .agg #[.slice A1 n c1]) (by simp [results, Try.results16, go_sem, k1]) rfl ?_
  refine RetF.of (f := tagV) ((o1.setOther _ _ (.inl (by simp <;> omega))).setOther _ _ (.inl (by simp <;> omega))) (by simp <;> omega) (by simp) ((B1.setCell (by simp <;> omega) _).setCell (by simp) _)
theorem eqTags_any (A A' : Option Addr) (n c n' c' B B' : Nat) (x y : List Bool) (w : World) (h : Sees w B 1 A n c (bools x)) (h' : Sees w B' 1 A' n' c' (bools y)) (hB : B ≤ w.heap.size) (hB' : B' ≤ w.heap.size) :
    Calls Try.prog 11 #[.agg #[.slice A n c], .agg #[.slice A' n' c']] w (RetPure w (.bool (decide (x = y)))) := by
  have b0 : Below w.heap.size w ((w.alloc (.cells #[.slice A n c] 24)).alloc (.cells #[.slice A' n' c'] 24)) := (below_new _ _).alloc (Nat.le_of_lt (by simp)) _
  have h0 := h.below b0 hB
  have h1 := h'.below b0 hB'
  go_enter Try.func11, Try.ntmps11
  go_wp2_with fail
  refine (eqBoolS_any _ _ _ _ _ _ _ _ _ _ _ h0 h1).mono ?_
  rintro e w1 ⟨rfl, b1⟩
  obtain ⟨_, _, _, B1⟩ := rows2 b1
  go_wp2_with fail
  all_goals
    go_ret
    refine ⟨ret_bool (by simp_all), B1⟩
theorem eqTags_t (A A' : Option Addr) (n c n' c' B B' : Nat) (x : List Bool) (w : World) (h : Sees w B 1 A n c (bools x)) (h' : Sees w B' 1 A' n' c' (bools x)) (hB : B ≤ w.heap.size) (hB' : B' ≤ w.heap.size) :
    Calls Try.prog 11 #[.agg #[.slice A n c], .agg #[.slice A' n' c']] w (RetPure w (.bool true)) := by
  have := eqTags_any A A' n c n' c' B B' x x w h h' hB hB'
  rw [decide_eq_true rfl] at this
  exact this
theorem szTags_any (A : Option Addr) (n c : Nat) (left : Int) (w : World) (hn : n ≤ 9223372036854775807) (h0 : 0 ≤ left) (h1 : left ≤ 9223372036854775807) :
    Calls Try.prog 14 #[.agg #[.slice A n c], .int .i64 left] w (RetPure w (.int .i64 (if left - n < 0 then -1 else left - n))) := by
  by_cases hl : left - n < 0
  · rw [if_pos hl]
    go_enter Try.func14, Try.ntmps14
    go_wp2_with fail
    refine (szBoolS_any _ _ _ _ _ hn h0 h1).mono ?_
    rw [if_pos hl]
    rintro e w1 ⟨rfl, rfl⟩
    go_wp2_with fail
    go_ret
    exact ⟨rfl, below_new _ _⟩
  · rw [if_neg hl]
    go_enter Try.func14, Try.ntmps14
    go_wp2_with fail
    refine (szBoolS_any _ _ _ _ _ hn h0 h1).mono ?_
    rw [if_neg (by omega)]
    rintro e w1 ⟨rfl, rfl⟩
    go_wp2_with fail
    go_ret
    exact ⟨rfl, below_new _ _⟩
theorem markTags_any (A : Option Addr) (n c lo hi : Nat) (d : List Bool) (k0 : Int) (w : World) (h : Own w lo hi 4 1 A n c (bools d)) (hk0 : 0 ≤ k0) (hk1 : k0 + n ≤ 9223372036854775807) :
    Calls Try.prog 12 #[.agg #[.slice A n c], .int .i64 k0] w (RetMk w lo hi 4 1 A n c (bools (upfromB k0 n)) (k0 + n)) := by
  go_enter Try.func12, Try.ntmps12
  go_wp2_with fail
  refine (markBoolS_any _ _ _ _ _ _ _ _ (h.below (below_new _ _)) hk0 hk1).mono ?_
  rintro e w1 ⟨rfl, o1, f1, z1⟩
  have F := (Fr.of_below (below_new w (.cells #[.slice A n c] 24)) lo hi).trans f1
  clear z1
  go_wp2_with fail
  go_ret
  exact ⟨rfl, o1, F⟩
theorem heldTags_any (A : Option Addr) (n c B : Nat) (k0 : Int) (w : World) (h : Sees w B 1 A n c (bools (upfromB k0 n))) (hB : B ≤ w.heap.size) (hk0 : 0 ≤ k0) (hk1 : k0 + n ≤ 9223372036854775807) :
    Calls Try.prog 13 #[.agg #[.slice A n c], .int .i64 k0] w (RetPure w (.int .i64 (k0 + n))) := by
  go_enter Try.func13, Try.ntmps13
  go_wp2_with fail
  refine (heldBoolS_any _ _ _ _ _ _ (h.below (below_new _ _) hB) hk0 hk1).mono ?_
  rintro e w1 ⟨rfl, rfl⟩
  go_wp2_with fail
  go_ret
  exact ⟨rfl, below_new _ _⟩
end Go.Proofs.Ytophfpdcbkhifaa
