/-
  Walks: the laws' helpers for rings of answers (toAnswers, eqAnswers, szAnswers, markAnswers, heldAnswers), slices.Clone, l4Copy, NewAnswers.
-/
import Derived.Test.YthkiollagnjfaaaN2
import Derived.Test.YthkiollagnjfaaaF2
namespace Go.Proofs.Ythkiollagnjfaaa
open Go.RowKit
set_option linter.unusedSimpArgs false
set_option linter.unusedVariables false
/-- a ring of answers as a value of the machine -/
def ansR (ps : Int) (pp : Bool) (tk : Int) (tp : Bool) (pd : Int) (v : Value) : Value := .agg #[v, .int .i64 ps, .bool pp, .int .i64 tk, .bool tp, .int .i64 pd]
set_option maxHeartbeats 1000000 in
theorem toAnswers_any (A : Option Addr) (n c B : Nat) (d : List (Int × Bool)) (ps : Int) (pp : Bool) (tk : Int) (tp : Bool) (pd : Int) (w : World) (h : Sees w B 2 A n c (ansC d)) (hB : B ≤ w.heap.size) (hn8 : n ≤ 8796093022208) :
    Calls Try.prog 19 #[.agg #[.slice A n c, .int .i64 ps, .bool pp, .int .i64 tk, .bool tp, .int .i64 pd]] w (RetF w 46 2 n (ansC d) (ansR ps pp tk tp pd)) := by
  have b0 : Below w.heap.size w (((w.alloc (.cells #[.slice A n c, .int .i64 ps, .bool pp, .int .i64 tk, .bool tp, .int .i64 pd] 31)).alloc (.cells #[.slice none 0 0, .int .i64 0, .bool false, .int .i64 0, .bool false, .int .i64 0] 24)).alloc (.cells #[.slice none 0 0, .int .i64 0, .bool false, .int .i64 0, .bool false, .int .i64 0] 24)) := ((below_new _ _).alloc (Nat.le_of_lt (by simp)) _).alloc (Nat.le_of_lt (by simp; omega)) _
  have h0 := h.below b0 hB
  go_enter Try.func19, Try.ntmps19
  go_wp2_with fail
  refine (toAnswerS_any _ _ _ _ _ _ h0 (by simp; omega) hn8).mono ?_
  rintro e w1 ⟨A1, c1, rfl, o1, b1⟩
  obtain ⟨r0, r1, r2, z1, B1⟩ := rows3 b1
  clear h0
  obtain ⟨m0, m1, m2, m3, m4, m5⟩ := cells6 r0
  obtain ⟨n0, n1, n2, n3, n4, n5⟩ := cells6 r1
  obtain ⟨p0, p1, p2, p3, p4, p5⟩ := cells6 r2
  obtain ⟨f0, f1, f2, f3, f4, f5⟩ := frz6 r1
  obtain ⟨g0, g1, g2, g3, g4, g5⟩ := frz6 r2
  have HB := Lib.hid B1
  have HO := Lib.hid o1
  have e2 := put6 r2 (.slice A1 n c1) (.int .i64 ps) (.bool pp) (.int .i64 tk) (.bool tp) (.int .i64 pd)
  have e1 := rowSet6 (g := w.heap.size + 1 + 1) r1 (by omega) (.slice A1 n c1) (.int .i64 ps) (.bool pp) (.int .i64 tk) (.bool tp) (.int .i64 pd)
  have E1 := Lib.hid (cells6 (put6 e1 (.slice A1 n c1) (.int .i64 ps) (.bool pp) (.int .i64 tk) (.bool tp) (.int .i64 pd)))
  clear r0 r1 r2 B1 o1 b1 b0 e1 e2
  go_wp2_with fail
  obtain ⟨k0, k1, k2, k3, k4, k5⟩ := E1.out
  refine bodyPost_ret (v := .agg #[.slice A1 n c1, .int .i64 ps, .bool pp, .int .i64 tk, .bool tp, .int .i64 pd]) (by simp only [results, Try.results19]; simp [go_sem, k0, k1, k2, k3, k4, k5]) rfl ?_
  exact RetF.of (f := ansR ps pp tk tp pd) (own6 (own6 HO.out (.inl (by simp <;> omega)) _ _ _ _ _ _) (.inl (by simp <;> omega)) _ _ _ _ _ _) (by simp <;> omega) (by simp) (below6 (below6 HB.out (by omega) _ _ _ _ _ _) (by omega) _ _ _ _ _ _)
theorem eqAnswers_t (A A' : Option Addr) (n c n' c' B B' : Nat) (d : List (Int × Bool)) (ps : Int) (pp : Bool) (tk : Int) (tp : Bool) (pd : Int) (w : World) (h : Sees w B 2 A n c (ansC d)) (h' : Sees w B' 2 A' n' c' (ansC d)) (hB : B ≤ w.heap.size) (hB' : B' ≤ w.heap.size) :
    Calls Try.prog 14 #[.agg #[.slice A n c, .int .i64 ps, .bool pp, .int .i64 tk, .bool tp, .int .i64 pd], .agg #[.slice A' n' c', .int .i64 ps, .bool pp, .int .i64 tk, .bool tp, .int .i64 pd]] w (RetPure w (.bool true)) := by
  have b0 : Below w.heap.size w ((w.alloc (.cells #[.slice A n c, .int .i64 ps, .bool pp, .int .i64 tk, .bool tp, .int .i64 pd] 24)).alloc (.cells #[.slice A' n' c', .int .i64 ps, .bool pp, .int .i64 tk, .bool tp, .int .i64 pd] 24)) := (below_new _ _).alloc (Nat.le_of_lt (by simp)) _
  have j0 := h.below b0 hB
  have j1 := h'.below b0 hB'
  have z0 := b0.size
  go_enter Try.func14, Try.ntmps14
  go_wp2_with fail
  refine (eqAnswerS_t _ _ _ _ _ _ _ _ _ _ j0 j1 (Nat.le_trans hB z0) (Nat.le_trans hB' z0)).mono ?_
  rintro e w1 ⟨rfl, b1⟩
  obtain ⟨r0, r1, _, B1⟩ := rows2 b1
  obtain ⟨m0, m1, m2, m3, m4, m5⟩ := cells6 r0
  obtain ⟨n0, n1, n2, n3, n4, n5⟩ := cells6 r1
  clear j0 j1 z0
  go_wp2_with fail
  go_ret
  exact ⟨rfl, B1⟩
theorem szAnswers_any (A : Option Addr) (n c : Nat) (ps : Int) (pp : Bool) (tk : Int) (tp : Bool) (pd : Int) (left : Int) (w : World) (hn : n ≤ 9223372036854775807) (h0 : 0 ≤ left) (h1 : left ≤ 9223372036854775807) :
    Calls Try.prog 17 #[.agg #[.slice A n c, .int .i64 ps, .bool pp, .int .i64 tk, .bool tp, .int .i64 pd], .int .i64 left] w (RetPure w (.int .i64 (if left - n < 0 then -1 else left - n))) := by
  by_cases hl : left - n < 0
  · rw [if_pos hl]
    go_enter Try.func17, Try.ntmps17
    go_wp2_with fail
    refine (szAnswerS_any _ _ _ _ _ hn h0 h1).mono ?_
    rw [if_pos hl]
    rintro e w1 ⟨rfl, rfl⟩
    go_wp2_with fail
    go_ret
    exact ⟨rfl, below_new _ _⟩
  · rw [if_neg hl]
    go_enter Try.func17, Try.ntmps17
    go_wp2_with fail
    refine (szAnswerS_any _ _ _ _ _ hn h0 h1).mono ?_
    rw [if_neg (by omega)]
    rintro e w1 ⟨rfl, rfl⟩
    go_wp2_with fail
    go_ret
    exact ⟨rfl, below_new _ _⟩
theorem markAnswers_any (A : Option Addr) (n c lo hi : Nat) (d : List (Int × Bool)) (ps : Int) (pp : Bool) (tk : Int) (tp : Bool) (pd : Int) (k0 : Int) (w : World) (h : Own w lo hi 46 2 A n c (ansC d)) (hk0 : 0 ≤ k0) (hk1 : k0 + 2 * n ≤ 9223372036854775807) :
    Calls Try.prog 15 #[.agg #[.slice A n c, .int .i64 ps, .bool pp, .int .i64 tk, .bool tp, .int .i64 pd], .int .i64 k0] w (RetMk w lo hi 46 2 A n c (ansC (upA k0 n)) (k0 + 2 * n)) := by
  go_enter Try.func15, Try.ntmps15
  go_wp2_with fail
  refine (markAnswerS_any _ _ _ _ _ _ _ _ (h.below (below_new _ _)) hk0 hk1).mono ?_
  rintro e w1 ⟨rfl, o1, f1⟩
  have F := (Fr.of_below (below_new w (.cells #[.slice A n c, .int .i64 ps, .bool pp, .int .i64 tk, .bool tp, .int .i64 pd] 24)) lo hi).trans f1
  go_wp2_with fail
  go_ret
  exact ⟨rfl, o1, F⟩
theorem heldAnswers_any (A : Option Addr) (n c B : Nat) (ps : Int) (pp : Bool) (tk : Int) (tp : Bool) (pd : Int) (k0 : Int) (w : World) (h : Sees w B 2 A n c (ansC (upA k0 n))) (hB : B ≤ w.heap.size) (hk0 : 0 ≤ k0) (hk1 : k0 + 2 * n ≤ 9223372036854775807) :
    Calls Try.prog 16 #[.agg #[.slice A n c, .int .i64 ps, .bool pp, .int .i64 tk, .bool tp, .int .i64 pd], .int .i64 k0] w (RetPure w (.int .i64 (k0 + 2 * n))) := by
  go_enter Try.func16, Try.ntmps16
  go_wp2_with fail
  refine (heldAnswerS_any _ _ _ _ _ _ (h.below (below_new _ _) hB) hk0 hk1).mono ?_
  rintro e w1 ⟨rfl, rfl⟩
  go_wp2_with fail
  go_ret
  exact ⟨rfl, below_new _ _⟩
theorem cloneA_any (A : Option Addr) (n c B : Nat) (xs : List Value) (w : World) (h : Sees w B 2 A n c xs) (h1 : ∀ u ∈ xs, u.oneCell' = true) (hB : B ≤ w.heap.size) (hn8 : n ≤ 8796093022208) :
    Calls Try.prog 40 #[.slice A n c] w (RetFresh w 46 2 n xs) := by
  obtain ⟨i0, hi, hz0, hz1, hz2⟩ := info_parts ans_info
  have hc1 := h.cap
  have hc2 := h.big
  have hnil := fun (w : World) (n' c' : Nat) => Lib.run_eql_slice_nil (P := Try.prog) w 22 46 A n c n' c' Try.underlying22
  cases A with
  | none =>
    have hn : n = 0 := by
      rcases Nat.eq_zero_or_pos n with h0 | h0
      · exact h0
      · obtain ⟨b, o, e, _⟩ := h.at_ h0; cases e
    subst hn
    have hx : xs = [] := List.eq_nil_of_length_eq_zero (by have := h.len; omega)
    subst hx
    go_enter Try.func40, Try.ntmps40
    go_wp2
    go_ret
    exact ⟨_, _, rfl, Own.nil _ _ _ _ _, Below.refl _ _⟩
  | some ad =>
    have hown := newEmpty w 46 2
    have hsee : Sees (w.alloc (.cells #[] 46)) B 2 (some ad) n c xs := h.below ((Below.refl B w).alloc hB _) (Nat.le_refl _)
    go_enter Try.func40, Try.ntmps40
    go_wp2_with (at_builtin; refine wpList_app _ rfl (.tmp 5) (.tmp 6) _ rfl 46 i0 (.agg #[.int .i64 0, .bool false]) 2 16 Try.underlying22 hi hz0 hz1 hz2 rfl (by decide) w.heap.size (w.heap.size + 1) _ 0 0 [] rfl hown B (some ad) n c xs rfl hsee h1 (by omega) (by omega) (by simp) ?_; intro A2 c2 w2 hown2 hfr2)
    go_ret
    exact ⟨A2, c2, by simp, by simpa using hown2, Fr.below ((Below.refl _ _).alloc (Nat.le_refl _) _) hfr2 (Nat.le_refl _) (Nat.le_refl _)⟩
end Go.Proofs.Ythkiollagnjfaaa
