/-
  Walks: l4Copy, NewAnswers of the program and of the reference, sameAnswers.
-/
import Derived.Test.YthkiollagnjfaaaN3
import Derived.BigQuiet
import Derived.Deep.QuietTactic
namespace Go.Proofs.Ythkiollagnjfaaa
open Go.RowKit
set_option linter.unusedSimpArgs false
set_option linter.unusedVariables false
set_option maxHeartbeats 1000000 in
theorem l4Copy_any (A : Option Addr) (n c B : Nat) (d : List (Int × Bool)) (ps : Int) (pp : Bool) (tk : Int) (tp : Bool) (pd : Int) (w : World) (h : Sees w B 2 A n c (ansC d)) (hB : B ≤ w.heap.size) (hn8 : n ≤ 8796093022208) :
    Calls Try.prog 43 #[.agg #[.slice A n c, .int .i64 ps, .bool pp, .int .i64 tk, .bool tp, .int .i64 pd]] w (RetF w 46 2 n (ansC d) (ansR ps pp tk tp pd)) := by
  obtain ⟨i0, hi0, hz0, hz1, hz2⟩ := info_parts ans_info
  have hc1 := h.cap
  have b3 : Below w.heap.size w (((w.alloc (.cells #[.slice A n c, .int .i64 ps, .bool pp, .int .i64 tk, .bool tp, .int .i64 pd] 24)).alloc (.cells #[.slice none 0 0, .int .i64 0, .bool false, .int .i64 0, .bool false, .int .i64 0] 24)).alloc (.cells #[.slice A n c, .int .i64 ps, .bool pp, .int .i64 tk, .bool tp, .int .i64 pd] 24)) := ((below_new _ _).alloc (Nat.le_of_lt (by simp)) _).alloc (Nat.le_of_lt (by simp; omega)) _
  have h1 := h.below (b3.alloc b3.size (.cells #[] 46)) hB
  have hE := newEmpty (((w.alloc (.cells #[.slice A n c, .int .i64 ps, .bool pp, .int .i64 tk, .bool tp, .int .i64 pd] 24)).alloc (.cells #[.slice none 0 0, .int .i64 0, .bool false, .int .i64 0, .bool false, .int .i64 0] 24)).alloc (.cells #[.slice A n c, .int .i64 ps, .bool pp, .int .i64 tk, .bool tp, .int .i64 pd] 24)) 46 2
  obtain ⟨q0, q1, q2, qz, qB⟩ := rows3 (below_new (((w.alloc (.cells #[.slice A n c, .int .i64 ps, .bool pp, .int .i64 tk, .bool tp, .int .i64 pd] 24)).alloc (.cells #[.slice none 0 0, .int .i64 0, .bool false, .int .i64 0, .bool false, .int .i64 0] 24)).alloc (.cells #[.slice A n c, .int .i64 ps, .bool pp, .int .i64 tk, .bool tp, .int .i64 pd] 24)) (.cells #[] 46))
  simp only [World.size_alloc] at hE
  go_enter Try.func43, Try.ntmps43
  go_wp2_with (at_builtin; refine wpList_app _ rfl (.tmp 5) (.tmp 7) _ rfl 46 i0 (.agg #[.int .i64 0, .bool false]) 2 16 Try.underlying22 hi0 hz0 hz1 hz2 rfl (by decide) _ _ _ 0 0 [] rfl hE _ _ _ _ _ rfl h1 (ansC_one _) (by omega) (by omega) (by simp) ?_; intro A2 c2 w2 o2 f2; simp only [Nat.zero_add, List.nil_append] at o2; have r1 := rowFr q1 f2 (.inl (by omega)); have r2 := rowFr q2 f2 (.inl (by omega)); have z2 : w.heap.size + 1 + 1 + 1 ≤ w2.heap.size := (by have := f2.size; omega); have B2 := f2.below qB (by omega) (by omega); clear q0 q1 q2 qz qB h1 b3 hE f2; obtain ⟨n0, n1, n2, n3, n4, n5⟩ := cells6 r1; obtain ⟨p0, p1, p2, p3, p4, p5⟩ := cells6 r2; obtain ⟨f0, f1, f2, f3, f4, f5⟩ := frz6 r1; obtain ⟨g0, g1, g2, g3, g4, g5⟩ := frz6 r2; have HB := Lib.hid B2; have HO := Lib.hid o2; have e1 := rowSet r1 ⟨w.heap.size + 1 + 1, 0, none⟩ (.slice A2 n c2) (by simp); have E1 := Lib.hid (cells6 (put6 e1 (.slice A2 n c2) (.int .i64 ps) (.bool pp) (.int .i64 tk) (.bool tp) (.int .i64 pd))); clear r1 r2 B2 o2 e1)
  obtain ⟨k0, k1, k2, k3, k4, k5⟩ := E1.out
  refine bodyPost_ret (v := .agg #[.slice A2 n c2, .int .i64 ps, .bool pp, .int .i64 tk, .bool tp, .int .i64 pd]) (by simp only [results, Try.results43]; simp [go_sem, k0, k1, k2, k3, k4, k5]) rfl ?_
  exact RetF.of (f := ansR ps pp tk tp pd) (own6 (HO.out.setOther _ _ (.inl (by simp))) (.inl (by omega)) _ _ _ _ _ _) (by omega) (by simp) (below6 (HB.out.setCell (by simp; omega) _) (by omega) _ _ _ _ _ _)
theorem specNewAnswers_any (q : Int) (w : World) : Calls Try.prog 12 #[.int .i64 q] w (RetF w 46 2 (anew q).ents.length (ansC (anew q).ents) (ansR 0 (win q 1 16) 0 (win q 1 16) 0)) := by
  obtain ⟨i0, hi0, hz0, hz1, hz2⟩ := info_parts ans_info
  cases hw : win q 1 16 with
  | false =>
    have ht : (anew q).ents = [] := by unfold anew; rw [if_neg (by simp [hw])]; rfl
    rw [ht]
    clear ht
    go_enter Try.func12, Try.ntmps12
    go_wp2_with (go_at_call 31; refine (l1In_any _ _ _ _).mono ?_; rw [hw]; rintro e w' ⟨rfl, rfl⟩)
    refine bodyPost_ret (v := .agg #[.slice none 0 0, .int .i64 0, .bool false, .int .i64 0, .bool false, .int .i64 0]) (by simp [results, Try.results12, go_sem]) rfl ?_
    exact RetF.of (f := ansR 0 false 0 false 0) (Own.nil _ w.heap.size w.heap.size _ _) (Nat.le_refl _) (by simp) (below_new _ _)
  | true =>
    have hn := (win_iff _ _ _).1 hw
    obtain ⟨m, rfl⟩ := Int.eq_ofNat_of_zero_le (show 0 ≤ q by omega)
    have ht : (anew (m : Int)).ents = List.replicate m (0, false) := by unfold anew; rw [if_pos hw, Int.toNat_natCast]
    rw [ht, List.length_replicate]
    clear ht
    have hm : m ≤ 16 := by omega
    have hmk := run_make_rowN (P := Try.prog) 22 46 i0 (.agg #[.int .i64 0, .bool false]) Try.underlying22 hi0 hz0 .i64 .i64 m m (Nat.le_refl _) (by rw [hz2]; omega) (by omega)
    rw [hz1] at hmk
    simp only [Value.cells] at hmk
    have hl : (madeCells #[Value.int .i64 0, .bool false] (m * 2)).toList = ansC (List.replicate m (0, false)) := by
      have h0 := madeCells_rep #[Value.int .i64 0, .bool false] (by decide) m
      have e2 : (#[Value.int .i64 0, .bool false] : Array Value).size = 2 := rfl
      rw [e2] at h0
      rw [h0]
      clear h0 e2 hmk hn hw hm
      induction m with
      | zero => rfl
      | succ m ih => rw [List.replicate_succ, List.flatMap_cons, ih, List.replicate_succ]; rfl
    go_enter Try.func12, Try.ntmps12
    go_wp2_with (go_at_call 31; refine (l1In_any _ _ _ _).mono ?_; rw [hw]; rintro e w' ⟨rfl, rfl⟩)
    refine bodyPost_ret (v := .agg #[.slice (some ⟨w.heap.size + 1, 0, none⟩) m m, .int .i64 0, .bool true, .int .i64 0, .bool true, .int .i64 0]) (by simp [results, Try.results12, go_sem]) rfl ?_
    have o := Own.made (w := w.alloc (.cells #[.slice (some ⟨w.heap.size + 1, 0, none⟩) m m, .int .i64 0, .bool true, .int .i64 0, .bool true, .int .i64 0] 24)) (e := 46) (cur := madeCells #[.int .i64 0, .bool false] (m * 2)) (s := 2) (n := m) (c := m) (xs := ansC (List.replicate m (0, false))) (lo := w.heap.size) (hi := w.heap.size + 1 + 1) (size_madeCells _ _).symm (Nat.le_refl _) (by omega) (by rw [hl]; exact List.take_of_length_le (by rw [ansC_length, List.length_replicate]; exact Nat.le_refl _)) (by simp) (by simp)
    rw [World.size_alloc] at o
    exact RetF.of (f := ansR 0 true 0 true 0) o (Nat.le_refl _) (by simp) ((below_new _ _).alloc (Nat.le_of_lt (by simp)) _)
theorem implNewAnswers_any (q : Int) (w : World) : Calls Try.prog 13 #[.int .i64 q] w (RetF w 46 2 (anew q).ents.length (ansC (anew q).ents) (ansR 0 (win q 1 16) 0 (win q 1 16) 0)) := by
  obtain ⟨i0, hi0, hz0, hz1, hz2⟩ := info_parts ans_info
  cases hw : win q 1 16 with
  | false =>
    have ht : (anew q).ents = [] := by unfold anew; rw [if_neg (by simp [hw])]; rfl
    rw [ht]
    clear ht
    go_enter Try.func13, Try.ntmps13
    go_wp2_with (go_at_call 32; refine (within_any _ _ _ _).mono ?_; rw [hw]; rintro e w' ⟨rfl, rfl⟩)
    refine bodyPost_ret (v := .agg #[.slice none 0 0, .int .i64 0, .bool false, .int .i64 0, .bool false, .int .i64 0]) (by simp [results, Try.results13, go_sem]) rfl ?_
    exact RetF.of (f := ansR 0 false 0 false 0) (Own.nil _ w.heap.size w.heap.size _ _) (Nat.le_refl _) (by simp) (below_new _ _)
  | true =>
    have hn := (win_iff _ _ _).1 hw
    obtain ⟨m, rfl⟩ := Int.eq_ofNat_of_zero_le (show 0 ≤ q by omega)
    have ht : (anew (m : Int)).ents = List.replicate m (0, false) := by unfold anew; rw [if_pos hw, Int.toNat_natCast]
    rw [ht, List.length_replicate]
    clear ht
    have hm : m ≤ 16 := by omega
    have hmk := run_make_rowN (P := Try.prog) 22 46 i0 (.agg #[.int .i64 0, .bool false]) Try.underlying22 hi0 hz0 .i64 .i64 m m (Nat.le_refl _) (by rw [hz2]; omega) (by omega)
    rw [hz1] at hmk
    simp only [Value.cells] at hmk
    have hl : (madeCells #[Value.int .i64 0, .bool false] (m * 2)).toList = ansC (List.replicate m (0, false)) := by
      have h0 := madeCells_rep #[Value.int .i64 0, .bool false] (by decide) m
      have e2 : (#[Value.int .i64 0, .bool false] : Array Value).size = 2 := rfl
      rw [e2] at h0
      rw [h0]
      clear h0 e2 hmk hn hw hm
      induction m with
      | zero => rfl
      | succ m ih => rw [List.replicate_succ, List.flatMap_cons, ih, List.replicate_succ]; rfl
    go_enter Try.func13, Try.ntmps13
    go_wp2_with (go_at_call 32; refine (within_any _ _ _ _).mono ?_; rw [hw]; rintro e w' ⟨rfl, rfl⟩)
    refine bodyPost_ret (v := .agg #[.slice (some ⟨w.heap.size + 1, 0, none⟩) m m, .int .i64 0, .bool true, .int .i64 0, .bool true, .int .i64 0]) (by simp [results, Try.results13, go_sem]) rfl ?_
    have o := Own.made (w := w.alloc (.cells #[.slice (some ⟨w.heap.size + 1, 0, none⟩) m m, .int .i64 0, .bool true, .int .i64 0, .bool true, .int .i64 0] 24)) (e := 46) (cur := madeCells #[.int .i64 0, .bool false] (m * 2)) (s := 2) (n := m) (c := m) (xs := ansC (List.replicate m (0, false))) (lo := w.heap.size) (hi := w.heap.size + 1 + 1) (size_madeCells _ _).symm (Nat.le_refl _) (by omega) (by rw [hl]; exact List.take_of_length_le (by rw [ansC_length, List.length_replicate]; exact Nat.le_refl _)) (by simp) (by simp)
    rw [World.size_alloc] at o
    exact RetF.of (f := ansR 0 true 0 true 0) o (Nat.le_refl _) (by simp) ((below_new _ _).alloc (Nat.le_of_lt (by simp)) _)
end Go.Proofs.Ythkiollagnjfaaa
