/-
  Walk: the law FnCommandValid returns true.
-/
import Derived.Test.YtiibnkcdeldiaaaC11
import Derived.Test.YtiibnkcdeldiaaaA
namespace Go.Proofs.Ytiibnkcdeldiaaa
open Go.RowKit
set_option linter.unusedSimpArgs false
set_option linter.unusedVariables false
set_option maxHeartbeats 4000000 in
theorem law_FnCommandValid (w : World) (A : Option Addr) (n c : Nat) (bs : List Int) (h : Sees w w.heap.size 1 A n c (byts bs)) (hb : ∀ v ∈ bs, 0 ≤ v ∧ v ≤ 255) :
    Calls Try.prog 3 #[.slice A n c] w (RetPure w (.bool true)) := by
  have hc1 := h.cap
  have hc2 := h.big
  by_cases hn : 1048576 < n
  · go_enter Try.func3, Try.ntmps3
    go_wp2_with fail
    go_ret
    exact ⟨rfl, Below.refl _ _⟩
  have hB : Below w.heap.size w w := Below.refl _ _
  go_enter Try.func3, Try.ntmps3
  go_wp2_with fail
  refine (drawCommandValid_any _ _ _ _ _ _ h (Nat.le_refl _) hb).mono ?_
  rintro e w1 ⟨k, a, cc, v, y, rfl, hbd, hy, b1⟩
  have s1 := b1.size
  replace hB := below_later hB b1 (Nat.le_refl _)
  clear b1
  clear h hb
  obtain ⟨hy0, hy1⟩ := hy
  have hn2 := below_new w1 (.cells #[.int .i64 k, .int .i64 a, .int .i64 cc, .int .i64 v] 24)
  replace hB := below_later hB hn2 (Nat.le_refl _)
  clear hn2
  have rc : (w1.alloc (.cells #[.int .i64 k, .int .i64 a, .int .i64 cc, .int .i64 v] 24)).heap[w1.heap.size]? = some (.cells #[.int .i64 k, .int .i64 a, .int .i64 cc, .int .i64 v] 24 (0, 0)) := heap_alloc_new _ _
  obtain ⟨mc0, mc1, mc2, mc3⟩ := cells4 rc
  have s2 : w1.heap.size < (w1.alloc (.cells #[.int .i64 k, .int .i64 a, .int .i64 cc, .int .i64 v] 24)).heap.size := by rw [World.size_alloc]; exact Nat.lt_succ_self _
  have H5 := Lib.hid (cval_5 ⟨k, a, cc, v⟩ y)
  cases hv : cval ⟨k, a, cc, v⟩ y
  · have HV := Lib.hid hv
    clear hv
    go_wp2_with fail
    generalize (w1.alloc (.cells #[.int .i64 k, .int .i64 a, .int .i64 cc, .int .i64 v] 24)) = u2 at *
    have q := implCommandValid_any k a cc v y u2 (by omega)
    rw [HV.out] at q
    try simp only [cmdV] at q
    refine q.mono ?_
    clear q
    rintro e w3 ⟨rfl, b3⟩
    have s3 := b3.size
    replace rc := rowKeep rc b3
    clear mc0 mc1 mc2 mc3
    obtain ⟨mc0, mc1, mc2, mc3⟩ := cells4 rc
    replace hB := below_later hB b3 (Nat.le_refl _)
    clear b3
    go_wp2_with fail
    have q := specCommandValid_any k a cc v y w3 (by omega)
    rw [HV.out] at q
    try simp only [cmdV] at q
    refine q.mono ?_
    clear q
    rintro e w4 ⟨rfl, b4⟩
    have s4 := b4.size
    replace rc := rowKeep rc b4
    clear mc0 mc1 mc2 mc3
    obtain ⟨mc0, mc1, mc2, mc3⟩ := cells4 rc
    replace hB := below_later hB b4 (Nat.le_refl _)
    clear b4
    have k5 := mc0
    have k6 := mc1
    have k7 := mc2
    have k8 := mc3
    have hn9 := below_new w4 (.cells #[.int .i64 5, .int .i64 a, .int .i64 cc, .int .i64 v] 24)
    replace rc := rowKeep rc hn9
    clear mc0 mc1 mc2 mc3
    obtain ⟨mc0, mc1, mc2, mc3⟩ := cells4 rc
    replace hB := below_later hB hn9 (Nat.le_refl _)
    clear hn9
    have rx : (w4.alloc (.cells #[.int .i64 5, .int .i64 a, .int .i64 cc, .int .i64 v] 24)).heap[w4.heap.size]? = some (.cells #[.int .i64 5, .int .i64 a, .int .i64 cc, .int .i64 v] 24 (0, 0)) := heap_alloc_new _ _
    obtain ⟨mx0, mx1, mx2, mx3⟩ := cells4 rx
    have s9 : w4.heap.size < (w4.alloc (.cells #[.int .i64 5, .int .i64 a, .int .i64 cc, .int .i64 v] 24)).heap.size := by rw [World.size_alloc]; exact Nat.lt_succ_self _
    go_wp2_with fail
    clear k5 k6 k7 k8
    generalize (w4.alloc (.cells #[.int .i64 5, .int .i64 a, .int .i64 cc, .int .i64 v] 24)) = u9 at *
    have q := implCommandValid_any 5 a cc v y u9 (by omega)
    rw [H5.out] at q
    try simp only [cmdV] at q
    refine q.mono ?_
    clear q
    rintro e w10 ⟨rfl, b10⟩
    have s10 := b10.size
    replace rc := rowKeep rc b10
    clear mc0 mc1 mc2 mc3
    obtain ⟨mc0, mc1, mc2, mc3⟩ := cells4 rc
    replace rx := rowKeep rx b10
    clear mx0 mx1 mx2 mx3
    obtain ⟨mx0, mx1, mx2, mx3⟩ := cells4 rx
    replace hB := below_later hB b10 (Nat.le_refl _)
    clear b10
    go_wp2_with fail
    refine (alive_any _).mono ?_
    rintro e w11 ⟨rfl, b11⟩
    have s11 := b11.size
    replace rc := rowKeep rc b11
    clear mc0 mc1 mc2 mc3
    obtain ⟨mc0, mc1, mc2, mc3⟩ := cells4 rc
    replace rx := rowKeep rx b11
    clear mx0 mx1 mx2 mx3
    obtain ⟨mx0, mx1, mx2, mx3⟩ := cells4 rx
    replace hB := below_later hB b11 (Nat.le_refl _)
    clear b11
    go_wp2_with fail
    go_ret
    exact ⟨rfl, hB⟩
  · have hv2 := (cval_iff _ _).1 hv
    have hs : 0 ≤ y ∧ y ≤ 64 := ⟨hv2.1, hv2.2.1⟩
    clear hv2
    obtain ⟨hs0, hs1⟩ := hs
    have HV := Lib.hid hv
    by_cases hq : y = 64
    · have hb0 : (y == 64) = true := beq_iff_eq.2 hq
      clear hq hv
      go_wp2_with fail
      generalize (w1.alloc (.cells #[.int .i64 k, .int .i64 a, .int .i64 cc, .int .i64 v] 24)) = u2 at *
      have q := implCommandValid_any k a cc v y u2 (by omega)
      rw [HV.out] at q
      try simp only [cmdV] at q
      refine q.mono ?_
      clear q
      rintro e w3 ⟨rfl, b3⟩
      have s3 := b3.size
      replace rc := rowKeep rc b3
      clear mc0 mc1 mc2 mc3
      obtain ⟨mc0, mc1, mc2, mc3⟩ := cells4 rc
      replace hB := below_later hB b3 (Nat.le_refl _)
      clear b3
      go_wp2_with fail
      have q := specCommandValid_any k a cc v y w3 (by omega)
      rw [HV.out] at q
      try simp only [cmdV] at q
      refine q.mono ?_
      clear q
      rintro e w4 ⟨rfl, b4⟩
      have s4 := b4.size
      replace rc := rowKeep rc b4
      clear mc0 mc1 mc2 mc3
      obtain ⟨mc0, mc1, mc2, mc3⟩ := cells4 rc
      replace hB := below_later hB b4 (Nat.le_refl _)
      clear b4
      have k5 := mc0
      have k6 := mc1
      have k7 := mc2
      have k8 := mc3
      have hn9 := below_new w4 (.cells #[.int .i64 5, .int .i64 a, .int .i64 cc, .int .i64 v] 24)
      replace rc := rowKeep rc hn9
      clear mc0 mc1 mc2 mc3
      obtain ⟨mc0, mc1, mc2, mc3⟩ := cells4 rc
      replace hB := below_later hB hn9 (Nat.le_refl _)
      clear hn9
      have rx : (w4.alloc (.cells #[.int .i64 5, .int .i64 a, .int .i64 cc, .int .i64 v] 24)).heap[w4.heap.size]? = some (.cells #[.int .i64 5, .int .i64 a, .int .i64 cc, .int .i64 v] 24 (0, 0)) := heap_alloc_new _ _
      obtain ⟨mx0, mx1, mx2, mx3⟩ := cells4 rx
      have s9 : w4.heap.size < (w4.alloc (.cells #[.int .i64 5, .int .i64 a, .int .i64 cc, .int .i64 v] 24)).heap.size := by rw [World.size_alloc]; exact Nat.lt_succ_self _
      go_wp2_with fail
      clear k5 k6 k7 k8
      generalize (w4.alloc (.cells #[.int .i64 5, .int .i64 a, .int .i64 cc, .int .i64 v] 24)) = u9 at *
      have q := implCommandValid_any 5 a cc v y u9 (by omega)
      rw [H5.out] at q
      try simp only [cmdV] at q
      refine q.mono ?_
      clear q
      rintro e w10 ⟨rfl, b10⟩
      have s10 := b10.size
      replace rc := rowKeep rc b10
      clear mc0 mc1 mc2 mc3
      obtain ⟨mc0, mc1, mc2, mc3⟩ := cells4 rc
      replace rx := rowKeep rx b10
      clear mx0 mx1 mx2 mx3
      obtain ⟨mx0, mx1, mx2, mx3⟩ := cells4 rx
      replace hB := below_later hB b10 (Nat.le_refl _)
      clear b10
      go_wp2_with fail
      refine (alive_any _).mono ?_
      rintro e w11 ⟨rfl, b11⟩
      have s11 := b11.size
      replace rc := rowKeep rc b11
      clear mc0 mc1 mc2 mc3
      obtain ⟨mc0, mc1, mc2, mc3⟩ := cells4 rc
      replace rx := rowKeep rx b11
      clear mx0 mx1 mx2 mx3
      obtain ⟨mx0, mx1, mx2, mx3⟩ := cells4 rx
      replace hB := below_later hB b11 (Nat.le_refl _)
      clear b11
      go_wp2_with fail
      go_ret
      exact ⟨rfl, hB⟩
    · have HN := Lib.hid (cval_mono _ y (y + 1) hv (by omega) (by omega))
      clear hv
      have hb0 : (y == 64) = false := beq_eq_false_iff_ne.2 hq
      clear hq
      have e1 : IntKind.i64.wrap (y + 1) = y + 1 := IntWalk.i64_in _ (by omega)
      go_wp2_with fail
      generalize (w1.alloc (.cells #[.int .i64 k, .int .i64 a, .int .i64 cc, .int .i64 v] 24)) = u2 at *
      have q := implCommandValid_any k a cc v y u2 (by omega)
      rw [HV.out] at q
      try simp only [cmdV] at q
      refine q.mono ?_
      clear q
      rintro e w3 ⟨rfl, b3⟩
      have s3 := b3.size
      replace rc := rowKeep rc b3
      clear mc0 mc1 mc2 mc3
      obtain ⟨mc0, mc1, mc2, mc3⟩ := cells4 rc
      replace hB := below_later hB b3 (Nat.le_refl _)
      clear b3
      go_wp2_with fail
      have q := specCommandValid_any k a cc v y w3 (by omega)
      rw [HV.out] at q
      try simp only [cmdV] at q
      refine q.mono ?_
      clear q
      rintro e w4 ⟨rfl, b4⟩
      have s4 := b4.size
      replace rc := rowKeep rc b4
      clear mc0 mc1 mc2 mc3
      obtain ⟨mc0, mc1, mc2, mc3⟩ := cells4 rc
      replace hB := below_later hB b4 (Nat.le_refl _)
      clear b4
      have k5 := mc0
      have k6 := mc1
      have k7 := mc2
      have k8 := mc3
      have hn9 := below_new w4 (.cells #[.int .i64 5, .int .i64 a, .int .i64 cc, .int .i64 v] 24)
      replace rc := rowKeep rc hn9
      clear mc0 mc1 mc2 mc3
      obtain ⟨mc0, mc1, mc2, mc3⟩ := cells4 rc
      replace hB := below_later hB hn9 (Nat.le_refl _)
      clear hn9
      have rx : (w4.alloc (.cells #[.int .i64 5, .int .i64 a, .int .i64 cc, .int .i64 v] 24)).heap[w4.heap.size]? = some (.cells #[.int .i64 5, .int .i64 a, .int .i64 cc, .int .i64 v] 24 (0, 0)) := heap_alloc_new _ _
      obtain ⟨mx0, mx1, mx2, mx3⟩ := cells4 rx
      have s9 : w4.heap.size < (w4.alloc (.cells #[.int .i64 5, .int .i64 a, .int .i64 cc, .int .i64 v] 24)).heap.size := by rw [World.size_alloc]; exact Nat.lt_succ_self _
      go_wp2_with fail
      clear k5 k6 k7 k8
      generalize (w4.alloc (.cells #[.int .i64 5, .int .i64 a, .int .i64 cc, .int .i64 v] 24)) = u9 at *
      have q := implCommandValid_any k a cc v (y + 1) u9 (by omega)
      rw [HN.out] at q
      try simp only [cmdV] at q
      refine q.mono ?_
      clear q
      rintro e w10 ⟨rfl, b10⟩
      have s10 := b10.size
      replace rc := rowKeep rc b10
      clear mc0 mc1 mc2 mc3
      obtain ⟨mc0, mc1, mc2, mc3⟩ := cells4 rc
      replace rx := rowKeep rx b10
      clear mx0 mx1 mx2 mx3
      obtain ⟨mx0, mx1, mx2, mx3⟩ := cells4 rx
      replace hB := below_later hB b10 (Nat.le_refl _)
      clear b10
      go_wp2_with fail
      have q := implCommandValid_any 5 a cc v y w10 (by omega)
      rw [H5.out] at q
      try simp only [cmdV] at q
      refine q.mono ?_
      clear q
      rintro e w11 ⟨rfl, b11⟩
      have s11 := b11.size
      replace rc := rowKeep rc b11
      clear mc0 mc1 mc2 mc3
      obtain ⟨mc0, mc1, mc2, mc3⟩ := cells4 rc
      replace rx := rowKeep rx b11
      clear mx0 mx1 mx2 mx3
      obtain ⟨mx0, mx1, mx2, mx3⟩ := cells4 rx
      replace hB := below_later hB b11 (Nat.le_refl _)
      clear b11
      go_wp2_with fail
      refine (alive_any _).mono ?_
      rintro e w12 ⟨rfl, b12⟩
      have s12 := b12.size
      replace rc := rowKeep rc b12
      clear mc0 mc1 mc2 mc3
      obtain ⟨mc0, mc1, mc2, mc3⟩ := cells4 rc
      replace rx := rowKeep rx b12
      clear mx0 mx1 mx2 mx3
      obtain ⟨mx0, mx1, mx2, mx3⟩ := cells4 rx
      replace hB := below_later hB b12 (Nat.le_refl _)
      clear b12
      go_wp2_with fail
      go_ret
      exact ⟨rfl, hB⟩
end Go.Proofs.Ytiibnkcdeldiaaa
