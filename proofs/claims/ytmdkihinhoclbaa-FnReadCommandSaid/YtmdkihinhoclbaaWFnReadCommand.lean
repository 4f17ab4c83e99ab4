/-
  Walk: the law FnReadCommand returns true.
-/
import Derived.Test.YtmdkihinhoclbaaC9
import Derived.Test.YtmdkihinhoclbaaA
namespace Go.Proofs.Ytmdkihinhoclbaa
open Go.RowKit
set_option linter.unusedSimpArgs false
set_option linter.unusedVariables false
set_option maxHeartbeats 4000000 in
theorem law_FnReadCommand (w : World) (A : Option Addr) (n c : Nat) (bs : List Int) (h : Sees w w.heap.size 1 A n c (byts bs)) (hb : ∀ v ∈ bs, 0 ≤ v ∧ v ≤ 255) :
    Calls Try.prog 10 #[.slice A n c] w (RetPure w (.bool true)) := by
  have hc1 := h.cap
  have hc2 := h.big
  by_cases hn : 1048576 < n
  · go_enter Try.func10, Try.ntmps10
    go_wp2_with fail
    go_ret
    exact ⟨rfl, Below.refl _ _⟩
  have hB : Below w.heap.size w w := Below.refl _ _
  go_enter Try.func10, Try.ntmps10
  go_wp2_with fail
  refine (drawReadCommand_any _ _ _ _ _ _ h (Nat.le_refl _) hb).mono ?_
  rintro e w1 ⟨m, rfl, ⟨hm1, hm2⟩, b1⟩
  have s1 := b1.size
  replace hB := below_later hB b1 (Nat.le_refl _)
  clear b1
  clear h hb
  cases hr : rdok m
  · have HR := Lib.hid hr
    have HZ := Lib.hid (show (if rdok m = true then rcmd m else ⟨0, 0, 0, 0⟩ : Cmd) = ⟨0, 0, 0, 0⟩ by rw [if_neg (by simp [hr])])
    clear hr
    go_wp2_with fail
    have q := implReadCommand_any m w1 ⟨hm1, hm2⟩
    rw [HZ.out, HR.out] at q
    try simp only [cmdV] at q
    refine q.mono ?_
    clear q
    rintro e w2 ⟨rfl, b2⟩
    have s2 := b2.size
    replace hB := below_later hB b2 (Nat.le_refl _)
    clear b2
    have hn3 := below_new w2 (.cells #[.int .i64 0, .int .i64 0, .int .i64 0, .int .i64 0] 25)
    replace hB := below_later hB hn3 (Nat.le_refl _)
    clear hn3
    have rx : (w2.alloc (.cells #[.int .i64 0, .int .i64 0, .int .i64 0, .int .i64 0] 25)).heap[w2.heap.size]? = some (.cells #[.int .i64 0, .int .i64 0, .int .i64 0, .int .i64 0] 25 (0, 0)) := heap_alloc_new _ _
    obtain ⟨mx0, mx1, mx2, mx3⟩ := cells4 rx
    have s3 : w2.heap.size < (w2.alloc (.cells #[.int .i64 0, .int .i64 0, .int .i64 0, .int .i64 0] 25)).heap.size := by rw [World.size_alloc]; exact Nat.lt_succ_self _
    go_wp2_with fail
    generalize (w2.alloc (.cells #[.int .i64 0, .int .i64 0, .int .i64 0, .int .i64 0] 25)) = u3 at *
    have q := specReadCommand_any m u3 ⟨hm1, hm2⟩
    rw [HZ.out, HR.out] at q
    try simp only [cmdV] at q
    refine q.mono ?_
    clear q
    rintro e w4 ⟨rfl, b4⟩
    have s4 := b4.size
    replace rx := rowKeep rx b4
    clear mx0 mx1 mx2 mx3
    obtain ⟨mx0, mx1, mx2, mx3⟩ := cells4 rx
    replace hB := below_later hB b4 (Nat.le_refl _)
    clear b4
    have hn5 := below_new w4 (.cells #[.int .i64 0, .int .i64 0, .int .i64 0, .int .i64 0] 25)
    replace rx := rowKeep rx hn5
    clear mx0 mx1 mx2 mx3
    obtain ⟨mx0, mx1, mx2, mx3⟩ := cells4 rx
    replace hB := below_later hB hn5 (Nat.le_refl _)
    clear hn5
    have ry : (w4.alloc (.cells #[.int .i64 0, .int .i64 0, .int .i64 0, .int .i64 0] 25)).heap[w4.heap.size]? = some (.cells #[.int .i64 0, .int .i64 0, .int .i64 0, .int .i64 0] 25 (0, 0)) := heap_alloc_new _ _
    obtain ⟨my0, my1, my2, my3⟩ := cells4 ry
    have s5 : w4.heap.size < (w4.alloc (.cells #[.int .i64 0, .int .i64 0, .int .i64 0, .int .i64 0] 25)).heap.size := by rw [World.size_alloc]; exact Nat.lt_succ_self _
    go_wp2_with fail
    generalize (w4.alloc (.cells #[.int .i64 0, .int .i64 0, .int .i64 0, .int .i64 0] 25)) = u5 at *
    refine (alive_any _).mono ?_
    rintro e w6 ⟨rfl, b6⟩
    have s6 := b6.size
    replace rx := rowKeep rx b6
    clear mx0 mx1 mx2 mx3
    obtain ⟨mx0, mx1, mx2, mx3⟩ := cells4 rx
    replace ry := rowKeep ry b6
    clear my0 my1 my2 my3
    obtain ⟨my0, my1, my2, my3⟩ := cells4 ry
    replace hB := below_later hB b6 (Nat.le_refl _)
    clear b6
    go_wp2_with fail
    go_ret
    exact ⟨rfl, hB⟩
  · have h2 := hr
    unfold rdok at h2
    rw [Bool.and_eq_true, decide_eq_true_iff] at h2
    have hw := (cword_rcmd m h2.1).2 h2.2
    have hv := h2.2
    obtain ⟨k, a, cc, v, hx⟩ : ∃ k a cc v, rcmd m = ⟨k, a, cc, v⟩ := ⟨_, _, _, _, rfl⟩
    rw [hx] at hw hv
    have HZ := Lib.hid (show (if rdok m = true then rcmd m else ⟨0, 0, 0, 0⟩ : Cmd) = ⟨k, a, cc, v⟩ by rw [if_pos hr, hx])
    have HR := Lib.hid hr
    clear hr h2
    have HW := Lib.hid hw
    have HV := Lib.hid hv
    clear hw hv hx
    go_wp2_with fail
    have q := implReadCommand_any m w1 ⟨hm1, hm2⟩
    rw [HZ.out, HR.out] at q
    try simp only [cmdV] at q
    refine q.mono ?_
    clear q
    rintro e w2 ⟨rfl, b2⟩
    have s2 := b2.size
    replace hB := below_later hB b2 (Nat.le_refl _)
    clear b2
    have hn3 := below_new w2 (.cells #[.int .i64 k, .int .i64 a, .int .i64 cc, .int .i64 v] 25)
    replace hB := below_later hB hn3 (Nat.le_refl _)
    clear hn3
    have rx : (w2.alloc (.cells #[.int .i64 k, .int .i64 a, .int .i64 cc, .int .i64 v] 25)).heap[w2.heap.size]? = some (.cells #[.int .i64 k, .int .i64 a, .int .i64 cc, .int .i64 v] 25 (0, 0)) := heap_alloc_new _ _
    obtain ⟨mx0, mx1, mx2, mx3⟩ := cells4 rx
    have s3 : w2.heap.size < (w2.alloc (.cells #[.int .i64 k, .int .i64 a, .int .i64 cc, .int .i64 v] 25)).heap.size := by rw [World.size_alloc]; exact Nat.lt_succ_self _
    go_wp2_with fail
    generalize (w2.alloc (.cells #[.int .i64 k, .int .i64 a, .int .i64 cc, .int .i64 v] 25)) = u3 at *
    have q := specReadCommand_any m u3 ⟨hm1, hm2⟩
    rw [HZ.out, HR.out] at q
    try simp only [cmdV] at q
    refine q.mono ?_
    clear q
    rintro e w4 ⟨rfl, b4⟩
    have s4 := b4.size
    replace rx := rowKeep rx b4
    clear mx0 mx1 mx2 mx3
    obtain ⟨mx0, mx1, mx2, mx3⟩ := cells4 rx
    replace hB := below_later hB b4 (Nat.le_refl _)
    clear b4
    have hn5 := below_new w4 (.cells #[.int .i64 k, .int .i64 a, .int .i64 cc, .int .i64 v] 25)
    replace rx := rowKeep rx hn5
    clear mx0 mx1 mx2 mx3
    obtain ⟨mx0, mx1, mx2, mx3⟩ := cells4 rx
    replace hB := below_later hB hn5 (Nat.le_refl _)
    clear hn5
    have ry : (w4.alloc (.cells #[.int .i64 k, .int .i64 a, .int .i64 cc, .int .i64 v] 25)).heap[w4.heap.size]? = some (.cells #[.int .i64 k, .int .i64 a, .int .i64 cc, .int .i64 v] 25 (0, 0)) := heap_alloc_new _ _
    obtain ⟨my0, my1, my2, my3⟩ := cells4 ry
    have s5 : w4.heap.size < (w4.alloc (.cells #[.int .i64 k, .int .i64 a, .int .i64 cc, .int .i64 v] 25)).heap.size := by rw [World.size_alloc]; exact Nat.lt_succ_self _
    go_wp2_with fail
    generalize (w4.alloc (.cells #[.int .i64 k, .int .i64 a, .int .i64 cc, .int .i64 v] 25)) = u5 at *
    have q := implCommandValid_any k a cc v 64 u5 (by omega)
    rw [HV.out] at q
    try simp only [cmdV] at q
    refine q.mono ?_
    clear q
    rintro e w6 ⟨rfl, b6⟩
    have s6 := b6.size
    replace rx := rowKeep rx b6
    clear mx0 mx1 mx2 mx3
    obtain ⟨mx0, mx1, mx2, mx3⟩ := cells4 rx
    replace ry := rowKeep ry b6
    clear my0 my1 my2 my3
    obtain ⟨my0, my1, my2, my3⟩ := cells4 ry
    replace hB := below_later hB b6 (Nat.le_refl _)
    clear b6
    go_wp2_with fail
    have q := implCommandWord_any ⟨k, a, cc, v⟩ w6
    rw [HW.out] at q
    try simp only [cmdV] at q
    refine q.mono ?_
    clear q
    rintro e w7 ⟨rfl, b7⟩
    have s7 := b7.size
    replace rx := rowKeep rx b7
    clear mx0 mx1 mx2 mx3
    obtain ⟨mx0, mx1, mx2, mx3⟩ := cells4 rx
    replace ry := rowKeep ry b7
    clear my0 my1 my2 my3
    obtain ⟨my0, my1, my2, my3⟩ := cells4 ry
    replace hB := below_later hB b7 (Nat.le_refl _)
    clear b7
    go_wp2_with fail
    go_ret
    exact ⟨rfl, hB⟩
end Go.Proofs.Ytmdkihinhoclbaa
