/-
  Walks: draws of batches.
-/
import Derived.Test.YthnebfcclkebeaaM15
import Derived.Test.YthnebfcclkebeaaP4
namespace Go.Proofs.Ythnebfcclkebeaa
open Go.RowKit
set_option linter.unusedSimpArgs false
set_option linter.unusedVariables false
/-- A call's end: some commands in new memory; nothing that was there has changed. -/
def RetCmds (w : World) (en : Ending) (w' : World) : Prop :=
  ∃ A n c l, en = .returned (.slice A n c) ∧ Own w' w.heap.size w'.heap.size 55 4 A n c (cmdC l) ∧ n ≤ 13 ∧ Below w.heap.size w w'
/-- A call's end: some commands and a number. -/
def RetCmdsInt (w : World) (en : Ending) (w' : World) : Prop :=
  ∃ A n c l, ∃ y : Int, en = .returned (.tuple #[.slice A n c, .int .i64 y]) ∧ Own w' w.heap.size w'.heap.size 55 4 A n c (cmdC l) ∧ n ≤ 13 ∧ (0 ≤ y ∧ y < 20) ∧ Below w.heap.size w w'
/-- A call's end: a list of numbers and some commands. -/
def RetDiskCmds (w : World) (en : Ending) (w' : World) : Prop :=
  ∃ A n c d A2 n2 c2 l, en = .returned (.tuple #[.slice A n c, .slice A2 n2 c2]) ∧ (Own w' w.heap.size w'.heap.size 3 1 A n c (ints d) ∧ n ≤ 65) ∧ (Own w' w.heap.size w'.heap.size 55 4 A2 n2 c2 (cmdC l) ∧ n2 ≤ 13) ∧ Below w.heap.size w w'
set_option maxHeartbeats 2000000 in
theorem drawBatchValid_any (A : Option Addr) (n c B : Nat) (bs : List Int) (w : World) (h : Sees w B 1 A n c (byts bs)) (hB0 : B ≤ w.heap.size) (hb : ∀ v ∈ bs, 0 ≤ v ∧ v ≤ 255) :
    Calls Try.prog 40 #[.slice A n c] w (RetCmdsInt w) := by
  have hB : Below w.heap.size w w := Below.refl _ _
  have h0 := h
  clear h
  have hle : B ≤ w.heap.size := hB0
  go_enter Try.func40, Try.ntmps40
  go_wp2_with fail
  refine (open_any _ _ _ _ _ _ h0 (by omega) hb).mono ?_
  rintro e w1 ⟨rfl, hr, b1, s1⟩
  clear h0 hb
  have t1 : w.heap.size < w1.heap.size := by omega
  replace hB := below_later hB b1 (by omega)
  clear b1 s1
  go_wp2_with fail
  refine (pick_any (w.heap.size) (0) (20) _ hr (by omega)).mono ?_
  rintro e w2 ⟨size, rfl, h2, q2, f2, e2⟩
  have s2 := f2.size
  clear hr
  have hr := q2
  clear q2
  replace hB := f2.below hB (by omega) (by omega)
  clear f2
  obtain ⟨size0, size1⟩ : 0 ≤ size ∧ size < 20 := by omega
  clear h2 e2
  go_wp2_with fail
  refine (batch_any (w.heap.size) ((0 + 1)) (size) (2) _ hr (by omega) (by omega) (by omega) (by omega) (by omega)).mono ?_
  rintro e w3 ⟨Al, nl, cl, l, p3, rfl, ol, hnl, j3, q3, f3⟩
  have s3 := f3.size
  clear hr
  have hr := q3
  clear q3
  obtain ⟨j3a, j3b⟩ := j3
  replace hB := f3.below hB (by omega) (by omega)
  clear f3
  go_wp2_with fail
  refine bodyPost_ret (results_tmp2 rfl _ _ _) rfl ?_
  exact ⟨_, _, _, l, size, rfl, ol.wide (by omega) (by omega), hnl, ⟨size0, size1⟩, hB⟩
set_option maxHeartbeats 2000000 in
theorem drawReadyCommands_any (A : Option Addr) (n c B : Nat) (bs : List Int) (w : World) (h : Sees w B 1 A n c (byts bs)) (hB0 : B ≤ w.heap.size) (hb : ∀ v ∈ bs, 0 ≤ v ∧ v ≤ 255) :
    Calls Try.prog 45 #[.slice A n c] w (RetCmds w) := by
  have hB : Below w.heap.size w w := Below.refl _ _
  have h0 := h
  clear h
  have hle : B ≤ w.heap.size := hB0
  go_enter Try.func45, Try.ntmps45
  go_wp2_with fail
  refine (open_any _ _ _ _ _ _ h0 (by omega) hb).mono ?_
  rintro e w1 ⟨rfl, hr, b1, s1⟩
  clear h0 hb
  have t1 : w.heap.size < w1.heap.size := by omega
  replace hB := below_later hB b1 (by omega)
  clear b1 s1
  go_wp2_with fail
  refine (batch_any (w.heap.size) (0) (12) (9) _ hr (by omega) (by omega) (by omega) (by omega) (by omega)).mono ?_
  rintro e w2 ⟨Al, nl, cl, l, p2, rfl, ol, hnl, j2, q2, f2⟩
  have s2 := f2.size
  clear hr
  have hr := q2
  clear q2
  obtain ⟨j2a, j2b⟩ := j2
  replace hB := f2.below hB (by omega) (by omega)
  clear f2
  go_wp2_with fail
  go_ret
  exact ⟨_, _, _, l, rfl, ol.wide (by omega) (by omega), hnl, hB⟩
set_option maxHeartbeats 2000000 in
theorem drawExecuteBatch_any (A : Option Addr) (n c B : Nat) (bs : List Int) (w : World) (h : Sees w B 1 A n c (byts bs)) (hB0 : B ≤ w.heap.size) (hb : ∀ v ∈ bs, 0 ≤ v ∧ v ≤ 255) :
    Calls Try.prog 28 #[.slice A n c] w (RetDiskCmds w) := by
  have hB : Below w.heap.size w w := Below.refl _ _
  have h0 := h
  clear h
  have hle : B ≤ w.heap.size := hB0
  go_enter Try.func28, Try.ntmps28
  go_wp2_with fail
  refine (open_any _ _ _ _ _ _ h0 (by omega) hb).mono ?_
  rintro e w1 ⟨rfl, hr, b1, s1⟩
  clear h0 hb
  have t1 : w.heap.size < w1.heap.size := by omega
  replace hB := below_later hB b1 (by omega)
  clear b1 s1
  go_wp2_with fail
  refine (disk_any (w.heap.size) (0) 12 16 _ hr (by omega) (by omega) (by omega) (by omega)).mono ?_
  rintro e w2 ⟨Ad, nd, cd, d, p2, rfl, od, hnd, j2, q2, f2⟩
  have s2 := f2.size
  clear hr
  have hr := q2
  clear q2
  obtain ⟨j2a, j2b⟩ := j2
  replace hB := f2.below hB (by omega) (by omega)
  clear f2
  go_wp2_with fail
  refine (batch_any (w.heap.size) (p2) ((nd : Int)) (12) _ hr (by omega) (by omega) (by omega) (by omega) (by omega)).mono ?_
  rintro e w3 ⟨Al, nl, cl, l, p3, rfl, ol, hnl, j3, q3, f3⟩
  have s3 := f3.size
  clear hr
  have hr := q3
  clear q3
  obtain ⟨j3a, j3b⟩ := j3
  replace od := od.fr f3 (by omega)
  replace hB := f3.below hB (by omega) (by omega)
  clear f3
  go_wp2_with fail
  refine bodyPost_ret (results_tmp2 rfl _ _ _) rfl ?_
  exact ⟨_, _, _, d, _, _, _, l, rfl, ⟨od.wide (by omega) (by omega), hnd⟩, ⟨ol.wide (by omega) (by omega), hnl⟩, hB⟩
end Go.Proofs.Ythnebfcclkebeaa
