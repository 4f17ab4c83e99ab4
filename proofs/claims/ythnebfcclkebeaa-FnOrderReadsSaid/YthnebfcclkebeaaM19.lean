/-
  Walks: draws of batches with orders.
-/
import Derived.Test.YthnebfcclkebeaaM16
import Derived.Test.YthnebfcclkebeaaM18
namespace Go.Proofs.Ythnebfcclkebeaa
open Go.RowKit
set_option linter.unusedSimpArgs false
set_option linter.unusedVariables false
/-- A call's end: some commands and as many numbers; nothing that was there has changed. -/
def RetCmdsInts (w : World) (en : Ending) (w' : World) : Prop :=
  ∃ A n c l A2 c2 o, en = .returned (.tuple #[.slice A n c, .slice A2 n c2]) ∧ (Own w' w.heap.size w'.heap.size 55 4 A n c (cmdC l) ∧ n ≤ 13) ∧ Own w' w.heap.size w'.heap.size 3 1 A2 n c2 (ints o) ∧ Below w.heap.size w w'
set_option maxHeartbeats 2000000 in
theorem drawOrderSafe_any (A : Option Addr) (n c B : Nat) (bs : List Int) (w : World) (h : Sees w B 1 A n c (byts bs)) (hB0 : B ≤ w.heap.size) (hb : ∀ v ∈ bs, 0 ≤ v ∧ v ≤ 255) :
    Calls Try.prog 35 #[.slice A n c] w (RetCmdsInts w) := by
  have hB : Below w.heap.size w w := Below.refl _ _
  have h0 := h
  clear h
  have hle : B ≤ w.heap.size := hB0
  go_enter Try.func35, Try.ntmps35
  go_wp2_with fail
  refine (open_any _ _ _ _ _ _ h0 (by omega) hb).mono ?_
  rintro e w1 ⟨rfl, hr, b1, s1⟩
  clear h0 hb
  have t1 : w.heap.size < w1.heap.size := by omega
  replace hB := below_later hB b1 (by omega)
  clear b1 s1
  go_wp2_with fail
  refine (batch_any (w.heap.size) (0) (12) (14) _ hr (by omega) (by omega) (by omega) (by omega) (by omega)).mono ?_
  rintro e w2 ⟨Al, nl, cl, l, p2, rfl, ol, hnl, j2, q2, f2⟩
  have s2 := f2.size
  clear hr
  have hr := q2
  clear q2
  obtain ⟨j2a, j2b⟩ := j2
  replace hB := f2.below hB (by omega) (by omega)
  clear f2
  go_wp2_with fail
  refine (order_any (w.heap.size) (p2) nl (9) _ hr (by omega) (by omega) (by omega) (by omega)).mono ?_
  rintro e w3 ⟨Ao, co, o, p3, rfl, oo, j3, q3, f3⟩
  have s3 := f3.size
  clear hr
  have hr := q3
  clear q3
  obtain ⟨j3a, j3b⟩ := j3
  replace ol := ol.fr f3 (by omega)
  replace hB := f3.below hB (by omega) (by omega)
  clear f3
  go_wp2_with fail
  refine bodyPost_ret (results_tmp2 rfl _ _ _) rfl ?_
  exact ⟨_, _, _, l, _, _, o, rfl, ⟨ol.wide (by omega) (by omega), hnl⟩, oo.wide (by omega) (by omega), hB⟩
theorem drawApplyOrder_any (A : Option Addr) (n c B : Nat) (bs : List Int) (w : World) (h : Sees w B 1 A n c (byts bs)) (hB0 : B ≤ w.heap.size) (hb : ∀ v ∈ bs, 0 ≤ v ∧ v ≤ 255) :
    Calls Try.prog 41 #[.slice A n c] w (RetCmdsInts w) := by
  have q := drawOrderSafe_any A n c B bs w h hB0 hb
  go_enter Try.func41, Try.ntmps41
  go_wp2_with fail
  refine q.mono ?_
  clear q
  rintro e w1 ⟨Al, nl, cl, l, Ao, co, o, rfl, h1, h2, h3⟩
  go_wp2_with fail
  refine bodyPost_ret (results_tmp2 rfl _ _ _) rfl ?_
  exact ⟨_, _, _, l, _, _, o, rfl, h1, h2, h3⟩

end Go.Proofs.Ythnebfcclkebeaa
