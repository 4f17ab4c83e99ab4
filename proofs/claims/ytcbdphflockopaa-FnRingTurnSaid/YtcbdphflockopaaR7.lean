/-
  Plain bounds on the rings that RingPush and RingPop return.
-/
import Derived.Test.YtcbdphflockopaaR6
namespace Go.Proofs.Ytcbdphflockopaa
theorem rpush_16 (r : Rng) (v : Int) : (rpush r v).slots.length ≤ 16 := by
  unfold rpush
  split
  · next h =>
    rw [rval_iff] at h
    split
    · omega
    · simp only [rput, List.length_set]; omega
  · simp [rz]
theorem rpop_16 (r : Rng) : (rpop r).slots.length ≤ 16 := by
  unfold rpop
  split
  · next h =>
    rw [rval_iff] at h
    split
    · omega
    · simp only [rcut]; omega
  · simp [rz]
theorem rnew_val (q : Int) : rval ⟨rnew q, 0, 0⟩ = win q 2 16 := by
  cases h : win q 2 16 with
  | true =>
    have h' := (win_iff _ _ _).1 h
    rw [rval_iff]
    have : (rnew q).length = q.toNat := by unfold rnew; rw [if_pos h, List.length_replicate]
    simp only [this]
    omega
  | false =>
    rw [Bool.eq_false_iff]
    intro hv
    have := (rval_iff _).1 hv
    have hn : rnew q = [] := by unfold rnew; rw [if_neg (by simp [h])]
    simp only [hn, List.length_nil] at this
    omega
end Go.Proofs.Ytcbdphflockopaa
