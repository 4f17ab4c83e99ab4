/-
  Plain bounds on the rings that RingPush and RingPop return.
-/
import Derived.Test.YtmbfdjompgndiaaR6
namespace Go.Proofs.Ytmbfdjompgndiaa
theorem rpush_16 (r : Rng) (v : Int) : (rpush r v).slots.length ≤ 16 := by
  unfold rpush
  split
  · next h =>
    rw [rval_iff] at h
    split
    · omega
    · simp only [rput, List.length_set]; omega
  · simp [rz]
theorem rpop_16 (r : Rng) : (rpop r).slots.length ≤ 16 := by
  unfold rpop
  split
  · next h =>
    rw [rval_iff] at h
    split
    · omega
    · simp only [rcut]; omega
  · simp [rz]
end Go.Proofs.Ytmbfdjompgndiaa
