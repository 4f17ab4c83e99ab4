/-
  Plain bounds on rings of answers.
-/
import Derived.Test.YthkiollagnjfaaaPlainA
namespace Go.Proofs.Ythkiollagnjfaaa
theorem aval_16 (a : Ans) (h : aval a = true) : a.ents.length ≤ 16 := ((aval_iff a).1 h).1.n16
theorem apost_16 (a : Ans) (v : Int) : (apost a v).ents.length ≤ 16 := by
  unfold apost
  split
  · next h =>
    have := aval_16 a h
    split
    · exact this
    · simpa [aput] using this
  · simp [az]
theorem atake_16 (a : Ans) : (atake a).ents.length ≤ 16 := by
  unfold atake
  split
  · next h =>
    have := aval_16 a h
    split
    · simpa [acut] using this
    · exact this
  · simp [az]
theorem anew_16 (q : Int) : (anew q).ents.length ≤ 16 := by
  unfold anew
  split
  · next h => have := (win_iff _ _ _).1 h; simp; omega
  · simp [az]
end Go.Proofs.Ythkiollagnjfaaa
