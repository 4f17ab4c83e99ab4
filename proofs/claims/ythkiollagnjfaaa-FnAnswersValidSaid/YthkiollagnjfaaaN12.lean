/-
  Plain bounds on rings of answers.
-/
import Derived.Test.YthkiollagnjfaaaPlainA
namespace Go.Proofs.Ythkiollagnjfaaa
theorem aval_16 (a : Ans) (h : aval a = true) : a.ents.length ≤ 16 := ((aval_iff a).1 h).1.n16
theorem apost_16 (a : Ans) (v : Int) : (apost a v).ents.length ≤ 16 := by
  unfold apost
  split
  · next h =>
    have := aval_16 a h
    split
    · exact this
    · simpa [aput] using this
  · simp [az]
theorem atake_16 (a : Ans) : (atake a).ents.length ≤ 16 := by
  unfold atake
  split
  · next h =>
    have := aval_16 a h
    split
    · simpa [acut] using this
    · exact this
  · simp [az]
theorem anew_16 (q : Int) : (anew q).ents.length ≤ 16 := by
  unfold anew
  split
  · next h => have := (win_iff _ _ _).1 h; simp; omega
  · simp [az]
theorem anew_eq (q : Int) (h : win q 1 16 = true) : anew q = ⟨(anew q).ents, 0, true, 0, true, 0⟩ := by unfold anew; rw [if_pos h]
theorem anew_no (q : Int) (h : win q 1 16 = false) : (anew q).ents = [] := by unfold anew; rw [if_neg (by simp [h])]; rfl
/-- a new ring: nothing is taken; what is posted is taken -/
theorem new_post (q : Int) (h : win q 1 16 = true) (d : List (Int × Bool)) (hd : (anew q).ents = d) :
    (atake ⟨d, 0, true, 0, true, 0⟩ = ⟨d, 0, true, 0, true, 0⟩ ∧ atook ⟨d, 0, true, 0, true, 0⟩ = false ∧ atop ⟨d, 0, true, 0, true, 0⟩ = 0) ∧ aval ⟨d, 0, true, 0, true, 0⟩ = true ∧
    ∃ d2 ps pp tk tp pd, (apost ⟨d, 0, true, 0, true, 0⟩ 9 = ⟨d2, ps, pp, tk, tp, pd⟩ ∧ aposted ⟨d, 0, true, 0, true, 0⟩ = true) ∧ d2.length ≤ 16 ∧ atook ⟨d2, ps, pp, tk, tp, pd⟩ = true ∧ atop ⟨d2, ps, pp, tk, tp, pd⟩ = 9 := by
  have he := anew_eq q h
  rw [hd] at he
  have hv := (anew_val q).trans h
  rw [he] at hv
  have hn := ((aval_iff _).1 hv).1.n1
  have hp := apost_put _ 9 hv (by show ¬ ((0 : Int) = ((⟨d, 0, true, 0, true, 0⟩ : Ans).n : Int)); omega)
  have hv2 := aput_val _ 9 hv (by show (0 : Int) < ((⟨d, 0, true, 0, true, 0⟩ : Ans).n : Int); omega)
  have hq := als_put _ 9 hv (by show (0 : Int) < ((⟨d, 0, true, 0, true, 0⟩ : Ans).n : Int); omega)
  have hc := atake_cut _ hv2 (by show (0 : Int) < 0 + 1; omega)
  have hl := als_cut _ hv2 (by show (0 : Int) < 0 + 1; omega)
  rw [hq] at hl
  have h0 : als ⟨d, 0, true, 0, true, 0⟩ = [] := rfl
  rw [h0] at hl
  have h9 := (List.cons.inj hl).1
  have h16 := aval_16 _ hv2
  refine ⟨atake_none _ hv (Int.le_refl _), hv, _, _, _, _, _, _, ⟨hp.1, hp.2⟩, h16, hc.2.1, hc.2.2.trans h9.symm⟩
theorem take_step (d : List (Int × Bool)) (ps : Int) (pp : Bool) (tk : Int) (tp : Bool) (pd : Int) (hv : aval ⟨d, ps, pp, tk, tp, pd⟩ = true) :
    ∃ xtk xtp xpd top, atake ⟨d, ps, pp, tk, tp, pd⟩ = ⟨d, ps, pp, xtk, xtp, xpd⟩ ∧ atook ⟨d, ps, pp, tk, tp, pd⟩ = decide (0 < pd) ∧ atop ⟨d, ps, pp, tk, tp, pd⟩ = top ∧ aval ⟨d, ps, pp, xtk, xtp, xpd⟩ = true := by
  by_cases hp : 0 < pd
  · have h := atake_cut _ hv hp
    exact ⟨_, _, _, _, h.1, by rw [h.2.1, decide_eq_true hp], rfl, acut_val _ hv hp⟩
  · have h := atake_none _ hv (by show pd ≤ 0; omega)
    exact ⟨_, _, _, _, h.1, by rw [h.2.1, decide_eq_false hp], rfl, hv⟩
theorem az_val : aval ⟨[], 0, false, 0, false, 0⟩ = false := by decide
end Go.Proofs.Ythkiollagnjfaaa
