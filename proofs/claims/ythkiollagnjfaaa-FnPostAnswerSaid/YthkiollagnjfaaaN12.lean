/-
  Plain bounds on rings of answers.
-/
import Derived.Test.YthkiollagnjfaaaPlainA
namespace Go.Proofs.Ythkiollagnjfaaa
theorem aval_16 (a : Ans) (h : aval a = true) : a.ents.length ≤ 16 := ((aval_iff a).1 h).1.n16
theorem apost_16 (a : Ans) (v : Int) : (apost a v).ents.length ≤ 16 := by
  unfold apost
  split
  · next h =>
    have := aval_16 a h
    split
    · exact this
    · simpa [aput] using this
  · simp [az]
theorem atake_16 (a : Ans) : (atake a).ents.length ≤ 16 := by
  unfold atake
  split
  · next h =>
    have := aval_16 a h
    split
    · simpa [acut] using this
    · exact this
  · simp [az]
theorem anew_16 (q : Int) : (anew q).ents.length ≤ 16 := by
  unfold anew
  split
  · next h => have := (win_iff _ _ _).1 h; simp; omega
  · simp [az]
theorem anew_eq (q : Int) (h : win q 1 16 = true) : anew q = ⟨(anew q).ents, 0, true, 0, true, 0⟩ := by unfold anew; rw [if_pos h]
theorem anew_no (q : Int) (h : win q 1 16 = false) : (anew q).ents = [] := by unfold anew; rw [if_neg (by simp [h])]; rfl
/-- a new ring: nothing is taken; what is posted is taken -/
theorem new_post (q : Int) (h : win q 1 16 = true) (d : List (Int × Bool)) (hd : (anew q).ents = d) :
    (atake ⟨d, 0, true, 0, true, 0⟩ = ⟨d, 0, true, 0, true, 0⟩ ∧ atook ⟨d, 0, true, 0, true, 0⟩ = false ∧ atop ⟨d, 0, true, 0, true, 0⟩ = 0) ∧ aval ⟨d, 0, true, 0, true, 0⟩ = true ∧
    ∃ d2 ps pp tk tp pd, (apost ⟨d, 0, true, 0, true, 0⟩ 9 = ⟨d2, ps, pp, tk, tp, pd⟩ ∧ aposted ⟨d, 0, true, 0, true, 0⟩ = true) ∧ d2.length ≤ 16 ∧ atook ⟨d2, ps, pp, tk, tp, pd⟩ = true ∧ atop ⟨d2, ps, pp, tk, tp, pd⟩ = 9 := by
  have he := anew_eq q h
  rw [hd] at he
  have hv := (anew_val q).trans h
  rw [he] at hv
  have hn := ((aval_iff _).1 hv).1.n1
  have hp := apost_put _ 9 hv (by show ¬ ((0 : Int) = ((⟨d, 0, true, 0, true, 0⟩ : Ans).n : Int)); omega)
  have hv2 := aput_val _ 9 hv (by show (0 : Int) < ((⟨d, 0, true, 0, true, 0⟩ : Ans).n : Int); omega)
  have hq := als_put _ 9 hv (by show (0 : Int) < ((⟨d, 0, true, 0, true, 0⟩ : Ans).n : Int); omega)
  have hc := atake_cut _ hv2 (by show (0 : Int) < 0 + 1; omega)
  have hl := als_cut _ hv2 (by show (0 : Int) < 0 + 1; omega)
  rw [hq] at hl
  have h0 : als ⟨d, 0, true, 0, true, 0⟩ = [] := rfl
  rw [h0] at hl
  have h9 := (List.cons.inj hl).1
  have h16 := aval_16 _ hv2
  refine ⟨atake_none _ hv (Int.le_refl _), hv, _, _, _, _, _, _, ⟨hp.1, hp.2⟩, h16, hc.2.1, hc.2.2.trans h9.symm⟩
theorem take_step (d : List (Int × Bool)) (ps : Int) (pp : Bool) (tk : Int) (tp : Bool) (pd : Int) (hv : aval ⟨d, ps, pp, tk, tp, pd⟩ = true) :
    ∃ xtk xtp xpd top, atake ⟨d, ps, pp, tk, tp, pd⟩ = ⟨d, ps, pp, xtk, xtp, xpd⟩ ∧ atook ⟨d, ps, pp, tk, tp, pd⟩ = decide (0 < pd) ∧ atop ⟨d, ps, pp, tk, tp, pd⟩ = top ∧ aval ⟨d, ps, pp, xtk, xtp, xpd⟩ = true := by
  by_cases hp : 0 < pd
  · have h := atake_cut _ hv hp
    exact ⟨_, _, _, _, h.1, by rw [h.2.1, decide_eq_true hp], rfl, acut_val _ hv hp⟩
  · have h := atake_none _ hv (by show pd ≤ 0; omega)
    exact ⟨_, _, _, _, h.1, by rw [h.2.1, decide_eq_false hp], rfl, hv⟩
theorem lap_next (N : Nat) (d : List (Int × Bool)) (ps : Int) (pp : Bool) (tk : Int) (tp : Bool) (pd : Int) (j : Nat) (v : Int) (ps1 : Int) (pp1 : Bool) (tk1 : Int) (tp1 : Bool)
    (hv : aval ⟨d, ps1, pp1, tk1, tp1, pd⟩ = true) (hd : d.length = N) (hp : pd < (N : Int)) (hj : j < N) (h0 : 0 ≤ ps) (h1 : ps < (N : Int)) (h2 : 0 ≤ tk) (h3 : tk < (N : Int))
    (e1 : ps1 = stepP N ps j) (e2 : pp1 = stepF N ps pp j) (e3 : tk1 = stepP N tk j) (e4 : tp1 = stepF N tk tp j) :
    ∃ d2 ps2 pp2 tk2 tp2, d2.length = N ∧ (apost ⟨d, ps1, pp1, tk1, tp1, pd⟩ v = ⟨d2, ps2, pp2, tk1, tp1, pd + 1⟩ ∧ aposted ⟨d, ps1, pp1, tk1, tp1, pd⟩ = true) ∧
      (atake ⟨d2, ps2, pp2, tk1, tp1, pd + 1⟩ = ⟨d2, ps2, pp2, tk2, tp2, pd⟩ ∧ atook ⟨d2, ps2, pp2, tk1, tp1, pd + 1⟩ = true) ∧ aval ⟨d2, ps2, pp2, tk2, tp2, pd⟩ = true ∧
      (ps2 = stepP N ps (j + 1) ∧ pp2 = stepF N ps pp (j + 1) ∧ tk2 = stepP N tk (j + 1) ∧ tp2 = stepF N tk tp (j + 1)) := by
  have hn : ((⟨d, ps1, pp1, tk1, tp1, pd⟩ : Ans).n : Int) = (N : Int) := by show ((d.length : Nat) : Int) = _; rw [hd]
  have hpd : (0 : Int) ≤ pd := ((aval_iff _).1 hv).1.e0
  have hput := apost_put _ v hv (by rw [hn]; show ¬ (pd = (N : Int)); omega)
  have hv2 := aput_val _ v hv (by rw [hn]; exact hp)
  have hcut := atake_cut _ hv2 (by show (0 : Int) < pd + 1; omega)
  have hv3 := acut_val _ hv2 (by show (0 : Int) < pd + 1; omega)
  have hn2 : ((aput ⟨d, ps1, pp1, tk1, tp1, pd⟩ v).n : Int) = (N : Int) := by rw [aput_n]; exact hn
  obtain ⟨s1, s2⟩ := step_next (N : Int) ps pp j h0 h1 (by omega)
  obtain ⟨s3, s4⟩ := step_next (N : Int) tk tp j h2 h3 (by omega)
  have ep : aput ⟨d, ps1, pp1, tk1, tp1, pd⟩ v = ⟨d.set ps1.toNat (v, pp1), stepP N ps (j + 1), stepF N ps pp (j + 1), tk1, tp1, pd + 1⟩ := by
    unfold aput; rw [hn]; subst e1 e2; simp only [s1]; rw [← s2, s1]
  have ec : acut (aput ⟨d, ps1, pp1, tk1, tp1, pd⟩ v) = ⟨d.set ps1.toNat (v, pp1), stepP N ps (j + 1), stepF N ps pp (j + 1), stepP N tk (j + 1), stepF N tk tp (j + 1), pd⟩ := by
    unfold acut; rw [hn2, ep]; subst e3 e4; simp only [s3]; rw [← s4, s3]; simp
  rw [ec] at hcut hv3
  rw [ep] at hput hcut
  exact ⟨_, _, _, _, _, by rw [List.length_set]; exact hd, hput, ⟨hcut.1, hcut.2.1⟩, hv3, rfl, rfl, rfl, rfl⟩
theorem az_val : aval ⟨[], 0, false, 0, false, 0⟩ = false := by decide
end Go.Proofs.Ythkiollagnjfaaa
