/-
  Plain laws behind PostAnswer's law; two rings in the law's boxes.
-/
import Derived.Test.YthkiollagnjfaaaN15
namespace Go.Proofs.Ythkiollagnjfaaa
open Go.RowKit
/-- the two rings of PostAnswer's law: one answer is taken from both -/
theorem both_cut (d : List (Int × Bool)) (ps : Int) (pp : Bool) (tk : Int) (tp : Bool) (pd : Int) (d2 : List (Int × Bool)) (ps2 : Int) (pp2 : Bool) (tk2 : Int) (tp2 : Bool) (pd2 : Int) (v : Int)
    (h1 : aval ⟨d, ps, pp, tk, tp, pd⟩ = true) (h2 : aval ⟨d2, ps2, pp2, tk2, tp2, pd2⟩ = true) (hp : 0 < pd) (hp2 : pd2 = pd + 1) (hl : als ⟨d2, ps2, pp2, tk2, tp2, pd2⟩ = als ⟨d, ps, pp, tk, tp, pd⟩ ++ [v]) :
    ∃ ta tpa ta2 tpa2 top, (atake ⟨d, ps, pp, tk, tp, pd⟩ = ⟨d, ps, pp, ta, tpa, pd - 1⟩ ∧ atook ⟨d, ps, pp, tk, tp, pd⟩ = true ∧ atop ⟨d, ps, pp, tk, tp, pd⟩ = top) ∧
      (atake ⟨d2, ps2, pp2, tk2, tp2, pd2⟩ = ⟨d2, ps2, pp2, ta2, tpa2, pd2 - 1⟩ ∧ atook ⟨d2, ps2, pp2, tk2, tp2, pd2⟩ = true ∧ atop ⟨d2, ps2, pp2, tk2, tp2, pd2⟩ = top) ∧
      aval ⟨d, ps, pp, ta, tpa, pd - 1⟩ = true ∧ aval ⟨d2, ps2, pp2, ta2, tpa2, pd2 - 1⟩ = true ∧ als ⟨d2, ps2, pp2, ta2, tpa2, pd2 - 1⟩ = als ⟨d, ps, pp, ta, tpa, pd - 1⟩ ++ [v] := by
  have c1 := atake_cut _ h1 hp
  have c2 := atake_cut _ h2 (by show 0 < pd2; omega)
  have l1 := als_cut _ h1 hp
  have l2 := als_cut _ h2 (by show 0 < pd2; omega)
  have v1 := acut_val _ h1 hp
  have v2 := acut_val _ h2 (by show 0 < pd2; omega)
  rw [l1, l2, List.cons_append] at hl
  have hh := List.cons.inj hl
  exact ⟨_, _, _, _, _, ⟨c1.1, c1.2.1, rfl⟩, ⟨c2.1, c2.2.1, by rw [c1.2.2, c2.2.2]; exact hh.1⟩, v1, v2, hh.2⟩
theorem last_cut (d : List (Int × Bool)) (ps : Int) (pp : Bool) (tk : Int) (tp : Bool) (pd : Int) (d2 : List (Int × Bool)) (ps2 : Int) (pp2 : Bool) (tk2 : Int) (tp2 : Bool) (pd2 : Int) (v : Int)
    (h2 : aval ⟨d2, ps2, pp2, tk2, tp2, pd2⟩ = true) (hp : pd = 0) (hp2 : pd2 = pd + 1) (hl : als ⟨d2, ps2, pp2, tk2, tp2, pd2⟩ = als ⟨d, ps, pp, tk, tp, pd⟩ ++ [v]) :
    atook ⟨d2, ps2, pp2, tk2, tp2, pd2⟩ = true ∧ atop ⟨d2, ps2, pp2, tk2, tp2, pd2⟩ = v ∧ ∃ e es ep et eu eq, atake ⟨d2, ps2, pp2, tk2, tp2, pd2⟩ = ⟨e, es, ep, et, eu, eq⟩ ∧ e.length ≤ 16 := by
  have c2 := atake_cut _ h2 (by show 0 < pd2; omega)
  have l2 := als_cut _ h2 (by show 0 < pd2; omega)
  have h0 : als ⟨d, ps, pp, tk, tp, pd⟩ = [] := by subst hp; rfl
  rw [l2, h0] at hl
  exact ⟨c2.2.1, c2.2.2.trans (List.cons.inj hl).1, _, _, _, _, _, _, rfl, atake_16 _⟩
/-- what PostAnswer leaves of a valid ring with room -/
theorem post_room (d : List (Int × Bool)) (ps : Int) (pp : Bool) (tk : Int) (tp : Bool) (pd : Int) (v : Int) (h : aval ⟨d, ps, pp, tk, tp, pd⟩ = true) (hp : ¬ pd = (d.length : Int)) :
    ∃ d2 ps2 pp2, (apost ⟨d, ps, pp, tk, tp, pd⟩ v = ⟨d2, ps2, pp2, tk, tp, pd + 1⟩ ∧ aposted ⟨d, ps, pp, tk, tp, pd⟩ = true) ∧ aval ⟨d2, ps2, pp2, tk, tp, pd + 1⟩ = true ∧
      als ⟨d2, ps2, pp2, tk, tp, pd + 1⟩ = als ⟨d, ps, pp, tk, tp, pd⟩ ++ [v] := by
  have h1 := ((aval_iff _).1 h).1.e1
  have hlt : (⟨d, ps, pp, tk, tp, pd⟩ : Ans).pend < ((⟨d, ps, pp, tk, tp, pd⟩ : Ans).n : Int) := by
    change pd ≤ (d.length : Int) at h1
    show pd < (d.length : Int)
    omega
  exact ⟨_, _, _, apost_put _ v h hp, aput_val _ v h hlt, als_put _ v h hlt⟩
/-- a ring in a box stands the same while another box is written -/
theorem AtBoxA.other {w wr : World} {g g2 : Nat} {A : Option Addr} {c : Nat} {d : List (Int × Bool)} {ps : Int} {pp : Bool} {tk : Int} {tp : Bool} {pd : Int} {lo hi : Nat} (s : AtBoxA w wr g A c d ps pp tk tp pd lo hi) (h : g ≠ g2) (h1 : g2 < lo ∨ hi ≤ g2) (h2 : w.heap.size ≤ g2) (x0 x1 x2 x3 x4 x5 : Value) :
    AtBoxA w (st6 wr g2 x0 x1 x2 x3 x4 x5) g A c d ps pp tk tp pd lo hi :=
  ⟨rowSet6 s.row h _ _ _ _ _ _, own6 s.own h1 _ _ _ _ _ _, s.off, by rw [size6]; exact s.hi_, below6 s.bel h2 _ _ _ _ _ _, by rw [size6]; exact s.in_⟩
end Go.Proofs.Ythkiollagnjfaaa
