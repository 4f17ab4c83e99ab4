/-
  What a law's frame needs for a ring of answers, by value.
-/
import Derived.Test.YthkiollagnjfaaaFrameF
import Derived.Test.YthkiollagnjfaaaN1
namespace Go.Proofs.Ythkiollagnjfaaa
open Go.ChangeShapes Go.WideShapes Go.ChangeAt Go.RowKit Go.Deep Go.Joins
section
variable {H : Type} {enc : TypeId × Value → H} {P : Program} {W : World} {base b0 : Nat} {spare : Nat → Bool} {held : Bool} {r : Reach}
theorem cell_answers {t e : TypeId} {f0 f1 : Field} {n : Nat} {v : Value} {y : DataW H × List MemPlace} (ht : P.underlying t = some (.slice e)) (he : P.underlying e = some (.struct #[f0, f1])) (hone : oneCellFields P #[f0, f1] = true) (hC : P.cellsOf e = 2)
    (h0 : P.underlying f0.type = some (.int .i64)) (h1 : P.underlying f1.type = some .bool) (h : DataW.trod enc P W base spare held n t [v] = some y) : ∃ a len cap zs, v = .slice a len cap ∧ Sees W W.heap.size 2 a len cap (ansC zs) := by
  rcases open_slice ht h with ⟨hcs, _⟩ | ⟨a, len, cap, m, n', D, Pl, hcs, _, hl, hm, hmm, _, hi⟩
  · simp at hcs
    subst hcs
    exact ⟨none, 0, 0, [], rfl, Sees.none_ _ _ _ _ (by omega) _⟩
  · simp at hcs
    subst hcs
    have hlm : len ≤ m := by rw [hmm]; split <;> omega
    have hE : ∀ i, ∃ p : Int × Bool, i < len → W.cell? (a.add (i * 2)) = some (.int .i64 p.1) ∧ W.cell? (a.add (i * 2 + 1)) = some (.bool p.2) := fun i => by
      by_cases hil : i < len
      · obtain ⟨cs, hc, ht'⟩ := hi i (by omega)
        obtain ⟨v0, y0, m0, hv0, hy0⟩ := elem_fields he hone hc (by rw [hC]; rfl) ht' 0 f0 rfl
        obtain ⟨v1, y1, m1, hv1, hy1⟩ := elem_fields he hone hc (by rw [hC]; rfl) ht' 1 f1 rfl
        obtain ⟨n0, q0, _, _⟩ := DataW.trod_int h0 hy0
        obtain ⟨n1, q1, _⟩ := DataW.trod_bool h1 hy1
        simp at q0 q1
        subst q0 q1
        rw [hC] at hv0 hv1
        refine ⟨(n0, n1), fun _ => ⟨?_, ?_⟩⟩
        · rw [← hv0]; congr 1
        · rw [← hv1, Go.Deep.add_add]
      · exact ⟨(0, false), fun h => absurd h hil⟩
    obtain ⟨F, hF⟩ := Classical.axiomOfChoice hE
    refine ⟨some a, len, cap, (List.range len).map F, rfl, rows_sees acel2 (by omega) hl hm F fun i hil j u hu => ?_⟩
    have hj : j < 2 := by have := (List.getElem?_eq_some_iff.1 hu).1; exact this
    obtain rfl | rfl : j = 0 ∨ j = 1 := by omega
    · obtain rfl : u = .int .i64 (F i).1 := by simpa [acel] using hu.symm
      exact (hF i hil).1
    · obtain rfl : u = .bool (F i).2 := by simpa [acel] using hu.symm
      exact (hF i hil).2
theorem open_answers {t e ti tb : TypeId} {f0 f1 f2 f3 f4 f5 g0 g1 : Field} {v : Value} {d : DataW H} {p : List MemPlace} (hs : P.underlying t = some (.struct #[f0, f1, f2, f3, f4, f5])) (hone : oneCellFields P #[f0, f1, f2, f3, f4, f5] = true) (hC : P.cellsOf t = 6)
    (h0 : P.underlying f0.type = some (.slice e)) (he : P.underlying e = some (.struct #[g0, g1])) (hone2 : oneCellFields P #[g0, g1] = true) (hCe : P.cellsOf e = 2) (hg0 : P.underlying g0.type = some (.int .i64)) (hg1 : P.underlying g1.type = some .bool)
    (h1 : f1.type = ti) (h2 : f2.type = tb) (h3 : f3.type = ti) (h4 : f4.type = tb) (h5 : f5.type = ti) (hi : P.underlying ti = some (.int .i64)) (hb : P.underlying tb = some .bool)
    (hv : Value.okWide P W r b0 t v) (h : DataW.Trod enc P W base spare held t v d p) :
    ∃ a len cap zs ps pp tk tp pd, v = .agg #[.slice a len cap, .int .i64 ps, .bool pp, .int .i64 tk, .bool tp, .int .i64 pd] ∧ Sees W W.heap.size 2 a len cap (ansC zs) := by
  obtain ⟨cs, n, rfl, hsz, hf⟩ := open_fields hs hone hC hv h
  obtain ⟨l⟩ := cs
  match l, hsz with
  | [c0, c1, c2, c3, c4, c5], _ =>
    obtain ⟨y0, hy0⟩ := hf 0 f0 c0 rfl rfl
    obtain ⟨y1, hy1⟩ := hf 1 f1 c1 rfl rfl
    obtain ⟨y2, hy2⟩ := hf 2 f2 c2 rfl rfl
    obtain ⟨y3, hy3⟩ := hf 3 f3 c3 rfl rfl
    obtain ⟨y4, hy4⟩ := hf 4 f4 c4 rfl rfl
    obtain ⟨y5, hy5⟩ := hf 5 f5 c5 rfl rfl
    rw [h1] at hy1
    rw [h2] at hy2
    rw [h3] at hy3
    rw [h4] at hy4
    rw [h5] at hy5
    obtain ⟨a, len, cap, zs, rfl, hz⟩ := cell_answers h0 he hone2 hCe hg0 hg1 hy0
    obtain ⟨n1, q1, _, _⟩ := DataW.trod_int hi hy1
    obtain ⟨n2, q2, _⟩ := DataW.trod_bool hb hy2
    obtain ⟨n3, q3, _, _⟩ := DataW.trod_int hi hy3
    obtain ⟨n4, q4, _⟩ := DataW.trod_bool hb hy4
    obtain ⟨n5, q5, _, _⟩ := DataW.trod_int hi hy5
    simp at q1 q2 q3 q4 q5
    subst q1 q2 q3 q4 q5
    exact ⟨a, len, cap, zs, n1, n2, n3, n4, n5, rfl, hz⟩
end
end Go.Proofs.Ythkiollagnjfaaa
