/-
  What a law's frame needs for a slice of commands, by value.
-/
import Derived.Test.YthnebfcclkebeaaFrameF
import Derived.Test.YthnebfcclkebeaaM1
namespace Go.Proofs.Ythnebfcclkebeaa
open Go.ChangeShapes Go.WideShapes Go.ChangeAt Go.RowKit Go.Deep Go.Joins
section
variable {H : Type} {enc : TypeId × Value → H} {P : Program} {W : World} {base b0 : Nat} {spare : Nat → Bool} {held : Bool} {r : Reach}
theorem cell_cmds {t e : TypeId} {f0 f1 f2 f3 : Field} {n : Nat} {v : Value} {y : DataW H × List MemPlace} (ht : P.underlying t = some (.slice e)) (he : P.underlying e = some (.struct #[f0, f1, f2, f3])) (hone : oneCellFields P #[f0, f1, f2, f3] = true) (hC : P.cellsOf e = 4)
    (h0 : P.underlying f0.type = some (.int .i64)) (h1 : P.underlying f1.type = some (.int .i64)) (h2 : P.underlying f2.type = some (.int .i64)) (h3 : P.underlying f3.type = some (.int .i64))
    (h : DataW.trod enc P W base spare held n t [v] = some y) : ∃ a len cap zs, v = .slice a len cap ∧ Sees W W.heap.size 4 a len cap (cmdC zs) := by
  rcases open_slice ht h with ⟨hcs, _⟩ | ⟨a, len, cap, m, n', D, Pl, hcs, _, hl, hm, hmm, _, hi⟩
  · simp at hcs
    subst hcs
    exact ⟨none, 0, 0, [], rfl, Sees.none_ _ _ _ _ (by omega) _⟩
  · simp at hcs
    subst hcs
    have hlm : len ≤ m := by rw [hmm]; split <;> omega
    have hE : ∀ i, ∃ p : Cmd, i < len → W.cell? (a.add (i * 4)) = some (.int .i64 p.kind) ∧ W.cell? (a.add (i * 4 + 1)) = some (.int .i64 p.pos) ∧ W.cell? (a.add (i * 4 + 2)) = some (.int .i64 p.cnt) ∧ W.cell? (a.add (i * 4 + 3)) = some (.int .i64 p.val) := fun i => by
      by_cases hil : i < len
      · obtain ⟨cs, hc, ht'⟩ := hi i (by omega)
        obtain ⟨v0, y0, m0, hv0, hy0⟩ := elem_fields he hone hc (by rw [hC]; rfl) ht' 0 f0 rfl
        obtain ⟨v1, y1, m1, hv1, hy1⟩ := elem_fields he hone hc (by rw [hC]; rfl) ht' 1 f1 rfl
        obtain ⟨v2, y2, m2, hv2, hy2⟩ := elem_fields he hone hc (by rw [hC]; rfl) ht' 2 f2 rfl
        obtain ⟨v3, y3, m3, hv3, hy3⟩ := elem_fields he hone hc (by rw [hC]; rfl) ht' 3 f3 rfl
        obtain ⟨n0, q0, _, _⟩ := DataW.trod_int h0 hy0
        obtain ⟨n1, q1, _, _⟩ := DataW.trod_int h1 hy1
        obtain ⟨n2, q2, _, _⟩ := DataW.trod_int h2 hy2
        obtain ⟨n3, q3, _, _⟩ := DataW.trod_int h3 hy3
        simp at q0 q1 q2 q3
        subst q0 q1 q2 q3
        rw [hC] at hv0 hv1 hv2 hv3
        refine ⟨⟨n0, n1, n2, n3⟩, fun _ => ⟨?_, ?_, ?_, ?_⟩⟩
        · rw [← hv0]; congr 1
        · rw [← hv1, Go.Deep.add_add]
        · rw [← hv2, Go.Deep.add_add]
        · rw [← hv3, Go.Deep.add_add]
      · exact ⟨cmd0, fun h => absurd h hil⟩
    obtain ⟨F, hF⟩ := Classical.axiomOfChoice hE
    refine ⟨some a, len, cap, (List.range len).map F, rfl, rows_sees ccel4 (by omega) hl hm F fun i hil j u hu => ?_⟩
    have hj : j < 4 := by have := (List.getElem?_eq_some_iff.1 hu).1; exact this
    obtain rfl | rfl | rfl | rfl : j = 0 ∨ j = 1 ∨ j = 2 ∨ j = 3 := by omega
    · obtain rfl : u = .int .i64 (F i).kind := by simpa [ccel] using hu.symm
      exact (hF i hil).1
    · obtain rfl : u = .int .i64 (F i).pos := by simpa [ccel] using hu.symm
      exact (hF i hil).2.1
    · obtain rfl : u = .int .i64 (F i).cnt := by simpa [ccel] using hu.symm
      exact (hF i hil).2.2.1
    · obtain rfl : u = .int .i64 (F i).val := by simpa [ccel] using hu.symm
      exact (hF i hil).2.2.2
theorem open_cmds {t e : TypeId} {f0 f1 f2 f3 : Field} {v : Value} {d : DataW H} {p : List MemPlace} (ht : P.underlying t = some (.slice e)) (he : P.underlying e = some (.struct #[f0, f1, f2, f3])) (hone : oneCellFields P #[f0, f1, f2, f3] = true) (hC : P.cellsOf e = 4)
    {ti : TypeId} (hi : P.underlying ti = some (.int .i64)) (h0 : f0.type = ti) (h1 : f1.type = ti) (h2 : f2.type = ti) (h3 : f3.type = ti)
    (hv : Value.okWide P W r b0 t v) (h : DataW.Trod enc P W base spare held t v d p) : ∃ a len cap zs, v = .slice a len cap ∧ Sees W W.heap.size 4 a len cap (cmdC zs) := by
  obtain ⟨a0, len0, cap0, rfl⟩ := okWide_slice ht hv
  obtain ⟨fuel, hf⟩ := h
  obtain ⟨a, len, cap, zs, e1, hs⟩ := cell_cmds ht he hone hC (by rw [h0]; exact hi) (by rw [h1]; exact hi) (by rw [h2]; exact hi) (by rw [h3]; exact hi) hf
  exact ⟨a, len, cap, zs, e1, hs⟩
end
end Go.Proofs.Ythnebfcclkebeaa
