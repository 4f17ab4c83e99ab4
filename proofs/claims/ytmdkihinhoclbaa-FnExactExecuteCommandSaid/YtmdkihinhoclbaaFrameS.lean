/-
  What a law's frame needs for a struct of numbers, by value.
-/
import Derived.Test.YtmdkihinhoclbaaFrame
import Derived.Lib.SmallJoins
namespace Go.Proofs.Ytmdkihinhoclbaa
open Go.ChangeShapes Go.WideShapes Go.ChangeAt Go.RowKit Go.Deep

theorem open_ints4 {H : Type} {enc : TypeId × Value → H} {P : Program} {W : World} {base b0 : Nat} {spare : Nat → Bool} {held : Bool} {r : Reach} {t ti : TypeId} {f0 f1 f2 f3 : Field} {v : Value} {d : DataW H} {p : List MemPlace}
    (hs : P.underlying t = some (.struct #[f0, f1, f2, f3])) (hone : (oneCellFields P #[f0, f1, f2, f3] && #[f0, f1, f2, f3].all (fun f => f.type == ti)) = true) (hC : P.cellsOf t = 4) (ht : P.underlying ti = some (.int .i64))
    (hv : Value.okWide P W r b0 t v) (h : DataW.Trod enc P W base spare held t v d p) :
    ∃ a b c e, v = .agg #[.int .i64 a, .int .i64 b, .int .i64 c, .int .i64 e] ∧ (Lit.int .i64 a).wf = true ∧ (Lit.int .i64 b).wf = true ∧ (Lit.int .i64 c).wf = true ∧ (Lit.int .i64 e).wf = true := by
  rw [Bool.and_eq_true] at hone
  obtain ⟨hone, hty⟩ := hone
  simp at hty
  obtain ⟨e0, e1, e2, e3⟩ := hty
  obtain ⟨c0, c1, c2, c3, y0, y1, y2, y3, m, rfl, rfl, rfl, hy0, hy1, hy2, hy3⟩ := Joins.open_agg4 hs hone hC hv h
  rw [e0] at hy0
  rw [e1] at hy1
  rw [e2] at hy2
  rw [e3] at hy3
  obtain ⟨n0, q0, rfl, w0⟩ := DataW.trod_int ht hy0
  obtain ⟨n1, q1, rfl, w1⟩ := DataW.trod_int ht hy1
  obtain ⟨n2, q2, rfl, w2⟩ := DataW.trod_int ht hy2
  obtain ⟨n3, q3, rfl, w3⟩ := DataW.trod_int ht hy3
  simp at q0 q1 q2 q3
  subst q0 q1 q2 q3
  exact ⟨n0, n1, n2, n3, rfl, w0, w1, w2, w3⟩
end Go.Proofs.Ytmdkihinhoclbaa
