/-
  What a law's frame needs for a struct, by value, that holds a slice of bools or of numbers.
-/
import Derived.Test.YthnebfcclkebeaaFrame
import Derived.Lib.SmallJoins
import Derived.Deep.Slices
import Derived.Deep.Fields
import Derived.ChangeSame
namespace Go.Proofs.Ythnebfcclkebeaa
open Go.ChangeShapes Go.WideShapes Go.ChangeAt Go.RowKit Go.Deep Go.Joins

theorem arr1 {α : Type} {cs : Array α} (h : cs.size = 1) : ∃ c0, cs = #[c0] := by
  obtain ⟨l⟩ := cs
  match l, h with
  | [c0], _ => exact ⟨c0, rfl⟩
section
variable {H : Type} {enc : TypeId × Value → H} {P : Program} {W : World} {base b0 : Nat} {spare : Nat → Bool} {held : Bool} {r : Reach}
def isT : Value → Bool
  | .bool b => b
  | _ => false
/-- a struct of one-cell fields, by value: the cells, each with its reading -/
theorem open_fields {t : TypeId} {fs : Array Field} {v : Value} {d : DataW H} {p : List MemPlace} (hs : P.underlying t = some (.struct fs)) (hone : oneCellFields P fs = true) (hC : P.cellsOf t = fs.size)
    (hv : Value.okWide P W r b0 t v) (h : DataW.Trod enc P W base spare held t v d p) :
    ∃ (cs : Array Value) (n : Nat), v = .agg cs ∧ cs.size = fs.size ∧ ∀ (i : Nat) (f : Field) (c : Value), fs[i]? = some f → cs[i]? = some c → ∃ y, DataW.trod enc P W base spare held n f.type [c] = some y := by
  obtain ⟨cs, rfl, hsz⟩ := okWide_struct hs hv
  obtain ⟨fuel, hf⟩ := h
  obtain ⟨xs, n, _, hx, _, hlen, hg⟩ := DataW.trod_struct hs hf
  refine ⟨cs, n, rfl, hsz.trans hC, fun i f c hi hc => ?_⟩
  obtain ⟨ho, hk⟩ := hone_of hone i f hi
  have h1 := hg i f hi
  have hil : i < xs.length := by rw [hlen]; exact (Array.getElem?_eq_some_iff.1 hi).1
  have hcl : i < cs.toList.length := by rw [Array.length_toList]; exact (Array.getElem?_eq_some_iff.1 hc).1
  have hcv : cs.toList[i] = c := by have := (Array.getElem?_eq_some_iff.1 hc).2; simpa using this
  rw [ho, hk] at h1
  have hone' : (cs.toList.drop i).take 1 = [c] := by rw [List.drop_eq_getElem_cons hcl, hcv]; rfl
  rw [show (Value.agg cs).cells = cs from rfl, hone', List.getElem?_eq_getElem hil] at h1
  exact ⟨_, h1⟩
/-- one cell that is a slice of bools -/
theorem cell_bools {t e : TypeId} {n : Nat} {v : Value} {y : DataW H × List MemPlace} (ht : P.underlying t = some (.slice e)) (he : P.underlying e = some .bool) (hC : P.cellsOf e = 1)
    (h : DataW.trod enc P W base spare held n t [v] = some y) : ∃ a len cap zs, v = .slice a len cap ∧ Sees W W.heap.size 1 a len cap (bools zs) := by
  rcases open_slice1 ht hC h with ⟨hcs, _⟩ | ⟨a, len, cap, m, n', V, D, Pl, hcs, _, hl, hm, hmm, _, hx⟩
  · simp at hcs
    subst hcs
    exact ⟨none, 0, 0, [], rfl, Sees.none_ _ _ _ _ (by omega) _⟩
  · simp at hcs
    subst hcs
    have hlm : len ≤ m := by rw [hmm]; split <;> omega
    have hB : ∀ i, i < m → ∃ b, V i = .bool b := fun i hi => by
      obtain ⟨b, hb, _⟩ := DataW.trod_bool he (hx i hi).2
      exact ⟨b, by simpa using hb⟩
    refine ⟨some a, len, cap, (List.range len).map fun i => isT (V i), rfl, ⟨by simp [bools], hl, by unfold maxLen at hm; omega, fun h0 => ?_⟩⟩
    have hc := (hx 0 (by omega)).1
    have hspot : a.spot = none := by simpa [Addr.add] using World.cell?_spot hc
    obtain ⟨b, o, spot⟩ := a
    obtain rfl : spot = none := hspot
    have hb := World.block_lt_of_cell? _ _ hc
    refine ⟨b, o, rfl, by simpa [Addr.add] using hb, fun j u hu => ?_⟩
    have hj : j < len := by have := (List.getElem?_eq_some_iff.1 hu).1; simpa [bools] using this
    have := (hx j (by omega)).1
    rw [add_addr] at this
    rw [this]
    obtain ⟨bb, hbb⟩ := hB j (by omega)
    simp [bools, hj] at hu
    rw [← hu, hbb]
    rfl
/-- one cell that is a slice of numbers -/
theorem cell_ints {t e : TypeId} {n : Nat} {v : Value} {y : DataW H × List MemPlace} (ht : P.underlying t = some (.slice e)) (he : P.underlying e = some (.int .i64)) (hC : P.cellsOf e = 1)
    (h : DataW.trod enc P W base spare held n t [v] = some y) : ∃ a len cap zs, v = .slice a len cap ∧ Sees W W.heap.size 1 a len cap (ints zs) ∧ ∀ n ∈ zs, (Lit.int .i64 n).wf = true := by
  rcases open_ints ht he hC h with ⟨hcs, _⟩ | ⟨x, l, c, zs, hcs, _, hl, hm, hz, _, hcell, hwz⟩
  · simp at hcs
    subst hcs
    exact ⟨none, 0, 0, [], rfl, Sees.none_ _ _ _ _ (by omega) _, by simp⟩
  · simp at hcs
    subst hcs
    exact ⟨_, _, _, zs.take l, rfl, sees_nums hl hm (by rw [hz]; split <;> omega) hcell, fun n hn => hwz n (List.mem_of_mem_take hn)⟩
theorem open_tags {t e : TypeId} {f0 : Field} {v : Value} {d : DataW H} {p : List MemPlace} (hs : P.underlying t = some (.struct #[f0])) (hone : oneCellFields P #[f0] = true) (hC : P.cellsOf t = 1)
    (h0 : P.underlying f0.type = some (.slice e)) (he : P.underlying e = some .bool) (hCe : P.cellsOf e = 1)
    (hv : Value.okWide P W r b0 t v) (h : DataW.Trod enc P W base spare held t v d p) :
    ∃ a len cap zs, v = .agg #[.slice a len cap] ∧ Sees W W.heap.size 1 a len cap (bools zs) := by
  obtain ⟨cs, n, rfl, hsz, hf⟩ := open_fields hs hone hC hv h
  obtain ⟨c0, rfl⟩ := arr1 hsz
  obtain ⟨y0, hy0⟩ := hf 0 f0 c0 rfl rfl
  obtain ⟨a, len, cap, zs, rfl, hz⟩ := cell_bools h0 he hCe hy0
  exact ⟨a, len, cap, zs, rfl, hz⟩
theorem open_ring {t e ti : TypeId} {f0 f1 f2 : Field} {v : Value} {d : DataW H} {p : List MemPlace} (hs : P.underlying t = some (.struct #[f0, f1, f2])) (hone : oneCellFields P #[f0, f1, f2] = true) (hC : P.cellsOf t = 3)
    (h0 : P.underlying f0.type = some (.slice e)) (he : P.underlying e = some (.int .i64)) (hCe : P.cellsOf e = 1) (h1 : f1.type = ti) (h2 : f2.type = ti) (hi : P.underlying ti = some (.int .i64))
    (hv : Value.okWide P W r b0 t v) (h : DataW.Trod enc P W base spare held t v d p) :
    ∃ a len cap zs hd tl, v = .agg #[.slice a len cap, .int .i64 hd, .int .i64 tl] ∧ Sees W W.heap.size 1 a len cap (ints zs) ∧ (∀ n ∈ zs, (Lit.int .i64 n).wf = true) ∧ (Lit.int .i64 hd).wf = true ∧ (Lit.int .i64 tl).wf = true := by
  obtain ⟨cs, n, rfl, hsz, hf⟩ := open_fields hs hone hC hv h
  obtain ⟨c0, c1, c2, rfl⟩ := array3 hsz
  obtain ⟨y0, hy0⟩ := hf 0 f0 c0 rfl rfl
  obtain ⟨y1, hy1⟩ := hf 1 f1 c1 rfl rfl
  obtain ⟨y2, hy2⟩ := hf 2 f2 c2 rfl rfl
  rw [h1] at hy1
  rw [h2] at hy2
  obtain ⟨a, len, cap, zs, rfl, hz, hw⟩ := cell_ints h0 he hCe hy0
  obtain ⟨n1, q1, rfl, w1⟩ := DataW.trod_int hi hy1
  obtain ⟨n2, q2, rfl, w2⟩ := DataW.trod_int hi hy2
  simp at q1 q2
  subst q1 q2
  exact ⟨a, len, cap, zs, n1, n2, rfl, hz, hw, w1, w2⟩
end
end Go.Proofs.Ythnebfcclkebeaa
