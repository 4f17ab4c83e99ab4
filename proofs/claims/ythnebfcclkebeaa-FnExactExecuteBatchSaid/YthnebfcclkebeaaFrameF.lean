/-
  What a law's frame needs for a slice of structs of one-cell fields. No function of the program in sight.
-/
import Derived.Test.YthnebfcclkebeaaFrameT
import Derived.Test.YthnebfcclkebeaaF1
namespace Go.Proofs.Ythnebfcclkebeaa
open Go.ChangeShapes Go.WideShapes Go.ChangeAt Go.RowKit Go.Deep Go.Joins
theorem rows_sees {W : World} {α : Type} {f : α → List Value} {s : Nat} (hf : ∀ x, (f x).length = s) (hs : 0 < s) {a : Addr} {len cap : Nat} (hl : len ≤ cap) (hm : cap ≤ maxLen) (F : Nat → α)
    (hc : ∀ i, i < len → ∀ j v, (f (F i))[j]? = some v → W.cell? (a.add (i * s + j)) = some v) : Sees W W.heap.size s (some a) len cap (((List.range len).map F).flatMap f) := by
  refine ⟨by rw [fm_length hf]; simp, hl, by unfold maxLen at hm; omega, fun h0 => ?_⟩
  have h1 : (f (F 0))[0]? = some ((f (F 0))[0]'(by rw [hf]; exact hs)) := List.getElem?_eq_getElem _
  have hc0 := hc 0 h0 0 _ h1
  have hspot : a.spot = none := by simpa [Addr.add] using World.cell?_spot hc0
  obtain ⟨b, o, spot⟩ := a
  obtain rfl : spot = none := hspot
  have hb := World.block_lt_of_cell? _ _ hc0
  refine ⟨b, o, rfl, by simpa [Addr.add] using hb, fun j u hu => ?_⟩
  have hj : j < len * s := by have := (List.getElem?_eq_some_iff.1 hu).1; rw [fm_length hf] at this; simpa using this
  have hd : j / s < len := (Nat.div_lt_iff_lt_mul hs).2 hj
  have hmm : j % s < s := Nat.mod_lt _ hs
  have he : j / s * s + j % s = j := by have := Nat.div_add_mod j s; rw [Nat.mul_comm] at this; exact this
  have h2 := fm_get hf ((List.range len).map F) (j / s) (by simpa using hd) (j % s) hmm
  rw [he, hu] at h2
  have h3 := hc (j / s) hd (j % s) u (by rw [h2]; simp)
  rw [he, add_addr] at h3
  exact h3
section
variable {H : Type} {enc : TypeId × Value → H} {P : Program} {W : World} {base : Nat} {spare : Nat → Bool} {held : Bool}
/-- an element of a slice of structs: each field's cell, and its reading -/
theorem elem_fields {e : TypeId} {fs : Array Field} {n : Nat} {cs : List Value} {x : DataW H × List MemPlace} {a : Addr} (he : P.underlying e = some (.struct fs)) (hone : oneCellFields P fs = true)
    (hc : W.cells? base a (P.cellsOf e) = some cs) (hC : P.cellsOf e = fs.size) (h : DataW.trod enc P W base spare held n e cs = some x) (j : Nat) (f : Field) (hj : fs[j]? = some f) :
    ∃ v y m, W.cell? (a.add j) = some v ∧ DataW.trod enc P W base spare held m f.type [v] = some y := by
  obtain ⟨_, hcl, hat⟩ := World.cells?_some hc
  obtain ⟨ys, m, _, _, _, hyl, hf⟩ := DataW.trod_struct he h
  obtain ⟨ho, hk⟩ := hone_of hone j f hj
  have hjl : j < fs.size := (Array.getElem?_eq_some_iff.1 hj).1
  have hcj : j < cs.length := by omega
  have h1 := hf j f hj
  rw [ho, hk] at h1
  have hone' : (cs.drop j).take 1 = [cs[j]] := by rw [List.drop_eq_getElem_cons hcj]; rfl
  rw [hone', List.getElem?_eq_getElem (by omega)] at h1
  exact ⟨cs[j], _, m, (hat j (by omega)).trans (List.getElem?_eq_getElem hcj), h1⟩
end
end Go.Proofs.Ythnebfcclkebeaa
