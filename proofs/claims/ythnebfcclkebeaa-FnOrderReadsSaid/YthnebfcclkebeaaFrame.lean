/-
  What a law's frame needs: an argument that is a list of numbers, read as data, is a slice that the walk's word 'Sees' tells of.
-/
import Derived.Test.YthnebfcclkebeaaRows
import Derived.Test.YthnebfcclkebeaaKit
import Derived.ProofKit
import Derived.OpenShut
import Derived.ShutString
import Derived.ChangeOld
namespace Go.Proofs.Ythnebfcclkebeaa
open Go.ChangeShapes Go.WideShapes Go.ChangeAt Go.RowKit

theorem own : ownKnob Try.prog.godebug = none := by kernel_rfl
theorem laidOut : laidOutB Try.prog = true := by kernel_rfl
def numsOf (k : IntKind) (l : List Int) : List Value := l.map fun n => Value.int k n
/-- the numbers behind a slice, as far as its length goes -/
theorem sees_nums {W : World} {k : IntKind} {x : Addr} {len cap : Nat} {zs : List Int} (hl : len ≤ cap) (hm : cap ≤ maxLen) (hz : len ≤ zs.length) (hcell : ∀ i, i < zs.length → W.cell? (x.add i) = some (.int k (zs.getD i 0))) :
    Sees W W.heap.size 1 (some x) len cap (numsOf k (zs.take len)) := by
  refine ⟨by simp [numsOf]; omega, hl, by unfold maxLen at hm; omega, fun h0 => ?_⟩
  have hc := hcell 0 (by omega)
  have hspot : x.spot = none := by simpa [Addr.add] using World.cell?_spot hc
  obtain ⟨b, o, spot⟩ := x
  obtain rfl : spot = none := hspot
  have hb := World.block_lt_of_cell? _ _ hc
  refine ⟨b, o, rfl, by simpa [Addr.add] using hb, fun j u hu => ?_⟩
  have hj : j < len ∧ j < zs.length := by
    have := (List.getElem?_eq_some_iff.1 hu).1
    simp [numsOf] at this
    omega
  have := hcell j hj.2
  rw [add_addr] at this
  rw [this]
  simp [numsOf, hj.1, hj.2] at hu
  rw [← hu]
  simp [hj.2]
theorem open_nums {H : Type} {enc : TypeId × Value → H} {P : Program} {W : World} {base b0 : Nat} {spare : Nat → Bool} {held : Bool} {r : Reach} {t e : TypeId} {k : IntKind} {v : Value} {d : DataW H} {p : List MemPlace}
    (ht : P.underlying t = some (.slice e)) (he : P.underlying e = some (.int k)) (hC : P.cellsOf e = 1) (hv : Value.okWide P W r b0 t v) (h : DataW.Trod enc P W base spare held t v d p) :
    ∃ a len cap zs, v = .slice a len cap ∧ Sees W W.heap.size 1 a len cap (numsOf k zs) ∧ ∀ n ∈ zs, (Lit.int k n).wf = true := by
  obtain ⟨a0, len0, cap0, rfl⟩ := okWide_slice ht hv
  obtain ⟨fuel, hf⟩ := h
  rcases open_ints ht he hC hf with ⟨hcs, _⟩ | ⟨x, l, c, zs, hcs, _, hl, hm, hz, _, hcell, hwz⟩
  · simp [Value.cells] at hcs
    obtain ⟨rfl, rfl, rfl⟩ := hcs
    exact ⟨none, 0, 0, [], rfl, Sees.none_ _ _ _ _ (by omega) _, by simp⟩
  · simp [Value.cells] at hcs
    obtain ⟨rfl, rfl, rfl⟩ := hcs
    exact ⟨_, _, _, zs.take len0, rfl, sees_nums hl hm (by rw [hz]; split <;> omega) hcell, fun n hn => hwz n (List.mem_of_mem_take hn)⟩
theorem byte_bd {n : Int} (h : (Lit.int .u8 n).wf = true) : 0 ≤ n ∧ n ≤ 255 := bounds_u8 h
end Go.Proofs.Ythnebfcclkebeaa
