/-
  Words for the walks of functions that draw: the reader and a frame behind a store, behind new memory, behind a change of a block of the call's own. No function of the program in sight.
-/
import Derived.Test.YthnebfcclkebeaaS1
import Derived.Test.YthnebfcclkebeaaP3
import Derived.Deep.RegionHeld3
import Derived.IntWalk
namespace Go.Proofs.Ythnebfcclkebeaa
open Go.RowKit
theorem rd_setc {w : World} {R p : Nat} (h : Rd w R p) (a : Addr) (u : Value) (hR : R < a.block) : Rd (w.setCell a u) R p := h.keep fun k hk => heap_setCell_other w a k u (by omega)
theorem fr_setd {lo hi : Nat} {w w' : World} (h : Fr lo hi w w') {p : Addr} (hp : w.heap.size ≤ p.block) (u : Value) : Fr lo hi w (w'.setCell p u) :=
  ⟨h.os, h.tape, h.output, by rw [World.size_setCell]; exact h.size, fun k hk hh => (heap_setCell_other w' p k u (by omega)).trans (h.block k hk hh)⟩
theorem fr_below {lo hi : Nat} {w w1 w2 : World} (f : Fr lo hi w w1) (b : Below w1.heap.size w1 w2) : Fr lo hi w w2 :=
  ⟨b.os.trans f.os, b.tape.trans f.tape, b.output.trans f.output, Nat.le_trans f.size b.size, fun k hk hh => (b.block k (by have := f.size; omega)).trans (f.block k hk hh)⟩
theorem fr_own {lo hi l2 h2 : Nat} {w w1 w2 : World} (f : Fr lo hi w w1) (g : Fr l2 h2 w1 w2) (h : w.heap.size ≤ l2) : Fr lo hi w w2 :=
  ⟨g.os.trans f.os, g.tape.trans f.tape, g.output.trans f.output, Nat.le_trans f.size g.size, fun k hk hh => (g.block k (by have := f.size; omega) (.inl (by omega))).trans (f.block k hk hh)⟩
theorem Rd.drewN {w : World} {R p : Nat} (h : Rd w R p) (q : Nat) : Rd (w.drewN q) R p := h.keep fun _ _ => rfl
theorem pickL (Q : Int → Prop) (l : List Int) (k : Int) (hQ : ∀ x ∈ l, Q x) (h0 : 0 ≤ k) (h1 : k < l.length) : ∃ v : Int, Q v ∧ (l.map (Value.int .i64)).toArray[k.toNat]? = some (.int .i64 v) := by
  have hk : k.toNat < l.length := by omega
  exact ⟨l[k.toNat], hQ _ (List.getElem_mem hk), by simp [List.getElem?_eq_getElem hk]⟩
/-- A cell of a literal's block, at a place that is a number. -/
theorem lit_at {w : World} {g : Nat} {cs : Array Value} {t : TypeId} {fr : Nat × Nat} {k : Nat} {v : Value} (e : w.heap[g]? = some (.cells cs t fr)) (h : cs[k]? = some v) : w.cell? ⟨g, k, none⟩ = some v := by
  rw [cell_of_row w g k _ _ _ e]; exact h
end Go.Proofs.Ythnebfcclkebeaa
