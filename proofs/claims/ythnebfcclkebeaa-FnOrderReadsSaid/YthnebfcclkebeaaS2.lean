/-
  What a region that draws its order leaves of a call's end.
-/
import Derived.Test.YthnebfcclkebeaaS1
import Derived.Deep.RegionHeld3
namespace Go.Proofs.Ythnebfcclkebeaa
open Go.RowKit
theorem drew_below {w w' : World} (b : Below w.drew.heap.size w.drew w') : Below w.heap.size w w' := ⟨b.os, b.tape, b.output, b.size, b.block⟩
theorem Own.drewN {w : World} {lo hi s n c : Nat} {e : TypeId} {A : Option Addr} {xs : List Value} (h : Own w lo hi e s A n c xs) (q : Nat) : Own (w.drewN q) lo hi e s A n c xs := ⟨h.len, h.cap, h.big, h.at_⟩
theorem step_app {P : Program} {w : World} {ops : Array Oper} {o : Oper} {a : Act} {K : Act → World → Prop} {Q : Exit → Act → World → Prop} {E : Prop} (hgd : o.guard = none) (x y : Operand) (t : TypeId)
    (ho : o.op = .call { callee := .builtin .append, args := #[x, y], argTypes := #[t, t] })
    (e : TypeId) (i : TypeInfo) (z : Value) (size bytes : Nat) (ht : P.underlying t = some (.slice e)) (hi : P.info? e = some i) (hz : i.zero = some z)
    (hsize : i.size = size) (hby : i.bytes = bytes) (hzs : z.cells.size = size) (hsz : 0 < size)
    (lo hi' : Nat) (A : Option Addr) (n c : Nat) (xs : List Value) (hs : a.eval x = .slice A n c) (hown : Own w lo hi' e size A n c xs)
    (B : Nat) (A' : Option Addr) (m c' : Nat) (news : List Value) (hx : a.eval y = .slice A' m c') (hsee : Sees w B size A' m c' news) (h1 : ∀ u ∈ news, u.oneCell' = true)
    (hbytes : (n + m) * bytes ≤ 140737488355328) (h63 : n + m ≤ 140737488355328) (hlo : lo ≤ w.heap.size)
    (h : ∀ A2 c2 w', Own w' lo w'.heap.size e size A2 (n + m) c2 (xs ++ news) → Fr lo hi' w w' → K (a.put o.dst (.slice A2 (n + m) c2)) w') :
    if Region.wanted o (yielded ops a.tmps) = true then Oper.wp P o a w K Q else E := by
  have hw : Region.wanted o (yielded ops a.tmps) = true := by simp [Region.wanted, hgd]
  rw [if_pos hw]
  exact wp_app w x y t ho e i z size bytes ht hi hz hsize hby hzs hsz lo hi' A n c xs hs hown B A' m c' news hx hsee h1 hbytes h63 hlo h
end Go.Proofs.Ythnebfcclkebeaa
