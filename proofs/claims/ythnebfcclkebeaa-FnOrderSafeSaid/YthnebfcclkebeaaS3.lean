/-
  A literal of one element; append as a guarded step of a region that draws its order.
-/
import Derived.Test.YthnebfcclkebeaaS2
namespace Go.Proofs.Ythnebfcclkebeaa
open Go.RowKit
theorem newOne (w : World) (e : TypeId) (v : Value) : Own (w.alloc (.cells #[v] e)) w.heap.size (w.heap.size + 1) e 1 (some ⟨w.heap.size, 0, none⟩) 1 1 [v] :=
  Own.made (by simp) (Nat.le_refl _) (by omega) (by simp) (Nat.le_refl _) (by omega)
theorem step_appG {P : Program} {w : World} {ops : Array Oper} {o : Oper} {a : Act} {K : Act → World → Prop} {Q : Exit → Act → World → Prop} {E : Prop} (hw : Region.wanted o (yielded ops a.tmps) = true) (x y : Operand) (t : TypeId)
    (ho : o.op = .call { callee := .builtin .append, args := #[x, y], argTypes := #[t, t] })
    (e : TypeId) (i : TypeInfo) (z : Value) (size bytes : Nat) (ht : P.underlying t = some (.slice e)) (hi : P.info? e = some i) (hz : i.zero = some z)
    (hsize : i.size = size) (hby : i.bytes = bytes) (hzs : z.cells.size = size) (hsz : 0 < size)
    (lo hi' : Nat) (A : Option Addr) (n c : Nat) (xs : List Value) (hs : a.eval x = .slice A n c) (hown : Own w lo hi' e size A n c xs)
    (B : Nat) (A' : Option Addr) (m c' : Nat) (news : List Value) (hx : a.eval y = .slice A' m c') (hsee : Sees w B size A' m c' news) (h1 : ∀ u ∈ news, u.oneCell' = true)
    (hbytes : (n + m) * bytes ≤ 140737488355328) (h63 : n + m ≤ 140737488355328) (hlo : lo ≤ w.heap.size)
    (h : ∀ A2 c2 w', Own w' lo w'.heap.size e size A2 (n + m) c2 (xs ++ news) → Fr lo hi' w w' → K (a.put o.dst (.slice A2 (n + m) c2)) w') :
    if Region.wanted o (yielded ops a.tmps) = true then Oper.wp P o a w K Q else E := by
  rw [if_pos hw]
  exact wp_app w x y t ho e i z size bytes ht hi hz hsize hby hzs hsz lo hi' A n c xs hs hown B A' m c' news hx hsee h1 hbytes h63 hlo h
end Go.Proofs.Ythnebfcclkebeaa
