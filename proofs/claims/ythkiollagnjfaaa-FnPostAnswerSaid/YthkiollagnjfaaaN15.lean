/-
  The laws' loops over rings of answers: a ring in the law's box, replaced round by round.
-/
import Derived.Test.YthkiollagnjfaaaN9
import Derived.Test.YthkiollagnjfaaaN11
import Derived.Test.YthkiollagnjfaaaN12
namespace Go.Proofs.Ythkiollagnjfaaa
open Go.RowKit
/-- a ring of answers in the law's box, behind some stores -/
structure AtBoxA (w wr : World) (g : Nat) (A : Option Addr) (c : Nat) (d : List (Int × Bool)) (ps : Int) (pp : Bool) (tk : Int) (tp : Bool) (pd : Int) (lo hi : Nat) : Prop where
  row : wr.heap[g]? = some (.cells #[.slice A d.length c, .int .i64 ps, .bool pp, .int .i64 tk, .bool tp, .int .i64 pd] 24 (0, 0))
  own : Own wr lo hi 46 2 A d.length c (ansC d)
  off : hi ≤ g ∨ g < lo
  hi_ : hi ≤ wr.heap.size
  bel : Below w.heap.size w wr
  in_ : w.heap.size ≤ g ∧ g < wr.heap.size
/-- a new ring that lies in memory of its own is copied into the law's box -/
theorem AtBoxA.put {w w8 : World} {g : Nat} {A2 : Option Addr} {c2 : Nat} {d2 : List (Int × Bool)} {ps : Int} {pp : Bool} {tk : Int} {tp : Bool} {pd : Int} {lo hi : Nat} {x0 x1 x2 x3 x4 x5 : Value}
    (r : w8.heap[g]? = some (.cells #[x0, x1, x2, x3, x4, x5] 24 (0, 0))) (o : Own w8 lo hi 46 2 A2 d2.length c2 (ansC d2)) (h1 : hi ≤ g ∨ g < lo) (h2 : hi ≤ w8.heap.size) (hb : Below w.heap.size w w8) (hg : w.heap.size ≤ g) :
    AtBoxA w (st6 w8 g (.slice A2 d2.length c2) (.int .i64 ps) (.bool pp) (.int .i64 tk) (.bool tp) (.int .i64 pd)) g A2 c2 d2 ps pp tk tp pd lo hi :=
  ⟨put6 r _ _ _ _ _ _, own6 o (by omega) _ _ _ _ _ _, h1, by rw [size6]; exact h2, below6 hb hg _ _ _ _ _ _, hg, by rw [size6]; exact rowLt r⟩
end Go.Proofs.Ythkiollagnjfaaa
