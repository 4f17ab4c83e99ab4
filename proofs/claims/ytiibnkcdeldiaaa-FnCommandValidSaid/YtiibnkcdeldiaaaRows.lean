/-
  No cell of these rows narrows 'for every input' (looked for: loops, veiled, ifaces, maps, wideKeys, modest, calm, conditions, laid).
  DERIVED. THE GIVEN ROWS OF THIS SEAT. 5 by the template 'for every input the law returns true; each argument reads behind the call as it read before'; 0 by the template 'total and deterministic' (their statements: YtiibnkcdeldiaaaTotals.lean).
  GIVEN WITH THE SEED: the statements are not yours to turn. If you find one false, say at which input.
  Laid BY PROGRAM, IN A SANDBOX (cutbox-rows.mjs): the forced cells as the released guide's own fill.sh prints them over the translation 76ef3f6ca56a7867… (all of the seat's roots in one cut). By AI agents, Wed Nov 11 2026. No macro, syntax, notation, axiom, sorry.
-/
import Derived.Test.YtiibnkcdeldiaaaChecked
import GoSem.Claim
import GoSem.ClaimJoined
import GoSem.ClaimMapViews
import Derived.JoinedTies
import Derived.KernelRfl
namespace Go.Proofs.Ytiibnkcdeldiaaa
/- THE CELL 'sum', in the pinned program and in every row, IS THE sha256 OF THE DUMP (.gsa) THAT YtiibnkcdeldiaaaProg.lean LOADS. Nothing in Lean hashes anything: it is a label: what it is worth is what the hold of that sum in a sandbox is worth. -/
noncomputable def Try.pinned : Pinned := { name := "ytiibnkcdeldiaaa", sum := "76ef3f6ca56a78672dae9ab4f7fce116fdf62f9220be976da4af9522d7b36ff1", checked := Try.checked }
namespace Rows
def none {H : Type} : Left H := { results := [], args := [] }

/-- 'laws.FnCommandValid': WHATEVER THE INPUT: true; the input reads as it did. -/
def fnCommandValidSpec : ChangeSpec := { name := "fnCommandValid", fn := fun _ => fun
  | [d] => { results := [.lit (.bool true)], args := [d] }
  | _ => none }
def fnCommandValidRow : OpenClaim := { program := "ytiibnkcdeldiaaa", sum := "76ef3f6ca56a78672dae9ab4f7fce116fdf62f9220be976da4af9522d7b36ff1", func := "loop.example/blockstack/laws.FnCommandValid", spec := "fnCommandValid", apart := false }
def FnCommandValidSaid : Prop := fnCommandValidRow.holds Try.pinned (OpenSpec.ofChange fnCommandValidSpec)

/-- ITS FALSE NEIGHBOUR: 'it returns false'. Refute it at one input. -/
def fnCommandValidWrong : ChangeSpec := { name := "fnCommandValid", fn := fun _ => fun
  | [d] => { results := [.lit (.bool false)], args := [d] }
  | _ => none }
def FnCommandValidWrongFalsely : Prop := fnCommandValidRow.holds Try.pinned (OpenSpec.ofChange fnCommandValidWrong)

/-- 'laws.FnCommandWord': WHATEVER THE INPUT: true; the input reads as it did. -/
def fnCommandWordSpec : ChangeSpec := { name := "fnCommandWord", fn := fun _ => fun
  | [d1, d2] => { results := [.lit (.bool true)], args := [d1, d2] }
  | _ => none }
def fnCommandWordRow : OpenClaim := { program := "ytiibnkcdeldiaaa", sum := "76ef3f6ca56a78672dae9ab4f7fce116fdf62f9220be976da4af9522d7b36ff1", func := "loop.example/blockstack/laws.FnCommandWord", spec := "fnCommandWord", apart := false }
def FnCommandWordSaid : Prop := fnCommandWordRow.holds Try.pinned (OpenSpec.ofChange fnCommandWordSpec)

/-- ITS FALSE NEIGHBOUR: 'it returns false'. Refute it at one input. -/
def fnCommandWordWrong : ChangeSpec := { name := "fnCommandWord", fn := fun _ => fun
  | [d1, d2] => { results := [.lit (.bool false)], args := [d1, d2] }
  | _ => none }
def FnCommandWordWrongFalsely : Prop := fnCommandWordRow.holds Try.pinned (OpenSpec.ofChange fnCommandWordWrong)

/-- 'laws.FnCommandTrim': WHATEVER THE INPUT: true; the input reads as it did. -/
def fnCommandTrimSpec : ChangeSpec := { name := "fnCommandTrim", fn := fun _ => fun
  | [d] => { results := [.lit (.bool true)], args := [d] }
  | _ => none }
def fnCommandTrimRow : OpenClaim := { program := "ytiibnkcdeldiaaa", sum := "76ef3f6ca56a78672dae9ab4f7fce116fdf62f9220be976da4af9522d7b36ff1", func := "loop.example/blockstack/laws.FnCommandTrim", spec := "fnCommandTrim", apart := false }
def FnCommandTrimSaid : Prop := fnCommandTrimRow.holds Try.pinned (OpenSpec.ofChange fnCommandTrimSpec)

/-- ITS FALSE NEIGHBOUR: 'it returns false'. Refute it at one input. -/
def fnCommandTrimWrong : ChangeSpec := { name := "fnCommandTrim", fn := fun _ => fun
  | [d] => { results := [.lit (.bool false)], args := [d] }
  | _ => none }
def FnCommandTrimWrongFalsely : Prop := fnCommandTrimRow.holds Try.pinned (OpenSpec.ofChange fnCommandTrimWrong)

/-- 'laws.FnCommandsClash': WHATEVER THE INPUT: true; the input reads as it did. -/
def fnCommandsClashSpec : ChangeSpec := { name := "fnCommandsClash", fn := fun _ => fun
  | [d1, d2] => { results := [.lit (.bool true)], args := [d1, d2] }
  | _ => none }
def fnCommandsClashRow : OpenClaim := { program := "ytiibnkcdeldiaaa", sum := "76ef3f6ca56a78672dae9ab4f7fce116fdf62f9220be976da4af9522d7b36ff1", func := "loop.example/blockstack/laws.FnCommandsClash", spec := "fnCommandsClash", apart := false }
def FnCommandsClashSaid : Prop := fnCommandsClashRow.holds Try.pinned (OpenSpec.ofChange fnCommandsClashSpec)

/-- ITS FALSE NEIGHBOUR: 'it returns false'. Refute it at one input. -/
def fnCommandsClashWrong : ChangeSpec := { name := "fnCommandsClash", fn := fun _ => fun
  | [d1, d2] => { results := [.lit (.bool false)], args := [d1, d2] }
  | _ => none }
def FnCommandsClashWrongFalsely : Prop := fnCommandsClashRow.holds Try.pinned (OpenSpec.ofChange fnCommandsClashWrong)

/-- 'laws.FnExecuteCommand': WHATEVER THE INPUT: true; the input reads as it did. -/
def fnExecuteCommandSpec : ChangeSpec := { name := "fnExecuteCommand", fn := fun _ => fun
  | [d] => { results := [.lit (.bool true)], args := [d] }
  | _ => none }
def fnExecuteCommandRow : OpenClaim := { program := "ytiibnkcdeldiaaa", sum := "76ef3f6ca56a78672dae9ab4f7fce116fdf62f9220be976da4af9522d7b36ff1", func := "loop.example/blockstack/laws.FnExecuteCommand", spec := "fnExecuteCommand", apart := false }
def FnExecuteCommandSaid : Prop := fnExecuteCommandRow.holds Try.pinned (OpenSpec.ofChange fnExecuteCommandSpec)

/-- ITS FALSE NEIGHBOUR: 'it returns false'. Refute it at one input. -/
def fnExecuteCommandWrong : ChangeSpec := { name := "fnExecuteCommand", fn := fun _ => fun
  | [d] => { results := [.lit (.bool false)], args := [d] }
  | _ => none }
def FnExecuteCommandWrongFalsely : Prop := fnExecuteCommandRow.holds Try.pinned (OpenSpec.ofChange fnExecuteCommandWrong)

/- THE SECOND FORM. 'bulk': how many values and letters a reading holds, each counted each time it is reached (what is shared counts as often as it is met; a slice's spare places count too). A statement '..UptoSaid' is the law's where the arguments, and the package variables that the reading takes, are together of bulk at most 1048576: NARROWER than '..Said'. Prove '..Said' where nothing that the law and all that it calls make is longer than what came in: it says more and counts as full. Else prove '..UptoSaid'. A law counts once. -/
mutual
def uptoBulk {H : Type} : DataW H → Nat
  | .lit (.string bytes) => bytes.length + 1
  | .lit _ => 1
  | .nil => 1
  | .ptr d => uptoBulk d + 1
  | .slice elems spare => uptoBulkAll elems + uptoBulkAll spare + 1
  | .agg parts => uptoBulkAll parts + 1
  | .iface _ d => uptoBulk d + 1
  | .map entries => uptoBulkEntries entries + 1
  | .held _ => 1
def uptoBulkAll {H : Type} : List (DataW H) → Nat
  | [] => 0
  | d :: r => uptoBulk d + uptoBulkAll r
def uptoBulkEntries {H : Type} : List (Lit × DataW H) → Nat
  | [] => 0
  | x :: r => uptoBulkEntry x + uptoBulkEntries r
def uptoBulkEntry {H : Type} : Lit × DataW H → Nat
  | (.string bytes, d) => bytes.length + uptoBulk d + 1
  | (_, d) => uptoBulk d + 1
 end
def uptoSmall : (H : Type) → List (DataW H) → Bool := fun _ ds => decide (uptoBulkAll ds ≤ 1048576)
def OpenSpec.upto (s : _root_.Go.ChangeSpec) : _root_.Go.OpenSpec := { _root_.Go.OpenSpec.ofChange s with cond := some uptoSmall }

/-- 'laws.FnCommandValid', WHERE WHAT IT READS IS OF BULK AT MOST 1048576: true; the input reads as it did. -/
def fnCommandValidUptoRow : OpenClaim := { program := "ytiibnkcdeldiaaa", sum := "76ef3f6ca56a78672dae9ab4f7fce116fdf62f9220be976da4af9522d7b36ff1", func := "loop.example/blockstack/laws.FnCommandValid", spec := "fnCommandValid", apart := false, narrowed := true }
def FnCommandValidUptoSaid : Prop := fnCommandValidUptoRow.holds Try.pinned (OpenSpec.upto fnCommandValidSpec)

/-- 'laws.FnCommandWord', WHERE WHAT IT READS IS OF BULK AT MOST 1048576: true; the input reads as it did. -/
def fnCommandWordUptoRow : OpenClaim := { program := "ytiibnkcdeldiaaa", sum := "76ef3f6ca56a78672dae9ab4f7fce116fdf62f9220be976da4af9522d7b36ff1", func := "loop.example/blockstack/laws.FnCommandWord", spec := "fnCommandWord", apart := false, narrowed := true }
def FnCommandWordUptoSaid : Prop := fnCommandWordUptoRow.holds Try.pinned (OpenSpec.upto fnCommandWordSpec)

/-- 'laws.FnCommandTrim', WHERE WHAT IT READS IS OF BULK AT MOST 1048576: true; the input reads as it did. -/
def fnCommandTrimUptoRow : OpenClaim := { program := "ytiibnkcdeldiaaa", sum := "76ef3f6ca56a78672dae9ab4f7fce116fdf62f9220be976da4af9522d7b36ff1", func := "loop.example/blockstack/laws.FnCommandTrim", spec := "fnCommandTrim", apart := false, narrowed := true }
def FnCommandTrimUptoSaid : Prop := fnCommandTrimUptoRow.holds Try.pinned (OpenSpec.upto fnCommandTrimSpec)

/-- 'laws.FnCommandsClash', WHERE WHAT IT READS IS OF BULK AT MOST 1048576: true; the input reads as it did. -/
def fnCommandsClashUptoRow : OpenClaim := { program := "ytiibnkcdeldiaaa", sum := "76ef3f6ca56a78672dae9ab4f7fce116fdf62f9220be976da4af9522d7b36ff1", func := "loop.example/blockstack/laws.FnCommandsClash", spec := "fnCommandsClash", apart := false, narrowed := true }
def FnCommandsClashUptoSaid : Prop := fnCommandsClashUptoRow.holds Try.pinned (OpenSpec.upto fnCommandsClashSpec)

/-- 'laws.FnExecuteCommand', WHERE WHAT IT READS IS OF BULK AT MOST 1048576: true; the input reads as it did. -/
def fnExecuteCommandUptoRow : OpenClaim := { program := "ytiibnkcdeldiaaa", sum := "76ef3f6ca56a78672dae9ab4f7fce116fdf62f9220be976da4af9522d7b36ff1", func := "loop.example/blockstack/laws.FnExecuteCommand", spec := "fnExecuteCommand", apart := false, narrowed := true }
def FnExecuteCommandUptoSaid : Prop := fnExecuteCommandUptoRow.holds Try.pinned (OpenSpec.upto fnExecuteCommandSpec)

end Rows
end Go.Proofs.Ytiibnkcdeldiaaa
