/-
  No cell of these rows narrows 'for every input' (looked for: loops, veiled, ifaces, maps, wideKeys, modest, calm, conditions, laid).
  DERIVED. THE GIVEN ROWS OF THIS SEAT. 11 by the template 'for every input the law returns true; each argument reads behind the call as it read before'; 0 by the template 'total and deterministic' (their statements: YtmdkihinhoclbaaTotals.lean).
  GIVEN WITH THE SEED: the statements are not yours to turn. If you find one false, say at which input.
  Laid BY PROGRAM, IN A SANDBOX (cutbox-rows.mjs): the forced cells as the released guide's own fill.sh prints them over the translation afae279316d3063f… (all of the seat's roots in one cut). By AI agents, Wed Nov 11 2026. No macro, syntax, notation, axiom, sorry.
-/
import Derived.Test.YtmdkihinhoclbaaChecked
import GoSem.Claim
import GoSem.ClaimJoined
import GoSem.ClaimMapViews
import Derived.JoinedTies
import Derived.KernelRfl
namespace Go.Proofs.Ytmdkihinhoclbaa
/- THE CELL 'sum', in the pinned program and in every row, IS THE sha256 OF THE DUMP (.gsa) THAT YtmdkihinhoclbaaProg.lean LOADS. Nothing in Lean hashes anything: it is a label: what it is worth is what the hold of that sum in a sandbox is worth. -/
noncomputable def Try.pinned : Pinned := { name := "ytmdkihinhoclbaa", sum := "afae279316d3063f7364228eb64d08443b72423387bbd4d18e22197422c7b63e", checked := Try.checked }
namespace Rows
def none {H : Type} : Left H := { results := [], args := [] }

/-- 'laws.FnExactCommandValid': WHATEVER THE INPUT: true; the input reads as it did. -/
def fnExactCommandValidSpec : ChangeSpec := { name := "fnExactCommandValid", fn := fun _ => fun
  | [d1, d2] => { results := [.lit (.bool true)], args := [d1, d2] }
  | _ => none }
def fnExactCommandValidRow : OpenClaim := { program := "ytmdkihinhoclbaa", sum := "afae279316d3063f7364228eb64d08443b72423387bbd4d18e22197422c7b63e", func := "loop.example/blockstack/laws.FnExactCommandValid", spec := "fnExactCommandValid", apart := false }
def FnExactCommandValidSaid : Prop := fnExactCommandValidRow.holds Try.pinned (OpenSpec.ofChange fnExactCommandValidSpec)

/-- ITS FALSE NEIGHBOUR: 'it returns false'. Refute it at one input. -/
def fnExactCommandValidWrong : ChangeSpec := { name := "fnExactCommandValid", fn := fun _ => fun
  | [d1, d2] => { results := [.lit (.bool false)], args := [d1, d2] }
  | _ => none }
def FnExactCommandValidWrongFalsely : Prop := fnExactCommandValidRow.holds Try.pinned (OpenSpec.ofChange fnExactCommandValidWrong)

/-- 'laws.FnExactCommandWord': WHATEVER THE INPUT: true; the input reads as it did. -/
def fnExactCommandWordSpec : ChangeSpec := { name := "fnExactCommandWord", fn := fun _ => fun
  | [d] => { results := [.lit (.bool true)], args := [d] }
  | _ => none }
def fnExactCommandWordRow : OpenClaim := { program := "ytmdkihinhoclbaa", sum := "afae279316d3063f7364228eb64d08443b72423387bbd4d18e22197422c7b63e", func := "loop.example/blockstack/laws.FnExactCommandWord", spec := "fnExactCommandWord", apart := false }
def FnExactCommandWordSaid : Prop := fnExactCommandWordRow.holds Try.pinned (OpenSpec.ofChange fnExactCommandWordSpec)

/-- ITS FALSE NEIGHBOUR: 'it returns false'. Refute it at one input. -/
def fnExactCommandWordWrong : ChangeSpec := { name := "fnExactCommandWord", fn := fun _ => fun
  | [d] => { results := [.lit (.bool false)], args := [d] }
  | _ => none }
def FnExactCommandWordWrongFalsely : Prop := fnExactCommandWordRow.holds Try.pinned (OpenSpec.ofChange fnExactCommandWordWrong)

/-- 'laws.FnExactCommandsClash': WHATEVER THE INPUT: true; the input reads as it did. -/
def fnExactCommandsClashSpec : ChangeSpec := { name := "fnExactCommandsClash", fn := fun _ => fun
  | [d1, d2] => { results := [.lit (.bool true)], args := [d1, d2] }
  | _ => none }
def fnExactCommandsClashRow : OpenClaim := { program := "ytmdkihinhoclbaa", sum := "afae279316d3063f7364228eb64d08443b72423387bbd4d18e22197422c7b63e", func := "loop.example/blockstack/laws.FnExactCommandsClash", spec := "fnExactCommandsClash", apart := false }
def FnExactCommandsClashSaid : Prop := fnExactCommandsClashRow.holds Try.pinned (OpenSpec.ofChange fnExactCommandsClashSpec)

/-- ITS FALSE NEIGHBOUR: 'it returns false'. Refute it at one input. -/
def fnExactCommandsClashWrong : ChangeSpec := { name := "fnExactCommandsClash", fn := fun _ => fun
  | [d1, d2] => { results := [.lit (.bool false)], args := [d1, d2] }
  | _ => none }
def FnExactCommandsClashWrongFalsely : Prop := fnExactCommandsClashRow.holds Try.pinned (OpenSpec.ofChange fnExactCommandsClashWrong)

/-- 'laws.FnExactReadCommand': WHATEVER THE INPUT: true; the input reads as it did. -/
def fnExactReadCommandSpec : ChangeSpec := { name := "fnExactReadCommand", fn := fun _ => fun
  | [d] => { results := [.lit (.bool true)], args := [d] }
  | _ => none }
def fnExactReadCommandRow : OpenClaim := { program := "ytmdkihinhoclbaa", sum := "afae279316d3063f7364228eb64d08443b72423387bbd4d18e22197422c7b63e", func := "loop.example/blockstack/laws.FnExactReadCommand", spec := "fnExactReadCommand", apart := false }
def FnExactReadCommandSaid : Prop := fnExactReadCommandRow.holds Try.pinned (OpenSpec.ofChange fnExactReadCommandSpec)

/-- ITS FALSE NEIGHBOUR: 'it returns false'. Refute it at one input. -/
def fnExactReadCommandWrong : ChangeSpec := { name := "fnExactReadCommand", fn := fun _ => fun
  | [d] => { results := [.lit (.bool false)], args := [d] }
  | _ => none }
def FnExactReadCommandWrongFalsely : Prop := fnExactReadCommandRow.holds Try.pinned (OpenSpec.ofChange fnExactReadCommandWrong)

/-- 'laws.FnCommandValid': WHATEVER THE INPUT: true; the input reads as it did. -/
def fnCommandValidSpec : ChangeSpec := { name := "fnCommandValid", fn := fun _ => fun
  | [d] => { results := [.lit (.bool true)], args := [d] }
  | _ => none }
def fnCommandValidRow : OpenClaim := { program := "ytmdkihinhoclbaa", sum := "afae279316d3063f7364228eb64d08443b72423387bbd4d18e22197422c7b63e", func := "loop.example/blockstack/laws.FnCommandValid", spec := "fnCommandValid", apart := false }
def FnCommandValidSaid : Prop := fnCommandValidRow.holds Try.pinned (OpenSpec.ofChange fnCommandValidSpec)

/-- ITS FALSE NEIGHBOUR: 'it returns false'. Refute it at one input. -/
def fnCommandValidWrong : ChangeSpec := { name := "fnCommandValid", fn := fun _ => fun
  | [d] => { results := [.lit (.bool false)], args := [d] }
  | _ => none }
def FnCommandValidWrongFalsely : Prop := fnCommandValidRow.holds Try.pinned (OpenSpec.ofChange fnCommandValidWrong)

/-- 'laws.FnCommandWord': WHATEVER THE INPUT: true; the input reads as it did. -/
def fnCommandWordSpec : ChangeSpec := { name := "fnCommandWord", fn := fun _ => fun
  | [d1, d2] => { results := [.lit (.bool true)], args := [d1, d2] }
  | _ => none }
def fnCommandWordRow : OpenClaim := { program := "ytmdkihinhoclbaa", sum := "afae279316d3063f7364228eb64d08443b72423387bbd4d18e22197422c7b63e", func := "loop.example/blockstack/laws.FnCommandWord", spec := "fnCommandWord", apart := false }
def FnCommandWordSaid : Prop := fnCommandWordRow.holds Try.pinned (OpenSpec.ofChange fnCommandWordSpec)

/-- ITS FALSE NEIGHBOUR: 'it returns false'. Refute it at one input. -/
def fnCommandWordWrong : ChangeSpec := { name := "fnCommandWord", fn := fun _ => fun
  | [d1, d2] => { results := [.lit (.bool false)], args := [d1, d2] }
  | _ => none }
def FnCommandWordWrongFalsely : Prop := fnCommandWordRow.holds Try.pinned (OpenSpec.ofChange fnCommandWordWrong)

/-- 'laws.FnExactExecuteCommand': WHATEVER THE INPUT: true; the input reads as it did. -/
def fnExactExecuteCommandSpec : ChangeSpec := { name := "fnExactExecuteCommand", fn := fun _ => fun
  | [d1, d2] => { results := [.lit (.bool true)], args := [d1, d2] }
  | _ => none }
def fnExactExecuteCommandRow : OpenClaim := { program := "ytmdkihinhoclbaa", sum := "afae279316d3063f7364228eb64d08443b72423387bbd4d18e22197422c7b63e", func := "loop.example/blockstack/laws.FnExactExecuteCommand", spec := "fnExactExecuteCommand", apart := false }
def FnExactExecuteCommandSaid : Prop := fnExactExecuteCommandRow.holds Try.pinned (OpenSpec.ofChange fnExactExecuteCommandSpec)

/-- ITS FALSE NEIGHBOUR: 'it returns false'. Refute it at one input. -/
def fnExactExecuteCommandWrong : ChangeSpec := { name := "fnExactExecuteCommand", fn := fun _ => fun
  | [d1, d2] => { results := [.lit (.bool false)], args := [d1, d2] }
  | _ => none }
def FnExactExecuteCommandWrongFalsely : Prop := fnExactExecuteCommandRow.holds Try.pinned (OpenSpec.ofChange fnExactExecuteCommandWrong)

/-- 'laws.FnReadCommand': WHATEVER THE INPUT: true; the input reads as it did. -/
def fnReadCommandSpec : ChangeSpec := { name := "fnReadCommand", fn := fun _ => fun
  | [d] => { results := [.lit (.bool true)], args := [d] }
  | _ => none }
def fnReadCommandRow : OpenClaim := { program := "ytmdkihinhoclbaa", sum := "afae279316d3063f7364228eb64d08443b72423387bbd4d18e22197422c7b63e", func := "loop.example/blockstack/laws.FnReadCommand", spec := "fnReadCommand", apart := false }
def FnReadCommandSaid : Prop := fnReadCommandRow.holds Try.pinned (OpenSpec.ofChange fnReadCommandSpec)

/-- ITS FALSE NEIGHBOUR: 'it returns false'. Refute it at one input. -/
def fnReadCommandWrong : ChangeSpec := { name := "fnReadCommand", fn := fun _ => fun
  | [d] => { results := [.lit (.bool false)], args := [d] }
  | _ => none }
def FnReadCommandWrongFalsely : Prop := fnReadCommandRow.holds Try.pinned (OpenSpec.ofChange fnReadCommandWrong)

/-- 'laws.FnCommandTrim': WHATEVER THE INPUT: true; the input reads as it did. -/
def fnCommandTrimSpec : ChangeSpec := { name := "fnCommandTrim", fn := fun _ => fun
  | [d] => { results := [.lit (.bool true)], args := [d] }
  | _ => none }
def fnCommandTrimRow : OpenClaim := { program := "ytmdkihinhoclbaa", sum := "afae279316d3063f7364228eb64d08443b72423387bbd4d18e22197422c7b63e", func := "loop.example/blockstack/laws.FnCommandTrim", spec := "fnCommandTrim", apart := false }
def FnCommandTrimSaid : Prop := fnCommandTrimRow.holds Try.pinned (OpenSpec.ofChange fnCommandTrimSpec)

/-- ITS FALSE NEIGHBOUR: 'it returns false'. Refute it at one input. -/
def fnCommandTrimWrong : ChangeSpec := { name := "fnCommandTrim", fn := fun _ => fun
  | [d] => { results := [.lit (.bool false)], args := [d] }
  | _ => none }
def FnCommandTrimWrongFalsely : Prop := fnCommandTrimRow.holds Try.pinned (OpenSpec.ofChange fnCommandTrimWrong)

/-- 'laws.FnCommandsClash': WHATEVER THE INPUT: true; the input reads as it did. -/
def fnCommandsClashSpec : ChangeSpec := { name := "fnCommandsClash", fn := fun _ => fun
  | [d1, d2] => { results := [.lit (.bool true)], args := [d1, d2] }
  | _ => none }
def fnCommandsClashRow : OpenClaim := { program := "ytmdkihinhoclbaa", sum := "afae279316d3063f7364228eb64d08443b72423387bbd4d18e22197422c7b63e", func := "loop.example/blockstack/laws.FnCommandsClash", spec := "fnCommandsClash", apart := false }
def FnCommandsClashSaid : Prop := fnCommandsClashRow.holds Try.pinned (OpenSpec.ofChange fnCommandsClashSpec)

/-- ITS FALSE NEIGHBOUR: 'it returns false'. Refute it at one input. -/
def fnCommandsClashWrong : ChangeSpec := { name := "fnCommandsClash", fn := fun _ => fun
  | [d1, d2] => { results := [.lit (.bool false)], args := [d1, d2] }
  | _ => none }
def FnCommandsClashWrongFalsely : Prop := fnCommandsClashRow.holds Try.pinned (OpenSpec.ofChange fnCommandsClashWrong)

/-- 'laws.FnExecuteCommand': WHATEVER THE INPUT: true; the input reads as it did. -/
def fnExecuteCommandSpec : ChangeSpec := { name := "fnExecuteCommand", fn := fun _ => fun
  | [d] => { results := [.lit (.bool true)], args := [d] }
  | _ => none }
def fnExecuteCommandRow : OpenClaim := { program := "ytmdkihinhoclbaa", sum := "afae279316d3063f7364228eb64d08443b72423387bbd4d18e22197422c7b63e", func := "loop.example/blockstack/laws.FnExecuteCommand", spec := "fnExecuteCommand", apart := false }
def FnExecuteCommandSaid : Prop := fnExecuteCommandRow.holds Try.pinned (OpenSpec.ofChange fnExecuteCommandSpec)

/-- ITS FALSE NEIGHBOUR: 'it returns false'. Refute it at one input. -/
def fnExecuteCommandWrong : ChangeSpec := { name := "fnExecuteCommand", fn := fun _ => fun
  | [d] => { results := [.lit (.bool false)], args := [d] }
  | _ => none }
def FnExecuteCommandWrongFalsely : Prop := fnExecuteCommandRow.holds Try.pinned (OpenSpec.ofChange fnExecuteCommandWrong)

/- THE SECOND FORM. 'bulk': how many values and letters a reading holds, each counted each time it is reached (what is shared counts as often as it is met; a slice's spare places count too). A statement '..UptoSaid' is the law's where the arguments, and the package variables that the reading takes, are together of bulk at most 1048576: NARROWER than '..Said'. Prove '..Said' where nothing that the law and all that it calls make is longer than what came in: it says more and counts as full. Else prove '..UptoSaid'. A law counts once. -/
mutual
def uptoBulk {H : Type} : DataW H → Nat
  | .lit (.string bytes) => bytes.length + 1
  | .lit _ => 1
  | .nil => 1
  | .ptr d => uptoBulk d + 1
  | .slice elems spare => uptoBulkAll elems + uptoBulkAll spare + 1
  | .agg parts => uptoBulkAll parts + 1
  | .iface _ d => uptoBulk d + 1
  | .map entries => uptoBulkEntries entries + 1
  | .held _ => 1
def uptoBulkAll {H : Type} : List (DataW H) → Nat
  | [] => 0
  | d :: r => uptoBulk d + uptoBulkAll r
def uptoBulkEntries {H : Type} : List (Lit × DataW H) → Nat
  | [] => 0
  | x :: r => uptoBulkEntry x + uptoBulkEntries r
def uptoBulkEntry {H : Type} : Lit × DataW H → Nat
  | (.string bytes, d) => bytes.length + uptoBulk d + 1
  | (_, d) => uptoBulk d + 1
 end
def uptoSmall : (H : Type) → List (DataW H) → Bool := fun _ ds => decide (uptoBulkAll ds ≤ 1048576)
def OpenSpec.upto (s : _root_.Go.ChangeSpec) : _root_.Go.OpenSpec := { _root_.Go.OpenSpec.ofChange s with cond := some uptoSmall }

/-- 'laws.FnExactCommandValid', WHERE WHAT IT READS IS OF BULK AT MOST 1048576: true; the input reads as it did. -/
def fnExactCommandValidUptoRow : OpenClaim := { program := "ytmdkihinhoclbaa", sum := "afae279316d3063f7364228eb64d08443b72423387bbd4d18e22197422c7b63e", func := "loop.example/blockstack/laws.FnExactCommandValid", spec := "fnExactCommandValid", apart := false, narrowed := true }
def FnExactCommandValidUptoSaid : Prop := fnExactCommandValidUptoRow.holds Try.pinned (OpenSpec.upto fnExactCommandValidSpec)

/-- 'laws.FnExactCommandWord', WHERE WHAT IT READS IS OF BULK AT MOST 1048576: true; the input reads as it did. -/
def fnExactCommandWordUptoRow : OpenClaim := { program := "ytmdkihinhoclbaa", sum := "afae279316d3063f7364228eb64d08443b72423387bbd4d18e22197422c7b63e", func := "loop.example/blockstack/laws.FnExactCommandWord", spec := "fnExactCommandWord", apart := false, narrowed := true }
def FnExactCommandWordUptoSaid : Prop := fnExactCommandWordUptoRow.holds Try.pinned (OpenSpec.upto fnExactCommandWordSpec)

/-- 'laws.FnExactCommandsClash', WHERE WHAT IT READS IS OF BULK AT MOST 1048576: true; the input reads as it did. -/
def fnExactCommandsClashUptoRow : OpenClaim := { program := "ytmdkihinhoclbaa", sum := "afae279316d3063f7364228eb64d08443b72423387bbd4d18e22197422c7b63e", func := "loop.example/blockstack/laws.FnExactCommandsClash", spec := "fnExactCommandsClash", apart := false, narrowed := true }
def FnExactCommandsClashUptoSaid : Prop := fnExactCommandsClashUptoRow.holds Try.pinned (OpenSpec.upto fnExactCommandsClashSpec)

/-- 'laws.FnExactReadCommand', WHERE WHAT IT READS IS OF BULK AT MOST 1048576: true; the input reads as it did. -/
def fnExactReadCommandUptoRow : OpenClaim := { program := "ytmdkihinhoclbaa", sum := "afae279316d3063f7364228eb64d08443b72423387bbd4d18e22197422c7b63e", func := "loop.example/blockstack/laws.FnExactReadCommand", spec := "fnExactReadCommand", apart := false, narrowed := true }
def FnExactReadCommandUptoSaid : Prop := fnExactReadCommandUptoRow.holds Try.pinned (OpenSpec.upto fnExactReadCommandSpec)

/-- 'laws.FnCommandValid', WHERE WHAT IT READS IS OF BULK AT MOST 1048576: true; the input reads as it did. -/
def fnCommandValidUptoRow : OpenClaim := { program := "ytmdkihinhoclbaa", sum := "afae279316d3063f7364228eb64d08443b72423387bbd4d18e22197422c7b63e", func := "loop.example/blockstack/laws.FnCommandValid", spec := "fnCommandValid", apart := false, narrowed := true }
def FnCommandValidUptoSaid : Prop := fnCommandValidUptoRow.holds Try.pinned (OpenSpec.upto fnCommandValidSpec)

/-- 'laws.FnCommandWord', WHERE WHAT IT READS IS OF BULK AT MOST 1048576: true; the input reads as it did. -/
def fnCommandWordUptoRow : OpenClaim := { program := "ytmdkihinhoclbaa", sum := "afae279316d3063f7364228eb64d08443b72423387bbd4d18e22197422c7b63e", func := "loop.example/blockstack/laws.FnCommandWord", spec := "fnCommandWord", apart := false, narrowed := true }
def FnCommandWordUptoSaid : Prop := fnCommandWordUptoRow.holds Try.pinned (OpenSpec.upto fnCommandWordSpec)

/-- 'laws.FnExactExecuteCommand', WHERE WHAT IT READS IS OF BULK AT MOST 1048576: true; the input reads as it did. -/
def fnExactExecuteCommandUptoRow : OpenClaim := { program := "ytmdkihinhoclbaa", sum := "afae279316d3063f7364228eb64d08443b72423387bbd4d18e22197422c7b63e", func := "loop.example/blockstack/laws.FnExactExecuteCommand", spec := "fnExactExecuteCommand", apart := false, narrowed := true }
def FnExactExecuteCommandUptoSaid : Prop := fnExactExecuteCommandUptoRow.holds Try.pinned (OpenSpec.upto fnExactExecuteCommandSpec)

/-- 'laws.FnReadCommand', WHERE WHAT IT READS IS OF BULK AT MOST 1048576: true; the input reads as it did. -/
def fnReadCommandUptoRow : OpenClaim := { program := "ytmdkihinhoclbaa", sum := "afae279316d3063f7364228eb64d08443b72423387bbd4d18e22197422c7b63e", func := "loop.example/blockstack/laws.FnReadCommand", spec := "fnReadCommand", apart := false, narrowed := true }
def FnReadCommandUptoSaid : Prop := fnReadCommandUptoRow.holds Try.pinned (OpenSpec.upto fnReadCommandSpec)

/-- 'laws.FnCommandTrim', WHERE WHAT IT READS IS OF BULK AT MOST 1048576: true; the input reads as it did. -/
def fnCommandTrimUptoRow : OpenClaim := { program := "ytmdkihinhoclbaa", sum := "afae279316d3063f7364228eb64d08443b72423387bbd4d18e22197422c7b63e", func := "loop.example/blockstack/laws.FnCommandTrim", spec := "fnCommandTrim", apart := false, narrowed := true }
def FnCommandTrimUptoSaid : Prop := fnCommandTrimUptoRow.holds Try.pinned (OpenSpec.upto fnCommandTrimSpec)

/-- 'laws.FnCommandsClash', WHERE WHAT IT READS IS OF BULK AT MOST 1048576: true; the input reads as it did. -/
def fnCommandsClashUptoRow : OpenClaim := { program := "ytmdkihinhoclbaa", sum := "afae279316d3063f7364228eb64d08443b72423387bbd4d18e22197422c7b63e", func := "loop.example/blockstack/laws.FnCommandsClash", spec := "fnCommandsClash", apart := false, narrowed := true }
def FnCommandsClashUptoSaid : Prop := fnCommandsClashUptoRow.holds Try.pinned (OpenSpec.upto fnCommandsClashSpec)

/-- 'laws.FnExecuteCommand', WHERE WHAT IT READS IS OF BULK AT MOST 1048576: true; the input reads as it did. -/
def fnExecuteCommandUptoRow : OpenClaim := { program := "ytmdkihinhoclbaa", sum := "afae279316d3063f7364228eb64d08443b72423387bbd4d18e22197422c7b63e", func := "loop.example/blockstack/laws.FnExecuteCommand", spec := "fnExecuteCommand", apart := false, narrowed := true }
def FnExecuteCommandUptoSaid : Prop := fnExecuteCommandUptoRow.holds Try.pinned (OpenSpec.upto fnExecuteCommandSpec)

end Rows
end Go.Proofs.Ytmdkihinhoclbaa
