/-
  No cell of these rows narrows 'for every input' (looked for: loops, veiled, ifaces, maps, wideKeys, modest, calm, conditions, laid).
  DERIVED. THE GIVEN ROWS OF THIS SEAT. 12 by the template 'for every input the law returns true; each argument reads behind the call as it read before'; 0 by the template 'total and deterministic' (their statements: YthnebfcclkebeaaTotals.lean).
  GIVEN WITH THE SEED: the statements are not yours to turn. If you find one false, say at which input.
  Laid BY PROGRAM, IN A SANDBOX (cutbox-rows.mjs): the forced cells as the released guide's own fill.sh prints them over the translation 238cf9b238df9a55… (all of the seat's roots in one cut). By AI agents, Wed Nov 11 2026. No macro, syntax, notation, axiom, sorry.
-/
import Derived.Test.YthnebfcclkebeaaChecked
import GoSem.Claim
import GoSem.ClaimJoined
import GoSem.ClaimMapViews
import Derived.JoinedTies
import Derived.KernelRfl
namespace Go.Proofs.Ythnebfcclkebeaa
/- THE CELL 'sum', in the pinned program and in every row, IS THE sha256 OF THE DUMP (.gsa) THAT YthnebfcclkebeaaProg.lean LOADS. Nothing in Lean hashes anything: it is a label: what it is worth is what the hold of that sum in a sandbox is worth. -/
noncomputable def Try.pinned : Pinned := { name := "ythnebfcclkebeaa", sum := "238cf9b238df9a55826e36e6d09706c362042f5fdfd45a3912e5dc60c41f4380", checked := Try.checked }
namespace Rows
def none {H : Type} : Left H := { results := [], args := [] }

/-- 'laws.FnExactExecuteBatch': WHATEVER THE INPUT: true; the input reads as it did. -/
def fnExactExecuteBatchSpec : ChangeSpec := { name := "fnExactExecuteBatch", fn := fun _ => fun
  | [d1, d2] => { results := [.lit (.bool true)], args := [d1, d2] }
  | _ => none }
def fnExactExecuteBatchRow : OpenClaim := { program := "ythnebfcclkebeaa", sum := "238cf9b238df9a55826e36e6d09706c362042f5fdfd45a3912e5dc60c41f4380", func := "loop.example/blockstack/laws.FnExactExecuteBatch", spec := "fnExactExecuteBatch", unfollowed := true, recurses := true, apart := false }
def FnExactExecuteBatchSaid : Prop := fnExactExecuteBatchRow.holds Try.pinned (OpenSpec.ofChange fnExactExecuteBatchSpec)

/-- ITS FALSE NEIGHBOUR: 'it returns false'. Refute it at one input. -/
def fnExactExecuteBatchWrong : ChangeSpec := { name := "fnExactExecuteBatch", fn := fun _ => fun
  | [d1, d2] => { results := [.lit (.bool false)], args := [d1, d2] }
  | _ => none }
def FnExactExecuteBatchWrongFalsely : Prop := fnExactExecuteBatchRow.holds Try.pinned (OpenSpec.ofChange fnExactExecuteBatchWrong)

/-- 'laws.FnReadyFirst': WHATEVER THE INPUT: true; the input reads as it did. -/
def fnReadyFirstSpec : ChangeSpec := { name := "fnReadyFirst", fn := fun _ => fun
  | [d1, d2] => { results := [.lit (.bool true)], args := [d1, d2] }
  | _ => none }
def fnReadyFirstRow : OpenClaim := { program := "ythnebfcclkebeaa", sum := "238cf9b238df9a55826e36e6d09706c362042f5fdfd45a3912e5dc60c41f4380", func := "loop.example/blockstack/laws.FnReadyFirst", spec := "fnReadyFirst", unfollowed := true, recurses := true, apart := false }
def FnReadyFirstSaid : Prop := fnReadyFirstRow.holds Try.pinned (OpenSpec.ofChange fnReadyFirstSpec)

/-- ITS FALSE NEIGHBOUR: 'it returns false'. Refute it at one input. -/
def fnReadyFirstWrong : ChangeSpec := { name := "fnReadyFirst", fn := fun _ => fun
  | [d1, d2] => { results := [.lit (.bool false)], args := [d1, d2] }
  | _ => none }
def FnReadyFirstWrongFalsely : Prop := fnReadyFirstRow.holds Try.pinned (OpenSpec.ofChange fnReadyFirstWrong)

/-- 'laws.FnExactBatchValid': WHATEVER THE INPUT: true; the input reads as it did. -/
def fnExactBatchValidSpec : ChangeSpec := { name := "fnExactBatchValid", fn := fun _ => fun
  | [d1, d2] => { results := [.lit (.bool true)], args := [d1, d2] }
  | _ => none }
def fnExactBatchValidRow : OpenClaim := { program := "ythnebfcclkebeaa", sum := "238cf9b238df9a55826e36e6d09706c362042f5fdfd45a3912e5dc60c41f4380", func := "loop.example/blockstack/laws.FnExactBatchValid", spec := "fnExactBatchValid", unfollowed := true, recurses := true, apart := false }
def FnExactBatchValidSaid : Prop := fnExactBatchValidRow.holds Try.pinned (OpenSpec.ofChange fnExactBatchValidSpec)

/-- ITS FALSE NEIGHBOUR: 'it returns false'. Refute it at one input. -/
def fnExactBatchValidWrong : ChangeSpec := { name := "fnExactBatchValid", fn := fun _ => fun
  | [d1, d2] => { results := [.lit (.bool false)], args := [d1, d2] }
  | _ => none }
def FnExactBatchValidWrongFalsely : Prop := fnExactBatchValidRow.holds Try.pinned (OpenSpec.ofChange fnExactBatchValidWrong)

/-- 'laws.FnOrderSafe': WHATEVER THE INPUT: true; the input reads as it did. -/
def fnOrderSafeSpec : ChangeSpec := { name := "fnOrderSafe", fn := fun _ => fun
  | [d1, d2] => { results := [.lit (.bool true)], args := [d1, d2] }
  | _ => none }
def fnOrderSafeRow : OpenClaim := { program := "ythnebfcclkebeaa", sum := "238cf9b238df9a55826e36e6d09706c362042f5fdfd45a3912e5dc60c41f4380", func := "loop.example/blockstack/laws.FnOrderSafe", spec := "fnOrderSafe", unfollowed := true, recurses := true, apart := false }
def FnOrderSafeSaid : Prop := fnOrderSafeRow.holds Try.pinned (OpenSpec.ofChange fnOrderSafeSpec)

/-- ITS FALSE NEIGHBOUR: 'it returns false'. Refute it at one input. -/
def fnOrderSafeWrong : ChangeSpec := { name := "fnOrderSafe", fn := fun _ => fun
  | [d1, d2] => { results := [.lit (.bool false)], args := [d1, d2] }
  | _ => none }
def FnOrderSafeWrongFalsely : Prop := fnOrderSafeRow.holds Try.pinned (OpenSpec.ofChange fnOrderSafeWrong)

/-- 'laws.FnBatchValid': WHATEVER THE INPUT: true; the input reads as it did. -/
def fnBatchValidSpec : ChangeSpec := { name := "fnBatchValid", fn := fun _ => fun
  | [d] => { results := [.lit (.bool true)], args := [d] }
  | _ => none }
def fnBatchValidRow : OpenClaim := { program := "ythnebfcclkebeaa", sum := "238cf9b238df9a55826e36e6d09706c362042f5fdfd45a3912e5dc60c41f4380", func := "loop.example/blockstack/laws.FnBatchValid", spec := "fnBatchValid", unfollowed := true, recurses := true, apart := false }
def FnBatchValidSaid : Prop := fnBatchValidRow.holds Try.pinned (OpenSpec.ofChange fnBatchValidSpec)

/-- ITS FALSE NEIGHBOUR: 'it returns false'. Refute it at one input. -/
def fnBatchValidWrong : ChangeSpec := { name := "fnBatchValid", fn := fun _ => fun
  | [d] => { results := [.lit (.bool false)], args := [d] }
  | _ => none }
def FnBatchValidWrongFalsely : Prop := fnBatchValidRow.holds Try.pinned (OpenSpec.ofChange fnBatchValidWrong)

/-- 'laws.FnApplyOrder': WHATEVER THE INPUT: true; the input reads as it did. -/
def fnApplyOrderSpec : ChangeSpec := { name := "fnApplyOrder", fn := fun _ => fun
  | [d] => { results := [.lit (.bool true)], args := [d] }
  | _ => none }
def fnApplyOrderRow : OpenClaim := { program := "ythnebfcclkebeaa", sum := "238cf9b238df9a55826e36e6d09706c362042f5fdfd45a3912e5dc60c41f4380", func := "loop.example/blockstack/laws.FnApplyOrder", spec := "fnApplyOrder", apart := false }
def FnApplyOrderSaid : Prop := fnApplyOrderRow.holds Try.pinned (OpenSpec.ofChange fnApplyOrderSpec)

/-- ITS FALSE NEIGHBOUR: 'it returns false'. Refute it at one input. -/
def fnApplyOrderWrong : ChangeSpec := { name := "fnApplyOrder", fn := fun _ => fun
  | [d] => { results := [.lit (.bool false)], args := [d] }
  | _ => none }
def FnApplyOrderWrongFalsely : Prop := fnApplyOrderRow.holds Try.pinned (OpenSpec.ofChange fnApplyOrderWrong)

/-- 'laws.FnExactApplyOrder': WHATEVER THE INPUT: true; the input reads as it did. -/
def fnExactApplyOrderSpec : ChangeSpec := { name := "fnExactApplyOrder", fn := fun _ => fun
  | [d1, d2] => { results := [.lit (.bool true)], args := [d1, d2] }
  | _ => none }
def fnExactApplyOrderRow : OpenClaim := { program := "ythnebfcclkebeaa", sum := "238cf9b238df9a55826e36e6d09706c362042f5fdfd45a3912e5dc60c41f4380", func := "loop.example/blockstack/laws.FnExactApplyOrder", spec := "fnExactApplyOrder", apart := false }
def FnExactApplyOrderSaid : Prop := fnExactApplyOrderRow.holds Try.pinned (OpenSpec.ofChange fnExactApplyOrderSpec)

/-- ITS FALSE NEIGHBOUR: 'it returns false'. Refute it at one input. -/
def fnExactApplyOrderWrong : ChangeSpec := { name := "fnExactApplyOrder", fn := fun _ => fun
  | [d1, d2] => { results := [.lit (.bool false)], args := [d1, d2] }
  | _ => none }
def FnExactApplyOrderWrongFalsely : Prop := fnExactApplyOrderRow.holds Try.pinned (OpenSpec.ofChange fnExactApplyOrderWrong)

/-- 'laws.FnExactReadyCommands': WHATEVER THE INPUT: true; the input reads as it did. -/
def fnExactReadyCommandsSpec : ChangeSpec := { name := "fnExactReadyCommands", fn := fun _ => fun
  | [d] => { results := [.lit (.bool true)], args := [d] }
  | _ => none }
def fnExactReadyCommandsRow : OpenClaim := { program := "ythnebfcclkebeaa", sum := "238cf9b238df9a55826e36e6d09706c362042f5fdfd45a3912e5dc60c41f4380", func := "loop.example/blockstack/laws.FnExactReadyCommands", spec := "fnExactReadyCommands", unfollowed := true, recurses := true, apart := false }
def FnExactReadyCommandsSaid : Prop := fnExactReadyCommandsRow.holds Try.pinned (OpenSpec.ofChange fnExactReadyCommandsSpec)

/-- ITS FALSE NEIGHBOUR: 'it returns false'. Refute it at one input. -/
def fnExactReadyCommandsWrong : ChangeSpec := { name := "fnExactReadyCommands", fn := fun _ => fun
  | [d] => { results := [.lit (.bool false)], args := [d] }
  | _ => none }
def FnExactReadyCommandsWrongFalsely : Prop := fnExactReadyCommandsRow.holds Try.pinned (OpenSpec.ofChange fnExactReadyCommandsWrong)

/-- 'laws.FnExactOrderSafe': WHATEVER THE INPUT: true; the input reads as it did. -/
def fnExactOrderSafeSpec : ChangeSpec := { name := "fnExactOrderSafe", fn := fun _ => fun
  | [d1, d2] => { results := [.lit (.bool true)], args := [d1, d2] }
  | _ => none }
def fnExactOrderSafeRow : OpenClaim := { program := "ythnebfcclkebeaa", sum := "238cf9b238df9a55826e36e6d09706c362042f5fdfd45a3912e5dc60c41f4380", func := "loop.example/blockstack/laws.FnExactOrderSafe", spec := "fnExactOrderSafe", unfollowed := true, recurses := true, apart := false }
def FnExactOrderSafeSaid : Prop := fnExactOrderSafeRow.holds Try.pinned (OpenSpec.ofChange fnExactOrderSafeSpec)

/-- ITS FALSE NEIGHBOUR: 'it returns false'. Refute it at one input. -/
def fnExactOrderSafeWrong : ChangeSpec := { name := "fnExactOrderSafe", fn := fun _ => fun
  | [d1, d2] => { results := [.lit (.bool false)], args := [d1, d2] }
  | _ => none }
def FnExactOrderSafeWrongFalsely : Prop := fnExactOrderSafeRow.holds Try.pinned (OpenSpec.ofChange fnExactOrderSafeWrong)

/-- 'laws.FnReadyCommands': WHATEVER THE INPUT: true; the input reads as it did. -/
def fnReadyCommandsSpec : ChangeSpec := { name := "fnReadyCommands", fn := fun _ => fun
  | [d] => { results := [.lit (.bool true)], args := [d] }
  | _ => none }
def fnReadyCommandsRow : OpenClaim := { program := "ythnebfcclkebeaa", sum := "238cf9b238df9a55826e36e6d09706c362042f5fdfd45a3912e5dc60c41f4380", func := "loop.example/blockstack/laws.FnReadyCommands", spec := "fnReadyCommands", unfollowed := true, recurses := true, apart := false }
def FnReadyCommandsSaid : Prop := fnReadyCommandsRow.holds Try.pinned (OpenSpec.ofChange fnReadyCommandsSpec)

/-- ITS FALSE NEIGHBOUR: 'it returns false'. Refute it at one input. -/
def fnReadyCommandsWrong : ChangeSpec := { name := "fnReadyCommands", fn := fun _ => fun
  | [d] => { results := [.lit (.bool false)], args := [d] }
  | _ => none }
def FnReadyCommandsWrongFalsely : Prop := fnReadyCommandsRow.holds Try.pinned (OpenSpec.ofChange fnReadyCommandsWrong)

/-- 'laws.FnOrderReads': WHATEVER THE INPUT: true; the input reads as it did. -/
def fnOrderReadsSpec : ChangeSpec := { name := "fnOrderReads", fn := fun _ => fun
  | [d] => { results := [.lit (.bool true)], args := [d] }
  | _ => none }
def fnOrderReadsRow : OpenClaim := { program := "ythnebfcclkebeaa", sum := "238cf9b238df9a55826e36e6d09706c362042f5fdfd45a3912e5dc60c41f4380", func := "loop.example/blockstack/laws.FnOrderReads", spec := "fnOrderReads", unfollowed := true, recurses := true, apart := false }
def FnOrderReadsSaid : Prop := fnOrderReadsRow.holds Try.pinned (OpenSpec.ofChange fnOrderReadsSpec)

/-- ITS FALSE NEIGHBOUR: 'it returns false'. Refute it at one input. -/
def fnOrderReadsWrong : ChangeSpec := { name := "fnOrderReads", fn := fun _ => fun
  | [d] => { results := [.lit (.bool false)], args := [d] }
  | _ => none }
def FnOrderReadsWrongFalsely : Prop := fnOrderReadsRow.holds Try.pinned (OpenSpec.ofChange fnOrderReadsWrong)

/-- 'laws.FnExecuteBatch': WHATEVER THE INPUT: true; the input reads as it did. -/
def fnExecuteBatchSpec : ChangeSpec := { name := "fnExecuteBatch", fn := fun _ => fun
  | [d] => { results := [.lit (.bool true)], args := [d] }
  | _ => none }
def fnExecuteBatchRow : OpenClaim := { program := "ythnebfcclkebeaa", sum := "238cf9b238df9a55826e36e6d09706c362042f5fdfd45a3912e5dc60c41f4380", func := "loop.example/blockstack/laws.FnExecuteBatch", spec := "fnExecuteBatch", unfollowed := true, recurses := true, apart := false }
def FnExecuteBatchSaid : Prop := fnExecuteBatchRow.holds Try.pinned (OpenSpec.ofChange fnExecuteBatchSpec)

/-- ITS FALSE NEIGHBOUR: 'it returns false'. Refute it at one input. -/
def fnExecuteBatchWrong : ChangeSpec := { name := "fnExecuteBatch", fn := fun _ => fun
  | [d] => { results := [.lit (.bool false)], args := [d] }
  | _ => none }
def FnExecuteBatchWrongFalsely : Prop := fnExecuteBatchRow.holds Try.pinned (OpenSpec.ofChange fnExecuteBatchWrong)

/- THE SECOND FORM. 'bulk': how many values and letters a reading holds, each counted each time it is reached (what is shared counts as often as it is met; a slice's spare places count too). A statement '..UptoSaid' is the law's where the arguments, and the package variables that the reading takes, are together of bulk at most 1048576: NARROWER than '..Said'. Prove '..Said' where nothing that the law and all that it calls make is longer than what came in: it says more and counts as full. Else prove '..UptoSaid'. A law counts once. -/
mutual
def uptoBulk {H : Type} : DataW H → Nat
  | .lit (.string bytes) => bytes.length + 1
  | .lit _ => 1
  | .nil => 1
  | .ptr d => uptoBulk d + 1
  | .slice elems spare => uptoBulkAll elems + uptoBulkAll spare + 1
  | .agg parts => uptoBulkAll parts + 1
  | .iface _ d => uptoBulk d + 1
  | .map entries => uptoBulkEntries entries + 1
  | .held _ => 1
def uptoBulkAll {H : Type} : List (DataW H) → Nat
  | [] => 0
  | d :: r => uptoBulk d + uptoBulkAll r
def uptoBulkEntries {H : Type} : List (Lit × DataW H) → Nat
  | [] => 0
  | x :: r => uptoBulkEntry x + uptoBulkEntries r
def uptoBulkEntry {H : Type} : Lit × DataW H → Nat
  | (.string bytes, d) => bytes.length + uptoBulk d + 1
  | (_, d) => uptoBulk d + 1
 end
def uptoSmall : (H : Type) → List (DataW H) → Bool := fun _ ds => decide (uptoBulkAll ds ≤ 1048576)
def OpenSpec.upto (s : _root_.Go.ChangeSpec) : _root_.Go.OpenSpec := { _root_.Go.OpenSpec.ofChange s with cond := some uptoSmall }

/-- 'laws.FnExactExecuteBatch', WHERE WHAT IT READS IS OF BULK AT MOST 1048576: true; the input reads as it did. -/
def fnExactExecuteBatchUptoRow : OpenClaim := { program := "ythnebfcclkebeaa", sum := "238cf9b238df9a55826e36e6d09706c362042f5fdfd45a3912e5dc60c41f4380", func := "loop.example/blockstack/laws.FnExactExecuteBatch", spec := "fnExactExecuteBatch", unfollowed := true, recurses := true, apart := false, narrowed := true }
def FnExactExecuteBatchUptoSaid : Prop := fnExactExecuteBatchUptoRow.holds Try.pinned (OpenSpec.upto fnExactExecuteBatchSpec)

/-- 'laws.FnReadyFirst', WHERE WHAT IT READS IS OF BULK AT MOST 1048576: true; the input reads as it did. -/
def fnReadyFirstUptoRow : OpenClaim := { program := "ythnebfcclkebeaa", sum := "238cf9b238df9a55826e36e6d09706c362042f5fdfd45a3912e5dc60c41f4380", func := "loop.example/blockstack/laws.FnReadyFirst", spec := "fnReadyFirst", unfollowed := true, recurses := true, apart := false, narrowed := true }
def FnReadyFirstUptoSaid : Prop := fnReadyFirstUptoRow.holds Try.pinned (OpenSpec.upto fnReadyFirstSpec)

/-- 'laws.FnExactBatchValid', WHERE WHAT IT READS IS OF BULK AT MOST 1048576: true; the input reads as it did. -/
def fnExactBatchValidUptoRow : OpenClaim := { program := "ythnebfcclkebeaa", sum := "238cf9b238df9a55826e36e6d09706c362042f5fdfd45a3912e5dc60c41f4380", func := "loop.example/blockstack/laws.FnExactBatchValid", spec := "fnExactBatchValid", unfollowed := true, recurses := true, apart := false, narrowed := true }
def FnExactBatchValidUptoSaid : Prop := fnExactBatchValidUptoRow.holds Try.pinned (OpenSpec.upto fnExactBatchValidSpec)

/-- 'laws.FnOrderSafe', WHERE WHAT IT READS IS OF BULK AT MOST 1048576: true; the input reads as it did. -/
def fnOrderSafeUptoRow : OpenClaim := { program := "ythnebfcclkebeaa", sum := "238cf9b238df9a55826e36e6d09706c362042f5fdfd45a3912e5dc60c41f4380", func := "loop.example/blockstack/laws.FnOrderSafe", spec := "fnOrderSafe", unfollowed := true, recurses := true, apart := false, narrowed := true }
def FnOrderSafeUptoSaid : Prop := fnOrderSafeUptoRow.holds Try.pinned (OpenSpec.upto fnOrderSafeSpec)

/-- 'laws.FnBatchValid', WHERE WHAT IT READS IS OF BULK AT MOST 1048576: true; the input reads as it did. -/
def fnBatchValidUptoRow : OpenClaim := { program := "ythnebfcclkebeaa", sum := "238cf9b238df9a55826e36e6d09706c362042f5fdfd45a3912e5dc60c41f4380", func := "loop.example/blockstack/laws.FnBatchValid", spec := "fnBatchValid", unfollowed := true, recurses := true, apart := false, narrowed := true }
def FnBatchValidUptoSaid : Prop := fnBatchValidUptoRow.holds Try.pinned (OpenSpec.upto fnBatchValidSpec)

/-- 'laws.FnApplyOrder', WHERE WHAT IT READS IS OF BULK AT MOST 1048576: true; the input reads as it did. -/
def fnApplyOrderUptoRow : OpenClaim := { program := "ythnebfcclkebeaa", sum := "238cf9b238df9a55826e36e6d09706c362042f5fdfd45a3912e5dc60c41f4380", func := "loop.example/blockstack/laws.FnApplyOrder", spec := "fnApplyOrder", apart := false, narrowed := true }
def FnApplyOrderUptoSaid : Prop := fnApplyOrderUptoRow.holds Try.pinned (OpenSpec.upto fnApplyOrderSpec)

/-- 'laws.FnExactApplyOrder', WHERE WHAT IT READS IS OF BULK AT MOST 1048576: true; the input reads as it did. -/
def fnExactApplyOrderUptoRow : OpenClaim := { program := "ythnebfcclkebeaa", sum := "238cf9b238df9a55826e36e6d09706c362042f5fdfd45a3912e5dc60c41f4380", func := "loop.example/blockstack/laws.FnExactApplyOrder", spec := "fnExactApplyOrder", apart := false, narrowed := true }
def FnExactApplyOrderUptoSaid : Prop := fnExactApplyOrderUptoRow.holds Try.pinned (OpenSpec.upto fnExactApplyOrderSpec)

/-- 'laws.FnExactReadyCommands', WHERE WHAT IT READS IS OF BULK AT MOST 1048576: true; the input reads as it did. -/
def fnExactReadyCommandsUptoRow : OpenClaim := { program := "ythnebfcclkebeaa", sum := "238cf9b238df9a55826e36e6d09706c362042f5fdfd45a3912e5dc60c41f4380", func := "loop.example/blockstack/laws.FnExactReadyCommands", spec := "fnExactReadyCommands", unfollowed := true, recurses := true, apart := false, narrowed := true }
def FnExactReadyCommandsUptoSaid : Prop := fnExactReadyCommandsUptoRow.holds Try.pinned (OpenSpec.upto fnExactReadyCommandsSpec)

/-- 'laws.FnExactOrderSafe', WHERE WHAT IT READS IS OF BULK AT MOST 1048576: true; the input reads as it did. -/
def fnExactOrderSafeUptoRow : OpenClaim := { program := "ythnebfcclkebeaa", sum := "238cf9b238df9a55826e36e6d09706c362042f5fdfd45a3912e5dc60c41f4380", func := "loop.example/blockstack/laws.FnExactOrderSafe", spec := "fnExactOrderSafe", unfollowed := true, recurses := true, apart := false, narrowed := true }
def FnExactOrderSafeUptoSaid : Prop := fnExactOrderSafeUptoRow.holds Try.pinned (OpenSpec.upto fnExactOrderSafeSpec)

/-- 'laws.FnReadyCommands', WHERE WHAT IT READS IS OF BULK AT MOST 1048576: true; the input reads as it did. -/
def fnReadyCommandsUptoRow : OpenClaim := { program := "ythnebfcclkebeaa", sum := "238cf9b238df9a55826e36e6d09706c362042f5fdfd45a3912e5dc60c41f4380", func := "loop.example/blockstack/laws.FnReadyCommands", spec := "fnReadyCommands", unfollowed := true, recurses := true, apart := false, narrowed := true }
def FnReadyCommandsUptoSaid : Prop := fnReadyCommandsUptoRow.holds Try.pinned (OpenSpec.upto fnReadyCommandsSpec)

/-- 'laws.FnOrderReads', WHERE WHAT IT READS IS OF BULK AT MOST 1048576: true; the input reads as it did. -/
def fnOrderReadsUptoRow : OpenClaim := { program := "ythnebfcclkebeaa", sum := "238cf9b238df9a55826e36e6d09706c362042f5fdfd45a3912e5dc60c41f4380", func := "loop.example/blockstack/laws.FnOrderReads", spec := "fnOrderReads", unfollowed := true, recurses := true, apart := false, narrowed := true }
def FnOrderReadsUptoSaid : Prop := fnOrderReadsUptoRow.holds Try.pinned (OpenSpec.upto fnOrderReadsSpec)

/-- 'laws.FnExecuteBatch', WHERE WHAT IT READS IS OF BULK AT MOST 1048576: true; the input reads as it did. -/
def fnExecuteBatchUptoRow : OpenClaim := { program := "ythnebfcclkebeaa", sum := "238cf9b238df9a55826e36e6d09706c362042f5fdfd45a3912e5dc60c41f4380", func := "loop.example/blockstack/laws.FnExecuteBatch", spec := "fnExecuteBatch", unfollowed := true, recurses := true, apart := false, narrowed := true }
def FnExecuteBatchUptoSaid : Prop := fnExecuteBatchUptoRow.holds Try.pinned (OpenSpec.upto fnExecuteBatchSpec)

end Rows
end Go.Proofs.Ythnebfcclkebeaa
