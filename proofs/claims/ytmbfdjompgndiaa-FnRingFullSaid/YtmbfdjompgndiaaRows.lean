/-
  No cell of these rows narrows 'for every input' (looked for: loops, veiled, ifaces, maps, wideKeys, modest, calm, conditions, laid).
  DERIVED. THE GIVEN ROWS OF THIS SEAT. 14 by the template 'for every input the law returns true; each argument reads behind the call as it read before'; 0 by the template 'total and deterministic' (their statements: YtmbfdjompgndiaaTotals.lean).
  GIVEN WITH THE SEED: the statements are not yours to turn. If you find one false, say at which input.
  Laid BY PROGRAM, IN A SANDBOX (cutbox-rows.mjs): the forced cells as the released guide's own fill.sh prints them over the translation 5add41f5c97fdc68… (all of the seat's roots in one cut). By AI agents, Wed Nov 11 2026. No macro, syntax, notation, axiom, sorry.
-/
import Derived.Test.YtmbfdjompgndiaaChecked
import GoSem.Claim
import GoSem.ClaimJoined
import GoSem.ClaimMapViews
import Derived.JoinedTies
import Derived.KernelRfl
namespace Go.Proofs.Ytmbfdjompgndiaa
/- THE CELL 'sum', in the pinned program and in every row, IS THE sha256 OF THE DUMP (.gsa) THAT YtmbfdjompgndiaaProg.lean LOADS. Nothing in Lean hashes anything: it is a label: what it is worth is what the hold of that sum in a sandbox is worth. -/
noncomputable def Try.pinned : Pinned := { name := "ytmbfdjompgndiaa", sum := "5add41f5c97fdc6805824ec8e4cbfd5846e5372090263308c710f1ef52b6c03a", checked := Try.checked }
namespace Rows
def none {H : Type} : Left H := { results := [], args := [] }

/-- 'laws.FnExactRingValid': WHATEVER THE INPUT: true; the input reads as it did. -/
def fnExactRingValidSpec : ChangeSpec := { name := "fnExactRingValid", fn := fun _ => fun
  | [d] => { results := [.lit (.bool true)], args := [d] }
  | _ => none }
def fnExactRingValidRow : OpenClaim := { program := "ytmbfdjompgndiaa", sum := "5add41f5c97fdc6805824ec8e4cbfd5846e5372090263308c710f1ef52b6c03a", func := "loop.example/blockstack/laws.FnExactRingValid", spec := "fnExactRingValid", apart := false }
def FnExactRingValidSaid : Prop := fnExactRingValidRow.holds Try.pinned (OpenSpec.ofChange fnExactRingValidSpec)

/-- ITS FALSE NEIGHBOUR: 'it returns false'. Refute it at one input. -/
def fnExactRingValidWrong : ChangeSpec := { name := "fnExactRingValid", fn := fun _ => fun
  | [d] => { results := [.lit (.bool false)], args := [d] }
  | _ => none }
def FnExactRingValidWrongFalsely : Prop := fnExactRingValidRow.holds Try.pinned (OpenSpec.ofChange fnExactRingValidWrong)

/-- 'laws.FnExactNewRing': WHATEVER THE INPUT: true; the input reads as it did. -/
def fnExactNewRingSpec : ChangeSpec := { name := "fnExactNewRing", fn := fun _ => fun
  | [d] => { results := [.lit (.bool true)], args := [d] }
  | _ => none }
def fnExactNewRingRow : OpenClaim := { program := "ytmbfdjompgndiaa", sum := "5add41f5c97fdc6805824ec8e4cbfd5846e5372090263308c710f1ef52b6c03a", func := "loop.example/blockstack/laws.FnExactNewRing", spec := "fnExactNewRing", apart := false }
def FnExactNewRingSaid : Prop := fnExactNewRingRow.holds Try.pinned (OpenSpec.ofChange fnExactNewRingSpec)

/-- ITS FALSE NEIGHBOUR: 'it returns false'. Refute it at one input. -/
def fnExactNewRingWrong : ChangeSpec := { name := "fnExactNewRing", fn := fun _ => fun
  | [d] => { results := [.lit (.bool false)], args := [d] }
  | _ => none }
def FnExactNewRingWrongFalsely : Prop := fnExactNewRingRow.holds Try.pinned (OpenSpec.ofChange fnExactNewRingWrong)

/-- 'laws.FnExactRingCount': WHATEVER THE INPUT: true; the input reads as it did. -/
def fnExactRingCountSpec : ChangeSpec := { name := "fnExactRingCount", fn := fun _ => fun
  | [d] => { results := [.lit (.bool true)], args := [d] }
  | _ => none }
def fnExactRingCountRow : OpenClaim := { program := "ytmbfdjompgndiaa", sum := "5add41f5c97fdc6805824ec8e4cbfd5846e5372090263308c710f1ef52b6c03a", func := "loop.example/blockstack/laws.FnExactRingCount", spec := "fnExactRingCount", apart := false }
def FnExactRingCountSaid : Prop := fnExactRingCountRow.holds Try.pinned (OpenSpec.ofChange fnExactRingCountSpec)

/-- ITS FALSE NEIGHBOUR: 'it returns false'. Refute it at one input. -/
def fnExactRingCountWrong : ChangeSpec := { name := "fnExactRingCount", fn := fun _ => fun
  | [d] => { results := [.lit (.bool false)], args := [d] }
  | _ => none }
def FnExactRingCountWrongFalsely : Prop := fnExactRingCountRow.holds Try.pinned (OpenSpec.ofChange fnExactRingCountWrong)

/-- 'laws.FnRingValid': WHATEVER THE INPUT: true; the input reads as it did. -/
def fnRingValidSpec : ChangeSpec := { name := "fnRingValid", fn := fun _ => fun
  | [d] => { results := [.lit (.bool true)], args := [d] }
  | _ => none }
def fnRingValidRow : OpenClaim := { program := "ytmbfdjompgndiaa", sum := "5add41f5c97fdc6805824ec8e4cbfd5846e5372090263308c710f1ef52b6c03a", func := "loop.example/blockstack/laws.FnRingValid", spec := "fnRingValid", apart := false }
def FnRingValidSaid : Prop := fnRingValidRow.holds Try.pinned (OpenSpec.ofChange fnRingValidSpec)

/-- ITS FALSE NEIGHBOUR: 'it returns false'. Refute it at one input. -/
def fnRingValidWrong : ChangeSpec := { name := "fnRingValid", fn := fun _ => fun
  | [d] => { results := [.lit (.bool false)], args := [d] }
  | _ => none }
def FnRingValidWrongFalsely : Prop := fnRingValidRow.holds Try.pinned (OpenSpec.ofChange fnRingValidWrong)

/-- 'laws.FnNewRing': WHATEVER THE INPUT: true; the input reads as it did. -/
def fnNewRingSpec : ChangeSpec := { name := "fnNewRing", fn := fun _ => fun
  | [d] => { results := [.lit (.bool true)], args := [d] }
  | _ => none }
def fnNewRingRow : OpenClaim := { program := "ytmbfdjompgndiaa", sum := "5add41f5c97fdc6805824ec8e4cbfd5846e5372090263308c710f1ef52b6c03a", func := "loop.example/blockstack/laws.FnNewRing", spec := "fnNewRing", apart := false }
def FnNewRingSaid : Prop := fnNewRingRow.holds Try.pinned (OpenSpec.ofChange fnNewRingSpec)

/-- ITS FALSE NEIGHBOUR: 'it returns false'. Refute it at one input. -/
def fnNewRingWrong : ChangeSpec := { name := "fnNewRing", fn := fun _ => fun
  | [d] => { results := [.lit (.bool false)], args := [d] }
  | _ => none }
def FnNewRingWrongFalsely : Prop := fnNewRingRow.holds Try.pinned (OpenSpec.ofChange fnNewRingWrong)

/-- 'laws.FnExactRingList': WHATEVER THE INPUT: true; the input reads as it did. -/
def fnExactRingListSpec : ChangeSpec := { name := "fnExactRingList", fn := fun _ => fun
  | [d] => { results := [.lit (.bool true)], args := [d] }
  | _ => none }
def fnExactRingListRow : OpenClaim := { program := "ytmbfdjompgndiaa", sum := "5add41f5c97fdc6805824ec8e4cbfd5846e5372090263308c710f1ef52b6c03a", func := "loop.example/blockstack/laws.FnExactRingList", spec := "fnExactRingList", apart := false }
def FnExactRingListSaid : Prop := fnExactRingListRow.holds Try.pinned (OpenSpec.ofChange fnExactRingListSpec)

/-- ITS FALSE NEIGHBOUR: 'it returns false'. Refute it at one input. -/
def fnExactRingListWrong : ChangeSpec := { name := "fnExactRingList", fn := fun _ => fun
  | [d] => { results := [.lit (.bool false)], args := [d] }
  | _ => none }
def FnExactRingListWrongFalsely : Prop := fnExactRingListRow.holds Try.pinned (OpenSpec.ofChange fnExactRingListWrong)

/-- 'laws.FnRingFull': WHATEVER THE INPUT: true; the input reads as it did. -/
def fnRingFullSpec : ChangeSpec := { name := "fnRingFull", fn := fun _ => fun
  | [d] => { results := [.lit (.bool true)], args := [d] }
  | _ => none }
def fnRingFullRow : OpenClaim := { program := "ytmbfdjompgndiaa", sum := "5add41f5c97fdc6805824ec8e4cbfd5846e5372090263308c710f1ef52b6c03a", func := "loop.example/blockstack/laws.FnRingFull", spec := "fnRingFull", apart := false }
def FnRingFullSaid : Prop := fnRingFullRow.holds Try.pinned (OpenSpec.ofChange fnRingFullSpec)

/-- ITS FALSE NEIGHBOUR: 'it returns false'. Refute it at one input. -/
def fnRingFullWrong : ChangeSpec := { name := "fnRingFull", fn := fun _ => fun
  | [d] => { results := [.lit (.bool false)], args := [d] }
  | _ => none }
def FnRingFullWrongFalsely : Prop := fnRingFullRow.holds Try.pinned (OpenSpec.ofChange fnRingFullWrong)

/-- 'laws.FnExactRingPop': WHATEVER THE INPUT: true; the input reads as it did. -/
def fnExactRingPopSpec : ChangeSpec := { name := "fnExactRingPop", fn := fun _ => fun
  | [d] => { results := [.lit (.bool true)], args := [d] }
  | _ => none }
def fnExactRingPopRow : OpenClaim := { program := "ytmbfdjompgndiaa", sum := "5add41f5c97fdc6805824ec8e4cbfd5846e5372090263308c710f1ef52b6c03a", func := "loop.example/blockstack/laws.FnExactRingPop", spec := "fnExactRingPop", apart := false }
def FnExactRingPopSaid : Prop := fnExactRingPopRow.holds Try.pinned (OpenSpec.ofChange fnExactRingPopSpec)

/-- ITS FALSE NEIGHBOUR: 'it returns false'. Refute it at one input. -/
def fnExactRingPopWrong : ChangeSpec := { name := "fnExactRingPop", fn := fun _ => fun
  | [d] => { results := [.lit (.bool false)], args := [d] }
  | _ => none }
def FnExactRingPopWrongFalsely : Prop := fnExactRingPopRow.holds Try.pinned (OpenSpec.ofChange fnExactRingPopWrong)

/-- 'laws.FnExactRingPush': WHATEVER THE INPUT: true; the input reads as it did. -/
def fnExactRingPushSpec : ChangeSpec := { name := "fnExactRingPush", fn := fun _ => fun
  | [d1, d2] => { results := [.lit (.bool true)], args := [d1, d2] }
  | _ => none }
def fnExactRingPushRow : OpenClaim := { program := "ytmbfdjompgndiaa", sum := "5add41f5c97fdc6805824ec8e4cbfd5846e5372090263308c710f1ef52b6c03a", func := "loop.example/blockstack/laws.FnExactRingPush", spec := "fnExactRingPush", apart := false }
def FnExactRingPushSaid : Prop := fnExactRingPushRow.holds Try.pinned (OpenSpec.ofChange fnExactRingPushSpec)

/-- ITS FALSE NEIGHBOUR: 'it returns false'. Refute it at one input. -/
def fnExactRingPushWrong : ChangeSpec := { name := "fnExactRingPush", fn := fun _ => fun
  | [d1, d2] => { results := [.lit (.bool false)], args := [d1, d2] }
  | _ => none }
def FnExactRingPushWrongFalsely : Prop := fnExactRingPushRow.holds Try.pinned (OpenSpec.ofChange fnExactRingPushWrong)

/-- 'laws.FnRingCount': WHATEVER THE INPUT: true; the input reads as it did. -/
def fnRingCountSpec : ChangeSpec := { name := "fnRingCount", fn := fun _ => fun
  | [d] => { results := [.lit (.bool true)], args := [d] }
  | _ => none }
def fnRingCountRow : OpenClaim := { program := "ytmbfdjompgndiaa", sum := "5add41f5c97fdc6805824ec8e4cbfd5846e5372090263308c710f1ef52b6c03a", func := "loop.example/blockstack/laws.FnRingCount", spec := "fnRingCount", apart := false }
def FnRingCountSaid : Prop := fnRingCountRow.holds Try.pinned (OpenSpec.ofChange fnRingCountSpec)

/-- ITS FALSE NEIGHBOUR: 'it returns false'. Refute it at one input. -/
def fnRingCountWrong : ChangeSpec := { name := "fnRingCount", fn := fun _ => fun
  | [d] => { results := [.lit (.bool false)], args := [d] }
  | _ => none }
def FnRingCountWrongFalsely : Prop := fnRingCountRow.holds Try.pinned (OpenSpec.ofChange fnRingCountWrong)

/-- 'laws.FnRingPop': WHATEVER THE INPUT: true; the input reads as it did. -/
def fnRingPopSpec : ChangeSpec := { name := "fnRingPop", fn := fun _ => fun
  | [d] => { results := [.lit (.bool true)], args := [d] }
  | _ => none }
def fnRingPopRow : OpenClaim := { program := "ytmbfdjompgndiaa", sum := "5add41f5c97fdc6805824ec8e4cbfd5846e5372090263308c710f1ef52b6c03a", func := "loop.example/blockstack/laws.FnRingPop", spec := "fnRingPop", apart := false }
def FnRingPopSaid : Prop := fnRingPopRow.holds Try.pinned (OpenSpec.ofChange fnRingPopSpec)

/-- ITS FALSE NEIGHBOUR: 'it returns false'. Refute it at one input. -/
def fnRingPopWrong : ChangeSpec := { name := "fnRingPop", fn := fun _ => fun
  | [d] => { results := [.lit (.bool false)], args := [d] }
  | _ => none }
def FnRingPopWrongFalsely : Prop := fnRingPopRow.holds Try.pinned (OpenSpec.ofChange fnRingPopWrong)

/-- 'laws.FnRingList': WHATEVER THE INPUT: true; the input reads as it did. -/
def fnRingListSpec : ChangeSpec := { name := "fnRingList", fn := fun _ => fun
  | [d] => { results := [.lit (.bool true)], args := [d] }
  | _ => none }
def fnRingListRow : OpenClaim := { program := "ytmbfdjompgndiaa", sum := "5add41f5c97fdc6805824ec8e4cbfd5846e5372090263308c710f1ef52b6c03a", func := "loop.example/blockstack/laws.FnRingList", spec := "fnRingList", apart := false }
def FnRingListSaid : Prop := fnRingListRow.holds Try.pinned (OpenSpec.ofChange fnRingListSpec)

/-- ITS FALSE NEIGHBOUR: 'it returns false'. Refute it at one input. -/
def fnRingListWrong : ChangeSpec := { name := "fnRingList", fn := fun _ => fun
  | [d] => { results := [.lit (.bool false)], args := [d] }
  | _ => none }
def FnRingListWrongFalsely : Prop := fnRingListRow.holds Try.pinned (OpenSpec.ofChange fnRingListWrong)

/-- 'laws.FnRingPush': WHATEVER THE INPUT: true; the input reads as it did. -/
def fnRingPushSpec : ChangeSpec := { name := "fnRingPush", fn := fun _ => fun
  | [d] => { results := [.lit (.bool true)], args := [d] }
  | _ => none }
def fnRingPushRow : OpenClaim := { program := "ytmbfdjompgndiaa", sum := "5add41f5c97fdc6805824ec8e4cbfd5846e5372090263308c710f1ef52b6c03a", func := "loop.example/blockstack/laws.FnRingPush", spec := "fnRingPush", apart := false }
def FnRingPushSaid : Prop := fnRingPushRow.holds Try.pinned (OpenSpec.ofChange fnRingPushSpec)

/-- ITS FALSE NEIGHBOUR: 'it returns false'. Refute it at one input. -/
def fnRingPushWrong : ChangeSpec := { name := "fnRingPush", fn := fun _ => fun
  | [d] => { results := [.lit (.bool false)], args := [d] }
  | _ => none }
def FnRingPushWrongFalsely : Prop := fnRingPushRow.holds Try.pinned (OpenSpec.ofChange fnRingPushWrong)

/-- 'laws.FnRingTurn': WHATEVER THE INPUT: true; the input reads as it did. -/
def fnRingTurnSpec : ChangeSpec := { name := "fnRingTurn", fn := fun _ => fun
  | [d] => { results := [.lit (.bool true)], args := [d] }
  | _ => none }
def fnRingTurnRow : OpenClaim := { program := "ytmbfdjompgndiaa", sum := "5add41f5c97fdc6805824ec8e4cbfd5846e5372090263308c710f1ef52b6c03a", func := "loop.example/blockstack/laws.FnRingTurn", spec := "fnRingTurn", apart := false }
def FnRingTurnSaid : Prop := fnRingTurnRow.holds Try.pinned (OpenSpec.ofChange fnRingTurnSpec)

/-- ITS FALSE NEIGHBOUR: 'it returns false'. Refute it at one input. -/
def fnRingTurnWrong : ChangeSpec := { name := "fnRingTurn", fn := fun _ => fun
  | [d] => { results := [.lit (.bool false)], args := [d] }
  | _ => none }
def FnRingTurnWrongFalsely : Prop := fnRingTurnRow.holds Try.pinned (OpenSpec.ofChange fnRingTurnWrong)

/- THE SECOND FORM. 'bulk': how many values and letters a reading holds, each counted each time it is reached (what is shared counts as often as it is met; a slice's spare places count too). A statement '..UptoSaid' is the law's where the arguments, and the package variables that the reading takes, are together of bulk at most 1048576: NARROWER than '..Said'. Prove '..Said' where nothing that the law and all that it calls make is longer than what came in: it says more and counts as full. Else prove '..UptoSaid'. A law counts once. -/
mutual
def uptoBulk {H : Type} : DataW H → Nat
  | .lit (.string bytes) => bytes.length + 1
  | .lit _ => 1
  | .nil => 1
  | .ptr d => uptoBulk d + 1
  | .slice elems spare => uptoBulkAll elems + uptoBulkAll spare + 1
  | .agg parts => uptoBulkAll parts + 1
  | .iface _ d => uptoBulk d + 1
  | .map entries => uptoBulkEntries entries + 1
  | .held _ => 1
def uptoBulkAll {H : Type} : List (DataW H) → Nat
  | [] => 0
  | d :: r => uptoBulk d + uptoBulkAll r
def uptoBulkEntries {H : Type} : List (Lit × DataW H) → Nat
  | [] => 0
  | x :: r => uptoBulkEntry x + uptoBulkEntries r
def uptoBulkEntry {H : Type} : Lit × DataW H → Nat
  | (.string bytes, d) => bytes.length + uptoBulk d + 1
  | (_, d) => uptoBulk d + 1
 end
def uptoSmall : (H : Type) → List (DataW H) → Bool := fun _ ds => decide (uptoBulkAll ds ≤ 1048576)
def OpenSpec.upto (s : _root_.Go.ChangeSpec) : _root_.Go.OpenSpec := { _root_.Go.OpenSpec.ofChange s with cond := some uptoSmall }

/-- 'laws.FnExactRingValid', WHERE WHAT IT READS IS OF BULK AT MOST 1048576: true; the input reads as it did. -/
def fnExactRingValidUptoRow : OpenClaim := { program := "ytmbfdjompgndiaa", sum := "5add41f5c97fdc6805824ec8e4cbfd5846e5372090263308c710f1ef52b6c03a", func := "loop.example/blockstack/laws.FnExactRingValid", spec := "fnExactRingValid", apart := false, narrowed := true }
def FnExactRingValidUptoSaid : Prop := fnExactRingValidUptoRow.holds Try.pinned (OpenSpec.upto fnExactRingValidSpec)

/-- 'laws.FnExactNewRing', WHERE WHAT IT READS IS OF BULK AT MOST 1048576: true; the input reads as it did. -/
def fnExactNewRingUptoRow : OpenClaim := { program := "ytmbfdjompgndiaa", sum := "5add41f5c97fdc6805824ec8e4cbfd5846e5372090263308c710f1ef52b6c03a", func := "loop.example/blockstack/laws.FnExactNewRing", spec := "fnExactNewRing", apart := false, narrowed := true }
def FnExactNewRingUptoSaid : Prop := fnExactNewRingUptoRow.holds Try.pinned (OpenSpec.upto fnExactNewRingSpec)

/-- 'laws.FnExactRingCount', WHERE WHAT IT READS IS OF BULK AT MOST 1048576: true; the input reads as it did. -/
def fnExactRingCountUptoRow : OpenClaim := { program := "ytmbfdjompgndiaa", sum := "5add41f5c97fdc6805824ec8e4cbfd5846e5372090263308c710f1ef52b6c03a", func := "loop.example/blockstack/laws.FnExactRingCount", spec := "fnExactRingCount", apart := false, narrowed := true }
def FnExactRingCountUptoSaid : Prop := fnExactRingCountUptoRow.holds Try.pinned (OpenSpec.upto fnExactRingCountSpec)

/-- 'laws.FnRingValid', WHERE WHAT IT READS IS OF BULK AT MOST 1048576: true; the input reads as it did. -/
def fnRingValidUptoRow : OpenClaim := { program := "ytmbfdjompgndiaa", sum := "5add41f5c97fdc6805824ec8e4cbfd5846e5372090263308c710f1ef52b6c03a", func := "loop.example/blockstack/laws.FnRingValid", spec := "fnRingValid", apart := false, narrowed := true }
def FnRingValidUptoSaid : Prop := fnRingValidUptoRow.holds Try.pinned (OpenSpec.upto fnRingValidSpec)

/-- 'laws.FnNewRing', WHERE WHAT IT READS IS OF BULK AT MOST 1048576: true; the input reads as it did. -/
def fnNewRingUptoRow : OpenClaim := { program := "ytmbfdjompgndiaa", sum := "5add41f5c97fdc6805824ec8e4cbfd5846e5372090263308c710f1ef52b6c03a", func := "loop.example/blockstack/laws.FnNewRing", spec := "fnNewRing", apart := false, narrowed := true }
def FnNewRingUptoSaid : Prop := fnNewRingUptoRow.holds Try.pinned (OpenSpec.upto fnNewRingSpec)

/-- 'laws.FnExactRingList', WHERE WHAT IT READS IS OF BULK AT MOST 1048576: true; the input reads as it did. -/
def fnExactRingListUptoRow : OpenClaim := { program := "ytmbfdjompgndiaa", sum := "5add41f5c97fdc6805824ec8e4cbfd5846e5372090263308c710f1ef52b6c03a", func := "loop.example/blockstack/laws.FnExactRingList", spec := "fnExactRingList", apart := false, narrowed := true }
def FnExactRingListUptoSaid : Prop := fnExactRingListUptoRow.holds Try.pinned (OpenSpec.upto fnExactRingListSpec)

/-- 'laws.FnRingFull', WHERE WHAT IT READS IS OF BULK AT MOST 1048576: true; the input reads as it did. -/
def fnRingFullUptoRow : OpenClaim := { program := "ytmbfdjompgndiaa", sum := "5add41f5c97fdc6805824ec8e4cbfd5846e5372090263308c710f1ef52b6c03a", func := "loop.example/blockstack/laws.FnRingFull", spec := "fnRingFull", apart := false, narrowed := true }
def FnRingFullUptoSaid : Prop := fnRingFullUptoRow.holds Try.pinned (OpenSpec.upto fnRingFullSpec)

/-- 'laws.FnExactRingPop', WHERE WHAT IT READS IS OF BULK AT MOST 1048576: true; the input reads as it did. -/
def fnExactRingPopUptoRow : OpenClaim := { program := "ytmbfdjompgndiaa", sum := "5add41f5c97fdc6805824ec8e4cbfd5846e5372090263308c710f1ef52b6c03a", func := "loop.example/blockstack/laws.FnExactRingPop", spec := "fnExactRingPop", apart := false, narrowed := true }
def FnExactRingPopUptoSaid : Prop := fnExactRingPopUptoRow.holds Try.pinned (OpenSpec.upto fnExactRingPopSpec)

/-- 'laws.FnExactRingPush', WHERE WHAT IT READS IS OF BULK AT MOST 1048576: true; the input reads as it did. -/
def fnExactRingPushUptoRow : OpenClaim := { program := "ytmbfdjompgndiaa", sum := "5add41f5c97fdc6805824ec8e4cbfd5846e5372090263308c710f1ef52b6c03a", func := "loop.example/blockstack/laws.FnExactRingPush", spec := "fnExactRingPush", apart := false, narrowed := true }
def FnExactRingPushUptoSaid : Prop := fnExactRingPushUptoRow.holds Try.pinned (OpenSpec.upto fnExactRingPushSpec)

/-- 'laws.FnRingCount', WHERE WHAT IT READS IS OF BULK AT MOST 1048576: true; the input reads as it did. -/
def fnRingCountUptoRow : OpenClaim := { program := "ytmbfdjompgndiaa", sum := "5add41f5c97fdc6805824ec8e4cbfd5846e5372090263308c710f1ef52b6c03a", func := "loop.example/blockstack/laws.FnRingCount", spec := "fnRingCount", apart := false, narrowed := true }
def FnRingCountUptoSaid : Prop := fnRingCountUptoRow.holds Try.pinned (OpenSpec.upto fnRingCountSpec)

/-- 'laws.FnRingPop', WHERE WHAT IT READS IS OF BULK AT MOST 1048576: true; the input reads as it did. -/
def fnRingPopUptoRow : OpenClaim := { program := "ytmbfdjompgndiaa", sum := "5add41f5c97fdc6805824ec8e4cbfd5846e5372090263308c710f1ef52b6c03a", func := "loop.example/blockstack/laws.FnRingPop", spec := "fnRingPop", apart := false, narrowed := true }
def FnRingPopUptoSaid : Prop := fnRingPopUptoRow.holds Try.pinned (OpenSpec.upto fnRingPopSpec)

/-- 'laws.FnRingList', WHERE WHAT IT READS IS OF BULK AT MOST 1048576: true; the input reads as it did. -/
def fnRingListUptoRow : OpenClaim := { program := "ytmbfdjompgndiaa", sum := "5add41f5c97fdc6805824ec8e4cbfd5846e5372090263308c710f1ef52b6c03a", func := "loop.example/blockstack/laws.FnRingList", spec := "fnRingList", apart := false, narrowed := true }
def FnRingListUptoSaid : Prop := fnRingListUptoRow.holds Try.pinned (OpenSpec.upto fnRingListSpec)

/-- 'laws.FnRingPush', WHERE WHAT IT READS IS OF BULK AT MOST 1048576: true; the input reads as it did. -/
def fnRingPushUptoRow : OpenClaim := { program := "ytmbfdjompgndiaa", sum := "5add41f5c97fdc6805824ec8e4cbfd5846e5372090263308c710f1ef52b6c03a", func := "loop.example/blockstack/laws.FnRingPush", spec := "fnRingPush", apart := false, narrowed := true }
def FnRingPushUptoSaid : Prop := fnRingPushUptoRow.holds Try.pinned (OpenSpec.upto fnRingPushSpec)

/-- 'laws.FnRingTurn', WHERE WHAT IT READS IS OF BULK AT MOST 1048576: true; the input reads as it did. -/
def fnRingTurnUptoRow : OpenClaim := { program := "ytmbfdjompgndiaa", sum := "5add41f5c97fdc6805824ec8e4cbfd5846e5372090263308c710f1ef52b6c03a", func := "loop.example/blockstack/laws.FnRingTurn", spec := "fnRingTurn", apart := false, narrowed := true }
def FnRingTurnUptoSaid : Prop := fnRingTurnUptoRow.holds Try.pinned (OpenSpec.upto fnRingTurnSpec)

end Rows
end Go.Proofs.Ytmbfdjompgndiaa
