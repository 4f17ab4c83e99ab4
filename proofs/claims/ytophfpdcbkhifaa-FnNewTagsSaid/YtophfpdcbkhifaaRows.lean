/-
  No cell of these rows narrows 'for every input' (looked for: loops, veiled, ifaces, maps, wideKeys, modest, calm, conditions, laid).
  DERIVED. THE GIVEN ROWS OF THIS SEAT. 6 by the template 'for every input the law returns true; each argument reads behind the call as it read before'; 0 by the template 'total and deterministic' (their statements: YtophfpdcbkhifaaTotals.lean).
  GIVEN WITH THE SEED: the statements are not yours to turn. If you find one false, say at which input.
  Laid BY PROGRAM, IN A SANDBOX (cutbox-rows.mjs): the forced cells as the released guide's own fill.sh prints them over the translation 6eab7428f8f6e848… (all of the seat's roots in one cut). By AI agents, Wed Nov 11 2026. No macro, syntax, notation, axiom, sorry.
-/
import Derived.Test.YtophfpdcbkhifaaChecked
import GoSem.Claim
import GoSem.ClaimJoined
import GoSem.ClaimMapViews
import Derived.JoinedTies
import Derived.KernelRfl
namespace Go.Proofs.Ytophfpdcbkhifaa
/- THE CELL 'sum', in the pinned program and in every row, IS THE sha256 OF THE DUMP (.gsa) THAT YtophfpdcbkhifaaProg.lean LOADS. Nothing in Lean hashes anything: it is a label: what it is worth is what the hold of that sum in a sandbox is worth. -/
noncomputable def Try.pinned : Pinned := { name := "ytophfpdcbkhifaa", sum := "6eab7428f8f6e84889a044fda4702365f923c9cee14ec5221fbaeae3c95c14eb", checked := Try.checked }
namespace Rows
def none {H : Type} : Left H := { results := [], args := [] }

/-- 'laws.FnExactNewTags': WHATEVER THE INPUT: true; the input reads as it did. -/
def fnExactNewTagsSpec : ChangeSpec := { name := "fnExactNewTags", fn := fun _ => fun
  | [d] => { results := [.lit (.bool true)], args := [d] }
  | _ => none }
def fnExactNewTagsRow : OpenClaim := { program := "ytophfpdcbkhifaa", sum := "6eab7428f8f6e84889a044fda4702365f923c9cee14ec5221fbaeae3c95c14eb", func := "loop.example/blockstack/laws.FnExactNewTags", spec := "fnExactNewTags", apart := false }
def FnExactNewTagsSaid : Prop := fnExactNewTagsRow.holds Try.pinned (OpenSpec.ofChange fnExactNewTagsSpec)

/-- ITS FALSE NEIGHBOUR: 'it returns false'. Refute it at one input. -/
def fnExactNewTagsWrong : ChangeSpec := { name := "fnExactNewTags", fn := fun _ => fun
  | [d] => { results := [.lit (.bool false)], args := [d] }
  | _ => none }
def FnExactNewTagsWrongFalsely : Prop := fnExactNewTagsRow.holds Try.pinned (OpenSpec.ofChange fnExactNewTagsWrong)

/-- 'laws.FnExactTagsUsed': WHATEVER THE INPUT: true; the input reads as it did. -/
def fnExactTagsUsedSpec : ChangeSpec := { name := "fnExactTagsUsed", fn := fun _ => fun
  | [d] => { results := [.lit (.bool true)], args := [d] }
  | _ => none }
def fnExactTagsUsedRow : OpenClaim := { program := "ytophfpdcbkhifaa", sum := "6eab7428f8f6e84889a044fda4702365f923c9cee14ec5221fbaeae3c95c14eb", func := "loop.example/blockstack/laws.FnExactTagsUsed", spec := "fnExactTagsUsed", apart := false }
def FnExactTagsUsedSaid : Prop := fnExactTagsUsedRow.holds Try.pinned (OpenSpec.ofChange fnExactTagsUsedSpec)

/-- ITS FALSE NEIGHBOUR: 'it returns false'. Refute it at one input. -/
def fnExactTagsUsedWrong : ChangeSpec := { name := "fnExactTagsUsed", fn := fun _ => fun
  | [d] => { results := [.lit (.bool false)], args := [d] }
  | _ => none }
def FnExactTagsUsedWrongFalsely : Prop := fnExactTagsUsedRow.holds Try.pinned (OpenSpec.ofChange fnExactTagsUsedWrong)

/-- 'laws.FnTagsUsed': WHATEVER THE INPUT: true; the input reads as it did. -/
def fnTagsUsedSpec : ChangeSpec := { name := "fnTagsUsed", fn := fun _ => fun
  | [d] => { results := [.lit (.bool true)], args := [d] }
  | _ => none }
def fnTagsUsedRow : OpenClaim := { program := "ytophfpdcbkhifaa", sum := "6eab7428f8f6e84889a044fda4702365f923c9cee14ec5221fbaeae3c95c14eb", func := "loop.example/blockstack/laws.FnTagsUsed", spec := "fnTagsUsed", apart := false }
def FnTagsUsedSaid : Prop := fnTagsUsedRow.holds Try.pinned (OpenSpec.ofChange fnTagsUsedSpec)

/-- ITS FALSE NEIGHBOUR: 'it returns false'. Refute it at one input. -/
def fnTagsUsedWrong : ChangeSpec := { name := "fnTagsUsed", fn := fun _ => fun
  | [d] => { results := [.lit (.bool false)], args := [d] }
  | _ => none }
def FnTagsUsedWrongFalsely : Prop := fnTagsUsedRow.holds Try.pinned (OpenSpec.ofChange fnTagsUsedWrong)

/-- 'laws.FnNewTags': WHATEVER THE INPUT: true; the input reads as it did. -/
def fnNewTagsSpec : ChangeSpec := { name := "fnNewTags", fn := fun _ => fun
  | [d] => { results := [.lit (.bool true)], args := [d] }
  | _ => none }
def fnNewTagsRow : OpenClaim := { program := "ytophfpdcbkhifaa", sum := "6eab7428f8f6e84889a044fda4702365f923c9cee14ec5221fbaeae3c95c14eb", func := "loop.example/blockstack/laws.FnNewTags", spec := "fnNewTags", apart := false }
def FnNewTagsSaid : Prop := fnNewTagsRow.holds Try.pinned (OpenSpec.ofChange fnNewTagsSpec)

/-- ITS FALSE NEIGHBOUR: 'it returns false'. Refute it at one input. -/
def fnNewTagsWrong : ChangeSpec := { name := "fnNewTags", fn := fun _ => fun
  | [d] => { results := [.lit (.bool false)], args := [d] }
  | _ => none }
def FnNewTagsWrongFalsely : Prop := fnNewTagsRow.holds Try.pinned (OpenSpec.ofChange fnNewTagsWrong)

/-- 'laws.FnExactReturnTag': WHATEVER THE INPUT: true; the input reads as it did. -/
def fnExactReturnTagSpec : ChangeSpec := { name := "fnExactReturnTag", fn := fun _ => fun
  | [d1, d2] => { results := [.lit (.bool true)], args := [d1, d2] }
  | _ => none }
def fnExactReturnTagRow : OpenClaim := { program := "ytophfpdcbkhifaa", sum := "6eab7428f8f6e84889a044fda4702365f923c9cee14ec5221fbaeae3c95c14eb", func := "loop.example/blockstack/laws.FnExactReturnTag", spec := "fnExactReturnTag", apart := false }
def FnExactReturnTagSaid : Prop := fnExactReturnTagRow.holds Try.pinned (OpenSpec.ofChange fnExactReturnTagSpec)

/-- ITS FALSE NEIGHBOUR: 'it returns false'. Refute it at one input. -/
def fnExactReturnTagWrong : ChangeSpec := { name := "fnExactReturnTag", fn := fun _ => fun
  | [d1, d2] => { results := [.lit (.bool false)], args := [d1, d2] }
  | _ => none }
def FnExactReturnTagWrongFalsely : Prop := fnExactReturnTagRow.holds Try.pinned (OpenSpec.ofChange fnExactReturnTagWrong)

/-- 'laws.FnExactTakeTag': WHATEVER THE INPUT: true; the input reads as it did. -/
def fnExactTakeTagSpec : ChangeSpec := { name := "fnExactTakeTag", fn := fun _ => fun
  | [d] => { results := [.lit (.bool true)], args := [d] }
  | _ => none }
def fnExactTakeTagRow : OpenClaim := { program := "ytophfpdcbkhifaa", sum := "6eab7428f8f6e84889a044fda4702365f923c9cee14ec5221fbaeae3c95c14eb", func := "loop.example/blockstack/laws.FnExactTakeTag", spec := "fnExactTakeTag", apart := false }
def FnExactTakeTagSaid : Prop := fnExactTakeTagRow.holds Try.pinned (OpenSpec.ofChange fnExactTakeTagSpec)

/-- ITS FALSE NEIGHBOUR: 'it returns false'. Refute it at one input. -/
def fnExactTakeTagWrong : ChangeSpec := { name := "fnExactTakeTag", fn := fun _ => fun
  | [d] => { results := [.lit (.bool false)], args := [d] }
  | _ => none }
def FnExactTakeTagWrongFalsely : Prop := fnExactTakeTagRow.holds Try.pinned (OpenSpec.ofChange fnExactTakeTagWrong)

/- THE SECOND FORM. 'bulk': how many values and letters a reading holds, each counted each time it is reached (what is shared counts as often as it is met; a slice's spare places count too). A statement '..UptoSaid' is the law's where the arguments, and the package variables that the reading takes, are together of bulk at most 1048576: NARROWER than '..Said'. Prove '..Said' where nothing that the law and all that it calls make is longer than what came in: it says more and counts as full. Else prove '..UptoSaid'. A law counts once. -/
mutual
def uptoBulk {H : Type} : DataW H → Nat
  | .lit (.string bytes) => bytes.length + 1
  | .lit _ => 1
  | .nil => 1
  | .ptr d => uptoBulk d + 1
  | .slice elems spare => uptoBulkAll elems + uptoBulkAll spare + 1
  | .agg parts => uptoBulkAll parts + 1
  | .iface _ d => uptoBulk d + 1
  | .map entries => uptoBulkEntries entries + 1
  | .held _ => 1
def uptoBulkAll {H : Type} : List (DataW H) → Nat
  | [] => 0
  | d :: r => uptoBulk d + uptoBulkAll r
def uptoBulkEntries {H : Type} : List (Lit × DataW H) → Nat
  | [] => 0
  | x :: r => uptoBulkEntry x + uptoBulkEntries r
def uptoBulkEntry {H : Type} : Lit × DataW H → Nat
  | (.string bytes, d) => bytes.length + uptoBulk d + 1
  | (_, d) => uptoBulk d + 1
 end
def uptoSmall : (H : Type) → List (DataW H) → Bool := fun _ ds => decide (uptoBulkAll ds ≤ 1048576)
def OpenSpec.upto (s : _root_.Go.ChangeSpec) : _root_.Go.OpenSpec := { _root_.Go.OpenSpec.ofChange s with cond := some uptoSmall }

/-- 'laws.FnExactNewTags', WHERE WHAT IT READS IS OF BULK AT MOST 1048576: true; the input reads as it did. -/
def fnExactNewTagsUptoRow : OpenClaim := { program := "ytophfpdcbkhifaa", sum := "6eab7428f8f6e84889a044fda4702365f923c9cee14ec5221fbaeae3c95c14eb", func := "loop.example/blockstack/laws.FnExactNewTags", spec := "fnExactNewTags", apart := false, narrowed := true }
def FnExactNewTagsUptoSaid : Prop := fnExactNewTagsUptoRow.holds Try.pinned (OpenSpec.upto fnExactNewTagsSpec)

/-- 'laws.FnExactTagsUsed', WHERE WHAT IT READS IS OF BULK AT MOST 1048576: true; the input reads as it did. -/
def fnExactTagsUsedUptoRow : OpenClaim := { program := "ytophfpdcbkhifaa", sum := "6eab7428f8f6e84889a044fda4702365f923c9cee14ec5221fbaeae3c95c14eb", func := "loop.example/blockstack/laws.FnExactTagsUsed", spec := "fnExactTagsUsed", apart := false, narrowed := true }
def FnExactTagsUsedUptoSaid : Prop := fnExactTagsUsedUptoRow.holds Try.pinned (OpenSpec.upto fnExactTagsUsedSpec)

/-- 'laws.FnTagsUsed', WHERE WHAT IT READS IS OF BULK AT MOST 1048576: true; the input reads as it did. -/
def fnTagsUsedUptoRow : OpenClaim := { program := "ytophfpdcbkhifaa", sum := "6eab7428f8f6e84889a044fda4702365f923c9cee14ec5221fbaeae3c95c14eb", func := "loop.example/blockstack/laws.FnTagsUsed", spec := "fnTagsUsed", apart := false, narrowed := true }
def FnTagsUsedUptoSaid : Prop := fnTagsUsedUptoRow.holds Try.pinned (OpenSpec.upto fnTagsUsedSpec)

/-- 'laws.FnNewTags', WHERE WHAT IT READS IS OF BULK AT MOST 1048576: true; the input reads as it did. -/
def fnNewTagsUptoRow : OpenClaim := { program := "ytophfpdcbkhifaa", sum := "6eab7428f8f6e84889a044fda4702365f923c9cee14ec5221fbaeae3c95c14eb", func := "loop.example/blockstack/laws.FnNewTags", spec := "fnNewTags", apart := false, narrowed := true }
def FnNewTagsUptoSaid : Prop := fnNewTagsUptoRow.holds Try.pinned (OpenSpec.upto fnNewTagsSpec)

/-- 'laws.FnExactReturnTag', WHERE WHAT IT READS IS OF BULK AT MOST 1048576: true; the input reads as it did. -/
def fnExactReturnTagUptoRow : OpenClaim := { program := "ytophfpdcbkhifaa", sum := "6eab7428f8f6e84889a044fda4702365f923c9cee14ec5221fbaeae3c95c14eb", func := "loop.example/blockstack/laws.FnExactReturnTag", spec := "fnExactReturnTag", apart := false, narrowed := true }
def FnExactReturnTagUptoSaid : Prop := fnExactReturnTagUptoRow.holds Try.pinned (OpenSpec.upto fnExactReturnTagSpec)

/-- 'laws.FnExactTakeTag', WHERE WHAT IT READS IS OF BULK AT MOST 1048576: true; the input reads as it did. -/
def fnExactTakeTagUptoRow : OpenClaim := { program := "ytophfpdcbkhifaa", sum := "6eab7428f8f6e84889a044fda4702365f923c9cee14ec5221fbaeae3c95c14eb", func := "loop.example/blockstack/laws.FnExactTakeTag", spec := "fnExactTakeTag", apart := false, narrowed := true }
def FnExactTakeTagUptoSaid : Prop := fnExactTakeTagUptoRow.holds Try.pinned (OpenSpec.upto fnExactTakeTagSpec)

end Rows
end Go.Proofs.Ytophfpdcbkhifaa
