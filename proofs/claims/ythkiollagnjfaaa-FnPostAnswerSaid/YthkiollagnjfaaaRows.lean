/-
  No cell of these rows narrows 'for every input' (looked for: loops, veiled, ifaces, maps, wideKeys, modest, calm, conditions, laid).
  DERIVED. THE GIVEN ROWS OF THIS SEAT. 9 by the template 'for every input the law returns true; each argument reads behind the call as it read before'; 0 by the template 'total and deterministic' (their statements: YthkiollagnjfaaaTotals.lean).
  GIVEN WITH THE SEED: the statements are not yours to turn. If you find one false, say at which input.
  Laid BY PROGRAM, IN A SANDBOX (cutbox-rows.mjs): the forced cells as the released guide's own fill.sh prints them over the translation e892b86020869865… (all of the seat's roots in one cut). By AI agents, Wed Nov 11 2026. No macro, syntax, notation, axiom, sorry.
-/
import Derived.Test.YthkiollagnjfaaaChecked
import GoSem.Claim
import GoSem.ClaimJoined
import GoSem.ClaimMapViews
import Derived.JoinedTies
import Derived.KernelRfl
namespace Go.Proofs.Ythkiollagnjfaaa
/- THE CELL 'sum', in the pinned program and in every row, IS THE sha256 OF THE DUMP (.gsa) THAT YthkiollagnjfaaaProg.lean LOADS. Nothing in Lean hashes anything: it is a label: what it is worth is what the hold of that sum in a sandbox is worth. -/
noncomputable def Try.pinned : Pinned := { name := "ythkiollagnjfaaa", sum := "e892b86020869865e104d022237dbe2b09fd629d8c682610f5135dc8973178f3", checked := Try.checked }
namespace Rows
def none {H : Type} : Left H := { results := [], args := [] }

/-- 'laws.FnExactNewAnswers': WHATEVER THE INPUT: true; the input reads as it did. -/
def fnExactNewAnswersSpec : ChangeSpec := { name := "fnExactNewAnswers", fn := fun _ => fun
  | [d] => { results := [.lit (.bool true)], args := [d] }
  | _ => none }
def fnExactNewAnswersRow : OpenClaim := { program := "ythkiollagnjfaaa", sum := "e892b86020869865e104d022237dbe2b09fd629d8c682610f5135dc8973178f3", func := "loop.example/blockstack/laws.FnExactNewAnswers", spec := "fnExactNewAnswers", apart := false }
def FnExactNewAnswersSaid : Prop := fnExactNewAnswersRow.holds Try.pinned (OpenSpec.ofChange fnExactNewAnswersSpec)

/-- ITS FALSE NEIGHBOUR: 'it returns false'. Refute it at one input. -/
def fnExactNewAnswersWrong : ChangeSpec := { name := "fnExactNewAnswers", fn := fun _ => fun
  | [d] => { results := [.lit (.bool false)], args := [d] }
  | _ => none }
def FnExactNewAnswersWrongFalsely : Prop := fnExactNewAnswersRow.holds Try.pinned (OpenSpec.ofChange fnExactNewAnswersWrong)

/-- 'laws.FnExactAnswersValid': WHATEVER THE INPUT: true; the input reads as it did. -/
def fnExactAnswersValidSpec : ChangeSpec := { name := "fnExactAnswersValid", fn := fun _ => fun
  | [d] => { results := [.lit (.bool true)], args := [d] }
  | _ => none }
def fnExactAnswersValidRow : OpenClaim := { program := "ythkiollagnjfaaa", sum := "e892b86020869865e104d022237dbe2b09fd629d8c682610f5135dc8973178f3", func := "loop.example/blockstack/laws.FnExactAnswersValid", spec := "fnExactAnswersValid", apart := false }
def FnExactAnswersValidSaid : Prop := fnExactAnswersValidRow.holds Try.pinned (OpenSpec.ofChange fnExactAnswersValidSpec)

/-- ITS FALSE NEIGHBOUR: 'it returns false'. Refute it at one input. -/
def fnExactAnswersValidWrong : ChangeSpec := { name := "fnExactAnswersValid", fn := fun _ => fun
  | [d] => { results := [.lit (.bool false)], args := [d] }
  | _ => none }
def FnExactAnswersValidWrongFalsely : Prop := fnExactAnswersValidRow.holds Try.pinned (OpenSpec.ofChange fnExactAnswersValidWrong)

/-- 'laws.FnNewAnswers': WHATEVER THE INPUT: true; the input reads as it did. -/
def fnNewAnswersSpec : ChangeSpec := { name := "fnNewAnswers", fn := fun _ => fun
  | [d] => { results := [.lit (.bool true)], args := [d] }
  | _ => none }
def fnNewAnswersRow : OpenClaim := { program := "ythkiollagnjfaaa", sum := "e892b86020869865e104d022237dbe2b09fd629d8c682610f5135dc8973178f3", func := "loop.example/blockstack/laws.FnNewAnswers", spec := "fnNewAnswers", apart := false }
def FnNewAnswersSaid : Prop := fnNewAnswersRow.holds Try.pinned (OpenSpec.ofChange fnNewAnswersSpec)

/-- ITS FALSE NEIGHBOUR: 'it returns false'. Refute it at one input. -/
def fnNewAnswersWrong : ChangeSpec := { name := "fnNewAnswers", fn := fun _ => fun
  | [d] => { results := [.lit (.bool false)], args := [d] }
  | _ => none }
def FnNewAnswersWrongFalsely : Prop := fnNewAnswersRow.holds Try.pinned (OpenSpec.ofChange fnNewAnswersWrong)

/-- 'laws.FnAnswersValid': WHATEVER THE INPUT: true; the input reads as it did. -/
def fnAnswersValidSpec : ChangeSpec := { name := "fnAnswersValid", fn := fun _ => fun
  | [d] => { results := [.lit (.bool true)], args := [d] }
  | _ => none }
def fnAnswersValidRow : OpenClaim := { program := "ythkiollagnjfaaa", sum := "e892b86020869865e104d022237dbe2b09fd629d8c682610f5135dc8973178f3", func := "loop.example/blockstack/laws.FnAnswersValid", spec := "fnAnswersValid", apart := false }
def FnAnswersValidSaid : Prop := fnAnswersValidRow.holds Try.pinned (OpenSpec.ofChange fnAnswersValidSpec)

/-- ITS FALSE NEIGHBOUR: 'it returns false'. Refute it at one input. -/
def fnAnswersValidWrong : ChangeSpec := { name := "fnAnswersValid", fn := fun _ => fun
  | [d] => { results := [.lit (.bool false)], args := [d] }
  | _ => none }
def FnAnswersValidWrongFalsely : Prop := fnAnswersValidRow.holds Try.pinned (OpenSpec.ofChange fnAnswersValidWrong)

/-- 'laws.FnTakeAnswer': WHATEVER THE INPUT: true; the input reads as it did. -/
def fnTakeAnswerSpec : ChangeSpec := { name := "fnTakeAnswer", fn := fun _ => fun
  | [d] => { results := [.lit (.bool true)], args := [d] }
  | _ => none }
def fnTakeAnswerRow : OpenClaim := { program := "ythkiollagnjfaaa", sum := "e892b86020869865e104d022237dbe2b09fd629d8c682610f5135dc8973178f3", func := "loop.example/blockstack/laws.FnTakeAnswer", spec := "fnTakeAnswer", apart := false }
def FnTakeAnswerSaid : Prop := fnTakeAnswerRow.holds Try.pinned (OpenSpec.ofChange fnTakeAnswerSpec)

/-- ITS FALSE NEIGHBOUR: 'it returns false'. Refute it at one input. -/
def fnTakeAnswerWrong : ChangeSpec := { name := "fnTakeAnswer", fn := fun _ => fun
  | [d] => { results := [.lit (.bool false)], args := [d] }
  | _ => none }
def FnTakeAnswerWrongFalsely : Prop := fnTakeAnswerRow.holds Try.pinned (OpenSpec.ofChange fnTakeAnswerWrong)

/-- 'laws.FnExactTakeAnswer': WHATEVER THE INPUT: true; the input reads as it did. -/
def fnExactTakeAnswerSpec : ChangeSpec := { name := "fnExactTakeAnswer", fn := fun _ => fun
  | [d] => { results := [.lit (.bool true)], args := [d] }
  | _ => none }
def fnExactTakeAnswerRow : OpenClaim := { program := "ythkiollagnjfaaa", sum := "e892b86020869865e104d022237dbe2b09fd629d8c682610f5135dc8973178f3", func := "loop.example/blockstack/laws.FnExactTakeAnswer", spec := "fnExactTakeAnswer", apart := false }
def FnExactTakeAnswerSaid : Prop := fnExactTakeAnswerRow.holds Try.pinned (OpenSpec.ofChange fnExactTakeAnswerSpec)

/-- ITS FALSE NEIGHBOUR: 'it returns false'. Refute it at one input. -/
def fnExactTakeAnswerWrong : ChangeSpec := { name := "fnExactTakeAnswer", fn := fun _ => fun
  | [d] => { results := [.lit (.bool false)], args := [d] }
  | _ => none }
def FnExactTakeAnswerWrongFalsely : Prop := fnExactTakeAnswerRow.holds Try.pinned (OpenSpec.ofChange fnExactTakeAnswerWrong)

/-- 'laws.FnExactPostAnswer': WHATEVER THE INPUT: true; the input reads as it did. -/
def fnExactPostAnswerSpec : ChangeSpec := { name := "fnExactPostAnswer", fn := fun _ => fun
  | [d1, d2] => { results := [.lit (.bool true)], args := [d1, d2] }
  | _ => none }
def fnExactPostAnswerRow : OpenClaim := { program := "ythkiollagnjfaaa", sum := "e892b86020869865e104d022237dbe2b09fd629d8c682610f5135dc8973178f3", func := "loop.example/blockstack/laws.FnExactPostAnswer", spec := "fnExactPostAnswer", apart := false }
def FnExactPostAnswerSaid : Prop := fnExactPostAnswerRow.holds Try.pinned (OpenSpec.ofChange fnExactPostAnswerSpec)

/-- ITS FALSE NEIGHBOUR: 'it returns false'. Refute it at one input. -/
def fnExactPostAnswerWrong : ChangeSpec := { name := "fnExactPostAnswer", fn := fun _ => fun
  | [d1, d2] => { results := [.lit (.bool false)], args := [d1, d2] }
  | _ => none }
def FnExactPostAnswerWrongFalsely : Prop := fnExactPostAnswerRow.holds Try.pinned (OpenSpec.ofChange fnExactPostAnswerWrong)

/-- 'laws.FnAnswersLap': WHATEVER THE INPUT: true; the input reads as it did. -/
def fnAnswersLapSpec : ChangeSpec := { name := "fnAnswersLap", fn := fun _ => fun
  | [d] => { results := [.lit (.bool true)], args := [d] }
  | _ => none }
def fnAnswersLapRow : OpenClaim := { program := "ythkiollagnjfaaa", sum := "e892b86020869865e104d022237dbe2b09fd629d8c682610f5135dc8973178f3", func := "loop.example/blockstack/laws.FnAnswersLap", spec := "fnAnswersLap", apart := false }
def FnAnswersLapSaid : Prop := fnAnswersLapRow.holds Try.pinned (OpenSpec.ofChange fnAnswersLapSpec)

/-- ITS FALSE NEIGHBOUR: 'it returns false'. Refute it at one input. -/
def fnAnswersLapWrong : ChangeSpec := { name := "fnAnswersLap", fn := fun _ => fun
  | [d] => { results := [.lit (.bool false)], args := [d] }
  | _ => none }
def FnAnswersLapWrongFalsely : Prop := fnAnswersLapRow.holds Try.pinned (OpenSpec.ofChange fnAnswersLapWrong)

/-- 'laws.FnPostAnswer': WHATEVER THE INPUT: true; the input reads as it did. -/
def fnPostAnswerSpec : ChangeSpec := { name := "fnPostAnswer", fn := fun _ => fun
  | [d] => { results := [.lit (.bool true)], args := [d] }
  | _ => none }
def fnPostAnswerRow : OpenClaim := { program := "ythkiollagnjfaaa", sum := "e892b86020869865e104d022237dbe2b09fd629d8c682610f5135dc8973178f3", func := "loop.example/blockstack/laws.FnPostAnswer", spec := "fnPostAnswer", apart := false }
def FnPostAnswerSaid : Prop := fnPostAnswerRow.holds Try.pinned (OpenSpec.ofChange fnPostAnswerSpec)

/-- ITS FALSE NEIGHBOUR: 'it returns false'. Refute it at one input. -/
def fnPostAnswerWrong : ChangeSpec := { name := "fnPostAnswer", fn := fun _ => fun
  | [d] => { results := [.lit (.bool false)], args := [d] }
  | _ => none }
def FnPostAnswerWrongFalsely : Prop := fnPostAnswerRow.holds Try.pinned (OpenSpec.ofChange fnPostAnswerWrong)

/- THE SECOND FORM. 'bulk': how many values and letters a reading holds, each counted each time it is reached (what is shared counts as often as it is met; a slice's spare places count too). A statement '..UptoSaid' is the law's where the arguments, and the package variables that the reading takes, are together of bulk at most 1048576: NARROWER than '..Said'. Prove '..Said' where nothing that the law and all that it calls make is longer than what came in: it says more and counts as full. Else prove '..UptoSaid'. A law counts once. -/
mutual
def uptoBulk {H : Type} : DataW H → Nat
  | .lit (.string bytes) => bytes.length + 1
  | .lit _ => 1
  | .nil => 1
  | .ptr d => uptoBulk d + 1
  | .slice elems spare => uptoBulkAll elems + uptoBulkAll spare + 1
  | .agg parts => uptoBulkAll parts + 1
  | .iface _ d => uptoBulk d + 1
  | .map entries => uptoBulkEntries entries + 1
  | .held _ => 1
def uptoBulkAll {H : Type} : List (DataW H) → Nat
  | [] => 0
  | d :: r => uptoBulk d + uptoBulkAll r
def uptoBulkEntries {H : Type} : List (Lit × DataW H) → Nat
  | [] => 0
  | x :: r => uptoBulkEntry x + uptoBulkEntries r
def uptoBulkEntry {H : Type} : Lit × DataW H → Nat
  | (.string bytes, d) => bytes.length + uptoBulk d + 1
  | (_, d) => uptoBulk d + 1
 end
def uptoSmall : (H : Type) → List (DataW H) → Bool := fun _ ds => decide (uptoBulkAll ds ≤ 1048576)
def OpenSpec.upto (s : _root_.Go.ChangeSpec) : _root_.Go.OpenSpec := { _root_.Go.OpenSpec.ofChange s with cond := some uptoSmall }

/-- 'laws.FnExactNewAnswers', WHERE WHAT IT READS IS OF BULK AT MOST 1048576: true; the input reads as it did. -/
def fnExactNewAnswersUptoRow : OpenClaim := { program := "ythkiollagnjfaaa", sum := "e892b86020869865e104d022237dbe2b09fd629d8c682610f5135dc8973178f3", func := "loop.example/blockstack/laws.FnExactNewAnswers", spec := "fnExactNewAnswers", apart := false, narrowed := true }
def FnExactNewAnswersUptoSaid : Prop := fnExactNewAnswersUptoRow.holds Try.pinned (OpenSpec.upto fnExactNewAnswersSpec)

/-- 'laws.FnExactAnswersValid', WHERE WHAT IT READS IS OF BULK AT MOST 1048576: true; the input reads as it did. -/
def fnExactAnswersValidUptoRow : OpenClaim := { program := "ythkiollagnjfaaa", sum := "e892b86020869865e104d022237dbe2b09fd629d8c682610f5135dc8973178f3", func := "loop.example/blockstack/laws.FnExactAnswersValid", spec := "fnExactAnswersValid", apart := false, narrowed := true }
def FnExactAnswersValidUptoSaid : Prop := fnExactAnswersValidUptoRow.holds Try.pinned (OpenSpec.upto fnExactAnswersValidSpec)

/-- 'laws.FnNewAnswers', WHERE WHAT IT READS IS OF BULK AT MOST 1048576: true; the input reads as it did. -/
def fnNewAnswersUptoRow : OpenClaim := { program := "ythkiollagnjfaaa", sum := "e892b86020869865e104d022237dbe2b09fd629d8c682610f5135dc8973178f3", func := "loop.example/blockstack/laws.FnNewAnswers", spec := "fnNewAnswers", apart := false, narrowed := true }
def FnNewAnswersUptoSaid : Prop := fnNewAnswersUptoRow.holds Try.pinned (OpenSpec.upto fnNewAnswersSpec)

/-- 'laws.FnAnswersValid', WHERE WHAT IT READS IS OF BULK AT MOST 1048576: true; the input reads as it did. -/
def fnAnswersValidUptoRow : OpenClaim := { program := "ythkiollagnjfaaa", sum := "e892b86020869865e104d022237dbe2b09fd629d8c682610f5135dc8973178f3", func := "loop.example/blockstack/laws.FnAnswersValid", spec := "fnAnswersValid", apart := false, narrowed := true }
def FnAnswersValidUptoSaid : Prop := fnAnswersValidUptoRow.holds Try.pinned (OpenSpec.upto fnAnswersValidSpec)

/-- 'laws.FnTakeAnswer', WHERE WHAT IT READS IS OF BULK AT MOST 1048576: true; the input reads as it did. -/
def fnTakeAnswerUptoRow : OpenClaim := { program := "ythkiollagnjfaaa", sum := "e892b86020869865e104d022237dbe2b09fd629d8c682610f5135dc8973178f3", func := "loop.example/blockstack/laws.FnTakeAnswer", spec := "fnTakeAnswer", apart := false, narrowed := true }
def FnTakeAnswerUptoSaid : Prop := fnTakeAnswerUptoRow.holds Try.pinned (OpenSpec.upto fnTakeAnswerSpec)

/-- 'laws.FnExactTakeAnswer', WHERE WHAT IT READS IS OF BULK AT MOST 1048576: true; the input reads as it did. -/
def fnExactTakeAnswerUptoRow : OpenClaim := { program := "ythkiollagnjfaaa", sum := "e892b86020869865e104d022237dbe2b09fd629d8c682610f5135dc8973178f3", func := "loop.example/blockstack/laws.FnExactTakeAnswer", spec := "fnExactTakeAnswer", apart := false, narrowed := true }
def FnExactTakeAnswerUptoSaid : Prop := fnExactTakeAnswerUptoRow.holds Try.pinned (OpenSpec.upto fnExactTakeAnswerSpec)

/-- 'laws.FnExactPostAnswer', WHERE WHAT IT READS IS OF BULK AT MOST 1048576: true; the input reads as it did. -/
def fnExactPostAnswerUptoRow : OpenClaim := { program := "ythkiollagnjfaaa", sum := "e892b86020869865e104d022237dbe2b09fd629d8c682610f5135dc8973178f3", func := "loop.example/blockstack/laws.FnExactPostAnswer", spec := "fnExactPostAnswer", apart := false, narrowed := true }
def FnExactPostAnswerUptoSaid : Prop := fnExactPostAnswerUptoRow.holds Try.pinned (OpenSpec.upto fnExactPostAnswerSpec)

/-- 'laws.FnAnswersLap', WHERE WHAT IT READS IS OF BULK AT MOST 1048576: true; the input reads as it did. -/
def fnAnswersLapUptoRow : OpenClaim := { program := "ythkiollagnjfaaa", sum := "e892b86020869865e104d022237dbe2b09fd629d8c682610f5135dc8973178f3", func := "loop.example/blockstack/laws.FnAnswersLap", spec := "fnAnswersLap", apart := false, narrowed := true }
def FnAnswersLapUptoSaid : Prop := fnAnswersLapUptoRow.holds Try.pinned (OpenSpec.upto fnAnswersLapSpec)

/-- 'laws.FnPostAnswer', WHERE WHAT IT READS IS OF BULK AT MOST 1048576: true; the input reads as it did. -/
def fnPostAnswerUptoRow : OpenClaim := { program := "ythkiollagnjfaaa", sum := "e892b86020869865e104d022237dbe2b09fd629d8c682610f5135dc8973178f3", func := "loop.example/blockstack/laws.FnPostAnswer", spec := "fnPostAnswer", apart := false, narrowed := true }
def FnPostAnswerUptoSaid : Prop := fnPostAnswerUptoRow.holds Try.pinned (OpenSpec.upto fnPostAnswerSpec)

end Rows
end Go.Proofs.Ythkiollagnjfaaa
