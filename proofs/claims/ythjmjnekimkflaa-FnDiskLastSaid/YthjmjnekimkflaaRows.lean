/-
  No cell of these rows narrows 'for every input' (looked for: loops, veiled, ifaces, maps, wideKeys, modest, calm, conditions, laid).
  DERIVED. THE GIVEN ROWS OF THIS SEAT. 10 by the template 'for every input the law returns true; each argument reads behind the call as it read before'; 0 by the template 'total and deterministic' (their statements: YthjmjnekimkflaaTotals.lean).
  GIVEN WITH THE SEED: the statements are not yours to turn. If you find one false, say at which input.
  Laid BY PROGRAM, IN A SANDBOX (cutbox-rows.mjs): the forced cells as the released guide's own fill.sh prints them over the translation 395e1358f4df9d82… (all of the seat's roots in one cut). By AI agents, Wed Nov 11 2026. No macro, syntax, notation, axiom, sorry.
-/
import Derived.Test.YthjmjnekimkflaaChecked
import GoSem.Claim
import GoSem.ClaimJoined
import GoSem.ClaimMapViews
import Derived.JoinedTies
import Derived.KernelRfl
namespace Go.Proofs.Ythjmjnekimkflaa
/- THE CELL 'sum', in the pinned program and in every row, IS THE sha256 OF THE DUMP (.gsa) THAT YthjmjnekimkflaaProg.lean LOADS. Nothing in Lean hashes anything: it is a label: what it is worth is what the hold of that sum in a sandbox is worth. -/
noncomputable def Try.pinned : Pinned := { name := "ythjmjnekimkflaa", sum := "395e1358f4df9d820b1e727e6e49271b14ac1c8f9b153689965223576af98f71", checked := Try.checked }
namespace Rows
def none {H : Type} : Left H := { results := [], args := [] }

/-- 'laws.FnExactConstants': WHATEVER THE INPUT: true; the input reads as it did. -/
def fnExactConstantsSpec : ChangeSpec := { name := "fnExactConstants", fn := fun _ => fun
  | [] => { results := [.lit (.bool true)], args := [] }
  | _ => none }
def fnExactConstantsRow : OpenClaim := { program := "ythjmjnekimkflaa", sum := "395e1358f4df9d820b1e727e6e49271b14ac1c8f9b153689965223576af98f71", func := "loop.example/blockstack/laws.FnExactConstants", spec := "fnExactConstants", apart := false }
def FnExactConstantsSaid : Prop := fnExactConstantsRow.holds Try.pinned (OpenSpec.ofChange fnExactConstantsSpec)

/-- ITS FALSE NEIGHBOUR: 'it returns false'. Refute it at one input. -/
def fnExactConstantsWrong : ChangeSpec := { name := "fnExactConstants", fn := fun _ => fun
  | [] => { results := [.lit (.bool false)], args := [] }
  | _ => none }
def FnExactConstantsWrongFalsely : Prop := fnExactConstantsRow.holds Try.pinned (OpenSpec.ofChange fnExactConstantsWrong)

/-- 'laws.FnExactDiskValid': WHATEVER THE INPUT: true; the input reads as it did. -/
def fnExactDiskValidSpec : ChangeSpec := { name := "fnExactDiskValid", fn := fun _ => fun
  | [d] => { results := [.lit (.bool true)], args := [d] }
  | _ => none }
def fnExactDiskValidRow : OpenClaim := { program := "ythjmjnekimkflaa", sum := "395e1358f4df9d820b1e727e6e49271b14ac1c8f9b153689965223576af98f71", func := "loop.example/blockstack/laws.FnExactDiskValid", spec := "fnExactDiskValid", apart := false }
def FnExactDiskValidSaid : Prop := fnExactDiskValidRow.holds Try.pinned (OpenSpec.ofChange fnExactDiskValidSpec)

/-- ITS FALSE NEIGHBOUR: 'it returns false'. Refute it at one input. -/
def fnExactDiskValidWrong : ChangeSpec := { name := "fnExactDiskValid", fn := fun _ => fun
  | [d] => { results := [.lit (.bool false)], args := [d] }
  | _ => none }
def FnExactDiskValidWrongFalsely : Prop := fnExactDiskValidRow.holds Try.pinned (OpenSpec.ofChange fnExactDiskValidWrong)

/-- 'laws.FnExactDiskSum': WHATEVER THE INPUT: true; the input reads as it did. -/
def fnExactDiskSumSpec : ChangeSpec := { name := "fnExactDiskSum", fn := fun _ => fun
  | [d] => { results := [.lit (.bool true)], args := [d] }
  | _ => none }
def fnExactDiskSumRow : OpenClaim := { program := "ythjmjnekimkflaa", sum := "395e1358f4df9d820b1e727e6e49271b14ac1c8f9b153689965223576af98f71", func := "loop.example/blockstack/laws.FnExactDiskSum", spec := "fnExactDiskSum", apart := false }
def FnExactDiskSumSaid : Prop := fnExactDiskSumRow.holds Try.pinned (OpenSpec.ofChange fnExactDiskSumSpec)

/-- ITS FALSE NEIGHBOUR: 'it returns false'. Refute it at one input. -/
def fnExactDiskSumWrong : ChangeSpec := { name := "fnExactDiskSum", fn := fun _ => fun
  | [d] => { results := [.lit (.bool false)], args := [d] }
  | _ => none }
def FnExactDiskSumWrongFalsely : Prop := fnExactDiskSumRow.holds Try.pinned (OpenSpec.ofChange fnExactDiskSumWrong)

/-- 'laws.FnDiskValid': WHATEVER THE INPUT: true; the input reads as it did. -/
def fnDiskValidSpec : ChangeSpec := { name := "fnDiskValid", fn := fun _ => fun
  | [d] => { results := [.lit (.bool true)], args := [d] }
  | _ => none }
def fnDiskValidRow : OpenClaim := { program := "ythjmjnekimkflaa", sum := "395e1358f4df9d820b1e727e6e49271b14ac1c8f9b153689965223576af98f71", func := "loop.example/blockstack/laws.FnDiskValid", spec := "fnDiskValid", apart := false }
def FnDiskValidSaid : Prop := fnDiskValidRow.holds Try.pinned (OpenSpec.ofChange fnDiskValidSpec)

/-- ITS FALSE NEIGHBOUR: 'it returns false'. Refute it at one input. -/
def fnDiskValidWrong : ChangeSpec := { name := "fnDiskValid", fn := fun _ => fun
  | [d] => { results := [.lit (.bool false)], args := [d] }
  | _ => none }
def FnDiskValidWrongFalsely : Prop := fnDiskValidRow.holds Try.pinned (OpenSpec.ofChange fnDiskValidWrong)

/-- 'laws.FnExactReadSectors': WHATEVER THE INPUT: true; the input reads as it did. -/
def fnExactReadSectorsSpec : ChangeSpec := { name := "fnExactReadSectors", fn := fun _ => fun
  | [d1, d2, d3] => { results := [.lit (.bool true)], args := [d1, d2, d3] }
  | _ => none }
def fnExactReadSectorsRow : OpenClaim := { program := "ythjmjnekimkflaa", sum := "395e1358f4df9d820b1e727e6e49271b14ac1c8f9b153689965223576af98f71", func := "loop.example/blockstack/laws.FnExactReadSectors", spec := "fnExactReadSectors", apart := false }
def FnExactReadSectorsSaid : Prop := fnExactReadSectorsRow.holds Try.pinned (OpenSpec.ofChange fnExactReadSectorsSpec)

/-- ITS FALSE NEIGHBOUR: 'it returns false'. Refute it at one input. -/
def fnExactReadSectorsWrong : ChangeSpec := { name := "fnExactReadSectors", fn := fun _ => fun
  | [d1, d2, d3] => { results := [.lit (.bool false)], args := [d1, d2, d3] }
  | _ => none }
def FnExactReadSectorsWrongFalsely : Prop := fnExactReadSectorsRow.holds Try.pinned (OpenSpec.ofChange fnExactReadSectorsWrong)

/-- 'laws.FnDiskSum': WHATEVER THE INPUT: true; the input reads as it did. -/
def fnDiskSumSpec : ChangeSpec := { name := "fnDiskSum", fn := fun _ => fun
  | [d] => { results := [.lit (.bool true)], args := [d] }
  | _ => none }
def fnDiskSumRow : OpenClaim := { program := "ythjmjnekimkflaa", sum := "395e1358f4df9d820b1e727e6e49271b14ac1c8f9b153689965223576af98f71", func := "loop.example/blockstack/laws.FnDiskSum", spec := "fnDiskSum", apart := false }
def FnDiskSumSaid : Prop := fnDiskSumRow.holds Try.pinned (OpenSpec.ofChange fnDiskSumSpec)

/-- ITS FALSE NEIGHBOUR: 'it returns false'. Refute it at one input. -/
def fnDiskSumWrong : ChangeSpec := { name := "fnDiskSum", fn := fun _ => fun
  | [d] => { results := [.lit (.bool false)], args := [d] }
  | _ => none }
def FnDiskSumWrongFalsely : Prop := fnDiskSumRow.holds Try.pinned (OpenSpec.ofChange fnDiskSumWrong)

/-- 'laws.FnExactWriteSectors': WHATEVER THE INPUT: true; the input reads as it did. -/
def fnExactWriteSectorsSpec : ChangeSpec := { name := "fnExactWriteSectors", fn := fun _ => fun
  | [d1, d2, d3] => { results := [.lit (.bool true)], args := [d1, d2, d3] }
  | _ => none }
def fnExactWriteSectorsRow : OpenClaim := { program := "ythjmjnekimkflaa", sum := "395e1358f4df9d820b1e727e6e49271b14ac1c8f9b153689965223576af98f71", func := "loop.example/blockstack/laws.FnExactWriteSectors", spec := "fnExactWriteSectors", apart := false }
def FnExactWriteSectorsSaid : Prop := fnExactWriteSectorsRow.holds Try.pinned (OpenSpec.ofChange fnExactWriteSectorsSpec)

/-- ITS FALSE NEIGHBOUR: 'it returns false'. Refute it at one input. -/
def fnExactWriteSectorsWrong : ChangeSpec := { name := "fnExactWriteSectors", fn := fun _ => fun
  | [d1, d2, d3] => { results := [.lit (.bool false)], args := [d1, d2, d3] }
  | _ => none }
def FnExactWriteSectorsWrongFalsely : Prop := fnExactWriteSectorsRow.holds Try.pinned (OpenSpec.ofChange fnExactWriteSectorsWrong)

/-- 'laws.FnReadSectors': WHATEVER THE INPUT: true; the input reads as it did. -/
def fnReadSectorsSpec : ChangeSpec := { name := "fnReadSectors", fn := fun _ => fun
  | [d] => { results := [.lit (.bool true)], args := [d] }
  | _ => none }
def fnReadSectorsRow : OpenClaim := { program := "ythjmjnekimkflaa", sum := "395e1358f4df9d820b1e727e6e49271b14ac1c8f9b153689965223576af98f71", func := "loop.example/blockstack/laws.FnReadSectors", spec := "fnReadSectors", apart := false }
def FnReadSectorsSaid : Prop := fnReadSectorsRow.holds Try.pinned (OpenSpec.ofChange fnReadSectorsSpec)

/-- ITS FALSE NEIGHBOUR: 'it returns false'. Refute it at one input. -/
def fnReadSectorsWrong : ChangeSpec := { name := "fnReadSectors", fn := fun _ => fun
  | [d] => { results := [.lit (.bool false)], args := [d] }
  | _ => none }
def FnReadSectorsWrongFalsely : Prop := fnReadSectorsRow.holds Try.pinned (OpenSpec.ofChange fnReadSectorsWrong)

/-- 'laws.FnDiskLast': WHATEVER THE INPUT: true; the input reads as it did. -/
def fnDiskLastSpec : ChangeSpec := { name := "fnDiskLast", fn := fun _ => fun
  | [d] => { results := [.lit (.bool true)], args := [d] }
  | _ => none }
def fnDiskLastRow : OpenClaim := { program := "ythjmjnekimkflaa", sum := "395e1358f4df9d820b1e727e6e49271b14ac1c8f9b153689965223576af98f71", func := "loop.example/blockstack/laws.FnDiskLast", spec := "fnDiskLast", apart := false }
def FnDiskLastSaid : Prop := fnDiskLastRow.holds Try.pinned (OpenSpec.ofChange fnDiskLastSpec)

/-- ITS FALSE NEIGHBOUR: 'it returns false'. Refute it at one input. -/
def fnDiskLastWrong : ChangeSpec := { name := "fnDiskLast", fn := fun _ => fun
  | [d] => { results := [.lit (.bool false)], args := [d] }
  | _ => none }
def FnDiskLastWrongFalsely : Prop := fnDiskLastRow.holds Try.pinned (OpenSpec.ofChange fnDiskLastWrong)

/-- 'laws.FnWriteSectors': WHATEVER THE INPUT: true; the input reads as it did. -/
def fnWriteSectorsSpec : ChangeSpec := { name := "fnWriteSectors", fn := fun _ => fun
  | [d] => { results := [.lit (.bool true)], args := [d] }
  | _ => none }
def fnWriteSectorsRow : OpenClaim := { program := "ythjmjnekimkflaa", sum := "395e1358f4df9d820b1e727e6e49271b14ac1c8f9b153689965223576af98f71", func := "loop.example/blockstack/laws.FnWriteSectors", spec := "fnWriteSectors", apart := false }
def FnWriteSectorsSaid : Prop := fnWriteSectorsRow.holds Try.pinned (OpenSpec.ofChange fnWriteSectorsSpec)

/-- ITS FALSE NEIGHBOUR: 'it returns false'. Refute it at one input. -/
def fnWriteSectorsWrong : ChangeSpec := { name := "fnWriteSectors", fn := fun _ => fun
  | [d] => { results := [.lit (.bool false)], args := [d] }
  | _ => none }
def FnWriteSectorsWrongFalsely : Prop := fnWriteSectorsRow.holds Try.pinned (OpenSpec.ofChange fnWriteSectorsWrong)

/- THE SECOND FORM. 'bulk': how many values and letters a reading holds, each counted each time it is reached (what is shared counts as often as it is met; a slice's spare places count too). A statement '..UptoSaid' is the law's where the arguments, and the package variables that the reading takes, are together of bulk at most 1048576: NARROWER than '..Said'. Prove '..Said' where nothing that the law and all that it calls make is longer than what came in: it says more and counts as full. Else prove '..UptoSaid'. A law counts once. -/
mutual
def uptoBulk {H : Type} : DataW H → Nat
  | .lit (.string bytes) => bytes.length + 1
  | .lit _ => 1
  | .nil => 1
  | .ptr d => uptoBulk d + 1
  | .slice elems spare => uptoBulkAll elems + uptoBulkAll spare + 1
  | .agg parts => uptoBulkAll parts + 1
  | .iface _ d => uptoBulk d + 1
  | .map entries => uptoBulkEntries entries + 1
  | .held _ => 1
def uptoBulkAll {H : Type} : List (DataW H) → Nat
  | [] => 0
  | d :: r => uptoBulk d + uptoBulkAll r
def uptoBulkEntries {H : Type} : List (Lit × DataW H) → Nat
  | [] => 0
  | x :: r => uptoBulkEntry x + uptoBulkEntries r
def uptoBulkEntry {H : Type} : Lit × DataW H → Nat
  | (.string bytes, d) => bytes.length + uptoBulk d + 1
  | (_, d) => uptoBulk d + 1
 end
def uptoSmall : (H : Type) → List (DataW H) → Bool := fun _ ds => decide (uptoBulkAll ds ≤ 1048576)
def OpenSpec.upto (s : _root_.Go.ChangeSpec) : _root_.Go.OpenSpec := { _root_.Go.OpenSpec.ofChange s with cond := some uptoSmall }

/-- 'laws.FnExactConstants', WHERE WHAT IT READS IS OF BULK AT MOST 1048576: true; the input reads as it did. -/
def fnExactConstantsUptoRow : OpenClaim := { program := "ythjmjnekimkflaa", sum := "395e1358f4df9d820b1e727e6e49271b14ac1c8f9b153689965223576af98f71", func := "loop.example/blockstack/laws.FnExactConstants", spec := "fnExactConstants", apart := false, narrowed := true }
def FnExactConstantsUptoSaid : Prop := fnExactConstantsUptoRow.holds Try.pinned (OpenSpec.upto fnExactConstantsSpec)

/-- 'laws.FnExactDiskValid', WHERE WHAT IT READS IS OF BULK AT MOST 1048576: true; the input reads as it did. -/
def fnExactDiskValidUptoRow : OpenClaim := { program := "ythjmjnekimkflaa", sum := "395e1358f4df9d820b1e727e6e49271b14ac1c8f9b153689965223576af98f71", func := "loop.example/blockstack/laws.FnExactDiskValid", spec := "fnExactDiskValid", apart := false, narrowed := true }
def FnExactDiskValidUptoSaid : Prop := fnExactDiskValidUptoRow.holds Try.pinned (OpenSpec.upto fnExactDiskValidSpec)

/-- 'laws.FnExactDiskSum', WHERE WHAT IT READS IS OF BULK AT MOST 1048576: true; the input reads as it did. -/
def fnExactDiskSumUptoRow : OpenClaim := { program := "ythjmjnekimkflaa", sum := "395e1358f4df9d820b1e727e6e49271b14ac1c8f9b153689965223576af98f71", func := "loop.example/blockstack/laws.FnExactDiskSum", spec := "fnExactDiskSum", apart := false, narrowed := true }
def FnExactDiskSumUptoSaid : Prop := fnExactDiskSumUptoRow.holds Try.pinned (OpenSpec.upto fnExactDiskSumSpec)

/-- 'laws.FnDiskValid', WHERE WHAT IT READS IS OF BULK AT MOST 1048576: true; the input reads as it did. -/
def fnDiskValidUptoRow : OpenClaim := { program := "ythjmjnekimkflaa", sum := "395e1358f4df9d820b1e727e6e49271b14ac1c8f9b153689965223576af98f71", func := "loop.example/blockstack/laws.FnDiskValid", spec := "fnDiskValid", apart := false, narrowed := true }
def FnDiskValidUptoSaid : Prop := fnDiskValidUptoRow.holds Try.pinned (OpenSpec.upto fnDiskValidSpec)

/-- 'laws.FnExactReadSectors', WHERE WHAT IT READS IS OF BULK AT MOST 1048576: true; the input reads as it did. -/
def fnExactReadSectorsUptoRow : OpenClaim := { program := "ythjmjnekimkflaa", sum := "395e1358f4df9d820b1e727e6e49271b14ac1c8f9b153689965223576af98f71", func := "loop.example/blockstack/laws.FnExactReadSectors", spec := "fnExactReadSectors", apart := false, narrowed := true }
def FnExactReadSectorsUptoSaid : Prop := fnExactReadSectorsUptoRow.holds Try.pinned (OpenSpec.upto fnExactReadSectorsSpec)

/-- 'laws.FnDiskSum', WHERE WHAT IT READS IS OF BULK AT MOST 1048576: true; the input reads as it did. -/
def fnDiskSumUptoRow : OpenClaim := { program := "ythjmjnekimkflaa", sum := "395e1358f4df9d820b1e727e6e49271b14ac1c8f9b153689965223576af98f71", func := "loop.example/blockstack/laws.FnDiskSum", spec := "fnDiskSum", apart := false, narrowed := true }
def FnDiskSumUptoSaid : Prop := fnDiskSumUptoRow.holds Try.pinned (OpenSpec.upto fnDiskSumSpec)

/-- 'laws.FnExactWriteSectors', WHERE WHAT IT READS IS OF BULK AT MOST 1048576: true; the input reads as it did. -/
def fnExactWriteSectorsUptoRow : OpenClaim := { program := "ythjmjnekimkflaa", sum := "395e1358f4df9d820b1e727e6e49271b14ac1c8f9b153689965223576af98f71", func := "loop.example/blockstack/laws.FnExactWriteSectors", spec := "fnExactWriteSectors", apart := false, narrowed := true }
def FnExactWriteSectorsUptoSaid : Prop := fnExactWriteSectorsUptoRow.holds Try.pinned (OpenSpec.upto fnExactWriteSectorsSpec)

/-- 'laws.FnReadSectors', WHERE WHAT IT READS IS OF BULK AT MOST 1048576: true; the input reads as it did. -/
def fnReadSectorsUptoRow : OpenClaim := { program := "ythjmjnekimkflaa", sum := "395e1358f4df9d820b1e727e6e49271b14ac1c8f9b153689965223576af98f71", func := "loop.example/blockstack/laws.FnReadSectors", spec := "fnReadSectors", apart := false, narrowed := true }
def FnReadSectorsUptoSaid : Prop := fnReadSectorsUptoRow.holds Try.pinned (OpenSpec.upto fnReadSectorsSpec)

/-- 'laws.FnDiskLast', WHERE WHAT IT READS IS OF BULK AT MOST 1048576: true; the input reads as it did. -/
def fnDiskLastUptoRow : OpenClaim := { program := "ythjmjnekimkflaa", sum := "395e1358f4df9d820b1e727e6e49271b14ac1c8f9b153689965223576af98f71", func := "loop.example/blockstack/laws.FnDiskLast", spec := "fnDiskLast", apart := false, narrowed := true }
def FnDiskLastUptoSaid : Prop := fnDiskLastUptoRow.holds Try.pinned (OpenSpec.upto fnDiskLastSpec)

/-- 'laws.FnWriteSectors', WHERE WHAT IT READS IS OF BULK AT MOST 1048576: true; the input reads as it did. -/
def fnWriteSectorsUptoRow : OpenClaim := { program := "ythjmjnekimkflaa", sum := "395e1358f4df9d820b1e727e6e49271b14ac1c8f9b153689965223576af98f71", func := "loop.example/blockstack/laws.FnWriteSectors", spec := "fnWriteSectors", apart := false, narrowed := true }
def FnWriteSectorsUptoSaid : Prop := fnWriteSectorsUptoRow.holds Try.pinned (OpenSpec.upto fnWriteSectorsSpec)

end Rows
end Go.Proofs.Ythjmjnekimkflaa
