/-
  What a region that draws its order leaves of a call's end.
-/
import Derived.Test.YtophfpdcbkhifaaS1
import Derived.Deep.RegionHeld3
namespace Go.Proofs.Ytophfpdcbkhifaa
open Go.RowKit
theorem drew_below {w w' : World} (b : Below w.drew.heap.size w.drew w') : Below w.heap.size w w' := ⟨b.os, b.tape, b.output, b.size, b.block⟩
end Go.Proofs.Ytophfpdcbkhifaa
