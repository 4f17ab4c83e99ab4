/-
  The length of a slice value, for a loop's measure.
-/
import Derived.Test.YthnebfcclkebeaaKit
namespace Go.Proofs.Ythnebfcclkebeaa
open Go.RowKit
def slen : Value → Nat
  | .slice _ n _ => n
  | _ => 0
end Go.Proofs.Ythnebfcclkebeaa
