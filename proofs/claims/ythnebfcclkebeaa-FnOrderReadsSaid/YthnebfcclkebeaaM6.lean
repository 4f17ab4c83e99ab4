/-
  Walks: the closure of the program's ReadyCommands.
-/
import Derived.Test.YthnebfcclkebeaaM4
namespace Go.Proofs.Ythnebfcclkebeaa
open Go.RowKit
set_option linter.unusedSimpArgs false
set_option linter.unusedVariables false
theorem readyFn_any (e d : Cmd) (g : Nat) (w : World) (h0 : w.cell? ⟨g, 0, none⟩ = some (.int .i64 d.kind)) (h1 : w.cell? ⟨g, 1, none⟩ = some (.int .i64 d.pos)) (h2 : w.cell? ⟨g, 2, none⟩ = some (.int .i64 d.cnt)) (h3 : w.cell? ⟨g, 3, none⟩ = some (.int .i64 d.val)) (hgs : g < w.heap.size) :
    Calls Try.prog 57 #[cmdV e, .pointer (some ⟨g, 0, none⟩)] w (RetPure w (.bool (clash e d))) := by
  have hcc := fun W => implCommandsClash_any e d W
  obtain ⟨v0, v1, v2, v3⟩ := e
  obtain ⟨u0, u1, u2, u3⟩ := d
  simp only [cmdV] at *
  go_enter Try.func57, Try.ntmps57
  go_wp2_with fail
  refine (hcc _).mono ?_
  rintro e w1 ⟨rfl, b1⟩
  have hB1 := below_later (below_new w _) b1 (by simp)
  clear hcc b1
  go_wp2_with fail
  all_goals
    go_ret
    exact ⟨rfl, hB1⟩
end Go.Proofs.Ythnebfcclkebeaa
