/-
  Walk: sameAnswers of the laws.
-/
import Derived.Test.YthkiollagnjfaaaN3
import Derived.BigQuiet
import Derived.Deep.QuietTactic
import Derived.IntWalk
namespace Go.Proofs.Ythkiollagnjfaaa
open Go.RowKit
set_option linter.unusedSimpArgs false
set_option linter.unusedVariables false
set_option maxHeartbeats 1000000 in
theorem sameAnswers_t (A A' : Option Addr) (n c n' c' B B' : Nat) (d : List (Int × Bool)) (ps : Int) (pp : Bool) (tk : Int) (tp : Bool) (pd : Int) (w : World) (h : Sees w B 2 A n c (ansC d)) (h' : Sees w B' 2 A' n' c' (ansC d)) (hB : B ≤ w.heap.size) (hB' : B' ≤ w.heap.size) :
    Calls Try.prog 22 #[.agg #[.slice A n c, .int .i64 ps, .bool pp, .int .i64 tk, .bool tp, .int .i64 pd], .agg #[.slice A' n' c', .int .i64 ps, .bool pp, .int .i64 tk, .bool tp, .int .i64 pd]] w (RetPure w (.bool true)) := by
  obtain rfl := h.ans
  obtain rfl := h'.ans
  have hc1 := h.cap
  have hc2 := h.big
  have hc3 := h'.cap
  obtain ⟨r0, r1, _, B1⟩ := rows2 (Below.refl _ ((w.alloc (.cells #[.slice A d.length c, .int .i64 ps, .bool pp, .int .i64 tk, .bool tp, .int .i64 pd] 24)).alloc (.cells #[.slice A' d.length c', .int .i64 ps, .bool pp, .int .i64 tk, .bool tp, .int .i64 pd] 24)))
  go_enter Try.func22, Try.ntmps22
  go_wp2_with fail
  generalize ((w.alloc (.cells #[.slice A d.length c, .int .i64 ps, .bool pp, .int .i64 tk, .bool tp, .int .i64 pd] 24)).alloc (.cells #[.slice A' d.length c', .int .i64 ps, .bool pp, .int .i64 tk, .bool tp, .int .i64 pd] 24)) = W at *
  go_loopw [5] (fun i wr => ∃ (k q : Nat), k ≤ d.length ∧ i = .int .i64 k ∧ wr = W.drewN q) (fun i _ => d.length - (intOf i).toNat)
  case atStart => exact ⟨0, 0, Nat.zero_le _, rfl, rfl⟩
  case round =>
    obtain ⟨k, q, hk, rfl, rfl⟩ := hrel
    obtain ⟨m0, m1, m2, m3, m4, m5⟩ := cells6 r0
    obtain ⟨n0, n1, n2, n3, n4, n5⟩ := cells6 r1
    by_cases hlt : k < d.length
    · obtain ⟨b, o, rfl, _, hcell⟩ := (h.below B1 hB).ans_at (by omega)
      obtain ⟨b', o', rfl, _, hcell'⟩ := (h'.below B1 hB').ans_at (by omega)
      obtain ⟨hx0, hx1⟩ := hcell k hlt
      obtain ⟨hy0, hy1⟩ := hcell' k hlt
      clear hcell hcell'
      have i1 : (0 : Int) ≤ (k : Int) := by omega
      have i2 : (k : Int) < (d.length : Int) := by omega
      generalize d[k] = e at *
      obtain ⟨v, p⟩ := e
      simp only at hx0 hx1 hy0 hy1
      go_wp2_with fail
      go_quiet (fail)
      go_wp2_with fail
      go_roundw
      case rel => exact ⟨k + 1, _, by omega, by go_num, rfl⟩
      case measure => simp [intOf]; omega
    · go_wp2_with fail
      go_ret
      exact ⟨rfl, below_drewN B1 _⟩
end Go.Proofs.Ythkiollagnjfaaa
