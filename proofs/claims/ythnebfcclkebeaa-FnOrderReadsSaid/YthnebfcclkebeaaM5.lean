/-
  Walks: the closure of the program's BatchValid, and BatchValid itself.
-/
import Derived.Test.YthnebfcclkebeaaM4
namespace Go.Proofs.Ythnebfcclkebeaa
open Go.RowKit
set_option linter.unusedSimpArgs false
set_option linter.unusedVariables false
theorem batchFn_any (e : Cmd) (g : Nat) (size : Int) (w : World) (hg : w.cell? ⟨g, 0, none⟩ = some (.int .i64 size)) (hgs : g < w.heap.size) (hsz : size ≤ 9223372036854775807) :
    Calls Try.prog 64 #[cmdV e, .pointer (some ⟨g, 0, none⟩)] w (RetPure w (.bool (!cval e size))) := by
  obtain ⟨v0, v1, v2, v3⟩ := e
  have hcc := fun W => implCommandValid_any v0 v1 v2 v3 size W hsz
  simp only [cmdV]
  go_enter Try.func64, Try.ntmps64
  go_wp2_with fail
  refine (hcc _).mono ?_
  rintro e w1 ⟨rfl, b1⟩
  have hB1 := below_later (below_new w _) b1 (by simp)
  clear hcc b1
  go_wp2_with fail
  all_goals
    go_ret
    exact ⟨rfl, hB1⟩
theorem all_any (l : List Cmd) (s : Int) : (!l.any fun c => !cval c s) = allc l s := by
  induction l with
  | nil => rfl
  | cons c l ih => simp only [List.any_cons, allc, List.all_cons] at *; rw [← ih]; cases cval c s <;> simp
theorem implBatchValid_any (A : Option Addr) (n c B : Nat) (l : List Cmd) (size : Int) (w : World) (h : Sees w B 4 A n c (cmdC l)) (hB : B ≤ w.heap.size) (hsz : size ≤ 9223372036854775807) :
    Calls Try.prog 34 #[.slice A n c, .int .i64 size] w (RetPure w (.bool (bval l size))) := by
  have hn := h.cmd
  have hc1 := h.cap
  have hc2 := h.big
  have HA := Lib.hid (all_any l size)
  have HV : Hid (bval l size = (decide (n ≤ 12) && (win size 0 64 && allc l size))) := Lib.hid (by unfold bval; rw [hn])
  have hmf : ∀ (fn : Fn) (first cap : Array Value) (w : World), (Instr.makeFunc fn first cap).run Try.prog w = .ok (.func fn first cap) w := fun _ _ _ _ => rfl
  have hcf : Calls Try.prog 56 #[.slice A n c, .func (.func 64) #[] #[.pointer (some ⟨w.heap.size, 0, none⟩)]] (w.alloc (.cells #[.int .i64 size] 3)) (RetPure (w.alloc (.cells #[.int .i64 size] 3)) (.bool (l.any fun c => !cval c size))) := by
    refine containsFuncB_any A n c B l (fun c => !cval c size) _ _ (h.below (below_new _ _) hB) (by simp; omega) fun e w' hb => ?_
    refine batchFn_any e _ size w' ((hb.cell (p := ⟨w.heap.size, 0, none⟩) (by simp)).trans (by simp)) (by have := hb.size; simp at this; omega) hsz
  have HCF := Lib.hid hcf
  clear hcf hn
  go_enter Try.func34, Try.ntmps34
  go_wp2_with (first | (go_at_call 63; refine (within_any _ _ _ _).mono ?_; rintro e w' ⟨rfl, rfl⟩) | (go_at_call 56; refine (HCF.out).mono ?_; rintro e w1 ⟨rfl, b1⟩; have hB1 := below_later (below_new w _) b1 (by simp)))
  all_goals
    go_ret
    refine ⟨ret_bool ?_, by first | assumption | exact below_new _ _⟩
    rw [HV.out, ← HA.out]
    first
    | (simp_all; done)
    | (rw [Bool.eq_iff_iff]; simp_all; done)
    | (rw [Bool.eq_iff_iff]; simp_all; omega)
end Go.Proofs.Ythnebfcclkebeaa
