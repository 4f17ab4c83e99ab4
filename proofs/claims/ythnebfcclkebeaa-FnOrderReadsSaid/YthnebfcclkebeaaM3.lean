/-
  Walks: BatchValid of the reference and of the program.
-/
import Derived.Test.YthnebfcclkebeaaM1
import Derived.Test.YthnebfcclkebeaaC1
import Derived.IntWalk
namespace Go.Proofs.Ythnebfcclkebeaa
open Go.RowKit
set_option linter.unusedSimpArgs false
set_option linter.unusedVariables false
theorem allc_step (l : List Cmd) (s : Int) (k : Nat) (hk : k < l.length) (h : allc (l.take k) s = true) : allc (l.take (k + 1)) s = cval l[k] s := by
  rw [List.take_succ_eq_append_getElem hk]
  unfold allc at *
  rw [List.all_append, h]
  simp
theorem bval_bad (l : List Cmd) (s : Int) (k : Nat) (hk : k < l.length) (h : cval l[k] s = false) : bval l s = false := by
  rw [Bool.eq_false_iff]
  intro hb
  have := ((bval_iff _ _).1 hb).2.2 l[k] (List.getElem_mem hk)
  rw [h] at this; cases this
set_option maxHeartbeats 1000000 in
theorem specBatchValid_any (A : Option Addr) (n c B : Nat) (l : List Cmd) (size : Int) (w : World) (h : Sees w B 4 A n c (cmdC l)) (hB : B ≤ w.heap.size) (hsz : size ≤ 9223372036854775807) :
    Calls Try.prog 33 #[.slice A n c, .int .i64 size] w (RetPure w (.bool (bval l size))) := by
  have hn := h.cmd
  have hc1 := h.cap
  have hc2 := h.big
  have HN : Hid (l.length = n) := Lib.hid hn
  clear hn
  go_enter Try.func33, Try.ntmps33
  go_wp2_with fail
  go_loopw [5] (fun i wr => ∃ k : Nat, k ≤ n ∧ i = .int .i64 k ∧ Hid (allc (l.take k) size = true) ∧ Below w.heap.size w wr) (fun i _ => n - (intOf i).toNat)
  case atStart => exact ⟨0, Nat.zero_le _, rfl, Lib.hid rfl, Below.refl _ _⟩
  case round =>
    obtain ⟨k, hk, rfl, hrel, hb⟩ := hrel
    by_cases hlt : k < n
    · have hkd : k < l.length := by rw [HN.out]; exact hlt
      obtain ⟨b, o, rfl, hbB, hcell⟩ := (h.below hb hB).cmd_at (by omega)
      obtain ⟨hx0, hx1, hx2, hx3⟩ := hcell k hkd
      have HST := Lib.hid (allc_step l size k hkd hrel.out)
      have HBAD := Lib.hid (bval_bad l size k hkd)
      clear hcell
      generalize l[k] = e at *
      obtain ⟨v0, v1, v2, v3⟩ := e
      simp only at hx0 hx1 hx2 hx3
      have hcc := specCommandValid_any v0 v1 v2 v3 size wr hsz
      cases he : cval ⟨v0, v1, v2, v3⟩ size with
      | true =>
        rw [he] at hcc
        go_wp2_with fail
        refine hcc.mono ?_
        rintro e w1 ⟨rfl, b1⟩
        have hB1 := below_later hb b1 (Nat.le_refl _)
        clear hcc b1 hb
        go_wp2_with fail
        go_roundw
        case rel => exact ⟨k + 1, by omega, by go_num, Lib.hid (HST.out.trans he), hB1⟩
        case measure => simp [intOf]; omega
      | false =>
        rw [he] at hcc
        go_wp2_with fail
        refine hcc.mono ?_
        rintro e w1 ⟨rfl, b1⟩
        have hB1 := below_later hb b1 (Nat.le_refl _)
        clear hcc b1 hb
        go_wp2_with fail
        go_ret
        exact ⟨ret_bool (HBAD.out he).symm, hB1⟩
    · have hk : k = n := by omega
      subst hk
      have hall := hrel.out
      rw [List.take_of_length_le (by rw [HN.out]; exact Nat.le_refl _)] at hall
      have HV : Hid (bval l size = (decide (k ≤ 12) && win size 0 64)) := Lib.hid (by unfold bval; rw [hall, HN.out, Bool.and_true])
      clear hall hrel
      go_wp2_with (go_at_call 62; refine (l1In_any _ _ _ _).mono ?_; rintro e w' ⟨rfl, rfl⟩)
      all_goals
        go_ret
        refine ⟨ret_bool ?_, hb⟩
        rw [HV.out]
        first
        | (simp; omega)
        | (rw [Bool.eq_iff_iff]; simp_all; omega)
        | simp_all
end Go.Proofs.Ythnebfcclkebeaa
