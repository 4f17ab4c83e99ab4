/-
  Walks: slices.IndexFunc and slices.ContainsFunc at commands, for any closure of one captured box that keeps a contract; the program's BatchValid.
-/
import Derived.Test.YthnebfcclkebeaaM3
namespace Go.Proofs.Ythnebfcclkebeaa
open Go.RowKit
set_option linter.unusedSimpArgs false
set_option linter.unusedVariables false
theorem any_step (l : List Cmd) (p : Cmd → Bool) (k : Nat) (hk : k < l.length) (h : (l.take k).any p = false) : (l.take (k + 1)).any p = p l[k] := by
  rw [List.take_succ_eq_append_getElem hk, List.any_append, h]
  simp
theorem any_hit (l : List Cmd) (p : Cmd → Bool) (k : Nat) (hk : k < l.length) (h : p l[k] = true) : l.any p = true := List.any_eq_true.2 ⟨l[k], List.getElem_mem hk, h⟩
/-- the number that IndexFunc returns: not negative exactly where one is met -/
def RetIx (w : World) (b : Bool) (e : Ending) (w' : World) : Prop := ∃ v : Int, e = .returned (.int .i64 v) ∧ decide (0 ≤ v) = b ∧ Below w.heap.size w w'
set_option maxHeartbeats 1000000 in
theorem indexFuncB_any (A : Option Addr) (n c B : Nat) (l : List Cmd) (p : Cmd → Bool) (q : Option Addr) (w : World) (h : Sees w B 4 A n c (cmdC l)) (hB : B ≤ w.heap.size)
    (hf : ∀ (e : Cmd) (w' : World), Below w.heap.size w w' → Calls Try.prog 64 #[cmdV e, .pointer q] w' (RetPure w' (.bool (p e)))) :
    Calls Try.prog 74 #[.slice A n c, .func (.func 64) #[] #[.pointer q]] w (RetIx w (l.any p)) := by
  have hn := h.cmd
  have hc1 := h.cap
  have hc2 := h.big
  have HN : Hid (l.length = n) := Lib.hid hn
  clear hn
  go_enter Try.func74, Try.ntmps74
  go_wp2_with fail
  go_loopw [8] (fun i wr => ∃ k : Nat, k ≤ n ∧ i = .int .i64 k ∧ Hid ((l.take k).any p = false) ∧ Below w.heap.size w wr) (fun i _ => n - (intOf i).toNat)
  case atStart => exact ⟨0, Nat.zero_le _, rfl, Lib.hid rfl, Below.refl _ _⟩
  case round =>
    obtain ⟨k, hk, rfl, hrel, hb⟩ := hrel
    by_cases hlt : k < n
    · have hkd : k < l.length := by rw [HN.out]; exact hlt
      obtain ⟨b, o, rfl, hbB, hcell⟩ := (h.below hb hB).cmd_at (by omega)
      obtain ⟨hx0, hx1, hx2, hx3⟩ := hcell k hkd
      have HST := Lib.hid (any_step l p k hkd hrel.out)
      have HBAD := Lib.hid (any_hit l p k hkd)
      clear hcell
      generalize l[k] = e at *
      have hcc := hf e wr hb
      obtain ⟨v0, v1, v2, v3⟩ := e
      simp only [cmdV] at hx0 hx1 hx2 hx3 hcc
      cases he : p ⟨v0, v1, v2, v3⟩ with
      | false =>
        rw [he] at hcc
        go_wp2_with fail
        go_at_call 64
        refine hcc.mono ?_
        rintro e w1 ⟨rfl, b1⟩
        have hB1 := below_later hb b1 (Nat.le_refl _)
        clear hcc b1 hb
        go_wp2_with fail
        go_roundw
        case rel => exact ⟨k + 1, by omega, by go_num, Lib.hid (HST.out.trans he), hB1⟩
        case measure => simp [intOf]; omega
      | true =>
        rw [he] at hcc
        go_wp2_with fail
        go_at_call 64
        refine hcc.mono ?_
        rintro e w1 ⟨rfl, b1⟩
        have hB1 := below_later hb b1 (Nat.le_refl _)
        clear hcc b1 hb
        go_wp2_with fail
        go_ret
        exact ⟨k, rfl, by rw [HBAD.out he]; simp, hB1⟩
    · have hk : k = n := by omega
      subst hk
      have hall := hrel.out
      rw [List.take_of_length_le (by rw [HN.out]; exact Nat.le_refl _)] at hall
      have HV := Lib.hid hall
      clear hall hrel
      go_wp2_with fail
      go_ret
      exact ⟨-1, rfl, by rw [HV.out]; rfl, hb⟩
theorem containsFuncB_any (A : Option Addr) (n c B : Nat) (l : List Cmd) (p : Cmd → Bool) (q : Option Addr) (w : World) (h : Sees w B 4 A n c (cmdC l)) (hB : B ≤ w.heap.size)
    (hf : ∀ (e : Cmd) (w' : World), Below w.heap.size w w' → Calls Try.prog 64 #[cmdV e, .pointer q] w' (RetPure w' (.bool (p e)))) :
    Calls Try.prog 56 #[.slice A n c, .func (.func 64) #[] #[.pointer q]] w (RetPure w (.bool (l.any p))) := by
  have hc := indexFuncB_any A n c B l p q w h hB hf
  go_enter Try.func56, Try.ntmps56
  go_wp2_with fail
  refine hc.mono ?_
  rintro e w1 ⟨v, rfl, hv, b1⟩
  go_wp2_with fail
  all_goals
    go_ret
    exact ⟨ret_bool (by rw [← hv]), b1⟩
set_option maxHeartbeats 1000000 in
theorem indexFuncR_any (A : Option Addr) (n c B : Nat) (l : List Cmd) (p : Cmd → Bool) (q : Option Addr) (w : World) (h : Sees w B 4 A n c (cmdC l)) (hB : B ≤ w.heap.size)
    (hf : ∀ (e : Cmd) (w' : World), Below w.heap.size w w' → Calls Try.prog 57 #[cmdV e, .pointer q] w' (RetPure w' (.bool (p e)))) :
    Calls Try.prog 74 #[.slice A n c, .func (.func 57) #[] #[.pointer q]] w (RetIx w (l.any p)) := by
  have hn := h.cmd
  have hc1 := h.cap
  have hc2 := h.big
  have HN : Hid (l.length = n) := Lib.hid hn
  clear hn
  go_enter Try.func74, Try.ntmps74
  go_wp2_with fail
  go_loopw [8] (fun i wr => ∃ k : Nat, k ≤ n ∧ i = .int .i64 k ∧ Hid ((l.take k).any p = false) ∧ Below w.heap.size w wr) (fun i _ => n - (intOf i).toNat)
  case atStart => exact ⟨0, Nat.zero_le _, rfl, Lib.hid rfl, Below.refl _ _⟩
  case round =>
    obtain ⟨k, hk, rfl, hrel, hb⟩ := hrel
    by_cases hlt : k < n
    · have hkd : k < l.length := by rw [HN.out]; exact hlt
      obtain ⟨b, o, rfl, hbB, hcell⟩ := (h.below hb hB).cmd_at (by omega)
      obtain ⟨hx0, hx1, hx2, hx3⟩ := hcell k hkd
      have HST := Lib.hid (any_step l p k hkd hrel.out)
      have HBAD := Lib.hid (any_hit l p k hkd)
      clear hcell
      generalize l[k] = e at *
      have hcc := hf e wr hb
      obtain ⟨v0, v1, v2, v3⟩ := e
      simp only [cmdV] at hx0 hx1 hx2 hx3 hcc
      cases he : p ⟨v0, v1, v2, v3⟩ with
      | false =>
        rw [he] at hcc
        go_wp2_with fail
        go_at_call 57
        refine hcc.mono ?_
        rintro e w1 ⟨rfl, b1⟩
        have hB1 := below_later hb b1 (Nat.le_refl _)
        clear hcc b1 hb
        go_wp2_with fail
        go_roundw
        case rel => exact ⟨k + 1, by omega, by go_num, Lib.hid (HST.out.trans he), hB1⟩
        case measure => simp [intOf]; omega
      | true =>
        rw [he] at hcc
        go_wp2_with fail
        go_at_call 57
        refine hcc.mono ?_
        rintro e w1 ⟨rfl, b1⟩
        have hB1 := below_later hb b1 (Nat.le_refl _)
        clear hcc b1 hb
        go_wp2_with fail
        go_ret
        exact ⟨k, rfl, by rw [HBAD.out he]; simp, hB1⟩
    · have hk : k = n := by omega
      subst hk
      have hall := hrel.out
      rw [List.take_of_length_le (by rw [HN.out]; exact Nat.le_refl _)] at hall
      have HV := Lib.hid hall
      clear hall hrel
      go_wp2_with fail
      go_ret
      exact ⟨-1, rfl, by rw [HV.out]; rfl, hb⟩
theorem containsFuncR_any (A : Option Addr) (n c B : Nat) (l : List Cmd) (p : Cmd → Bool) (q : Option Addr) (w : World) (h : Sees w B 4 A n c (cmdC l)) (hB : B ≤ w.heap.size)
    (hf : ∀ (e : Cmd) (w' : World), Below w.heap.size w w' → Calls Try.prog 57 #[cmdV e, .pointer q] w' (RetPure w' (.bool (p e)))) :
    Calls Try.prog 56 #[.slice A n c, .func (.func 57) #[] #[.pointer q]] w (RetPure w (.bool (l.any p))) := by
  have hc := indexFuncR_any A n c B l p q w h hB hf
  go_enter Try.func56, Try.ntmps56
  go_wp2_with fail
  refine hc.mono ?_
  rintro e w1 ⟨v, rfl, hv, b1⟩
  go_wp2_with fail
  all_goals
    go_ret
    exact ⟨ret_bool (by rw [← hv]), b1⟩
end Go.Proofs.Ythnebfcclkebeaa
