/-
  Plain laws on the places of a ring's values. No program in sight.
-/
import Derived.Test.YtcbdphflockopaaPlainR
namespace Go.Proofs.Ytcbdphflockopaa

/-- the place of the value that is taken j-th -/
def rpos (r : Rng) (j : Nat) : Nat := ((r.head + j) % r.slots.length).toNat
theorem rpos_val (r : Rng) (h : rval r = true) (j : Nat) (hj : (j : Int) ≤ r.slots.length) : (rpos r j : Int) = if r.head + j < r.slots.length then r.head + j else r.head + j - r.slots.length := by
  rw [rval_iff] at h
  unfold rpos
  rw [mod2 _ _ (by omega) (by omega)]
  split <;> omega
theorem rpos_lt (r : Rng) (h : rval r = true) (j : Nat) : rpos r j < r.slots.length := by
  rw [rval_iff] at h
  unfold rpos
  have h0 := Int.emod_nonneg (r.head + j) (show (r.slots.length : Int) ≠ 0 by omega)
  have h1 := Int.emod_lt_of_pos (r.head + j) (show 0 < (r.slots.length : Int) by omega)
  omega
theorem rpos_int (r : Rng) (h : rval r = true) (j : Nat) : (r.head + j) % r.slots.length = (rpos r j : Int) := by
  rw [rval_iff] at h
  unfold rpos
  have h0 := Int.emod_nonneg (r.head + j) (show (r.slots.length : Int) ≠ 0 by omega)
  omega
theorem rpos_zero (r : Rng) (h : rval r = true) : (rpos r 0 : Int) = r.head := by
  have := rpos_val r h 0 (by omega)
  rw [rval_iff] at h
  split at this <;> omega
theorem rpos_succ (r : Rng) (h : rval r = true) (j : Nat) (hj : (j : Int) < r.slots.length) : ((rpos r j : Int) + 1) % r.slots.length = (rpos r (j + 1) : Int) := by
  have h1 := rpos_val r h j (by omega)
  have h2 := rpos_val r h (j + 1) (by omega)
  have h3 := rpos_lt r h j
  rw [rval_iff] at h
  rw [mod2 _ _ (by omega) (by omega)]
  split at h1 <;> split at h2 <;> split <;> omega
theorem rpos_ne (r : Rng) (h : rval r = true) (j : Nat) (hj : (j : Int) < rcn r) : (rpos r j : Int) ≠ r.tail := by
  have hb := rcn_bd r h
  have h1 := rpos_val r h j (by omega)
  have h2 := rcn_eq r h
  rw [rval_iff] at h
  split at h1 <;> split at h2 <;> omega
theorem rpos_end (r : Rng) (h : rval r = true) (j : Nat) (hj : (j : Int) = rcn r) : (rpos r j : Int) = r.tail := by
  have hb := rcn_bd r h
  have h1 := rpos_val r h j (by omega)
  have h2 := rcn_eq r h
  rw [rval_iff] at h
  split at h1 <;> split at h2 <;> omega
theorem rls_get (r : Rng) (h : rval r = true) (j : Nat) (hj : j < (rls r).length) : (rls r)[j] = r.slots[rpos r j]'(rpos_lt r h j) := by
  have hp := rpos_lt r h j
  simp only [rls, List.getElem_map, List.getElem_range]
  unfold rat
  rw [List.getD_eq_getElem?_getD]
  show (r.slots[rpos r j]?).getD 0 = _
  rw [List.getElem?_eq_getElem hp]; rfl
theorem rls_take (r : Rng) (h : rval r = true) (j : Nat) (hj : (j : Int) < rcn r) : (rls r).take (j + 1) = (rls r).take j ++ [r.slots[rpos r j]'(rpos_lt r h j)] := by
  have hl : j < (rls r).length := by rw [rls_length]; omega
  rw [List.take_succ_eq_append_getElem hl, rls_get r h j hl]
theorem rls_all (r : Rng) (j : Nat) (hj : (j : Int) = rcn r) : (rls r).take j = rls r := List.take_of_length_le (by rw [rls_length]; omega)
theorem rlist_of (r : Rng) (h : rval r = true) : rlist r = rls r := by unfold rlist; rw [if_pos h]
theorem rlist_no (r : Rng) (h : rval r = false) : rlist r = [] := by unfold rlist; rw [if_neg (by simp [h])]
theorem rlist_16 (r : Rng) : (rlist r).length ≤ 16 := by
  cases h : rval r with
  | true =>
    have hb := rcn_bd r h
    rw [rlist_of r h, rls_length]
    rw [rval_iff] at h
    omega
  | false => rw [rlist_no r h]; simp
end Go.Proofs.Ytcbdphflockopaa
