/-
  Plain laws on rings of slots: what RingValid, RingCount, RingList, RingPush and RingPop compute, and what the laws ask of it. No program in sight.
-/
import Derived.Test.YtcbdphflockopaaPlainD
namespace Go.Proofs.Ytcbdphflockopaa

structure Rng where
  slots : List Int
  head : Int
  tail : Int
def rval (r : Rng) : Bool := win r.slots.length 2 16 && win r.head 0 (r.slots.length - 1) && win r.tail 0 (r.slots.length - 1)
theorem rval_iff (r : Rng) : rval r = true ↔ (2 ≤ r.slots.length ∧ r.slots.length ≤ 16) ∧ (0 ≤ r.head ∧ r.head ≤ (r.slots.length : Int) - 1) ∧ (0 ≤ r.tail ∧ r.tail ≤ (r.slots.length : Int) - 1) := by
  simp only [rval, Bool.and_eq_true, win_iff]
  omega
theorem mod2 (x n : Int) (h0 : 0 ≤ x) (h1 : x < 2 * n) : x % n = if x < n then x else x - n := by
  split
  · exact Int.emod_eq_of_lt h0 (by assumption)
  · rw [show x = (x - n) + n by omega, Int.add_emod_right, Int.emod_eq_of_lt (by omega) (by omega)]; omega
def rcn (r : Rng) : Int := (r.tail - r.head + r.slots.length) % r.slots.length
def rcount (r : Rng) : Int := if rval r = true then rcn r else -1
def rat (r : Rng) (k : Int) : Int := r.slots.getD ((r.head + k) % r.slots.length).toNat 0
def rls (r : Rng) : List Int := (List.range (rcn r).toNat).map fun (k : Nat) => rat r k
def rlist (r : Rng) : List Int := if rval r = true then rls r else []
def rz : Rng := ⟨[], 0, 0⟩
def rfull (r : Rng) : Bool := decide (rcn r = (r.slots.length : Int) - 1)
def rput (r : Rng) (v : Int) : Rng := ⟨r.slots.set r.tail.toNat v, r.head, (r.tail + 1) % r.slots.length⟩
def rpush (r : Rng) (v : Int) : Rng := if rval r = true then (if rfull r = true then r else rput r v) else rz
def rpushed (r : Rng) : Bool := rval r && !rfull r
def rnone (r : Rng) : Bool := decide (r.head = r.tail)
def rcut (r : Rng) : Rng := ⟨r.slots, (r.head + 1) % r.slots.length, r.tail⟩
def rpop (r : Rng) : Rng := if rval r = true then (if rnone r = true then r else rcut r) else rz
def rpopped (r : Rng) : Bool := rval r && !rnone r
def rtop (r : Rng) : Int := if rpopped r = true then r.slots.getD r.head.toNat 0 else 0

theorem cnform (h t n : Int) (h0 : 0 ≤ h) (h1 : h ≤ n - 1) (t0 : 0 ≤ t) (t1 : t ≤ n - 1) : (t - h + n) % n = if h ≤ t then t - h else t - h + n := by
  rw [mod2 _ _ (by omega) (by omega)]
  split <;> split <;> omega
theorem rls_length (r : Rng) : (rls r).length = (rcn r).toNat := by simp [rls]
theorem rcn_eq (r : Rng) (h : rval r = true) : rcn r = if r.head ≤ r.tail then r.tail - r.head else r.tail - r.head + r.slots.length := by
  rw [rval_iff] at h
  unfold rcn
  rw [mod2 _ _ (by omega) (by omega)]
  split <;> split <;> omega
theorem rcn_bd (r : Rng) (h : rval r = true) : 0 ≤ rcn r ∧ rcn r ≤ (r.slots.length : Int) - 1 := by
  have := rcn_eq r h
  rw [rval_iff] at h
  split at this <;> omega
theorem rcn_none (r : Rng) (h : rval r = true) : rcn r = 0 ↔ rnone r = true := by
  have := rcn_eq r h
  rw [rval_iff] at h
  unfold rnone
  rw [decide_eq_true_iff]
  split at this <;> omega
theorem rput_val (r : Rng) (h : rval r = true) (v : Int) : rval (rput r v) = true := by
  rw [rval_iff] at h ⊢
  simp only [rput, List.length_set]
  rw [mod2 _ _ (by omega) (by omega)]
  split <;> omega
theorem rcut_val (r : Rng) (h : rval r = true) : rval (rcut r) = true := by
  rw [rval_iff] at h ⊢
  simp only [rcut]
  rw [mod2 _ _ (by omega) (by omega)]
  split <;> omega
theorem rput_cn (r : Rng) (h : rval r = true) (v : Int) (hf : rfull r = false) : rcn (rput r v) = rcn r + 1 := by
  have e := rcn_eq r h
  rw [rval_iff] at h
  simp only [rfull, decide_eq_false_iff_not] at hf
  show ((r.tail + 1) % (r.slots.length : Int) - r.head + ((r.slots.set r.tail.toNat v).length : Int)) % ((r.slots.set r.tail.toNat v).length : Int) = _
  rw [List.length_set, mod2 (r.tail + 1) _ (by omega) (by omega)]
  split
  · rw [cnform _ _ _ (by omega) (by omega) (by omega) (by omega)]
    split at e <;> split <;> omega
  · rw [cnform _ _ _ (by omega) (by omega) (by omega) (by omega)]
    split at e <;> split <;> omega
theorem rcut_cn (r : Rng) (h : rval r = true) (hn : rnone r = false) : rcn (rcut r) = rcn r - 1 := by
  have e := rcn_eq r h
  rw [rval_iff] at h
  simp only [rnone, decide_eq_false_iff_not] at hn
  show (r.tail - (r.head + 1) % (r.slots.length : Int) + (r.slots.length : Int)) % (r.slots.length : Int) = _
  rw [mod2 (r.head + 1) _ (by omega) (by omega)]
  split
  · rw [cnform _ _ _ (by omega) (by omega) (by omega) (by omega)]
    split at e <;> split <;> omega
  · rw [cnform _ _ _ (by omega) (by omega) (by omega) (by omega)]
    split at e <;> split <;> omega
theorem rput_list (r : Rng) (h : rval r = true) (v : Int) (hf : rfull r = false) : rls (rput r v) = rls r ++ [v] := by
  have e := rput_cn r h v hf
  have b := rcn_bd r h
  have q := rcn_eq r h
  rw [rval_iff] at h
  unfold rls
  rw [e, show (rcn r + 1).toNat = (rcn r).toNat + 1 by omega, List.range_succ, List.map_append]
  congr 1
  · apply List.map_congr_left
    intro k hk
    have hk := List.mem_range.1 hk
    unfold rat
    simp only [rput, List.length_set]
    rw [mod2 _ _ (by omega) (by omega)]
    rw [List.getD_eq_getElem?_getD, List.getD_eq_getElem?_getD, List.getElem?_set]
    rw [if_neg]
    split at q <;> split <;> omega
  · simp only [List.map_cons, List.map_nil, List.cons.injEq, and_true]
    unfold rat
    simp only [rput, List.length_set]
    have : (r.head + ((rcn r).toNat : Int)) % r.slots.length = r.tail := by
      rw [mod2 _ _ (by omega) (by omega)]
      split at q <;> split <;> omega
    rw [this, List.getD_eq_getElem?_getD, List.getElem?_set, if_pos rfl, if_pos (by omega)]
    rfl
theorem rcut_list (r : Rng) (h : rval r = true) (hn : rnone r = false) : rls r = r.slots.getD r.head.toNat 0 :: rls (rcut r) := by
  have e := rcut_cn r h hn
  have b := rcn_bd r h
  have hne : rcn r ≠ 0 := fun he => by rw [(rcn_none r h).1 he] at hn; cases hn
  rw [rval_iff] at h
  unfold rls
  rw [e, show (rcn r).toNat = (rcn r - 1).toNat + 1 by omega, List.range_succ_eq_map, List.map_cons, List.map_map]
  congr 1
  · unfold rat
    rw [show (r.head + ((0 : Nat) : Int)) % r.slots.length = r.head by rw [mod2 _ _ (by omega) (by omega)]; split <;> omega]
  · apply List.map_congr_left
    intro k hk
    have hk := List.mem_range.1 hk
    unfold rat
    simp only [rcut, Function.comp]
    rw [mod2 (r.head + 1) _ (by omega) (by omega)]
    rw [mod2 (r.head + ((k.succ : Nat) : Int)) _ (by omega) (by omega)]
    split
    · rw [mod2 _ _ (by omega) (by omega)]
      split <;> split <;> first | omega | (congr 2; omega)
    · rw [mod2 _ _ (by omega) (by omega)]
      split <;> split <;> first | omega | (congr 2; omega)
end Go.Proofs.Ytcbdphflockopaa
