/-
  Plain laws on tags (lists of bools): what NewTags, TakeTag, ReturnTag and TagsUsed compute, and what the laws ask of it. No program in sight.
-/
import Derived.Test.YtophfpdcbkhifaaPlainD
namespace Go.Proofs.Ytophfpdcbkhifaa

def tcnt (l : List Bool) : Nat := l.count true
theorem tcnt_nil : tcnt [] = 0 := rfl
theorem tcnt_take (l : List Bool) (k : Nat) (h : k < l.length) : tcnt (l.take (k + 1)) = tcnt (l.take k) + (if l[k] = true then 1 else 0) := by
  unfold tcnt
  rw [List.take_succ_eq_append_getElem h, List.count_append]
  cases l[k] <;> simp
theorem tcnt_le (l : List Bool) : tcnt l ≤ l.length := List.count_le_length
theorem tcnt_split (l : List Bool) (h : Nat) : tcnt l = tcnt (l.take h) + tcnt (l.drop h) := by
  unfold tcnt
  rw [← List.count_append, List.take_append_drop]

/-- the place of the first tag that is not in use; the length if there is none -/
def tfree : List Bool → Nat
  | [] => 0
  | true :: l => tfree l + 1
  | false :: _ => 0
theorem tfree_rep (k : Nat) (l : List Bool) : tfree (List.replicate k true ++ l) = k + tfree l := by
  induction k with
  | zero => simp
  | succ k ih => rw [List.replicate_succ, List.cons_append, tfree, ih]; omega
theorem tfree_le (l : List Bool) : tfree l ≤ l.length := by
  induction l with
  | nil => exact Nat.le_refl _
  | cons b l ih => cases b <;> simp [tfree, ih]
theorem tfree_at (l : List Bool) (k : Nat) (h : k < l.length) (ht : l.take k = List.replicate k true) (hk : l[k] = false) : tfree l = k := by
  have e : l = List.replicate k true ++ false :: l.drop (k + 1) := by
    rw [← ht, ← hk, ← List.drop_eq_getElem_cons h, List.take_append_drop]
  rw [e, tfree_rep]; rfl
theorem tfree_all (l : List Bool) (k : Nat) (h : l.length ≤ k) (ht : l.take k = List.replicate k true) : tfree l = l.length := by
  rw [List.take_of_length_le h] at ht
  have hk : l.length = k := by rw [ht, List.length_replicate]
  have := tfree_rep k []
  rw [List.append_nil, ← ht] at this
  rw [this, hk]; rfl
theorem rep_step (l : List Bool) (k : Nat) (h : k < l.length) (ht : l.take k = List.replicate k true) (hk : l[k] = true) : l.take (k + 1) = List.replicate (k + 1) true := by
  rw [List.take_succ_eq_append_getElem h, ht, hk, List.replicate_succ']

def tnew (n : Int) : List Bool := if win n 0 16 = true then List.replicate n.toNat false else []
def tok (l : List Bool) : Bool := decide (l.length ≤ 16) && decide (tfree l < l.length)
def ttake (l : List Bool) : List Bool := if l.length ≤ 16 then l.set (tfree l) true else []
def ttag (l : List Bool) : Int := if tok l = true then (tfree l : Int) else -1
def rok (l : List Bool) (g : Int) : Bool := decide (l.length ≤ 16) && (win g 0 ((l.length : Int) - 1) && l.getD g.toNat false)
def tret (l : List Bool) (g : Int) : List Bool := if l.length ≤ 16 then (if rok l g = true then l.set g.toNat false else l) else []
theorem tnew_16 (n : Int) : (tnew n).length ≤ 16 := by
  unfold tnew
  split
  · next h => rw [win_iff] at h; rw [List.length_replicate]; omega
  · simp
theorem ttake_16 (l : List Bool) : (ttake l).length ≤ 16 := by
  unfold ttake
  split
  · rw [List.length_set]; assumption
  · simp
theorem tret_16 (l : List Bool) (g : Int) : (tret l g).length ≤ 16 := by
  unfold tret
  split
  · split
    · rw [List.length_set]; assumption
    · assumption
  · simp
theorem set_free_all (l : List Bool) (u : Bool) : l.set l.length u = l := List.set_eq_of_length_le (Nat.le_refl _)
/-- k tags taken of m -/
def tsome (m k : Nat) : List Bool := List.replicate k true ++ List.replicate (m - k) false
theorem tsome_zero (m : Nat) : tsome m 0 = List.replicate m false := by simp [tsome]
theorem tsome_length (m k : Nat) (h : k ≤ m) : (tsome m k).length = m := by simp [tsome]; omega
theorem tsome_free (m k : Nat) : tfree (tsome m k) = k := by
  unfold tsome
  rw [tfree_rep]
  by_cases e : m - k = 0
  · rw [e]; rfl
  · obtain ⟨j, hj⟩ := Nat.exists_eq_succ_of_ne_zero e
    rw [hj]; rfl
theorem tsome_take (m k : Nat) (h : k < m) (hm : m ≤ 16) : ttake (tsome m k) = tsome m (k + 1) := by
  unfold ttake
  rw [if_pos (by rw [tsome_length m k (by omega)]; exact hm), tsome_free m k]
  unfold tsome
  rw [List.set_append_right _ _ (by simp), List.length_replicate, Nat.sub_self, show m - k = (m - (k + 1)) + 1 by omega, List.replicate_succ, List.set_cons_zero, List.replicate_succ']
  simp
theorem tsome_tok (m k : Nat) (h : k ≤ m) (hm : m ≤ 16) : tok (tsome m k) = decide (k < m) := by
  unfold tok
  rw [tsome_length m k h, tsome_free m k, decide_eq_true hm, Bool.true_and]
theorem tsome_tag (m k : Nat) (h : k < m) (hm : m ≤ 16) : ttag (tsome m k) = k := by
  unfold ttag
  rw [if_pos (by rw [tsome_tok m k (by omega) hm]; exact decide_eq_true h), tsome_free m k]
theorem tnew_some (n : Int) : ∃ m : Nat, tnew n = tsome m 0 ∧ m ≤ 16 ∧ (win n 0 16 = true → (m : Int) = n) ∧ (win n 0 16 = false → m = 0) := by
  unfold tnew
  cases h : win n 0 16 with
  | true => rw [win_iff] at h; exact ⟨n.toNat, by rw [if_pos rfl, tsome_zero], by omega, fun _ => by omega, by simp⟩
  | false => exact ⟨0, by simp [tsome], by omega, by simp, fun _ => rfl⟩
end Go.Proofs.Ytophfpdcbkhifaa
