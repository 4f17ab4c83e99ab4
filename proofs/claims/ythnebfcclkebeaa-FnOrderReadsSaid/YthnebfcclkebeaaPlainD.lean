/-
  Plain laws on disks (lists of numbers): what DiskValid, ReadSectors, WriteSectors and DiskSum compute, and what the laws ask of it. No program in sight.
-/
import Derived.KernelRfl
namespace Go.Proofs.Ythnebfcclkebeaa

def win (n lo hi : Int) : Bool := decide (lo ≤ n) && decide (n ≤ hi)
def allw (d : List Int) (lo hi : Int) : Bool := d.all fun v => win v lo hi
def dval (d : List Int) : Bool := decide (d.length ≤ 64) && allw d 0 255
def strch (a c n : Int) : Bool := win a 0 n && win c 0 (n - a)
def rdS (d : List Int) (a c : Int) : List Int := if (dval d && strch a c d.length) = true then (d.drop a.toNat).take c.toNat else []
def wrS (d : List Int) (a : Int) (vs : List Int) : List Int :=
  if (dval d && allw vs 0 255 && strch a vs.length d.length) = true then d.take a.toNat ++ (vs ++ d.drop (a.toNat + vs.length)) else []
def sumS (d : List Int) : Int := d.foldl (fun s v => (33 * s + v) % 65521) 1
def dsum (d : List Int) : Int := if dval d = true then sumS d else -1

theorem win_iff (n lo hi : Int) : win n lo hi = true ↔ lo ≤ n ∧ n ≤ hi := by simp [win]
theorem win_no (n lo hi : Int) : win n lo hi = false ↔ ¬ (lo ≤ n ∧ n ≤ hi) := by rw [← win_iff, Bool.not_eq_true]
theorem allw_iff (d : List Int) (lo hi : Int) : allw d lo hi = true ↔ ∀ v ∈ d, lo ≤ v ∧ v ≤ hi := by simp [allw, win_iff]
theorem allw_take0 (d : List Int) (lo hi : Int) : allw (d.take 0) lo hi = true := rfl
theorem allw_step (d : List Int) (lo hi : Int) (k : Nat) (hk : k < d.length) (h : allw (d.take k) lo hi = true) (hw : win d[k] lo hi = true) : allw (d.take (k + 1)) lo hi = true := by
  rw [List.take_succ_eq_append_getElem hk]; unfold allw at h ⊢; rw [List.all_append, h]; simp [hw]
theorem allw_stop (d : List Int) (lo hi : Int) (k : Nat) (hk : k < d.length) (hw : win d[k] lo hi = false) : false = allw d lo hi := by
  rw [eq_comm, Bool.eq_false_iff]; intro h; rw [allw_iff] at h
  have := (win_iff _ _ _).2 (h d[k] (List.getElem_mem hk)); rw [hw] at this; cases this
theorem allw_end (d : List Int) (lo hi : Int) (k : Nat) (hk : d.length ≤ k) (h : allw (d.take k) lo hi = true) : true = allw d lo hi := by
  rw [List.take_of_length_le hk] at h; exact h.symm
theorem dval_iff (d : List Int) : dval d = true ↔ d.length ≤ 64 ∧ ∀ v ∈ d, 0 ≤ v ∧ v ≤ 255 := by simp [dval, allw_iff]
theorem strch_iff (a c n : Int) : strch a c n = true ↔ (0 ≤ a ∧ a ≤ n) ∧ (0 ≤ c ∧ c ≤ n - a) := by simp [strch, win_iff]

theorem strch_no (a c n : Int) : strch a c n = false ↔ ¬ ((0 ≤ a ∧ a ≤ n) ∧ (0 ≤ c ∧ c ≤ n - a)) := by rw [← strch_iff, Bool.not_eq_true]
theorem dval_take (d : List Int) (k : Nat) (h : dval d = true) : dval (d.take k) = true := by
  rw [dval_iff] at h ⊢
  refine ⟨by rw [List.length_take]; omega, fun v hv => h.2 v (List.mem_of_mem_take hv)⟩
theorem dval_256 (d : List Int) : dval (d ++ [256]) = false := by
  rw [Bool.eq_false_iff]
  intro h
  have := ((dval_iff _).1 h).2 256 (by simp)
  omega

theorem rdS_of (d : List Int) (a c : Int) (h : (dval d && strch a c d.length) = true) : rdS d a c = (d.drop a.toNat).take c.toNat := by
  unfold rdS; rw [if_pos h]
theorem rdS_nil (d : List Int) (a c : Int) (h : (dval d && strch a c d.length) = false) : rdS d a c = [] := by
  unfold rdS; rw [if_neg (by simp [h])]
theorem rdS_ok (d : List Int) (a c : Int) (h : rdS d a c ≠ []) : dval d = true ∧ strch a c d.length = true := by
  cases hb : (dval d && strch a c d.length) with
  | false => exact absurd (rdS_nil d a c hb) h
  | true => simpa using hb
theorem rdS_len (d : List Int) (a c : Int) (hd : dval d = true) (hs : strch a c d.length = true) : ((rdS d a c).length : Int) = c := by
  rw [rdS_of d a c (by simp [hd, hs])]
  rw [strch_iff] at hs
  rw [List.length_take, List.length_drop]
  omega
theorem rdS_64 (d : List Int) (a c : Int) : (rdS d a c).length ≤ 64 := by
  cases hb : (dval d && strch a c d.length) with
  | false => rw [rdS_nil d a c hb]; simp
  | true =>
    have hd : dval d = true := by cases hd : dval d <;> simp [hd] at hb ⊢
    have := ((dval_iff d).1 hd).1
    rw [rdS_of d a c hb, List.length_take, List.length_drop]; omega
theorem rdS_split (d : List Int) (a c h : Int) (hd : dval d = true) (hs : strch a c d.length = true) (h0 : 0 ≤ h) (h1 : h ≤ c) :
    rdS d a h ++ rdS d (a + h) (c - h) = rdS d a c := by
  have hs' := (strch_iff _ _ _).1 hs
  rw [rdS_of d a c (by simp [hd, hs]), rdS_of d a h (by simp only [hd, Bool.true_and]; rw [strch_iff]; omega),
    rdS_of d (a + h) (c - h) (by simp only [hd, Bool.true_and]; rw [strch_iff]; omega)]
  have e1 : (a + h).toNat = a.toNat + h.toNat := by omega
  have e2 : c.toNat = h.toNat + (c - h).toNat := by omega
  rw [e1, e2, List.take_add, List.drop_drop]
theorem rdS_all (d : List Int) (hd : dval d = true) : rdS d 0 d.length = d := by
  rw [rdS_of d 0 d.length (by simp only [hd, Bool.true_and]; rw [strch_iff]; omega)]
  simp

theorem wrS_of (d : List Int) (a : Int) (vs : List Int) (h : (dval d && allw vs 0 255 && strch a vs.length d.length) = true) :
    wrS d a vs = d.take a.toNat ++ (vs ++ d.drop (a.toNat + vs.length)) := by
  unfold wrS; rw [if_pos h]
theorem wrS_nil (d : List Int) (a : Int) (vs : List Int) (h : (dval d && allw vs 0 255 && strch a vs.length d.length) = false) : wrS d a vs = [] := by
  unfold wrS; rw [if_neg (by simp [h])]
theorem wrS_ok (d : List Int) (a : Int) (vs : List Int) (h : wrS d a vs ≠ []) : dval d = true ∧ allw vs 0 255 = true ∧ strch a vs.length d.length = true := by
  cases hb : (dval d && allw vs 0 255 && strch a vs.length d.length) with
  | false => exact absurd (wrS_nil d a vs hb) h
  | true => simpa [and_assoc] using hb
theorem wrS_len (d : List Int) (a : Int) (vs : List Int) (hd : dval d = true) (hv : allw vs 0 255 = true) (hs : strch a vs.length d.length = true) : (wrS d a vs).length = d.length := by
  rw [wrS_of d a vs (by simp [hd, hv, hs])]
  rw [strch_iff] at hs
  simp only [List.length_append, List.length_take, List.length_drop]
  omega
theorem wrS_val (d : List Int) (a : Int) (vs : List Int) (hd : dval d = true) (hv : allw vs 0 255 = true) (hs : strch a vs.length d.length = true) : dval (wrS d a vs) = true := by
  have hl := wrS_len d a vs hd hv hs
  rw [dval_iff] at hd ⊢
  rw [allw_iff] at hv
  refine ⟨by omega, fun v hm => ?_⟩
  rw [wrS_of d a vs (by simp [dval_iff, allw_iff, hs]; exact ⟨⟨hd.1, hd.2⟩, hv⟩)] at hm
  rcases List.mem_append.1 hm with hm | hm
  · exact hd.2 v (List.mem_of_mem_take hm)
  · rcases List.mem_append.1 hm with hm | hm
    · exact hv v hm
    · exact hd.2 v (List.mem_of_mem_drop hm)
theorem wrS_64 (d : List Int) (a : Int) (vs : List Int) : (wrS d a vs).length ≤ 64 := by
  cases hb : (dval d && allw vs 0 255 && strch a vs.length d.length) with
  | false => rw [wrS_nil d a vs hb]; simp
  | true =>
    obtain ⟨hd, hv, hs⟩ : dval d = true ∧ allw vs 0 255 = true ∧ strch a vs.length d.length = true := by simpa [and_assoc] using hb
    rw [wrS_len d a vs hd hv hs]
    exact ((dval_iff d).1 hd).1
theorem wrS_take (d : List Int) (a : Int) (vs : List Int) (hd : dval d = true) (hv : allw vs 0 255 = true) (hs : strch a vs.length d.length = true) : (wrS d a vs).take a.toNat = d.take a.toNat := by
  rw [wrS_of d a vs (by simp [hd, hv, hs])]
  rw [strch_iff] at hs
  rw [List.take_append_of_le_length (by rw [List.length_take]; omega), List.take_take, Nat.min_self]
theorem wrS_drop (d : List Int) (a : Int) (vs : List Int) (hd : dval d = true) (hv : allw vs 0 255 = true) (hs : strch a vs.length d.length = true) : (wrS d a vs).drop (a.toNat + vs.length) = d.drop (a.toNat + vs.length) := by
  rw [wrS_of d a vs (by simp [hd, hv, hs])]
  rw [strch_iff] at hs
  have hl : (d.take a.toNat).length = a.toNat := by rw [List.length_take]; omega
  rw [← List.append_assoc]
  exact List.drop_left' (by rw [List.length_append, hl])
theorem rdS_wrS (d : List Int) (a : Int) (vs : List Int) (hd : dval d = true) (hv : allw vs 0 255 = true) (hs : strch a vs.length d.length = true) : rdS (wrS d a vs) a vs.length = vs := by
  rw [rdS_of _ _ _ (by rw [wrS_len d a vs hd hv hs, wrS_val d a vs hd hv hs, hs]; rfl), wrS_of d a vs (by simp [hd, hv, hs])]
  rw [strch_iff] at hs
  have hl : (d.take a.toNat).length = a.toNat := by rw [List.length_take]; omega
  rw [List.drop_left' hl, Int.toNat_natCast]
  exact List.take_left
theorem wrS_twice (d : List Int) (a : Int) (vs : List Int) (hd : dval d = true) (hv : allw vs 0 255 = true) (hs : strch a vs.length d.length = true) (us : List Int) (hu : allw us 0 255 = true) (hl : us.length = vs.length) : wrS (wrS d a vs) a us = wrS d a us := by
  rw [wrS_of (wrS d a vs) a us (by rw [wrS_val d a vs hd hv hs, hu, hl, wrS_len d a vs hd hv hs, hs]; rfl), wrS_of d a us (by rw [hd, hu, hl, hs]; rfl)]
  rw [wrS_take d a vs hd hv hs, hl, wrS_drop d a vs hd hv hs]
theorem allw_flip (vs : List Int) (hv : allw vs 0 255 = true) : allw (vs.map fun v => 255 - v) 0 255 = true := by
  rw [allw_iff] at hv ⊢
  intro v hm
  obtain ⟨u, hu, rfl⟩ := List.mem_map.1 hm
  have := hv u hu
  omega

def sumF (s : Int) (d : List Int) : Int := d.foldl (fun s v => (33 * s + v) % 65521) s
theorem sumF_range (d : List Int) : ∀ s, 0 ≤ s → s ≤ 65520 → 0 ≤ sumF s d ∧ sumF s d ≤ 65520 := by
  induction d with
  | nil => intro s h0 h1; exact ⟨h0, h1⟩
  | cons v d ih =>
    intro s h0 h1
    exact ih ((33 * s + v) % 65521) (by omega) (by omega)
theorem sumF_inj (d : List Int) : ∀ s t, 0 ≤ s → s ≤ 65520 → 0 ≤ t → t ≤ 65520 → sumF s d = sumF t d → s = t := by
  induction d with
  | nil => intro s t _ _ _ _ h; exact h
  | cons v d ih =>
    intro s t h0 h1 h2 h3 h
    have := ih ((33 * s + v) % 65521) ((33 * t + v) % 65521) (by omega) (by omega) (by omega) (by omega) h
    omega
theorem sumS_range (d : List Int) : 0 ≤ sumS d ∧ sumS d ≤ 65520 := sumF_range d 1 (by omega) (by omega)
theorem sumS_snoc (d : List Int) (v : Int) : sumS (d ++ [v]) = (33 * sumS d + v) % 65521 := by
  unfold sumS; rw [List.foldl_append]; rfl
theorem sumS_take (d : List Int) (k : Nat) (h : k < d.length) : sumS (d.take (k + 1)) = (33 * sumS (d.take k) + d[k]) % 65521 := by
  rw [List.take_succ_eq_append_getElem h, sumS_snoc]
theorem sumS_step (d : List Int) (k : Nat) (h : k < d.length) (s : Int) (hs : s = sumS (d.take k)) : (33 * s + d[k]) % 65521 = sumS (d.take (k + 1)) := by
  rw [sumS_take d k h, hs]
theorem sumS_end (d : List Int) (k : Nat) (h : d.length ≤ k) (s : Int) (hs : s = sumS (d.take k)) (hd : dval d = true) : s = (if dval d = true then sumS d else -1) := by
  rw [List.take_of_length_le h] at hs; rw [if_pos hd, hs]
theorem sumS_set (d : List Int) (k : Nat) (h : k < d.length) (u : Int) (h0 : 0 ≤ d[k] ∧ d[k] ≤ 255) (h1 : 0 ≤ u ∧ u ≤ 255) (hne : u ≠ d[k]) : sumS (d.set k u) ≠ sumS d := by
  have e1 : d.set k u = d.take k ++ u :: d.drop (k + 1) := List.set_eq_take_append_cons_drop.trans (by rw [if_pos h])
  have e2 : d = d.take k ++ d[k] :: d.drop (k + 1) := by rw [← List.drop_eq_getElem_cons h, List.take_append_drop]
  intro he
  rw [e1] at he
  have he2 : sumS (d.take k ++ u :: d.drop (k + 1)) = sumS (d.take k ++ d[k] :: d.drop (k + 1)) := by rw [he]; exact congrArg sumS e2
  unfold sumS at he2
  rw [List.foldl_append, List.foldl_append] at he2
  have hr := sumS_range (d.take k)
  have := sumF_inj (d.drop (k + 1)) ((33 * sumS (d.take k) + u) % 65521) ((33 * sumS (d.take k) + d[k]) % 65521) (by omega) (by omega) (by omega) (by omega) he2
  omega
theorem dval_set (d : List Int) (k : Nat) (hd : dval d = true) (u : Int) (h1 : 0 ≤ u ∧ u ≤ 255) : dval (d.set k u) = true := by
  rw [dval_iff] at hd ⊢
  refine ⟨by simpa using hd.1, fun v hv => ?_⟩
  rcases List.mem_or_eq_of_mem_set hv with h | rfl
  · exact hd.2 v h
  · exact h1
theorem dsum_of (d : List Int) (h : dval d = true) : dsum d = sumS d := by unfold dsum; rw [if_pos h]
theorem dsum_no (d : List Int) (h : dval d = false) : dsum d = -1 := by unfold dsum; rw [if_neg (by simp [h])]
theorem dsum_ne (d : List Int) (k : Nat) (hd : dval d = true) (h : k < d.length) : dsum (d.set k ((d[k] + 1) % 256)) ≠ dsum d := by
  have hk := ((dval_iff d).1 hd).2 d[k] (List.getElem_mem h)
  rw [dsum_of d hd, dsum_of _ (dval_set d k hd _ (by omega))]
  exact sumS_set d k h _ hk (by omega) (by omega)
theorem dsum_snoc (d : List Int) (hd : dval d = true) (h : d.length ≠ 64) : dsum (d ++ [7]) = (33 * dsum d + 7) % 65521 := by
  have hv : dval (d ++ [7]) = true := by
    rw [dval_iff] at hd ⊢
    refine ⟨by rw [List.length_append]; simp; omega, fun v hm => ?_⟩
    rcases List.mem_append.1 hm with hm | hm
    · exact hd.2 v hm
    · simp at hm; omega
  rw [dsum_of d hd, dsum_of _ hv, sumS_snoc]
theorem dsum_lo (d : List Int) : -1 ≤ dsum d ∧ dsum d ≤ 65520 := by
  have := sumS_range d
  unfold dsum
  split <;> omega
theorem dsum_neg (d : List Int) : dsum d < 0 ↔ dval d = false := by
  have := sumS_range d
  unfold dsum
  cases dval d <;> simp <;> omega
end Go.Proofs.Ythnebfcclkebeaa
