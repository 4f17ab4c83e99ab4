/-
  Plain laws of orders: safe orders lead to the same disk; ready commands; orders that move one number to the front; reversed orders.
-/
import Derived.Test.YthnebfcclkebeaaM9
import Derived.Test.YthnebfcclkebeaaM10
namespace Go.Proofs.Ythnebfcclkebeaa
set_option linter.unusedSimpArgs false
set_option linter.unusedVariables false
theorem okPairs_pw (l : List Cmd) : ∀ o : List Int, okPairs l o = true ↔ o.Pairwise (fun a b => b < a → clash (pick l a) (pick l b) = false) := by
  intro o
  induction o with
  | nil => exact ⟨fun _ => List.Pairwise.nil, fun _ => rfl⟩
  | cons a o ih => rw [okPairs_cons, List.pairwise_cons, ih]
theorem pick_mem (l : List Cmd) (o : List Int) (h : isOrd o l.length = true) : ∀ v ∈ o, pick l v ∈ l := by
  intro v hv
  have h1 := ((isOrd_iff _ _).1 h).2.1 v hv
  obtain ⟨j, rfl⟩ := Int.eq_ofNat_of_zero_le h1.1
  rw [pick_get l j (by omega)]
  exact List.getElem_mem _
theorem bval_apply (l : List Cmd) (o : List Int) (s : Int) (h : isOrd o l.length = true) (hl : bval l s = true) : bval (o.map (pick l)) s = true := by
  have h1 := (bval_iff _ _).1 hl
  have h2 := (isOrd_iff _ _).1 h
  refine (bval_iff _ _).2 ⟨by rw [List.length_map, h2.1]; exact h1.1, h1.2.1, ?_⟩
  intro c hc
  obtain ⟨v, hv, rfl⟩ := List.mem_map.1 hc
  exact h1.2.2 _ (pick_mem l o h v hv)
theorem safeO_iff (l : List Cmd) (o : List Int) : safeO l o = true ↔ bval l 64 = true ∧ isOrd o l.length = true ∧ okPairs l o = true := by
  unfold safeO; simp only [Bool.and_eq_true, and_assoc]
theorem order_run (l : List Cmd) (o : List Int) (d : List Int) (h2 : isOrd o l.length = true) (h3 : okPairs l o = true) (hd : dval d = true) (hl : bval l d.length = true) :
    exBD d (applyO l o) = exBD d l ∧ (exBR d (applyO l o)).length = l.length ∧ (exBR d l).length = l.length ∧
    ∀ k (hk : k < o.length), ∃ j : Nat, o[k] = (j : Int) ∧ j < l.length ∧ (exBR d (applyO l o))[k]? = (exBR d l)[j]? := by
  have hb := (bval_iff _ _).1 hl
  have ho := (isOrd_iff _ _).1 h2
  have ha := applyO_of hb.1 h2
  have hbo := bval_apply l o _ h2 hl
  have hpw := (okPairs_pw l o).1 h3
  have hperm := nodup_perm_upto o l.length h2
  have hcv : ∀ y ∈ upto l.length, cval (pick l y) d.length = true := by
    intro y hy
    have h1 := (mem_upto _ _).1 hy
    obtain ⟨j, rfl⟩ := Int.eq_ofNat_of_zero_le h1.1
    rw [pick_get l j (by omega)]
    exact hb.2.2 _ (List.getElem_mem _)
  obtain ⟨r1, r2⟩ := sorted_run (pick l) o (upto l.length) d (upto_sorted _) hperm hcv hpw
  rw [map_pick_upto] at r1
  rw [ha, exBD_of hd hbo, exBD_of hd hl, exBR_of hd hbo, exBR_of hd hl]
  refine ⟨r1, by rw [runR_length, List.length_map, ho.1], runR_length _ _, fun k hk => ?_⟩
  have hk2 := ho.2.1 o[k] (List.getElem_mem hk)
  obtain ⟨j, hj⟩ := Int.eq_ofNat_of_zero_le hk2.1
  have hjl : j < l.length := by omega
  refine ⟨j, hj, hjl, ?_⟩
  rw [runR_rdOf (pick l) o d k hk ho.2.2, r2]
  have hju : j < (upto l.length).length := by rw [upto_length]; exact hjl
  have h5 := runR_rdOf (pick l) (upto l.length) d j hju ((upto_sorted _).imp (fun h => by omega))
  rw [map_pick_upto, upto_get _ _ hjl] at h5
  rw [h5, hj]
theorem safe_run (l : List Cmd) (o : List Int) (d : List Int) (hs : safeO l o = true) (hd : dval d = true) (hl : bval l d.length = true) :
    exBD d (applyO l o) = exBD d l ∧ (exBR d (applyO l o)).length = l.length ∧ (exBR d l).length = l.length ∧
    ∀ k (hk : k < o.length), ∃ j : Nat, o[k] = (j : Int) ∧ j < l.length ∧ (exBR d (applyO l o))[k]? = (exBR d l)[j]? := by
  obtain ⟨_, h2, h3⟩ := (safeO_iff l o).1 hs
  exact order_run l o d h2 h3 hd hl
/-! ### one number to the front -/
/-- the numbers below j, without f -/
def others (f j : Nat) : List Int := ((List.range j).filter (fun i => i != f)).map fun (i : Nat) => (i : Int)
theorem others_zero (f : Nat) : others f 0 = [] := rfl
theorem others_yes (f j : Nat) (h : j ≠ f) : others f (j + 1) = others f j ++ [(j : Int)] := by
  simp [others, List.range_succ, List.filter_append, h]
theorem others_no (f : Nat) : others f (f + 1) = others f f := by
  simp [others, List.range_succ, List.filter_append]
theorem mem_others (f j : Nat) (v : Int) : v ∈ others f j ↔ ∃ i : Nat, v = (i : Int) ∧ i < j ∧ i ≠ f := by
  simp only [others, List.mem_map, List.mem_filter, List.mem_range, bne_iff_ne, ne_eq]
  constructor
  · rintro ⟨i, ⟨h1, h2⟩, rfl⟩; exact ⟨i, rfl, h1, h2⟩
  · rintro ⟨i, rfl, h1, h2⟩; exact ⟨i, ⟨h1, h2⟩, rfl⟩
theorem others_len_lt (f : Nat) : ∀ j, j ≤ f → (others f j).length = j := by
  intro j
  induction j with
  | zero => intro _; rfl
  | succ j ih => intro h; rw [others_yes f j (by omega), List.length_append, ih (by omega)]; rfl
theorem others_len (f : Nat) : ∀ j, f < j → (others f j).length + 1 = j := by
  intro j
  induction j with
  | zero => intro h; omega
  | succ j ih =>
    intro h
    by_cases he : j = f
    · subst he; rw [others_no, others_len_lt j j (Nat.le_refl _)]
    · rw [others_yes f j he, List.length_append]
      have := ih (by omega)
      show (others f j).length + 1 + 1 = j + 1
      omega
theorem others_sorted (f : Nat) : ∀ j, (others f j).Pairwise (· < ·) := by
  intro j
  induction j with
  | zero => exact List.Pairwise.nil
  | succ j ih =>
    by_cases he : j = f
    · subst he; rw [others_no]; exact ih
    · rw [others_yes f j he, List.pairwise_append]
      refine ⟨ih, by simp, ?_⟩
      intro a ha b hb
      obtain ⟨i, rfl, hi, _⟩ := (mem_others f j a).1 ha
      rw [List.mem_singleton] at hb
      subst hb
      omega
theorem front_isOrd (f n : Nat) (h : f < n) : isOrd ((f : Int) :: others f n) n = true := by
  refine (isOrd_iff _ _).2 ⟨?_, ?_, ?_⟩
  · rw [List.length_cons]; exact others_len f n h
  · intro v hv
    rcases List.mem_cons.1 hv with rfl | hv
    · omega
    · obtain ⟨i, rfl, hi, _⟩ := (mem_others f n v).1 hv; omega
  · rw [List.nodup_cons]
    refine ⟨fun hm => ?_, (others_sorted f n).imp (fun h => by omega)⟩
    obtain ⟨i, he, _, hne⟩ := (mem_others f n _).1 hm
    omega
theorem front_ok (l : List Cmd) (f : Nat) (h : f < l.length) : okPairs l ((f : Int) :: others f l.length) = rdy l f := by
  have hE : ∀ i (hi : i < l.length), pick l (i : Int) = l[i] := fun i hi => pick_get l i hi
  have h2 : okPairs l (others f l.length) = true := (okPairs_pw l _).2 ((others_sorted f _).imp (fun hab hba => by omega))
  rw [Bool.eq_iff_iff, okPairs_cons, h2]
  have hr : rdy l f = !((l.take f).any fun e => clash e l[f]) := rdy_at l f h _ rfl
  rw [hr]
  simp only [and_true, Bool.not_eq_true', List.any_eq_false]
  constructor
  · intro hp e he
    obtain ⟨i, hi, rfl⟩ := List.getElem_of_mem he
    rw [List.length_take] at hi
    rw [List.getElem_take]
    have := hp (i : Int) ((mem_others f _ _).2 ⟨i, rfl, by omega, by omega⟩) (by omega)
    rw [hE f h, hE i (by omega), clash_comm] at this
    rw [this]; simp
  · intro hp b hb hlt
    obtain ⟨i, rfl, hi, hne⟩ := (mem_others f _ _).1 hb
    rw [hE f h, hE i hi, clash_comm]
    have := hp (l[i]) (by rw [List.mem_take_iff_getElem]; exact ⟨i, by omega, rfl⟩)
    simpa using this
theorem front_safe (l : List Cmd) (f : Nat) (h : f < l.length) (hb : bval l 64 = true) : safeO l ((f : Int) :: others f l.length) = rdy l f := by
  unfold safeO
  rw [hb, front_isOrd f _ h, front_ok l f h]; rfl
theorem ready_run (l : List Cmd) (f : Nat) (d : List Int) (h : f < l.length) (hr : rdy l f = true) (hd : dval d = true) (hl : bval l d.length = true) :
    exBD d (applyO l ((f : Int) :: others f l.length)) = exBD d l :=
  (order_run l _ d (front_isOrd f _ h) (by rw [front_ok l f h]; exact hr) hd hl).1
/-! ### the list of those that are ready -/
theorem mem_readyTo (l : List Cmd) (n : Nat) (v : Int) : v ∈ readyTo l n ↔ ∃ i : Nat, v = (i : Int) ∧ i < n ∧ rdy l i = true := by
  simp only [readyTo, List.mem_map, List.mem_filter, List.mem_range]
  constructor
  · rintro ⟨i, ⟨h1, h2⟩, rfl⟩; exact ⟨i, rfl, h1, h2⟩
  · rintro ⟨i, rfl, h1, h2⟩; exact ⟨i, ⟨h1, h2⟩, rfl⟩
theorem readyTo_pre (l : List Cmd) (k : Nat) : ∀ n, k ≤ n → ∃ t, readyTo l n = readyTo l k ++ t ∧ ∀ v ∈ t, (k : Int) ≤ v := by
  intro n
  induction n with
  | zero => intro h; obtain rfl : k = 0 := (by omega); exact ⟨[], by simp, by simp⟩
  | succ n ih =>
    intro h
    by_cases he : k = n + 1
    · subst he; exact ⟨[], by simp, by simp⟩
    · obtain ⟨t, h1, h2⟩ := ih (by omega)
      cases hr : rdy l n with
      | true =>
        refine ⟨t ++ [(n : Int)], by rw [readyTo_yes l n hr, h1, List.append_assoc], ?_⟩
        intro v hv
        rcases List.mem_append.1 hv with hv | hv
        · exact h2 v hv
        · rw [List.mem_singleton] at hv; omega
      | false => exact ⟨t, by rw [readyTo_no l n hr, h1], h2⟩
/-- place 'as many as are ready below k' of the list holds k exactly where k is ready -/
theorem readyTo_at (l : List Cmd) (k n : Nat) (h : k < n) : rdy l k = true → (readyTo l n)[(readyTo l k).length]? = some (k : Int) := by
  intro hr
  obtain ⟨t, h1, _⟩ := readyTo_pre l (k + 1) n (by omega)
  rw [h1, readyTo_yes l k hr, List.append_assoc, List.getElem?_append_right (Nat.le_refl _), Nat.sub_self]
  rfl
theorem readyTo_not (l : List Cmd) (k n : Nat) (h : k < n) (hr : rdy l k = false) (v : Int) (hv : (readyTo l n)[(readyTo l k).length]? = some v) : v ≠ (k : Int) := by
  obtain ⟨t, h1, h2⟩ := readyTo_pre l (k + 1) n (by omega)
  rw [h1, readyTo_no l k hr, List.getElem?_append_right (Nat.le_refl _), Nat.sub_self] at hv
  have := h2 v (List.mem_of_getElem? hv)
  omega
theorem rdy_zero (l : List Cmd) : rdy l 0 = true := by unfold rdy; rw [List.take_zero]; rfl
theorem readyTo_first (l : List Cmd) (n : Nat) (h : 0 < n) : (readyTo l n)[0]? = some 0 := readyTo_at l 0 n h (rdy_zero l)
/-! ### reversed orders of reads -/
/-- the first k of n-1, n-2, .. -/
def downTo (n k : Nat) : List Int := (List.range k).map fun (i : Nat) => (n : Int) - 1 - i
theorem downTo_step (n k : Nat) : downTo n (k + 1) = downTo n k ++ [(n : Int) - 1 - k] := by
  simp [downTo, List.range_succ]
theorem downTo_length (n k : Nat) : (downTo n k).length = k := by simp [downTo]
theorem downTo_isOrd (n : Nat) : isOrd (downTo n n) n = true := by
  refine (isOrd_iff _ _).2 ⟨downTo_length n n, ?_, ?_⟩
  · intro v hv
    simp only [downTo, List.mem_map, List.mem_range] at hv
    obtain ⟨i, hi, rfl⟩ := hv
    omega
  · unfold downTo
    rw [List.nodup_iff_pairwise_ne, List.pairwise_map]
    exact (List.pairwise_lt_range).imp (fun h => by omega)
theorem pw_all {α : Type} (P : α → α → Prop) : ∀ L : List α, (∀ a ∈ L, ∀ b ∈ L, P a b) → L.Pairwise P := by
  intro L
  induction L with
  | nil => intro _; exact List.Pairwise.nil
  | cons x L ih => intro h; exact List.pairwise_cons.2 ⟨fun b hb => h x (by simp) b (by simp [hb]), ih fun a ha b hb => h a (by simp [ha]) b (by simp [hb])⟩
def rdsC (n : Nat) : List Cmd := (List.range n).map fun (i : Nat) => ⟨1, (i : Int), 3, 0⟩
theorem rdsC_step (n : Nat) : rdsC (n + 1) = rdsC n ++ [⟨1, (n : Int), 3, 0⟩] := by simp [rdsC, List.range_succ]
theorem rdsC_length (n : Nat) : (rdsC n).length = n := by simp [rdsC]
theorem rdsC_safe (n : Nat) (h : n ≤ 12) : safeO (rdsC n) (downTo n n) = true := by
  have hm : ∀ c ∈ rdsC n, ∃ i : Nat, i < n ∧ c = ⟨1, (i : Int), 3, 0⟩ := by
    intro c hc
    simp only [rdsC, List.mem_map, List.mem_range] at hc
    obtain ⟨i, hi, rfl⟩ := hc
    exact ⟨i, hi, rfl⟩
  have ho := downTo_isOrd n
  have ho2 : isOrd (downTo n n) (rdsC n).length = true := by rw [rdsC_length]; exact ho
  refine (safeO_iff _ _).2 ⟨(bval_iff _ _).2 ⟨by rw [rdsC_length]; exact h, by omega, ?_⟩, ho2, ?_⟩
  · intro c hc
    obtain ⟨i, hi, rfl⟩ := hm c hc
    rw [cval_iff]
    refine ⟨by omega, by omega, .inr ⟨⟨by simp, by simp⟩, .inr rfl, ⟨by simp, by simp⟩, by simp, ⟨by simp, ?_⟩, ?_⟩⟩ <;> simp only <;> omega
  · refine (okPairs_pw _ _).2 (pw_all _ _ ?_)
    intro a ha b hb _
    obtain ⟨i, _, h1⟩ := hm _ (pick_mem _ _ ho2 a ha)
    obtain ⟨j, _, h2⟩ := hm _ (pick_mem _ _ ho2 b hb)
    rw [h1, h2, Bool.eq_false_iff]
    intro hc
    have := (clash_iff _ _).1 hc
    simp at this
/-! ### the ascending order -/
theorem upto_isOrd (n : Nat) : isOrd (upto n) n = true := (isOrd_iff _ _).2 ⟨upto_length n, fun v hv => (mem_upto n v).1 hv, (upto_sorted n).imp (fun h => by omega)⟩
theorem upto_step (n : Nat) : upto (n + 1) = upto n ++ [(n : Int)] := by simp [upto, List.range_succ]
theorem applyO_upto (l : List Cmd) (h : l.length ≤ 12) : applyO l (upto l.length) = l := by rw [applyO_of h (upto_isOrd _), map_pick_upto]
theorem applyO_get (l : List Cmd) (o : List Int) (h12 : l.length ≤ 12) (h : isOrd o l.length = true) (k : Nat) (hk : k < o.length) :
    ∃ j : Nat, o[k] = (j : Int) ∧ ∃ hj : j < l.length, (applyO l o)[k]? = some l[j] := by
  have h1 := ((isOrd_iff _ _).1 h).2.1 o[k] (List.getElem_mem hk)
  obtain ⟨j, hj⟩ := Int.eq_ofNat_of_zero_le h1.1
  refine ⟨j, hj, by omega, ?_⟩
  rw [applyO_of h12 h, List.getElem?_map, List.getElem?_eq_getElem hk, hj, Option.map_some, pick_get l j (by omega)]
end Go.Proofs.Ythnebfcclkebeaa
