/-
  Plain laws on batches of commands and their order: what ExecuteBatch, OrderSafe, ApplyOrder and ReadyCommands compute, and what the laws ask of it. No program in sight.
-/
import Derived.Test.YthnebfcclkebeaaPlainC
namespace Go.Proofs.Ythnebfcclkebeaa

def allc (l : List Cmd) (s : Int) : Bool := l.all fun c => cval c s
def bval (l : List Cmd) (s : Int) : Bool := decide (l.length ≤ 12) && (win s 0 64 && allc l s)
theorem allc_iff (l : List Cmd) (s : Int) : allc l s = true ↔ ∀ c ∈ l, cval c s = true := by simp [allc]
theorem bval_iff (l : List Cmd) (s : Int) : bval l s = true ↔ l.length ≤ 12 ∧ (0 ≤ s ∧ s ≤ 64) ∧ ∀ c ∈ l, cval c s = true := by
  simp [bval, win_iff, allc_iff]
def runD (d : List Int) : List Cmd → List Int
  | [] => d
  | c :: l => runD (xdisk d c) l
def runR (d : List Int) : List Cmd → List (List Int)
  | [] => []
  | c :: l => xread d c :: runR (xdisk d c) l
theorem runD_append (l m : List Cmd) : ∀ d, runD d (l ++ m) = runD (runD d l) m := by
  induction l with
  | nil => intro d; rfl
  | cons c l ih => intro d; exact ih _
theorem runR_append (l m : List Cmd) : ∀ d, runR d (l ++ m) = runR d l ++ runR (runD d l) m := by
  induction l with
  | nil => intro d; rfl
  | cons c l ih => intro d; simp only [List.cons_append, runR, runD, ih]
theorem runR_length (l : List Cmd) : ∀ d, (runR d l).length = l.length := by
  induction l with
  | nil => intro d; rfl
  | cons c l ih => intro d; simp [runR, ih]
theorem runD_len (l : List Cmd) : ∀ d, (∀ c ∈ l, cval c d.length = true) → (runD d l).length = d.length := by
  induction l with
  | nil => intro d _; rfl
  | cons c l ih =>
    intro d h
    have hl := xdisk_len d c (h c (by simp))
    show (runD (xdisk d c) l).length = _
    rw [ih _ (fun e he => by rw [hl]; exact h e (by simp [he])), hl]
theorem runD_val (l : List Cmd) : ∀ d, dval d = true → (∀ c ∈ l, cval c d.length = true) → dval (runD d l) = true := by
  induction l with
  | nil => intro d hd _; exact hd
  | cons c l ih =>
    intro d hd h
    have hl := xdisk_len d c (h c (by simp))
    exact ih _ (xdisk_val d c hd (h c (by simp))) (fun e he => by rw [hl]; exact h e (by simp [he]))
def exBD (d : List Int) (l : List Cmd) : List Int := if (dval d && bval l d.length) = true then runD d l else []
def exBR (d : List Int) (l : List Cmd) : List (List Int) := if (dval d && bval l d.length) = true then runR d l else []
theorem exBD_of {d : List Int} {l : List Cmd} (hd : dval d = true) (hl : bval l d.length = true) : exBD d l = runD d l := by unfold exBD; rw [if_pos (by simp [hd, hl])]
theorem exBR_of {d : List Int} {l : List Cmd} (hd : dval d = true) (hl : bval l d.length = true) : exBR d l = runR d l := by unfold exBR; rw [if_pos (by simp [hd, hl])]
theorem exBD_no {d : List Int} {l : List Cmd} (h : (dval d && bval l d.length) = false) : exBD d l = [] := by unfold exBD; rw [if_neg (by simp [h])]
theorem exBR_no {d : List Int} {l : List Cmd} (h : (dval d && bval l d.length) = false) : exBR d l = [] := by unfold exBR; rw [if_neg (by simp [h])]
theorem bval_take (l : List Cmd) (s : Int) (k : Nat) (h : bval l s = true) : bval (l.take k) s = true := by
  rw [bval_iff] at h ⊢
  exact ⟨by rw [List.length_take]; omega, h.2.1, fun c hc => h.2.2 c (List.mem_of_mem_take hc)⟩
theorem bval_drop (l : List Cmd) (s : Int) (k : Nat) (h : bval l s = true) : bval (l.drop k) s = true := by
  rw [bval_iff] at h ⊢
  exact ⟨by rw [List.length_drop]; omega, h.2.1, fun c hc => h.2.2 c (List.mem_of_mem_drop hc)⟩
theorem bval_zero (l : List Cmd) (s : Int) : bval (l ++ [⟨0, 0, 0, 0⟩]) s = false := by
  rw [Bool.eq_false_iff]
  intro h
  have := cval_kind _ _ (((bval_iff _ _).1 h).2.2 ⟨0, 0, 0, 0⟩ (by simp))
  simp at this
theorem exB_split (d : List Int) (l : List Cmd) (k : Nat) (hd : dval d = true) (hl : bval l d.length = true) :
    exBD (exBD d (l.take k)) (l.drop k) = exBD d l ∧ exBR d (l.take k) ++ exBR (exBD d (l.take k)) (l.drop k) = exBR d l := by
  have h1 := bval_take l _ k hl
  have h2 := bval_drop l _ k hl
  have hm : ∀ c ∈ l.take k, cval c d.length = true := ((bval_iff _ _).1 h1).2.2
  have hlen := runD_len _ d hm
  have hv := runD_val _ d hd hm
  rw [exBD_of hd h1, exBR_of hd h1, exBD_of hv (by rw [hlen]; exact h2), exBR_of hv (by rw [hlen]; exact h2), exBD_of hd hl, exBR_of hd hl]
  rw [← runD_append, ← runR_append, List.take_append_drop]
  exact ⟨rfl, rfl⟩

/-! ### Orders -/
def isOrd (o : List Int) (n : Nat) : Bool := decide (o.length = n) && (allw o 0 (n - 1) && decide o.Nodup)
theorem isOrd_iff (o : List Int) (n : Nat) : isOrd o n = true ↔ o.length = n ∧ (∀ v ∈ o, 0 ≤ v ∧ v ≤ (n : Int) - 1) ∧ o.Nodup := by simp [isOrd, allw_iff]
def cmd0 : Cmd := ⟨0, 0, 0, 0⟩
def pick (l : List Cmd) (i : Int) : Cmd := l.getD i.toNat cmd0
def applyO (l : List Cmd) (o : List Int) : List Cmd := if (decide (l.length ≤ 12) && isOrd o l.length) = true then o.map (pick l) else []
/-- the later ones of a list that clash with an earlier one of a greater number -/
def okPairs (l : List Cmd) : List Int → Bool
  | [] => true
  | a :: o => o.all (fun b => !(decide (b < a) && clash (pick l a) (pick l b))) && okPairs l o
def safeO (l : List Cmd) (o : List Int) : Bool := (bval l 64 && isOrd o l.length) && okPairs l o
theorem okPairs_cons (l : List Cmd) (a : Int) (o : List Int) : okPairs l (a :: o) = true ↔ (∀ b ∈ o, b < a → clash (pick l a) (pick l b) = false) ∧ okPairs l o = true := by
  simp only [okPairs, Bool.and_eq_true, List.all_eq_true, Bool.not_eq_true', Bool.and_eq_false_iff, decide_eq_false_iff_not]
  refine and_congr_left' (forall_congr' fun b => forall_congr' fun _ => ?_)
  by_cases h : b < a <;> simp [h]

/-- what command x reads when the commands of the numbers o are executed -/
def rdOf (E : Int → Cmd) (x : Int) (d : List Int) : List Int → List Int
  | [] => []
  | y :: o => if x = y then xread d (E y) else rdOf E x (xdisk d (E y)) o
theorem front (E : Int → Cmd) (o : Int) : ∀ (L1 L2 : List Int) (d : List Int), (∀ y ∈ L1, cval (E y) d.length = true) → cval (E o) d.length = true → (∀ y ∈ L1, clash (E o) (E y) = false) →
    o ∉ L1 → (runD d ((L1 ++ o :: L2).map E) = runD d ((o :: (L1 ++ L2)).map E) ∧ ∀ x, rdOf E x d (L1 ++ o :: L2) = rdOf E x d (o :: (L1 ++ L2))) := by
  intro L1
  induction L1 with
  | nil => intro L2 d _ _ _ _; exact ⟨rfl, fun _ => rfl⟩
  | cons y L1 ih =>
    intro L2 d hv ho hc hn
    have hy := hv y (by simp)
    have hcy := hc y (by simp)
    have hly := xdisk_len d (E y) hy
    have hlo := xdisk_len d (E o) ho
    have hsw := xdisk_comm d (E o) (E y) ho hy hcy
    obtain ⟨h1, h2⟩ := ih L2 (xdisk d (E y)) (fun z hz => by rw [hly]; exact hv z (by simp [hz])) (by rw [hly]; exact ho) (fun z hz => hc z (by simp [hz])) (fun h => hn (by simp [h]))
    constructor
    · show runD (xdisk d (E y)) ((L1 ++ o :: L2).map E) = runD (xdisk (xdisk d (E o)) (E y)) ((L1 ++ L2).map E)
      rw [h1, hsw]; rfl
    · intro x
      show (if x = y then xread d (E y) else rdOf E x (xdisk d (E y)) (L1 ++ o :: L2)) = (if x = o then xread d (E o) else if x = y then xread (xdisk d (E o)) (E y) else rdOf E x (xdisk (xdisk d (E o)) (E y)) (L1 ++ L2))
      have hyo : y ≠ o := fun e => hn (by simp [e])
      rw [h2 x]
      show (if x = y then xread d (E y) else if x = o then xread (xdisk d (E y)) (E o) else rdOf E x (xdisk (xdisk d (E y)) (E o)) (L1 ++ L2)) = _
      by_cases hxy : x = y
      · subst hxy
        rw [if_pos rfl, if_neg hyo, if_pos rfl]
        exact (xread_comm d (E x) (E o) hy ho (by rw [clash_comm]; exact hcy)).symm
      · rw [if_neg hxy]
        by_cases hxo : x = o
        · rw [if_pos hxo, if_pos hxo]; exact xread_comm d (E o) (E y) ho hy hcy
        · rw [if_neg hxo, if_neg hxo, if_neg hxy, hsw]
/-- An order in which no later command of a smaller number clashes leads to the same disk and the same values. -/
theorem sorted_run (E : Int → Cmd) : ∀ (O L : List Int) (d : List Int), L.Pairwise (· < ·) → O.Perm L → (∀ y ∈ L, cval (E y) d.length = true) →
    O.Pairwise (fun a b => b < a → clash (E a) (E b) = false) → (runD d (O.map E) = runD d (L.map E) ∧ ∀ x, rdOf E x d O = rdOf E x d L) := by
  intro O
  induction O with
  | nil => intro L d _ hp _ _; rw [hp.nil_eq]; exact ⟨rfl, fun _ => rfl⟩
  | cons o O ih =>
    intro L d hs hp hv hc
    have hoL : o ∈ L := hp.subset (by simp)
    obtain ⟨L1, L2, rfl⟩ := List.append_of_mem hoL
    have hnd : (L1 ++ o :: L2).Nodup := hs.imp (fun h => by omega)
    have hn1 : o ∉ L1 := by
      rw [List.nodup_append] at hnd
      intro h
      exact hnd.2.2 o h o (by simp) rfl
    have hp' : O.Perm (L1 ++ L2) := by
      have := hp.trans (List.perm_middle (a := o) (l₁ := L1) (l₂ := L2))
      exact List.Perm.cons_inv this
    rw [List.pairwise_cons] at hc
    have hlt : ∀ y ∈ L1, y < o := fun y hy => (List.pairwise_append.1 hs).2.2 y hy o (by simp)
    have hov := hv o (by simp)
    have hcl : ∀ y ∈ L1, clash (E o) (E y) = false := fun y hy => hc.1 y (hp'.symm.subset (by simp [hy])) (hlt y hy)
    obtain ⟨f1, f2⟩ := front E o L1 L2 d (fun y hy => hv y (by simp [hy])) hov hcl hn1
    have hlen := xdisk_len d (E o) hov
    obtain ⟨g1, g2⟩ := ih (L1 ++ L2) (xdisk d (E o)) (hs.sublist (by simp)) hp' (fun y hy => by rw [hlen]; exact hv y (by
      rcases List.mem_append.1 hy with h | h
      · simp [h]
      · simp [h])) hc.2
    constructor
    · rw [f1]; exact g1
    · intro x
      rw [f2 x]
      show (if x = o then _ else rdOf E x (xdisk d (E o)) O) = (if x = o then _ else rdOf E x (xdisk d (E o)) (L1 ++ L2))
      rw [g2 x]
theorem runR_rdOf (E : Int → Cmd) : ∀ (O : List Int) (d : List Int) (k : Nat) (hk : k < O.length), O.Nodup → (runR d (O.map E))[k]? = some (rdOf E O[k] d O) := by
  intro O
  induction O with
  | nil => intro d k hk; simp at hk
  | cons o O ih =>
    intro d k hk hn
    rw [List.nodup_cons] at hn
    cases k with
    | zero => simp [runR, rdOf]
    | succ k =>
      have hk' : k < O.length := by simpa using hk
      have hne : O[k] ≠ o := fun e => hn.1 (by rw [← e]; exact List.getElem_mem hk')
      show (xread d (E o) :: runR (xdisk d (E o)) (O.map E))[k + 1]? = _
      rw [List.getElem?_cons_succ, ih _ k hk' hn.2]
      show _ = some (rdOf E O[k] d (o :: O))
      rw [rdOf, if_neg hne]
def upto (n : Nat) : List Int := (List.range n).map fun (i : Nat) => (i : Int)
theorem upto_sorted (n : Nat) : (upto n).Pairwise (· < ·) := by
  unfold upto
  rw [List.pairwise_map]
  exact List.pairwise_lt_range.imp (fun h => by omega)
theorem upto_length (n : Nat) : (upto n).length = n := by simp [upto]
theorem upto_get (n k : Nat) (h : k < n) : (upto n)[k]'(by rw [upto_length]; exact h) = (k : Int) := by simp [upto]
theorem mem_upto (n : Nat) (v : Int) : v ∈ upto n ↔ 0 ≤ v ∧ v ≤ (n : Int) - 1 := by
  simp only [upto, List.mem_map, List.mem_range]
  constructor
  · rintro ⟨i, hi, rfl⟩; omega
  · intro h; exact ⟨v.toNat, by omega, by omega⟩
theorem map_pick_upto (l : List Cmd) : (upto l.length).map (pick l) = l := by
  apply List.ext_getElem?
  intro i
  simp only [upto, List.map_map, List.getElem?_map]
  by_cases h : i < l.length
  · rw [List.getElem?_range h]; simp [pick, h]
  · rw [List.getElem?_eq_none (by simpa using h), List.getElem?_eq_none (by simpa using h)]; rfl
theorem perm_of_sub : ∀ (O L : List Int), O.Nodup → (∀ v ∈ O, v ∈ L) → L.length ≤ O.length → O.Perm L := by
  intro O
  induction O with
  | nil =>
    intro L _ _ hl
    have : L = [] := List.eq_nil_of_length_eq_zero (by simpa using hl)
    rw [this]
  | cons o O ih =>
    intro L hn hs hl
    rw [List.nodup_cons] at hn
    obtain ⟨L1, L2, rfl⟩ := List.append_of_mem (hs o (by simp))
    have hp := ih (L1 ++ L2) hn.2 (fun v hv => by
      have h := hs v (by simp [hv])
      have hne : v ≠ o := fun e => hn.1 (by rw [← e]; exact hv)
      simp at h
      rcases h with h | h | h
      · simp [h]
      · exact absurd h hne
      · simp [h]) (by simp at hl ⊢; omega)
    exact (hp.cons o).trans List.perm_middle.symm
theorem nodup_perm_upto (o : List Int) (n : Nat) (h : isOrd o n = true) : o.Perm (upto n) := by
  rw [isOrd_iff] at h
  obtain ⟨hl, hr, hn⟩ := h
  have hsub : ∀ v ∈ o, v ∈ upto n := fun v hv => (mem_upto n v).2 (hr v hv)
  exact perm_of_sub o (upto n) hn hsub (by rw [upto_length, hl]; exact Nat.le_refl _)
end Go.Proofs.Ythnebfcclkebeaa
