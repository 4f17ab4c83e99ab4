/-
  Plain laws on rings of answers: what NewAnswers, AnswersValid, PostAnswer and TakeAnswer compute, and what the laws ask of it. No program in sight.
-/
import Derived.Test.YthkiollagnjfaaaPlainD
namespace Go.Proofs.Ythkiollagnjfaaa

structure Ans where
  ents : List (Int × Bool)
  post : Int
  pph : Bool
  take : Int
  tph : Bool
  pend : Int

def Ans.n (a : Ans) : Nat := a.ents.length
def aph (a : Ans) (i : Nat) : Bool := (a.ents.getD i (0, false)).2
def avl (a : Ans) (i : Nat) : Int := (a.ents.getD i (0, false)).1
/-- the place of the k-th entry behind Take -/
def apl (a : Ans) (k : Nat) : Nat := ((a.take + k) % (a.n : Int)).toNat
def aok (a : Ans) (k : Nat) : Bool := aph a (apl a k) == ((a.tph == decide (a.take + k < (a.n : Int))) == decide ((k : Int) < a.pend))
def ahead (a : Ans) : Bool :=
  win (a.n : Int) 1 16 && (win a.post 0 ((a.n : Int) - 1) && (win a.take 0 ((a.n : Int) - 1) && (win a.pend 0 (a.n : Int) && (decide (a.post = (a.take + a.pend) % (a.n : Int)) && ((a.pph == a.tph) == decide (a.take + a.pend < (a.n : Int)))))))
def aval (a : Ans) : Bool := ahead a && (List.range a.n).all (aok a)
def az : Ans := ⟨[], 0, false, 0, false, 0⟩
def anew (n : Int) : Ans := if win n 1 16 = true then ⟨List.replicate n.toNat (0, false), 0, true, 0, true, 0⟩ else az
/-- PostAnswer at a valid ring with room -/
def aput (a : Ans) (v : Int) : Ans :=
  ⟨a.ents.set a.post.toNat (v, a.pph), (a.post + 1) % (a.n : Int), a.pph != decide ((a.post + 1) % (a.n : Int) = 0), a.take, a.tph, a.pend + 1⟩
/-- TakeAnswer at a valid ring with a new answer -/
def acut (a : Ans) : Ans :=
  ⟨a.ents, a.post, a.pph, (a.take + 1) % (a.n : Int), a.tph != decide ((a.take + 1) % (a.n : Int) = 0), a.pend - 1⟩
def apost (a : Ans) (v : Int) : Ans := if aval a = true then (if a.pend = (a.n : Int) then a else aput a v) else az
def aposted (a : Ans) : Bool := aval a && !decide (a.pend = (a.n : Int))
def anewA (a : Ans) : Bool := aph a a.take.toNat == a.tph
def atake (a : Ans) : Ans := if aval a = true then (if anewA a = true then acut a else a) else az
def atook (a : Ans) : Bool := aval a && anewA a
def atop (a : Ans) : Int := if atook a = true then avl a a.take.toNat else 0

structure AHead (a : Ans) : Prop where
  n1 : 1 ≤ a.n
  n16 : a.n ≤ 16
  p0 : 0 ≤ a.post
  p1 : a.post < (a.n : Int)
  t0 : 0 ≤ a.take
  t1 : a.take < (a.n : Int)
  e0 : 0 ≤ a.pend
  e1 : a.pend ≤ (a.n : Int)
  pe : a.post = (a.take + a.pend) % (a.n : Int)
  ph : (a.pph = a.tph) ↔ a.take + a.pend < (a.n : Int)
theorem ahead_iff (a : Ans) : ahead a = true ↔ AHead a := by
  unfold ahead
  simp only [Bool.and_eq_true, win_iff, decide_eq_true_iff]
  have hb : ((a.pph == a.tph) == decide (a.take + a.pend < (a.n : Int))) = true ↔ ((a.pph = a.tph) ↔ a.take + a.pend < (a.n : Int)) := by
    by_cases h : a.take + a.pend < (a.n : Int)
    · rw [decide_eq_true h]; cases a.pph <;> cases a.tph <;> simp [h]
    · rw [decide_eq_false h]; cases a.pph <;> cases a.tph <;> simp [h]
  rw [hb]
  constructor
  · rintro ⟨h1, h2, h3, h4, h5, h6⟩
    exact ⟨by omega, by omega, by omega, by omega, by omega, by omega, by omega, by omega, h5, h6⟩
  · intro h
    have := h.n1; have := h.n16; have := h.p0; have := h.p1; have := h.t0; have := h.t1; have := h.e0; have := h.e1
    exact ⟨by omega, by omega, by omega, by omega, h.pe, h.ph⟩
theorem aval_iff (a : Ans) : aval a = true ↔ AHead a ∧ ∀ k, k < a.n → aok a k = true := by
  unfold aval
  rw [Bool.and_eq_true, ahead_iff]
  simp
theorem amod {t n : Int} (h0 : 0 ≤ t) (h1 : t < n + n) (_hn : 0 < n) : t % n = if t < n then t else t - n := by
  split
  · exact Int.emod_eq_of_lt h0 (by omega)
  · rw [← Int.emod_emod_of_dvd t (Int.dvd_refl n), show t = (t - n) + n by omega, Int.add_emod_right, Int.emod_emod_of_dvd _ (Int.dvd_refl n), Int.emod_eq_of_lt (by omega) (by omega)]; omega
theorem apl_lt (a : Ans) (k : Nat) (h : 1 ≤ a.n) : apl a k < a.n := by
  unfold apl
  have h1 := Int.emod_nonneg (a.take + k) (show (a.n : Int) ≠ 0 by omega)
  have h2 := Int.emod_lt_of_pos (a.take + k) (show 0 < (a.n : Int) by omega)
  omega
theorem apl_eq (a : Ans) (h : AHead a) (k : Nat) (hk : k < a.n + 1) : (apl a k : Int) = if a.take + k < (a.n : Int) then a.take + k else a.take + k - a.n := by
  have := h.n1; have := h.t0; have := h.t1
  unfold apl
  rw [Int.toNat_of_nonneg (Int.emod_nonneg _ (by omega)), amod (by omega) (by omega) (by omega)]
/-- how far behind Take a place lies -/
def adist (a : Ans) (i : Nat) : Int := if a.take ≤ i then (i : Int) - a.take else (i : Int) - a.take + a.n
theorem aval_idx (a : Ans) (h : AHead a) : (∀ k, k < a.n → aok a k = true) ↔ ∀ i, i < a.n → aph a i = ((a.tph == decide (a.take ≤ i)) == decide (adist a i < a.pend)) := by
  have hn1 := h.n1; have ht0 := h.t0; have ht1 := h.t1
  constructor
  · intro hk i hi
    have hd : ∃ k : Nat, (k : Int) = adist a i := ⟨(adist a i).toNat, by unfold adist; split <;> omega⟩
    obtain ⟨k, hkd⟩ := hd
    have hkn : k < a.n := by unfold adist at hkd; split at hkd <;> omega
    have h1 := hk k hkn
    have h2 := apl_eq a h k (by omega)
    have hpl : apl a k = i := by unfold adist at hkd; split at hkd <;> split at h2 <;> omega
    unfold aok at h1
    rw [hpl, beq_iff_eq] at h1
    rw [h1, hkd]
    have hc : decide (a.take + adist a i < (a.n : Int)) = decide (a.take ≤ (i : Int)) := by
      rw [decide_eq_decide]; unfold adist; split <;> omega
    rw [hc]
  · intro hi k hk
    have h2 := apl_eq a h k (by omega)
    have hl := apl_lt a k hn1
    have h1 := hi _ hl
    unfold aok
    rw [beq_iff_eq, h1]
    have hd : adist a (apl a k) = (k : Int) := by unfold adist; split at h2 <;> split <;> omega
    have hc : decide (a.take ≤ (apl a k : Int)) = decide (a.take + k < (a.n : Int)) := by
      rw [decide_eq_decide]; split at h2 <;> omega
    rw [hd, hc]
theorem anewA_iff (a : Ans) (hv : aval a = true) : anewA a = decide (0 < a.pend) := by
  obtain ⟨h, hk⟩ := (aval_iff a).1 hv
  have hn1 := h.n1; have ht0 := h.t0; have ht1 := h.t1
  have h1 := (aval_idx a h).1 hk a.take.toNat (by omega)
  have e1 : decide (a.take ≤ ((a.take.toNat : Nat) : Int)) = true := decide_eq_true (by omega)
  have e2 : adist a a.take.toNat = 0 := by unfold adist; rw [if_pos (by omega)]; omega
  rw [e1, e2] at h1
  unfold anewA
  rw [h1]
  cases a.tph <;> cases hd : decide (0 < a.pend) <;> rfl
theorem acut_head (a : Ans) (h : AHead a) (hp : 0 < a.pend) : AHead (acut a) := by
  have hn1 := h.n1; have hn16 := h.n16; have ht0 := h.t0; have ht1 := h.t1; have hp0 := h.p0; have hp1 := h.p1; have he1 := h.e1; have hpe := h.pe; have hph := h.ph
  have hn : (acut a).n = a.n := rfl
  have ht : (a.take + 1) % (a.n : Int) = if a.take + 1 < (a.n : Int) then a.take + 1 else a.take + 1 - a.n := amod (by omega) (by omega) (by omega)
  rw [amod (by omega) (by omega) (by omega)] at hpe
  refine ⟨hn1, hn16, hp0, hp1, ?_, ?_, ?_, ?_, ?_, ?_⟩
  · show 0 ≤ (a.take + 1) % (a.n : Int); rw [ht]; split <;> omega
  · show (a.take + 1) % (a.n : Int) < a.n; rw [ht]; split <;> omega
  · show 0 ≤ a.pend - 1; omega
  · show a.pend - 1 ≤ a.n; omega
  · show a.post = ((a.take + 1) % (a.n : Int) + (a.pend - 1)) % (a.n : Int)
    rw [ht, hpe, amod (t := (if a.take + 1 < (a.n : Int) then a.take + 1 else a.take + 1 - a.n) + (a.pend - 1)) (by split <;> omega) (by split <;> omega) (by omega)]
    split <;> split <;> split <;> omega
  · show (a.pph = (a.tph != decide ((a.take + 1) % (a.n : Int) = 0))) ↔ (a.take + 1) % (a.n : Int) + (a.pend - 1) < a.n
    rw [ht]
    by_cases h1 : a.take + 1 < (a.n : Int)
    · rw [if_pos h1, decide_eq_false (by omega), Bool.bne_false, hph]; omega
    · rw [if_neg h1, decide_eq_true (by omega), Bool.bne_true]
      have e : (a.pph = !a.tph) ↔ ¬ (a.pph = a.tph) := by cases a.pph <;> cases a.tph <;> simp
      rw [e, hph]; omega
theorem acut_val (a : Ans) (hv : aval a = true) (hp : 0 < a.pend) : aval (acut a) = true := by
  obtain ⟨h, hk⟩ := (aval_iff a).1 hv
  have hc := acut_head a h hp
  refine (aval_iff _).2 ⟨hc, (aval_idx _ hc).2 fun i hi => ?_⟩
  have hi' : i < a.n := hi
  have hn1 := h.n1; have hn16 := h.n16; have ht0 := h.t0; have ht1 := h.t1; have he1 := h.e1
  have h1 := (aval_idx a h).1 hk i hi'
  have ht : (a.take + 1) % (a.n : Int) = if a.take + 1 < (a.n : Int) then a.take + 1 else a.take + 1 - a.n := amod (by omega) (by omega) (by omega)
  show aph a i = (((a.tph != decide ((a.take + 1) % (a.n : Int) = 0)) == decide ((a.take + 1) % (a.n : Int) ≤ i)) == decide (adist (acut a) i < a.pend - 1))
  rw [h1]
  have hd : adist (acut a) i = if (a.take + 1) % (a.n : Int) ≤ i then (i : Int) - (a.take + 1) % (a.n : Int) else (i : Int) - (a.take + 1) % (a.n : Int) + a.n := rfl
  rw [hd]
  unfold adist
  rw [ht]
  by_cases hA : a.take + 1 < (a.n : Int)
  · rw [if_pos hA, decide_eq_false (show ¬ (a.take + 1 = 0) by omega), Bool.bne_false]
    by_cases hi1 : a.take + 1 ≤ (i : Int)
    · rw [if_pos hi1, if_pos (by omega), decide_eq_true hi1, decide_eq_true (show a.take ≤ (i : Int) by omega)]
      congr 1; rw [decide_eq_decide]; omega
    · rw [if_neg hi1, decide_eq_false hi1]
      by_cases hi2 : a.take ≤ (i : Int)
      · rw [if_pos hi2, decide_eq_true hi2, decide_eq_true (show (i : Int) - a.take < a.pend by omega), decide_eq_false (show ¬ ((i : Int) - (a.take + 1) + a.n < a.pend - 1) by omega)]
        cases a.tph <;> rfl
      · rw [if_neg hi2, decide_eq_false hi2]
        congr 1; rw [decide_eq_decide]; omega
  · have e0 : a.take + 1 - a.n = 0 := by omega
    rw [if_neg hA, e0, decide_eq_true (show (0 : Int) = 0 from rfl), Bool.bne_true, if_pos (show (0 : Int) ≤ (i : Int) by omega), decide_eq_true (show (0 : Int) ≤ (i : Int) by omega)]
    by_cases hi2 : a.take ≤ (i : Int)
    · rw [if_pos hi2, decide_eq_true hi2, decide_eq_true (show (i : Int) - a.take < a.pend by omega), decide_eq_false (show ¬ ((i : Int) - 0 < a.pend - 1) by omega)]
      cases a.tph <;> rfl
    · rw [if_neg hi2, decide_eq_false hi2]
      have : decide ((i : Int) - a.take + a.n < a.pend) = decide ((i : Int) - 0 < a.pend - 1) := by rw [decide_eq_decide]; omega
      rw [this]
      cases a.tph <;> rfl
theorem aput_n (a : Ans) (v : Int) : (aput a v).n = a.n := by simp [aput, Ans.n]
theorem aput_head (a : Ans) (v : Int) (h : AHead a) (hp : a.pend < (a.n : Int)) : AHead (aput a v) := by
  have hn1 := h.n1; have hn16 := h.n16; have ht0 := h.t0; have ht1 := h.t1; have hp0 := h.p0; have hp1 := h.p1; have he0 := h.e0; have he1 := h.e1; have hpe := h.pe; have hph := h.ph
  have hn := aput_n a v
  have hq : (a.post + 1) % (a.n : Int) = if a.post + 1 < (a.n : Int) then a.post + 1 else a.post + 1 - a.n := amod (by omega) (by omega) (by omega)
  rw [amod (by omega) (by omega) (by omega)] at hpe
  refine ⟨by omega, by omega, ?_, ?_, ht0, by rw [hn]; exact ht1, ?_, ?_, ?_, ?_⟩
  · show 0 ≤ (a.post + 1) % (a.n : Int); rw [hq]; split <;> omega
  · rw [hn]; show (a.post + 1) % (a.n : Int) < a.n; rw [hq]; split <;> omega
  · show 0 ≤ a.pend + 1; omega
  · rw [hn]; show a.pend + 1 ≤ a.n; omega
  · rw [hn]; show (a.post + 1) % (a.n : Int) = (a.take + (a.pend + 1)) % (a.n : Int)
    rw [hq, amod (by omega) (by omega) (by omega)]
    split at hpe <;> split <;> split <;> omega
  · rw [hn]; show ((a.pph != decide ((a.post + 1) % (a.n : Int) = 0)) = a.tph) ↔ a.take + (a.pend + 1) < a.n
    rw [hq]
    by_cases h1 : a.post + 1 < (a.n : Int)
    · rw [if_pos h1, decide_eq_false (by omega), Bool.bne_false, hph]
      split at hpe <;> omega
    · rw [if_neg h1, decide_eq_true (by omega), Bool.bne_true]
      have e : ((!a.pph) = a.tph) ↔ ¬ (a.pph = a.tph) := by cases a.pph <;> cases a.tph <;> simp
      rw [e, hph]
      split at hpe <;> omega
theorem aput_at (a : Ans) (v : Int) (i : Nat) (hi : i < a.n) : (aput a v).ents.getD i (0, false) = if i = a.post.toNat then (v, a.pph) else a.ents.getD i (0, false) := by
  have hi' : i < a.ents.length := hi
  show (a.ents.set a.post.toNat (v, a.pph)).getD i (0, false) = _
  rw [List.getD_eq_getElem?_getD, List.getD_eq_getElem?_getD, List.getElem?_set]
  by_cases h : a.post.toNat = i
  · rw [if_pos h, if_pos (by omega), if_pos h.symm]; rfl
  · rw [if_neg h, if_neg (fun e => h e.symm)]
theorem aput_val (a : Ans) (v : Int) (hv : aval a = true) (hp : a.pend < (a.n : Int)) : aval (aput a v) = true := by
  obtain ⟨h, hk⟩ := (aval_iff a).1 hv
  have hc := aput_head a v h hp
  refine (aval_iff _).2 ⟨hc, (aval_idx _ hc).2 fun i hi => ?_⟩
  have hn := aput_n a v
  have hi' : i < a.n := by omega
  have hn1 := h.n1; have hn16 := h.n16; have ht0 := h.t0; have ht1 := h.t1; have he0 := h.e0; have he1 := h.e1; have hp0 := h.p0; have hpe := h.pe; have hph := h.ph
  rw [amod (by omega) (by omega) (by omega)] at hpe
  have h1 := (aval_idx a h).1 hk i hi'
  have hd : adist (aput a v) i = adist a i := by unfold adist; rw [hn]; rfl
  have hph2 : aph (aput a v) i = if i = a.post.toNat then a.pph else aph a i := by
    unfold aph; rw [aput_at a v i hi']; split <;> rfl
  show aph (aput a v) i = ((a.tph == decide (a.take ≤ i)) == decide (adist (aput a v) i < a.pend + 1))
  rw [hph2, hd]
  by_cases hip : i = a.post.toNat
  · rw [if_pos hip]
    have hde : adist a i = a.pend := by unfold adist; split at hpe <;> split <;> omega
    rw [hde, decide_eq_true (show a.pend < a.pend + 1 by omega)]
    by_cases h2 : a.take + a.pend < (a.n : Int)
    · rw [if_pos h2] at hpe
      rw [decide_eq_true (show a.take ≤ (i : Int) by omega), hph.2 h2]
      cases a.tph <;> rfl
    · rw [if_neg h2] at hpe
      rw [decide_eq_false (show ¬ (a.take ≤ (i : Int)) by omega)]
      have : a.pph ≠ a.tph := fun e => h2 (hph.1 e)
      revert this
      cases a.pph <;> cases a.tph <;> simp
  · rw [if_neg hip, h1]
    have hde : adist a i ≠ a.pend := by unfold adist; split at hpe <;> split <;> omega
    congr 1; rw [decide_eq_decide]; omega
theorem apost_full (a : Ans) (v : Int) (hv : aval a = true) (hf : a.pend = (a.n : Int)) : apost a v = a ∧ aposted a = false := by
  unfold apost aposted; rw [if_pos hv, if_pos hf, hv, decide_eq_true hf]; exact ⟨rfl, rfl⟩
theorem apost_put (a : Ans) (v : Int) (hv : aval a = true) (hf : ¬ a.pend = (a.n : Int)) : apost a v = aput a v ∧ aposted a = true := by
  unfold apost aposted; rw [if_pos hv, if_neg hf, hv, decide_eq_false hf]; exact ⟨rfl, rfl⟩
theorem apost_no (a : Ans) (v : Int) (hv : aval a = false) : apost a v = az ∧ aposted a = false := by
  unfold apost aposted; rw [if_neg (by simp [hv]), hv]; exact ⟨rfl, rfl⟩
theorem atake_no (a : Ans) (hv : aval a = false) : atake a = az ∧ atook a = false ∧ atop a = 0 := by
  have h : atook a = false := by unfold atook; rw [hv]; rfl
  refine ⟨by unfold atake; rw [if_neg (by simp [hv])], h, by unfold atop; rw [if_neg (by simp [h])]⟩
theorem atake_cut (a : Ans) (hv : aval a = true) (hp : 0 < a.pend) : atake a = acut a ∧ atook a = true ∧ atop a = avl a a.take.toNat := by
  have hn : anewA a = true := by rw [anewA_iff a hv]; exact decide_eq_true hp
  have h : atook a = true := by unfold atook; rw [hv, hn]; rfl
  exact ⟨by unfold atake; rw [if_pos hv, if_pos hn], h, by unfold atop; rw [if_pos h]⟩
theorem atake_none (a : Ans) (hv : aval a = true) (hp : a.pend ≤ 0) : atake a = a ∧ atook a = false ∧ atop a = 0 := by
  have hn : anewA a = false := by rw [anewA_iff a hv]; exact decide_eq_false (by omega)
  have h : atook a = false := by unfold atook; rw [hv, hn]; rfl
  exact ⟨by unfold atake; rw [if_pos hv, if_neg (by simp [hn])], h, by unfold atop; rw [if_neg (by simp [h])]⟩
theorem anew_val (n : Int) : aval (anew n) = win n 1 16 := by
  cases hw : win n 1 16 with
  | false => unfold anew; rw [if_neg (by simp [hw])]; decide
  | true =>
    have hn := (win_iff _ _ _).1 hw
    have hl : (anew n).n = n.toNat := by unfold anew; rw [if_pos hw]; simp [Ans.n]
    have hln : ((anew n).n : Int) = n := by rw [hl]; omega
    have e : anew n = ⟨List.replicate n.toNat (0, false), 0, true, 0, true, 0⟩ := by unfold anew; rw [if_pos hw]
    have hH : AHead (anew n) := by
      refine ⟨by omega, by omega, ?_, ?_, ?_, ?_, ?_, ?_, ?_, ?_⟩ <;> (try rw [hln]) <;> rw [e]
      · show (0 : Int) ≤ 0; omega
      · show (0 : Int) < n; omega
      · show (0 : Int) ≤ 0; omega
      · show (0 : Int) < n; omega
      · show (0 : Int) ≤ 0; omega
      · show (0 : Int) ≤ n; omega
      · show (0 : Int) = (0 + 0) % n; simp
      · show (true = true) ↔ (0 : Int) + 0 < n; simp; omega
    refine (aval_iff _).2 ⟨hH, (aval_idx _ hH).2 fun i hi => ?_⟩
    have hi' : i < n.toNat := by rw [← hl]; exact hi
    have h1 : aph (anew n) i = false := by rw [e]; unfold aph; simp [List.getD_eq_getElem?_getD, hi']
    have h2 : adist (anew n) i = (i : Int) := by unfold adist; rw [e]; simp
    rw [h1, h2, e]
    show false = ((true == decide ((0 : Int) ≤ i)) == decide ((i : Int) < 0))
    rw [decide_eq_true (show (0 : Int) ≤ i by omega), decide_eq_false (show ¬ ((i : Int) < 0) by omega)]; rfl
/-- with one phase inverted a valid ring is invalid -/
theorem aval_flip (a : Ans) (hv : aval a = true) (x : Int) (p : Bool) (l : List (Int × Bool)) (he : a.ents = (x, p) :: l) : aval ⟨(x, !p) :: l, a.post, a.pph, a.take, a.tph, a.pend⟩ = false := by
  rw [Bool.eq_false_iff]
  intro hc
  obtain ⟨h, hk⟩ := (aval_iff a).1 hv
  obtain ⟨h', hk'⟩ := (aval_iff _).1 hc
  have hn : (⟨(x, !p) :: l, a.post, a.pph, a.take, a.tph, a.pend⟩ : Ans).n = a.n := by unfold Ans.n; rw [he]; rfl
  have h1 := (aval_idx a h).1 hk 0 (by have := h.n1; omega)
  have h2 := (aval_idx _ h').1 hk' 0 (by have := h.n1; omega)
  have e1 : aph a 0 = p := by unfold aph; rw [he]; rfl
  have e2 : aph ⟨(x, !p) :: l, a.post, a.pph, a.take, a.tph, a.pend⟩ 0 = !p := rfl
  have e3 : adist ⟨(x, !p) :: l, a.post, a.pph, a.take, a.tph, a.pend⟩ 0 = adist a 0 := by unfold adist; rw [hn]
  rw [e1] at h1
  rw [e2, e3] at h2
  rw [show (⟨(x, !p) :: l, a.post, a.pph, a.take, a.tph, a.pend⟩ : Ans).tph = a.tph from rfl, show (⟨(x, !p) :: l, a.post, a.pph, a.take, a.tph, a.pend⟩ : Ans).take = a.take from rfl, show (⟨(x, !p) :: l, a.post, a.pph, a.take, a.tph, a.pend⟩ : Ans).pend = a.pend from rfl, ← h1] at h2
  cases p <;> simp at h2
theorem aval_more (a : Ans) (hv : aval a = true) : aval { a with pend := a.pend + 1 } = false := by
  rw [Bool.eq_false_iff]
  intro hc
  obtain ⟨h, _⟩ := (aval_iff a).1 hv
  obtain ⟨h', _⟩ := (aval_iff _).1 hc
  have hn1 := h.n1; have ht0 := h.t0; have ht1 := h.t1; have he0 := h.e0; have hpe := h.pe; have hph := h.ph
  have hpe' : a.post = (a.take + (a.pend + 1)) % (a.n : Int) := h'.pe
  have he1' : a.pend + 1 ≤ (a.n : Int) := h'.e1
  have hph' : (a.pph = a.tph) ↔ a.take + (a.pend + 1) < (a.n : Int) := h'.ph
  rw [amod (by omega) (by omega) (by omega)] at hpe hpe'
  rw [hph] at hph'
  split at hpe <;> split at hpe' <;> omega

/-! ### The pending answers, in order -/
def als (a : Ans) : List Int := (List.range a.pend.toNat).map fun k => avl a (apl a k)
theorem als_length (a : Ans) : (als a).length = a.pend.toNat := by simp [als]
theorem als_cut (a : Ans) (hv : aval a = true) (hp : 0 < a.pend) : als a = avl a a.take.toNat :: als (acut a) := by
  obtain ⟨h, _⟩ := (aval_iff a).1 hv
  have hn1 := h.n1; have ht0 := h.t0; have ht1 := h.t1; have he1 := h.e1
  have hc := acut_head a h hp
  obtain ⟨m, hm⟩ : ∃ m : Nat, a.pend = (m : Int) + 1 := ⟨(a.pend - 1).toNat, by omega⟩
  have e1 : a.pend.toNat = m + 1 := by omega
  have e2 : (acut a).pend.toNat = m := by show (a.pend - 1).toNat = m; omega
  unfold als
  rw [e1, e2, List.range_succ_eq_map, List.map_cons, List.map_map]
  have h0 : apl a 0 = a.take.toNat := by
    have := apl_eq a h 0 (by omega); split at this <;> omega
  rw [h0]
  congr 1
  apply List.map_congr_left
  intro k hk
  have hk' := List.mem_range.1 hk
  have h1 := apl_eq a h (k + 1) (by omega)
  have h2 := apl_eq (acut a) hc k (by show k < a.n + 1; omega)
  have ht : (a.take + 1) % (a.n : Int) = if a.take + 1 < (a.n : Int) then a.take + 1 else a.take + 1 - a.n := amod (by omega) (by omega) (by omega)
  have h3 : (acut a).take = (a.take + 1) % (a.n : Int) := rfl
  have h4 : ((acut a).n : Int) = a.n := rfl
  rw [h3, h4, ht] at h2
  have : apl a (k + 1) = apl (acut a) k := by
    split at h1 <;> split at h2 <;> (try split at h2) <;> omega
  show avl a (apl a (k + 1)) = avl (acut a) (apl (acut a) k)
  rw [this]; rfl
theorem als_put (a : Ans) (v : Int) (hv : aval a = true) (hp : a.pend < (a.n : Int)) : als (aput a v) = als a ++ [v] := by
  obtain ⟨h, _⟩ := (aval_iff a).1 hv
  have hn1 := h.n1; have ht0 := h.t0; have ht1 := h.t1; have he0 := h.e0; have he1 := h.e1; have hp0 := h.p0; have hpe := h.pe
  rw [amod (by omega) (by omega) (by omega)] at hpe
  have hn := aput_n a v
  have hpl : ∀ k, apl (aput a v) k = apl a k := fun k => by unfold apl; rw [hn]; rfl
  have e2 : (aput a v).pend.toNat = a.pend.toNat + 1 := by show (a.pend + 1).toNat = _; omega
  unfold als
  rw [e2, List.range_succ, List.map_append]
  congr 1
  · apply List.map_congr_left
    intro k hk
    have hk' := List.mem_range.1 hk
    rw [hpl]
    have h1 := apl_eq a h k (by omega)
    have hl := apl_lt a k hn1
    unfold avl
    rw [aput_at a v _ hl, if_neg (by split at h1 <;> split at hpe <;> omega)]
  · show [avl (aput a v) (apl (aput a v) a.pend.toNat)] = [v]
    rw [hpl]
    have h1 := apl_eq a h a.pend.toNat (by omega)
    have hl := apl_lt a a.pend.toNat hn1
    unfold avl
    rw [aput_at a v _ hl, if_pos (by split at h1 <;> split at hpe <;> omega)]

/-! ### Laps -/
/-- where a place, and its phase, stand k steps later -/
def stepP (n p : Int) (k : Nat) : Int := (p + k) % n
def stepF (n p : Int) (f : Bool) (k : Nat) : Bool := f != decide (n ≤ p + k)
theorem step_next (n p : Int) (f : Bool) (k : Nat) (h0 : 0 ≤ p) (h1 : p < n) (hk : (k : Int) < n) :
    (stepP n p k + 1) % n = stepP n p (k + 1) ∧ (stepF n p f k != decide ((stepP n p k + 1) % n = 0)) = stepF n p f (k + 1) := by
  have e1 : (p + (k : Int)) % n = if p + k < n then p + k else p + k - n := amod (by omega) (by omega) (by omega)
  have e2 : (stepP n p k + 1) % n = if p + k + 1 < n then p + k + 1 else if p + k + 1 < n + n then p + k + 1 - n else 0 := by
    unfold stepP
    rw [e1]
    by_cases h : p + (k : Int) < n
    · rw [if_pos h, amod (by omega) (by omega) (by omega)]; split <;> (try split) <;> omega
    · rw [if_neg h, amod (by omega) (by omega) (by omega)]; split <;> (try split) <;> omega
  have e3 : stepP n p (k + 1) = if p + k + 1 < n then p + k + 1 else if p + k + 1 < n + n then p + k + 1 - n else 0 := by
    unfold stepP
    rw [show p + ((k + 1 : Nat) : Int) = p + k + 1 by omega]
    by_cases h : p + (k : Int) + 1 < n + n
    · rw [amod (by omega) h (by omega)]; split <;> (try split) <;> omega
    · omega
  refine ⟨e2.trans e3.symm, ?_⟩
  rw [e2]
  unfold stepF
  by_cases h1 : p + (k : Int) + 1 < n
  · rw [if_pos h1, decide_eq_false (show ¬ (p + (k : Int) + 1 = 0) by omega), decide_eq_false (show ¬ (n ≤ p + (k : Int)) by omega), decide_eq_false (show ¬ (n ≤ p + ((k + 1 : Nat) : Int)) by omega)]; cases f <;> rfl
  · rw [if_neg h1, if_pos (by omega), decide_eq_true (show n ≤ p + ((k + 1 : Nat) : Int) by omega)]
    by_cases h2 : n ≤ p + (k : Int)
    · rw [decide_eq_true h2, decide_eq_false (show ¬ (p + (k : Int) + 1 - n = 0) by omega)]; cases f <;> rfl
    · rw [decide_eq_false h2, decide_eq_true (show p + (k : Int) + 1 - n = 0 by omega)]; cases f <;> rfl
theorem step_end (n p : Int) (f : Bool) (m : Nat) (hm : (m : Int) = n) (h0 : 0 ≤ p) (h1 : p < n) : stepP n p m = p ∧ stepF n p f m = !f := by
  unfold stepP stepF
  rw [hm, Int.add_emod_right, Int.emod_eq_of_lt h0 h1, decide_eq_true (show n ≤ p + n by omega)]
  exact ⟨rfl, by cases f <;> rfl⟩
theorem step_zero (n p : Int) (f : Bool) (h0 : 0 ≤ p) (h1 : p < n) : stepP n p 0 = p ∧ stepF n p f 0 = f := by
  unfold stepP stepF
  rw [show p + ((0 : Nat) : Int) = p by omega, Int.emod_eq_of_lt h0 h1, decide_eq_false (show ¬ (n ≤ p) by omega)]
  exact ⟨rfl, by cases f <;> rfl⟩
end Go.Proofs.Ythkiollagnjfaaa
