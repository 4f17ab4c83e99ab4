/-
  Words for slices of structs: a list whose elements are rows of s cells each. No function of the program in sight.
-/
import Derived.Test.YthnebfcclkebeaaS1
namespace Go.Proofs.Ythnebfcclkebeaa
open Go.RowKit
section
variable {α : Type} {f : α → List Value} {s : Nat}
theorem fm_length (hf : ∀ x, (f x).length = s) (l : List α) : (l.flatMap f).length = l.length * s := by
  induction l with
  | nil => simp
  | cons p l ih => rw [List.flatMap_cons, List.length_append, hf, ih, List.length_cons, Nat.succ_mul, Nat.add_comm]
theorem fm_get (hf : ∀ x, (f x).length = s) (l : List α) (k : Nat) (hk : k < l.length) (j : Nat) (hj : j < s) : (l.flatMap f)[k * s + j]? = (f l[k])[j]? := by
  induction l generalizing k with
  | nil => simp at hk
  | cons p l ih =>
    rw [List.flatMap_cons]
    cases k with
    | zero => rw [Nat.zero_mul, Nat.zero_add, List.getElem?_append_left (by rw [hf]; exact hj)]; rfl
    | succ k =>
      rw [List.getElem?_append_right (by rw [hf, Nat.succ_mul]; omega), hf, show (k + 1) * s + j - s = k * s + j by rw [Nat.succ_mul]; omega, ih k (by simpa using hk)]
      rfl
theorem fm_set (hf : ∀ x, (f x).length = s) (l : List α) (k : Nat) (hk : k < l.length) (j : Nat) (hj : j < s) (u : Value) (x' : α) (hx : f x' = (f l[k]).set j u) : (l.flatMap f).set (k * s + j) u = (l.set k x').flatMap f := by
  induction l generalizing k with
  | nil => simp at hk
  | cons p l ih =>
    cases k with
    | zero =>
      rw [List.flatMap_cons, List.set_cons_zero, List.flatMap_cons, hx, Nat.zero_mul, Nat.zero_add, List.set_append_left _ _ (by rw [hf]; exact hj)]
      rfl
    | succ k =>
      rw [List.flatMap_cons, List.set_cons_succ, List.flatMap_cons, List.set_append_right _ _ (by rw [hf, Nat.succ_mul]; omega), hf, show (k + 1) * s + j - s = k * s + j by rw [Nat.succ_mul]; omega, ih k (by simpa using hk) hx]
theorem fm_take (hf : ∀ x, (f x).length = s) (l : List α) (k : Nat) : (l.flatMap f).take (k * s) = (l.take k).flatMap f := by
  induction l generalizing k with
  | nil => simp
  | cons p l ih =>
    cases k with
    | zero => simp
    | succ k =>
      rw [List.flatMap_cons, List.take_succ_cons, List.flatMap_cons, List.take_append, hf, show (k + 1) * s - s = k * s by rw [Nat.succ_mul]; omega, ih, List.take_of_length_le (by rw [hf, Nat.succ_mul]; omega)]
theorem fm_drop (hf : ∀ x, (f x).length = s) (l : List α) (k : Nat) : (l.flatMap f).drop (k * s) = (l.drop k).flatMap f := by
  induction l generalizing k with
  | nil => simp
  | cons p l ih =>
    cases k with
    | zero => simp
    | succ k =>
      rw [List.flatMap_cons, List.drop_succ_cons, List.drop_append, hf, show (k + 1) * s - s = k * s by rw [Nat.succ_mul]; omega, ih, List.drop_of_length_le (by rw [hf, Nat.succ_mul]; omega), List.nil_append]
theorem fm_one (h1 : ∀ x, ∀ u ∈ f x, u.oneCell' = true) (l : List α) : ∀ u ∈ l.flatMap f, u.oneCell' = true := by
  intro u hu
  obtain ⟨x, _, hx⟩ := List.mem_flatMap.1 hu
  exact h1 x u hx
theorem Sees.fm {w : World} {B n c : Nat} {A : Option Addr} {l : List α} (hf : ∀ x, (f x).length = s) (hs : 0 < s) (h : Sees w B s A n c (l.flatMap f)) : l.length = n := by
  have := h.len; rw [fm_length hf] at this; exact Nat.eq_of_mul_eq_mul_right hs this
/-- the address behind a slice of structs, and the cells of element k -/
theorem Sees.fm_at {w : World} {B n c : Nat} {A : Option Addr} {l : List α} (hf : ∀ x, (f x).length = s) (h : Sees w B s A n c (l.flatMap f)) (hn : 0 < n) :
    ∃ b o, A = some ⟨b, o, none⟩ ∧ b < B ∧ ∀ k (hk : k < l.length) j v, j < s → (f l[k])[j]? = some v → w.cell? ⟨b, o + (k * s + j), none⟩ = some v := by
  obtain ⟨b, o, e, hb, hc⟩ := h.at_ hn
  exact ⟨b, o, e, hb, fun k hk j v hj hv => hc _ _ ((fm_get hf l k hk j hj).trans hv)⟩
/-- one element more of a list that is filled in order -/
theorem fm_take_step {xs : List Value} (hf : ∀ x, (f x).length = s) (l : List α) (k : Nat) (hk : k < l.length) (h : xs.take (k * s) = (l.take k).flatMap f) (ys : List Value) (hy : ys.take (k * s) = xs.take (k * s)) (hl : (k + 1) * s ≤ ys.length)
    (he : ∀ j, j < s → ys[k * s + j]? = (f l[k])[j]?) : ys.take ((k + 1) * s) = (l.take (k + 1)).flatMap f := by
  rw [List.take_succ_eq_append_getElem hk, List.flatMap_append, ← h, ← hy]
  apply List.ext_getElem?
  intro i
  have e1 : (ys.take (k * s)).length = k * s := by rw [List.length_take, Nat.succ_mul] at *; omega
  have e2 : (k + 1) * s = k * s + s := Nat.succ_mul k s
  by_cases h1 : i < k * s
  · rw [List.getElem?_append_left (by omega), List.getElem?_take, List.getElem?_take, if_pos (by omega), if_pos h1]
  · rw [List.getElem?_append_right (by omega), e1, List.getElem?_take, List.flatMap_cons, List.flatMap_nil, List.append_nil]
    by_cases h2 : i < (k + 1) * s
    · rw [if_pos h2, ← he (i - k * s) (by omega), show k * s + (i - k * s) = i by omega]
    · rw [if_neg h2, List.getElem?_eq_none (by rw [hf]; omega)]
end
theorem gtake_step {α : Type} (x y : List α) (k : Nat) (hx : k < x.length) (hy : k < y.length) (h : x.take k = y.take k) (he : x[k] = y[k]) : x.take (k + 1) = y.take (k + 1) := by
  rw [List.take_succ_eq_append_getElem hx, List.take_succ_eq_append_getElem hy, h, he]
theorem gget_ne {α : Type} [DecidableEq α] (x y : List α) (k : Nat) (hx : k < x.length) (hy : k < y.length) (he : x[k] ≠ y[k]) : false = decide (x = y) := by
  rw [eq_comm, decide_eq_false_iff_not]; rintro rfl; exact he rfl
theorem gtake_end {α : Type} [DecidableEq α] (x y : List α) (k : Nat) (hx : x.length ≤ k) (hy : y.length ≤ k) (h : x.take k = y.take k) : true = decide (x = y) := by
  rw [List.take_of_length_le hx, List.take_of_length_le hy] at h; rw [eq_comm, decide_eq_true_iff]; exact h
theorem run_make_rowN {P : Program} (t e : TypeId) (i : TypeInfo) (z : Value) (ht : P.underlying t = some (.slice e)) (hi : P.info? e = some i) (hz : i.zero = some z)
    (kl kc : IntKind) (n c : Nat) (hnc : n ≤ c) (hbytes : i.bytes * c ≤ 281474976710656) (h63 : c ≤ 9223372036854775807) (w : World) :
    (Instr.makeSlice t (.int kl (n : Int)) (.int kc (c : Int))).run P w = .ok (.slice (some ⟨w.heap.size, 0, none⟩) n c) (w.alloc (.cells (madeCells z.cells (c * i.size)) e)) := by
  have hb : (i.bytes : Int) * (c : Int) ≤ 281474976710656 := by
    have h : ((i.bytes * c : Nat) : Int) ≤ 281474976710656 := by omega
    rwa [Int.natCast_mul] at h
  have hr := run_make (P := P) w t e i z ht hi hz kl kc n c (by omega) (by omega) hb (by omega)
  simp only [Int.toNat_natCast] at hr
  exact hr
theorem madeCells_rep (z : Array Value) (hz : 0 < z.size) (n : Nat) : (madeCells z (n * z.size)).toList = (List.replicate n ()).flatMap (fun _ => z.toList) := by
  have hf : ∀ x : Unit, ((fun _ => z.toList) x).length = z.size := fun _ => by simp
  apply List.ext_getElem?
  intro i
  by_cases hi : i < n * z.size
  · have hd : i / z.size < n := (Nat.div_lt_iff_lt_mul hz).2 hi
    have hm : i % z.size < z.size := Nat.mod_lt _ hz
    have he : i = i / z.size * z.size + i % z.size := by have := Nat.div_add_mod i z.size; rw [Nat.mul_comm] at this; exact this.symm
    have h1 := fm_get hf (List.replicate n ()) (i / z.size) (by simpa using hd) (i % z.size) hm
    rw [← he] at h1
    rw [h1]
    simp [madeCells, hi, hm]
  · rw [List.getElem?_eq_none (by simp [size_madeCells]; omega), List.getElem?_eq_none (by rw [fm_length hf]; simp; omega)]
end Go.Proofs.Ythnebfcclkebeaa
