/-
  Words for lists of answers as cells, and the walks of toAnswer, eqAnswer, toAnswerS, eqAnswerS.
-/
import Derived.Test.YthkiollagnjfaaaF1
import Derived.Test.YthkiollagnjfaaaPlainA
import Derived.Test.YthkiollagnjfaaaD1
import Derived.Test.YthkiollagnjfaaaS2
namespace Go.Proofs.Ythkiollagnjfaaa
open Go.RowKit
set_option linter.unusedSimpArgs false
set_option linter.unusedVariables false
def acel (p : Int × Bool) : List Value := [.int .i64 p.1, .bool p.2]
def ansC (l : List (Int × Bool)) : List Value := l.flatMap acel
def ansV (p : Int × Bool) : Value := .agg #[.int .i64 p.1, .bool p.2]
theorem acel2 (x : Int × Bool) : (acel x).length = 2 := rfl
theorem ansC_length (l : List (Int × Bool)) : (ansC l).length = l.length * 2 := fm_length acel2 l
theorem ansC_one (l : List (Int × Bool)) : ∀ u ∈ ansC l, u.oneCell' = true := fm_one (fun x u hu => by simp [acel] at hu; rcases hu with rfl | rfl <;> rfl) l
theorem Sees.ans {w : World} {B n c : Nat} {A : Option Addr} {l : List (Int × Bool)} (h : Sees w B 2 A n c (ansC l)) : l.length = n := h.fm acel2 (by omega)
theorem Sees.ans_at {w : World} {B n c : Nat} {A : Option Addr} {l : List (Int × Bool)} (h : Sees w B 2 A n c (ansC l)) (hn : 0 < n) :
    ∃ b o, A = some ⟨b, o, none⟩ ∧ b < B ∧ ∀ k (hk : k < l.length), w.cell? ⟨b, o + k * 2, none⟩ = some (.int .i64 l[k].1) ∧ w.cell? ⟨b, o + k * 2 + 1, none⟩ = some (.bool l[k].2) := by
  obtain ⟨b, o, e, hb, hc⟩ := h.fm_at acel2 hn
  exact ⟨b, o, e, hb, fun k hk => ⟨hc k hk 0 _ (by omega) rfl, by rw [Nat.add_assoc]; exact hc k hk 1 _ (by omega) rfl⟩⟩
theorem ans_info : (Try.prog.info? 46).map (fun i => (i.zero, i.size, i.bytes)) = some (some (.agg #[.int .i64 0, .bool false]), 2, 16) := by kernel_rfl
theorem aeq_iff (p q : Int × Bool) : (p = q) ↔ (p.1 = q.1 ∧ p.2 = q.2) := by
  constructor
  · rintro rfl; exact ⟨rfl, rfl⟩
  · rintro ⟨h1, h2⟩; exact Prod.ext h1 h2
theorem toAnswer_any (p : Int × Bool) (w : World) : Calls Try.prog 45 #[ansV p] w (RetPure w (ansV p)) := by
  obtain ⟨v, b⟩ := p
  simp only [ansV]
  go_enter Try.func45, Try.ntmps45
  go_wp2_with fail
  all_goals
    refine bodyPost_ret (v := .agg #[.int .i64 v, .bool b]) (by simp [results, Try.results45, go_sem]) rfl ⟨rfl, ?_⟩
    exact ((below_new _ _).alloc (Nat.le_of_lt (by simp)) _).alloc (Nat.le_of_lt (by simp; omega)) _
theorem eqAnswer_any (p q : Int × Bool) (w : World) : Calls Try.prog 44 #[ansV p, ansV q] w (RetPure w (.bool (decide (p = q)))) := by
  obtain ⟨v, b⟩ := p
  obtain ⟨v', b'⟩ := q
  simp only [ansV]
  go_enter Try.func44, Try.ntmps44
  go_wp2_with fail
  all_goals
    go_ret
    refine ⟨ret_bool ?_, (below_new _ _).alloc (Nat.le_of_lt (by simp)) _⟩
    rw [Bool.eq_iff_iff]
    simp only [decide_eq_true_iff, aeq_iff, bne_iff_ne, ne_eq, bne_eq_false_iff_eq, Bool.false_eq_true, false_iff, true_iff] at *
    simp_all
set_option maxHeartbeats 1000000 in
theorem toAnswerS_any (A : Option Addr) (n c B : Nat) (d : List (Int × Bool)) (w : World) (h : Sees w B 2 A n c (ansC d)) (hB : B ≤ w.heap.size) (hn8 : n ≤ 8796093022208) :
    Calls Try.prog 37 #[.slice A n c] w (RetFresh w 46 2 n (ansC d)) := by
  have hn := h.ans
  have hc1 := h.cap
  have HN : Hid (d.length = n) := Lib.hid hn
  clear hn
  obtain ⟨i0, hi0, hz0, hz1, hz2⟩ := info_parts ans_info
  have hmk := run_make_rowN (P := Try.prog) 22 46 i0 (.agg #[.int .i64 0, .bool false]) Try.underlying22 hi0 hz0 .i64 .i64 n n (Nat.le_refl _) (by rw [hz2]; omega) (by omega)
  rw [hz1] at hmk
  simp only [Value.cells] at hmk
  have hcs : (madeCells #[Value.int .i64 0, .bool false] (n * 2)).size = n * 2 := size_madeCells _ _
  have ho : Own (w.alloc (.cells (madeCells #[Value.int .i64 0, .bool false] (n * 2)) 46)) w.heap.size (w.heap.size + 1) 46 2 (some ⟨w.heap.size, 0, none⟩) n n (madeCells #[Value.int .i64 0, .bool false] (n * 2)).toList :=
    Own.made hcs.symm (Nat.le_refl _) (by omega) (List.take_of_length_le (by simp [size_madeCells])) (Nat.le_refl _) (by omega)
  have HO := Lib.hid ho
  clear ho hcs hz1 hz2
  go_enter Try.func37, Try.ntmps37
  go_wp2_with fail
  clear hmk
  generalize madeCells #[Value.int .i64 0, .bool false] (n * 2) = cur0 at *
  go_loopw [4] (fun i wr => ∃ (k : Nat) (xs : List Value), k ≤ n ∧ i = .int .i64 k ∧ Own wr w.heap.size (w.heap.size + 1) 46 2 (some ⟨w.heap.size, 0, none⟩) n n xs ∧ Hid (xs.take (k * 2) = ansC (d.take k)) ∧ Below w.heap.size w wr) (fun i _ => n - (intOf i).toNat)
  case atStart => exact ⟨0, _, Nat.zero_le _, rfl, HO.out, Lib.hid (by simp [ansC]), below_new _ _⟩
  case round =>
    clear HO
    obtain ⟨k, xs, hk, rfl, ho, hrel, hb⟩ := hrel
    by_cases hlt : k < n
    · have hkd : k < d.length := by rw [HN.out]; exact hlt
      obtain ⟨b, o, rfl, hbB, hcell⟩ := (h.below hb hB).ans_at (by omega)
      obtain ⟨hx0, hx1⟩ := hcell k hkd
      have hst : ∀ (v : Int) (q : Bool), d[k] = (v, q) → ((xs.set (k * 2) (.int .i64 v)).set (k * 2 + 1) (.bool q)).take ((k + 1) * 2) = ansC (d.take (k + 1)) := by
        intro v q hv
        have hl := ho.len
        refine fm_take_step acel2 d k hkd hrel.out _ ?_ (by simp; omega) ?_
        · rw [List.take_set_of_le (by omega), List.take_set_of_le (by omega)]
        · intro j hj
          rw [hv]
          obtain rfl | rfl : j = 0 ∨ j = 1 := by omega
          · rw [List.getElem?_set_ne (by omega), Nat.add_zero, List.getElem?_set_self (by omega)]; rfl
          · rw [List.getElem?_set_self (by simp; omega)]; rfl
      have hc := toAnswer_any d[k] wr
      generalize d[k] = e at *
      obtain ⟨v, q⟩ := e
      have HST := Lib.hid (hst v q rfl)
      simp only [ansV] at hc hx0 hx1
      have hxl := ho.len
      clear hcell hst hrel
      go_wp2_with fail
      refine hc.mono ?_
      rintro e w1 ⟨rfl, b1⟩
      have p1 := ho.below b1
      have hB1 := below_later hb b1 (Nat.le_refl _)
      have hs1 : w.heap.size < w1.heap.size := by obtain ⟨g, hg, _, _, h4⟩ := p1.head (by omega); injection hg with hg; injection hg with hg; omega
      have y0 := p1.cell rfl (k * 2) _ (List.getElem?_eq_getElem (by omega))
      have y1 := p1.cell rfl (k * 2 + 1) _ (List.getElem?_eq_getElem (by omega))
      have z0 := p1.frozen rfl (k * 2)
      have z1 := p1.frozen rfl (k * 2 + 1)
      have HP := Lib.hid ((p1.set rfl (k * 2) (.int .i64 v)).set rfl (k * 2 + 1) (.bool q))
      have HB := Lib.hid ((hB1.setCell (p := ⟨w.heap.size, k * 2, none⟩) (Nat.le_refl _) (.int .i64 v)).setCell (p := ⟨w.heap.size, k * 2 + 1, none⟩) (Nat.le_refl _) (.bool q))
      clear hc hx0 hx1 p1 ho hb hB1 b1
      go_wp2_with fail
      go_roundw
      case rel => exact ⟨k + 1, _, by omega, by go_num, HP.out, HST, HB.out⟩
      case measure => simp [intOf]; omega
    · have hcur := hrel.out
      have : k = n := by omega
      subst this
      rw [List.take_of_length_le (by have := ho.len; omega), List.take_of_length_le (by rw [HN.out]; exact Nat.le_refl _)] at hcur
      subst hcur
      have hs1 : w.heap.size < wr.heap.size := by
        rcases ho.at_ with ⟨h1, _⟩ | ⟨g, cur, h1, _, _, h4, _⟩
        · cases h1
        · injection h1 with h1; injection h1 with h1; rw [h1]; exact rowLt h4
      go_wp2_with fail
      go_ret
      exact ⟨_, _, rfl, ho.wide (Nat.le_refl _) (by omega), hb⟩
end Go.Proofs.Ythkiollagnjfaaa
