/-
  Words for lists of commands as cells, and the walk of toCommandS.
-/
import Derived.Test.YthnebfcclkebeaaF1
import Derived.Test.YthnebfcclkebeaaC2
import Derived.Test.YthnebfcclkebeaaPlainB
import Derived.Test.YthnebfcclkebeaaD1
import Derived.Test.YthnebfcclkebeaaS2
namespace Go.Proofs.Ythnebfcclkebeaa
open Go.RowKit
set_option linter.unusedSimpArgs false
set_option linter.unusedVariables false
deriving instance DecidableEq for Cmd
def ccel (c : Cmd) : List Value := [.int .i64 c.kind, .int .i64 c.pos, .int .i64 c.cnt, .int .i64 c.val]
def cmdC (l : List Cmd) : List Value := l.flatMap ccel
theorem ccel4 (x : Cmd) : (ccel x).length = 4 := rfl
theorem cmdC_length (l : List Cmd) : (cmdC l).length = l.length * 4 := fm_length ccel4 l
theorem cmdC_one (l : List Cmd) : ∀ u ∈ cmdC l, u.oneCell' = true := fm_one (fun x u hu => by simp [ccel] at hu; rcases hu with rfl | rfl | rfl | rfl <;> rfl) l
theorem Sees.cmd {w : World} {B n c : Nat} {A : Option Addr} {l : List Cmd} (h : Sees w B 4 A n c (cmdC l)) : l.length = n := h.fm ccel4 (by omega)
theorem Sees.cmd_at {w : World} {B n c : Nat} {A : Option Addr} {l : List Cmd} (h : Sees w B 4 A n c (cmdC l)) (hn : 0 < n) :
    ∃ b o, A = some ⟨b, o, none⟩ ∧ b < B ∧ ∀ k (hk : k < l.length), w.cell? ⟨b, o + k * 4, none⟩ = some (.int .i64 l[k].kind) ∧ w.cell? ⟨b, o + k * 4 + 1, none⟩ = some (.int .i64 l[k].pos) ∧
      w.cell? ⟨b, o + k * 4 + 2, none⟩ = some (.int .i64 l[k].cnt) ∧ w.cell? ⟨b, o + k * 4 + 3, none⟩ = some (.int .i64 l[k].val) := by
  obtain ⟨b, o, e, hb, hc⟩ := h.fm_at ccel4 hn
  exact ⟨b, o, e, hb, fun k hk => ⟨hc k hk 0 _ (by omega) rfl, by rw [Nat.add_assoc]; exact hc k hk 1 _ (by omega) rfl, by rw [Nat.add_assoc]; exact hc k hk 2 _ (by omega) rfl, by rw [Nat.add_assoc]; exact hc k hk 3 _ (by omega) rfl⟩⟩
theorem cmd_info : (Try.prog.info? 55).map (fun i => (i.zero, i.size, i.bytes)) = some (some (.agg #[.int .i64 0, .int .i64 0, .int .i64 0, .int .i64 0]), 4, 32) := by kernel_rfl
set_option maxHeartbeats 1000000 in
theorem toCommandS_any (A : Option Addr) (n c B : Nat) (d : List Cmd) (w : World) (h : Sees w B 4 A n c (cmdC d)) (hB : B ≤ w.heap.size) (hn8 : n ≤ 8796093022208) :
    Calls Try.prog 18 #[.slice A n c] w (RetFresh w 55 4 n (cmdC d)) := by
  have hn := h.cmd
  have hc1 := h.cap
  have HN : Hid (d.length = n) := Lib.hid hn
  clear hn
  obtain ⟨i0, hi0, hz0, hz1, hz2⟩ := info_parts cmd_info
  have hmk := run_make_rowN (P := Try.prog) 29 55 i0 (.agg #[.int .i64 0, .int .i64 0, .int .i64 0, .int .i64 0]) Try.underlying29 hi0 hz0 .i64 .i64 n n (Nat.le_refl _) (by rw [hz2]; omega) (by omega)
  rw [hz1] at hmk
  simp only [Value.cells] at hmk
  have hcs : (madeCells #[Value.int .i64 0, .int .i64 0, .int .i64 0, .int .i64 0] (n * 4)).size = n * 4 := size_madeCells _ _
  have ho : Own (w.alloc (.cells (madeCells #[Value.int .i64 0, .int .i64 0, .int .i64 0, .int .i64 0] (n * 4)) 55)) w.heap.size (w.heap.size + 1) 55 4 (some ⟨w.heap.size, 0, none⟩) n n (madeCells #[Value.int .i64 0, .int .i64 0, .int .i64 0, .int .i64 0] (n * 4)).toList :=
    Own.made hcs.symm (Nat.le_refl _) (by omega) (List.take_of_length_le (by simp [size_madeCells])) (Nat.le_refl _) (by omega)
  have HO := Lib.hid ho
  clear ho hcs hz1 hz2
  go_enter Try.func18, Try.ntmps18
  go_wp2_with fail
  clear hmk
  generalize madeCells #[Value.int .i64 0, .int .i64 0, .int .i64 0, .int .i64 0] (n * 4) = cur0 at *
  go_loopw [4] (fun i wr => ∃ (k : Nat) (xs : List Value), k ≤ n ∧ i = .int .i64 k ∧ Own wr w.heap.size (w.heap.size + 1) 55 4 (some ⟨w.heap.size, 0, none⟩) n n xs ∧ Hid (xs.take (k * 4) = cmdC (d.take k)) ∧ Below w.heap.size w wr) (fun i _ => n - (intOf i).toNat)
  case atStart => exact ⟨0, _, Nat.zero_le _, rfl, HO.out, Lib.hid (by simp [cmdC]), below_new _ _⟩
  case round =>
    clear HO
    obtain ⟨k, xs, hk, rfl, ho, hrel, hb⟩ := hrel
    by_cases hlt : k < n
    · have hkd : k < d.length := by rw [HN.out]; exact hlt
      obtain ⟨b, o, rfl, hbB, hcell⟩ := (h.below hb hB).cmd_at (by omega)
      obtain ⟨hx0, hx1, hx2, hx3⟩ := hcell k hkd
      have hst : ∀ (e : Cmd), d[k] = e → (((((xs.set (k * 4) (.int .i64 e.kind)).set (k * 4 + 1) (.int .i64 e.pos)).set (k * 4 + 2) (.int .i64 e.cnt)).set (k * 4 + 3) (.int .i64 e.val))).take ((k + 1) * 4) = cmdC (d.take (k + 1)) := by
        intro e hv
        have hl := ho.len
        refine fm_take_step ccel4 d k hkd hrel.out _ ?_ (by simp; omega) ?_
        · rw [List.take_set_of_le (by omega), List.take_set_of_le (by omega), List.take_set_of_le (by omega), List.take_set_of_le (by omega)]
        · intro j hj
          rw [hv]
          obtain rfl | rfl | rfl | rfl : j = 0 ∨ j = 1 ∨ j = 2 ∨ j = 3 := by omega
          · rw [List.getElem?_set_ne (by omega), List.getElem?_set_ne (by omega), List.getElem?_set_ne (by omega), Nat.add_zero, List.getElem?_set_self (by omega)]; rfl
          · rw [List.getElem?_set_ne (by omega), List.getElem?_set_ne (by omega), List.getElem?_set_self (by simp; omega)]; rfl
          · rw [List.getElem?_set_ne (by omega), List.getElem?_set_self (by simp; omega)]; rfl
          · rw [List.getElem?_set_self (by simp; omega)]; rfl
      have hc := toCommand_any d[k] wr
      generalize d[k] = e at *
      obtain ⟨v0, v1, v2, v3⟩ := e
      have HST := Lib.hid (hst ⟨v0, v1, v2, v3⟩ rfl)
      simp only [cmdV] at hc hx0 hx1 hx2 hx3
      have hxl := ho.len
      clear hcell hst hrel
      go_wp2_with fail
      refine hc.mono ?_
      rintro e w1 ⟨rfl, b1⟩
      have p1 := ho.below b1
      have hB1 := below_later hb b1 (Nat.le_refl _)
      have hs1 : w.heap.size < w1.heap.size := by obtain ⟨g, hg, _, _, h4⟩ := p1.head (by omega); injection hg with hg; injection hg with hg; omega
      have y0 := p1.cell rfl (k * 4) _ (List.getElem?_eq_getElem (by omega))
      have y1 := p1.cell rfl (k * 4 + 1) _ (List.getElem?_eq_getElem (by omega))
      have y2 := p1.cell rfl (k * 4 + 2) _ (List.getElem?_eq_getElem (by omega))
      have y3 := p1.cell rfl (k * 4 + 3) _ (List.getElem?_eq_getElem (by omega))
      have z0 := p1.frozen rfl (k * 4)
      have z1 := p1.frozen rfl (k * 4 + 1)
      have z2 := p1.frozen rfl (k * 4 + 2)
      have z3 := p1.frozen rfl (k * 4 + 3)
      have HP := Lib.hid ((((p1.set rfl (k * 4) (.int .i64 v0)).set rfl (k * 4 + 1) (.int .i64 v1)).set rfl (k * 4 + 2) (.int .i64 v2)).set rfl (k * 4 + 3) (.int .i64 v3))
      have HB := Lib.hid ((((hB1.setCell (p := ⟨w.heap.size, k * 4, none⟩) (Nat.le_refl _) (.int .i64 v0)).setCell (p := ⟨w.heap.size, k * 4 + 1, none⟩) (Nat.le_refl _) (.int .i64 v1)).setCell (p := ⟨w.heap.size, k * 4 + 2, none⟩) (Nat.le_refl _) (.int .i64 v2)).setCell (p := ⟨w.heap.size, k * 4 + 3, none⟩) (Nat.le_refl _) (.int .i64 v3))
      clear hc hx0 hx1 hx2 hx3 p1 ho hb hB1 b1
      go_wp2_with fail
      go_roundw
      case rel => exact ⟨k + 1, _, by omega, by go_num, HP.out, HST, HB.out⟩
      case measure => simp [intOf]; omega
    · have hcur := hrel.out
      have : k = n := by omega
      subst this
      rw [List.take_of_length_le (by have := ho.len; omega), List.take_of_length_le (by rw [HN.out]; exact Nat.le_refl _)] at hcur
      subst hcur
      have hs1 : w.heap.size < wr.heap.size := by
        rcases ho.at_ with ⟨h1, _⟩ | ⟨g, cur, h1, _, _, h4, _⟩
        · cases h1
        · injection h1 with h1; injection h1 with h1; rw [h1]; exact rowLt h4
      go_wp2_with fail
      go_ret
      exact ⟨_, _, rfl, ho.wide (Nat.le_refl _) (by omega), hb⟩
end Go.Proofs.Ythnebfcclkebeaa
