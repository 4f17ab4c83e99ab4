/-
  Walk: the law FnRingList returns true.
-/
import Derived.Test.YtmbfdjompgndiaaR10
import Derived.Test.YtmbfdjompgndiaaS3
import Derived.Test.YtmbfdjompgndiaaA
namespace Go.Proofs.Ytmbfdjompgndiaa
open Go.RowKit
set_option linter.unusedSimpArgs false
set_option linter.unusedVariables false
set_option maxHeartbeats 40000000 in
theorem law_FnRingList (w : World) (A : Option Addr) (n c : Nat) (bs : List Int) (h : Sees w w.heap.size 1 A n c (byts bs)) (hb : ∀ v ∈ bs, 0 ≤ v ∧ v ≤ 255) :
    Calls Try.prog 14 #[.slice A n c] w (RetPure w (.bool true)) := by
  have hc1 := h.cap
  have hc2 := h.big
  by_cases hn : 1048576 < n
  · go_enter Try.func14, Try.ntmps14
    go_wp2_with fail
    go_ret
    exact ⟨rfl, Below.refl _ _⟩
  have hB : Below w.heap.size w w := Below.refl _ _
  go_enter Try.func14, Try.ntmps14
  go_wp2_with fail
  refine (drawRingList_any _ _ _ _ _ _ h (Nat.le_refl _) hb).mono ?_
  rintro e w1 ⟨At, ct, d, hd, tl, rfl, ⟨ot, hdl⟩, ⟨hb1, hb2⟩, b1⟩
  have s1 := b1.size
  replace hB := below_later hB b1 (Nat.le_refl _)
  clear b1
  clear h hb
  have hc3 := ot.cap
  have hc4 := ot.big
  have hn2 := below_new w1 (.cells #[.slice At d.length ct, .int .i64 hd, .int .i64 tl] 27)
  replace ot := ot.below hn2
  replace hB := below_later hB hn2 (Nat.le_refl _)
  clear hn2
  have rt : (w1.alloc (.cells #[.slice At d.length ct, .int .i64 hd, .int .i64 tl] 27)).heap[w1.heap.size]? = some (.cells #[.slice At d.length ct, .int .i64 hd, .int .i64 tl] 27 (0, 0)) := heap_alloc_new _ _
  obtain ⟨mt0, mt1, mt2⟩ := cells3 rt
  have s2 : w1.heap.size < (w1.alloc (.cells #[.slice At d.length ct, .int .i64 hd, .int .i64 tl] 27)).heap.size := by rw [World.size_alloc]; exact Nat.lt_succ_self _
  generalize hL : rlist ⟨d, hd, tl⟩ = L
  have hl16 : L.length ≤ 16 := by rw [← hL]; exact rlist_16 _
  have HL := Lib.hid hL
  clear hL
  go_wp2_with fail
  generalize (w1.alloc (.cells #[.slice At d.length ct, .int .i64 hd, .int .i64 tl] 27)) = u2 at *
  have q := implRingList_any At d.length ct _ d hd tl _ ot.sees (by omega)
  rw [HL.out] at q
  refine q.mono ?_
  clear q
  rintro e w3 ⟨Al, cl, rfl, ol, b3⟩
  have s3 := b3.size
  replace ot := ot.below b3
  replace rt := rowKeep rt b3
  clear mt0 mt1 mt2
  obtain ⟨mt0, mt1, mt2⟩ := cells3 rt
  replace hB := below_later hB b3 (Nat.le_refl _)
  clear b3
  go_wp2_with fail
  have q := specRingList_any At d.length ct _ d hd tl _ ot.sees (by omega)
  rw [HL.out] at q
  refine q.mono ?_
  clear q
  rintro e w4 ⟨As, cs, rfl, os, b4⟩
  have s4 := b4.size
  replace ot := ot.below b4
  replace ol := ol.below b4
  replace rt := rowKeep rt b4
  clear mt0 mt1 mt2
  obtain ⟨mt0, mt1, mt2⟩ := cells3 rt
  replace hB := below_later hB b4 (Nat.le_refl _)
  clear b4
  go_wp2_with fail
  refine (sameInts_t _ _ _ _ _ _ _ _ L _ ol.sees os.sees).mono ?_
  rintro e w5 ⟨rfl, b5⟩
  have s5 := b5.size
  replace ot := ot.below b5
  replace ol := ol.below b5
  replace os := os.below b5
  replace rt := rowKeep rt b5
  clear mt0 mt1 mt2
  obtain ⟨mt0, mt1, mt2⟩ := cells3 rt
  replace hB := below_later hB b5 (Nat.le_refl _)
  clear b5
  clear os
  go_wp2_with fail
  have hst : AtBox w w5 (w1.heap.size) At ct d hd tl _ _ := ⟨rt, ot, .inl (by omega), by omega, hB, by omega, by omega⟩
  have hlh : w3.heap.size ≤ w5.heap.size := by omega
  have hgl : w1.heap.size < u2.heap.size := by omega
  go_loopw [5] (fun i wr => ∃ k : Nat, k ≤ L.length ∧ i = .int .i64 k ∧ ∃ A c d hd tl lo hi, AtBox w wr (w1.heap.size) A c d hd tl lo hi ∧ rlist ⟨d, hd, tl⟩ = L.drop k ∧ Own wr (u2.heap.size) (w3.heap.size) 3 1 Al L.length cl (ints L) ∧ w3.heap.size ≤ wr.heap.size) (fun i _ => L.length - (intOf i).toNat)
  case atStart => exact ⟨0, Nat.zero_le _, rfl, At, ct, d, hd, tl, _, _, hst, HL.out, ol, hlh⟩
  case round =>
    clear hst rt mt0 mt1 mt2 ot hB ol hlh HL
    obtain ⟨k, hk, rfl, A1, c1, d1, h1, t1, lo, hi, sb, hr, ol, hlh⟩ := hrel
    obtain ⟨mt0, mt1, mt2⟩ := cells3 sb.row
    have sw := sb.bel.size
    have hin := sb.in_
    by_cases hkm : k < L.length
    · rw [List.drop_eq_getElem_cons hkm] at hr
      obtain ⟨d2, h2, t2, hp, ho, ht, hr2⟩ := rlist_pop _ _ _ hr
      have q := implRingPop_any A1 d1.length c1 _ d1 h1 t1 wr sb.own.sees sb.hi_
      rw [hp, ho, ht] at q
      unfold popV ringV at q
      simp only at q
      obtain ⟨b, o, rfl, hbb, hcell⟩ := ol.sees.int_at (by omega)
      have hck := hcell k hkm
      have i1 : (0 : Int) ≤ (k : Int) := by omega
      have i2 : (k : Int) < (L.length : Int) := by omega
      generalize hv : L[k] = v at *
      clear hcell hp ho ht hr hv
      go_wp2_with fail
      refine q.mono ?_
      clear q
      rintro e w7 ⟨A2, c2, rfl, o2, b7⟩
      have s7 := b7.size
      have hn7 := below_new w7 (.cells #[.slice A2 d2.length c2, .int .i64 h2, .int .i64 t2] 27)
      have r2 := rowKeep (rowKeep sb.row b7) hn7
      have x2 : (w7.alloc (.cells #[.slice A2 d2.length c2, .int .i64 h2, .int .i64 t2] 27)).heap[w7.heap.size]? = some (.cells #[.slice A2 d2.length c2, .int .i64 h2, .int .i64 t2] 27 (0, 0)) := heap_alloc_new w7 _
      have hc7 : (w7.alloc (.cells #[.slice A2 d2.length c2, .int .i64 h2, .int .i64 t2] 27)).cell? ⟨b, o + k, none⟩ = some (.int .i64 v) := (hn7.cell (p := ⟨b, o + k, none⟩) (by show b < _; omega)).trans ((b7.cell (p := ⟨b, o + k, none⟩) (by show b < _; omega)).trans hck)
      clear mt0 mt1 mt2 hck
      obtain ⟨mt0, mt1, mt2⟩ := cells3 r2
      obtain ⟨f0, f1, f2⟩ := frz3 r2
      obtain ⟨n0, n1, n2⟩ := cells3 x2
      have HS := Lib.hid (sb.next (h2 := h2) (t2 := t2) b7 o2)
      have HO := Lib.hid ((ol.below (b7.mono (by omega))).nextRing (g := w1.heap.size) (t := 27) (cs := #[.slice A2 d2.length c2, .int .i64 h2, .int .i64 t2]) (u0 := .slice A2 d2.length c2) (u1 := .int .i64 h2) (u2 := .int .i64 t2) hgl)
      have HR := Lib.hid hr2
      have HZ := Lib.hid (show w3.heap.size ≤ ((((w7.alloc (.cells #[.slice A2 d2.length c2, .int .i64 h2, .int .i64 t2] 27)).setCell ⟨w1.heap.size, 0, none⟩ (.slice A2 d2.length c2)).setCell ⟨w1.heap.size, 1, none⟩ (.int .i64 h2)).setCell ⟨w1.heap.size, 2, none⟩ (.int .i64 t2)).heap.size by simp only [World.size_setCell, World.size_alloc]; omega)
      clear hr2 r2 x2 ol sb hn7
      go_wp2_with fail
      go_roundw
      case rel => exact ⟨k + 1, by omega, by go_num, A2, c2, d2, h2, t2, _, _, HS.out, HR.out, HO.out, HZ.out⟩
      case measure => simp [intOf]; omega
    · obtain rfl : k = L.length := by omega
      rw [List.drop_length] at hr
      have hz := rlist_done _ hr
      have q := implRingCount_any A1 d1.length c1 _ d1 h1 t1 wr sb.own.sees sb.hi_
      generalize rcount ⟨d1, h1, t1⟩ = z at *
      have hB := sb.bel
      clear hr
      go_wp2_with fail
      refine q.mono ?_
      rintro e w7 ⟨rfl, b7⟩
      have s7 := b7.size
      replace hB := below_later hB b7 (by omega)
      clear q
      go_wp2_with fail
      refine (alive_any _).mono ?_
      rintro e w8 ⟨rfl, b8⟩
      replace hB := below_later hB b8 (by have := hB.size; omega)
      go_wp2_with fail
      go_ret
      exact ⟨rfl, hB⟩
end Go.Proofs.Ytmbfdjompgndiaa
