/-
  Walks: the draws of commands.
-/
import Derived.Test.YtmdkihinhoclbaaC8
namespace Go.Proofs.Ytmdkihinhoclbaa
open Go.RowKit
set_option linter.unusedSimpArgs false
set_option linter.unusedVariables false
/-- A call's end: some command; nothing that was there has changed. -/
def RetSomeCmd (w : World) (en : Ending) (w' : World) : Prop :=
  ∃ k a c v : Int, en = .returned (.agg #[.int .i64 k, .int .i64 a, .int .i64 c, .int .i64 v]) ∧ (cb k ∧ cb a ∧ cb c ∧ cb v) ∧ Below w.heap.size w w'
set_option maxHeartbeats 2000000 in
theorem drawCommandWord_any (A : Option Addr) (n c B : Nat) (bs : List Int) (w : World) (h : Sees w B 1 A n c (byts bs)) (hB : B ≤ w.heap.size) (hb : ∀ v ∈ bs, 0 ≤ v ∧ v ≤ 255) :
    Calls Try.prog 26 #[.slice A n c] w (RetSomeCmd w) := by
  have b0 := below_new w (.cells #[.int .i64 0, .int .i64 0, .int .i64 0, .int .i64 0] 25)
  have r0 : (w.alloc (.cells #[.int .i64 0, .int .i64 0, .int .i64 0, .int .i64 0] 25)).heap[w.heap.size]? = some (.cells #[.int .i64 0, .int .i64 0, .int .i64 0, .int .i64 0] 25 (0, 0)) := heap_alloc_new w _
  have h0 := h.below b0 hB
  have zz : w.heap.size < (w.alloc (.cells #[.int .i64 0, .int .i64 0, .int .i64 0, .int .i64 0] 25)).heap.size := by simp
  go_enter Try.func26, Try.ntmps26
  go_wp2_with fail
  generalize (w.alloc (.cells #[.int .i64 0, .int .i64 0, .int .i64 0, .int .i64 0] 25)) = W at *
  refine (open_any _ _ _ _ _ _ h0 (by omega) hb).mono ?_
  rintro e w1 ⟨rfl, hr, hb1, hs1⟩
  have s1 : W.heap.size < w1.heap.size := by omega
  replace r0 := rowKeep r0 hb1
  replace b0 := below_later b0 hb1 (Nat.le_refl _)
  clear h0 hb1 hs1
  go_wp2_with fail
  refine (command_any W.heap.size 0 64 6 _ hr (by omega) (by omega) (by omega) (by omega) (by omega)).mono ?_
  rintro e w2 ⟨k, a, cc, v, q, rfl, hbd, hq, hr2, hf⟩
  have s2 := hf.size
  replace r0 := rowFr r0 hf (.inl (by omega))
  replace b0 := hf.below b0 (by omega) (by omega)
  obtain ⟨l0, l1, l2, l3⟩ := cells4 r0
  obtain ⟨y0, y1, y2, y3⟩ := frz4 r0
  obtain ⟨k0, k1, k2, k3⟩ := cells4 (set43 (set42 (set41 (set40 r0 (.int .i64 k)) (.int .i64 a)) (.int .i64 cc)) (.int .i64 v))
  go_wp2_with fail
  refine bodyPost_ret (v := .agg #[.int .i64 k, .int .i64 a, .int .i64 cc, .int .i64 v]) (by simp [results, Try.results26, go_sem, k0, k1, k2, k3]) rfl ?_
  exact ⟨k, a, cc, v, rfl, hbd, below_set4 b0 (Nat.le_refl _) _ _ _ _⟩
/-- A call's end: some number; nothing that was there has changed. -/
def RetNum (w : World) (en : Ending) (w' : World) : Prop :=
  ∃ n : Int, en = .returned (.int .i64 n) ∧ (-9223372036854775808 ≤ n ∧ n ≤ 9223372036854775807) ∧ Below w.heap.size w w'
theorem cword_bd (c : Cmd) : -1 ≤ cword c ∧ cword c < 65536 * 256 := by
  cases h : cval c 64 with
  | true => rw [cword_of c h]; have := wordOf_bd c h; omega
  | false => rw [cword_no c h]; omega
set_option maxHeartbeats 2000000 in
theorem drawReadCommand_any (A : Option Addr) (n c B : Nat) (bs : List Int) (w : World) (h : Sees w B 1 A n c (byts bs)) (hB : B ≤ w.heap.size) (hb : ∀ v ∈ bs, 0 ≤ v ∧ v ≤ 255) :
    Calls Try.prog 33 #[.slice A n c] w (RetNum w) := by
  have b0 := Below.refl w.heap.size w
  go_enter Try.func33, Try.ntmps33
  go_wp2_with fail
  refine (open_any _ _ _ _ _ _ h hB hb).mono ?_
  rintro e w1 ⟨rfl, hr, hb1, hs1⟩
  have s1 : w.heap.size < w1.heap.size := by omega
  replace b0 := below_later b0 hb1 (Nat.le_refl _)
  clear h hb1 hs1
  go_wp2_with fail
  refine (command_any w.heap.size 0 64 0 _ hr (by omega) (by omega) (by omega) (by omega) (by omega)).mono ?_
  rintro e w2 ⟨k, a, cc, v, q, rfl, hbd, hq, hr2, hf⟩
  have s2 := hf.size
  replace b0 := hf.below b0 (by omega) (by omega)
  clear hf hr
  go_wp2_with fail
  refine (specCommandWord_any ⟨k, a, cc, v⟩ _).mono ?_
  rintro e w3 ⟨rfl, b3⟩
  have s3 := b3.size
  have hr3 := hr2.below b3
  replace b0 := below_later b0 b3 (by omega)
  obtain ⟨hn1, hn2⟩ := cword_bd ⟨k, a, cc, v⟩
  generalize cword ⟨k, a, cc, v⟩ = m at *
  clear b3 hr2
  have e1 : IntKind.i64.wrap (m + 1) = m + 1 := IntWalk.i64_in _ (by omega)
  go_wp2_with fail
  refine (pick_any w.heap.size _ 60 _ hr3 (by omega)).mono ?_
  rintro e w4 ⟨k4, rfl, hk4, hr4, hf4, hs4⟩
  have s4 : w3.heap.size ≤ w4.heap.size := Nat.le_of_eq hs4.symm
  replace b0 := hf4.below b0 (by omega) (by omega)
  obtain ⟨x1, x2⟩ : 0 ≤ k4 ∧ k4 < 60 := by omega
  clear hr3 hk4 hf4 hs4
  have e2 : IntKind.i64.wrap (m + 1 + k4) = m + 1 + k4 := IntWalk.i64_in _ (by omega)
  go_wp2_with fail
  refine (pick_any w.heap.size _ 256 _ hr4 (by omega)).mono ?_
  rintro e w5 ⟨k5, rfl, hk5, hr5, hf5, hs5⟩
  have s5 : w4.heap.size ≤ w5.heap.size := Nat.le_of_eq hs5.symm
  replace b0 := hf5.below b0 (by omega) (by omega)
  obtain ⟨y1, y2⟩ : 0 ≤ k5 ∧ k5 < 256 := by omega
  clear hr4 hk5 hf5 hs5
  have e3 : IntKind.i64.wrap (k5 * 999) = k5 * 999 := IntWalk.i64_in _ (by omega)
  have hr6 := (hr5.alloc (.cells #[.int .i64 m, .int .i64 (m + 1 + k4), .int .i64 (k5 * 999), .int .i64 (-1), .int .i64 9223372036854775807] 3)).alloc (.cells #[.int .i64 0, .int .i64 0, .int .i64 0, .int .i64 1, .int .i64 1, .int .i64 2, .int .i64 3, .int .i64 4] 3)
  have r1 : ((w5.alloc (.cells #[.int .i64 m, .int .i64 (m + 1 + k4), .int .i64 (k5 * 999), .int .i64 (-1), .int .i64 9223372036854775807] 3)).alloc (.cells #[.int .i64 0, .int .i64 0, .int .i64 0, .int .i64 1, .int .i64 1, .int .i64 2, .int .i64 3, .int .i64 4] 3)).heap[w5.heap.size]? = some (.cells #[.int .i64 m, .int .i64 (m + 1 + k4), .int .i64 (k5 * 999), .int .i64 (-1), .int .i64 9223372036854775807] 3 (0, 0)) := rowKeep (heap_alloc_new w5 _) (below_new _ _)
  have r2 : ((w5.alloc (.cells #[.int .i64 m, .int .i64 (m + 1 + k4), .int .i64 (k5 * 999), .int .i64 (-1), .int .i64 9223372036854775807] 3)).alloc (.cells #[.int .i64 0, .int .i64 0, .int .i64 0, .int .i64 1, .int .i64 1, .int .i64 2, .int .i64 3, .int .i64 4] 3)).heap[w5.heap.size + 1]? = some (.cells #[.int .i64 0, .int .i64 0, .int .i64 0, .int .i64 1, .int .i64 1, .int .i64 2, .int .i64 3, .int .i64 4] 3 (0, 0)) := by have := heap_alloc_new (w5.alloc (.cells #[.int .i64 m, .int .i64 (m + 1 + k4), .int .i64 (k5 * 999), .int .i64 (-1), .int .i64 9223372036854775807] 3)) (.cells #[.int .i64 0, .int .i64 0, .int .i64 0, .int .i64 1, .int .i64 1, .int .i64 2, .int .i64 3, .int .i64 4] 3); rwa [World.size_alloc] at this
  have s6 : w5.heap.size + 1 + 1 = ((w5.alloc (.cells #[.int .i64 m, .int .i64 (m + 1 + k4), .int .i64 (k5 * 999), .int .i64 (-1), .int .i64 9223372036854775807] 3)).alloc (.cells #[.int .i64 0, .int .i64 0, .int .i64 0, .int .i64 1, .int .i64 1, .int .i64 2, .int .i64 3, .int .i64 4] 3)).heap.size := by simp
  replace b0 := (b0.alloc (by omega) (.cells #[.int .i64 m, .int .i64 (m + 1 + k4), .int .i64 (k5 * 999), .int .i64 (-1), .int .i64 9223372036854775807] 3)).alloc (by simp; omega) (.cells #[.int .i64 0, .int .i64 0, .int .i64 0, .int .i64 1, .int .i64 1, .int .i64 2, .int .i64 3, .int .i64 4] 3)
  go_wp2_with fail
  generalize ((w5.alloc (.cells #[.int .i64 m, .int .i64 (m + 1 + k4), .int .i64 (k5 * 999), .int .i64 (-1), .int .i64 9223372036854775807] 3)).alloc (.cells #[.int .i64 0, .int .i64 0, .int .i64 0, .int .i64 1, .int .i64 1, .int .i64 2, .int .i64 3, .int .i64 4] 3)) = W6 at *
  refine (pick_any w.heap.size _ 8 _ hr6 (by omega)).mono ?_
  rintro e w7 ⟨k7, rfl, hk7, hr7, hf7, hs7⟩
  replace r1 := rowFr r1 hf7 (.inr (by omega))
  replace r2 := rowFr r2 hf7 (.inr (by omega))
  replace b0 := hf7.below b0 (by omega) (by omega)
  obtain ⟨i1, i2⟩ : 0 ≤ k7 ∧ k7 < 8 := by omega
  obtain ⟨j, hj, hpk⟩ := pickL (fun x => 0 ≤ x ∧ x < 5) [0, 0, 0, 1, 1, 2, 3, 4] k7 (by decide) i1 i2
  obtain ⟨j1, j2⟩ := hj
  have hcv : w7.cell? ⟨w5.heap.size + 1, k7.toNat, none⟩ = some (.int .i64 j) := by rw [cell_of_row w7 _ _ _ _ _ r2]; exact hpk
  obtain ⟨x, hx, hpk2⟩ := pickL (fun x => -9223372036854775808 ≤ x ∧ x ≤ 9223372036854775807) [m, m + 1 + k4, k5 * 999, -1, 9223372036854775807] j (by intro y hy; simp only [List.mem_cons, List.not_mem_nil, or_false] at hy; omega) j1 j2
  have hcw : w7.cell? ⟨w5.heap.size, j.toNat, none⟩ = some (.int .i64 x) := by rw [cell_of_row w7 _ _ _ _ _ r1]; exact hpk2
  clear r1 r2 hpk hpk2 hr6 hr7 hf7 hk7 hs7 e1 e2 e3 s6
  go_wp2_with fail
  go_ret
  exact ⟨x, rfl, hx, b0⟩
end Go.Proofs.Ytmdkihinhoclbaa
