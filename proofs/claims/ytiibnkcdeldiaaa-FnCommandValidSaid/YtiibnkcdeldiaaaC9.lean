/-
  Walks: the draws of commands.
-/
import Derived.Test.YtiibnkcdeldiaaaC8
namespace Go.Proofs.Ytiibnkcdeldiaaa
open Go.RowKit
set_option linter.unusedSimpArgs false
set_option linter.unusedVariables false
/-- A call's end: some command; nothing that was there has changed. -/
def RetSomeCmd (w : World) (en : Ending) (w' : World) : Prop :=
  ∃ k a c v : Int, en = .returned (.agg #[.int .i64 k, .int .i64 a, .int .i64 c, .int .i64 v]) ∧ (cb k ∧ cb a ∧ cb c ∧ cb v) ∧ Below w.heap.size w w'
set_option maxHeartbeats 2000000 in
theorem drawCommandWord_any (A : Option Addr) (n c B : Nat) (bs : List Int) (w : World) (h : Sees w B 1 A n c (byts bs)) (hB : B ≤ w.heap.size) (hb : ∀ v ∈ bs, 0 ≤ v ∧ v ≤ 255) :
    Calls Try.prog 12 #[.slice A n c] w (RetSomeCmd w) := by
  have b0 := below_new w (.cells #[.int .i64 0, .int .i64 0, .int .i64 0, .int .i64 0] 24)
  have r0 : (w.alloc (.cells #[.int .i64 0, .int .i64 0, .int .i64 0, .int .i64 0] 24)).heap[w.heap.size]? = some (.cells #[.int .i64 0, .int .i64 0, .int .i64 0, .int .i64 0] 24 (0, 0)) := heap_alloc_new w _
  have h0 := h.below b0 hB
  have zz : w.heap.size < (w.alloc (.cells #[.int .i64 0, .int .i64 0, .int .i64 0, .int .i64 0] 24)).heap.size := by simp
  go_enter Try.func12, Try.ntmps12
  go_wp2_with fail
  generalize (w.alloc (.cells #[.int .i64 0, .int .i64 0, .int .i64 0, .int .i64 0] 24)) = W at *
  refine (open_any _ _ _ _ _ _ h0 (by omega) hb).mono ?_
  rintro e w1 ⟨rfl, hr, hb1, hs1⟩
  have s1 : W.heap.size < w1.heap.size := by omega
  replace r0 := rowKeep r0 hb1
  replace b0 := below_later b0 hb1 (Nat.le_refl _)
  clear h0 hb1 hs1
  go_wp2_with fail
  refine (command_any W.heap.size 0 64 6 _ hr (by omega) (by omega) (by omega) (by omega) (by omega)).mono ?_
  rintro e w2 ⟨k, a, cc, v, q, rfl, hbd, hq, hr2, hf⟩
  have s2 := hf.size
  replace r0 := rowFr r0 hf (.inl (by omega))
  replace b0 := hf.below b0 (by omega) (by omega)
  obtain ⟨l0, l1, l2, l3⟩ := cells4 r0
  obtain ⟨y0, y1, y2, y3⟩ := frz4 r0
  obtain ⟨k0, k1, k2, k3⟩ := cells4 (set43 (set42 (set41 (set40 r0 (.int .i64 k)) (.int .i64 a)) (.int .i64 cc)) (.int .i64 v))
  go_wp2_with fail
  refine bodyPost_ret (v := .agg #[.int .i64 k, .int .i64 a, .int .i64 cc, .int .i64 v]) (by simp [results, Try.results12, go_sem, k0, k1, k2, k3]) rfl ?_
  exact ⟨k, a, cc, v, rfl, hbd, below_set4 b0 (Nat.le_refl _) _ _ _ _⟩
/-- A call's end: some number; nothing that was there has changed. -/
def RetNum (w : World) (en : Ending) (w' : World) : Prop :=
  ∃ n : Int, en = .returned (.int .i64 n) ∧ (-9223372036854775808 ≤ n ∧ n ≤ 9223372036854775807) ∧ Below w.heap.size w w'
theorem cword_bd (c : Cmd) : -1 ≤ cword c ∧ cword c < 65536 * 256 := by
  cases h : cval c 64 with
  | true => rw [cword_of c h]; have := wordOf_bd c h; omega
  | false => rw [cword_no c h]; omega
end Go.Proofs.Ytiibnkcdeldiaaa
