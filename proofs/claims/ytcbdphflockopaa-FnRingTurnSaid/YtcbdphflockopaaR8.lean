/-
  Walks: the draw of rings (l20Ring).
-/
import Derived.Test.YtcbdphflockopaaR1
import Derived.Test.YtcbdphflockopaaP3
import Derived.Deep.DeepCutAuto
import Derived.Deep.RegionLaw
import Derived.IntWalk
namespace Go.Proofs.Ytcbdphflockopaa
open Go.RowKit
set_option linter.unusedSimpArgs false
theorem Rd.drewN {w : World} {R p : Nat} (h : Rd w R p) (q : Nat) : Rd (w.drewN q) R p := h.keep fun _ _ => rfl
theorem fr_setc {lo hi : Nat} {w w' : World} (h : Fr lo hi w w') {p : Addr} (hp : w.heap.size ≤ p.block) (u : Value) : Fr lo hi w (w'.setCell p u) :=
  ⟨h.os, h.tape, h.output, by rw [World.size_setCell]; exact h.size, fun k hk hh => (heap_setCell_other w' p k u (by omega)).trans (h.block k hk hh)⟩
theorem fr_later {lo hi l2 h2 : Nat} {w w1 w2 w3 : World} (f : Fr lo hi w w1) (b : Below w1.heap.size w1 w2) (g : Fr l2 h2 w2 w3) (h : w.heap.size ≤ l2) : Fr lo hi w w3 :=
  ⟨g.os.trans (b.os.trans f.os), g.tape.trans (b.tape.trans f.tape), g.output.trans (b.output.trans f.output), Nat.le_trans f.size (Nat.le_trans b.size g.size), fun k hk hh => (g.block k (by have := f.size; have := b.size; omega) (.inl (by omega))).trans ((b.block k (by have := f.size; omega)).trans (f.block k hk hh))⟩
theorem fr_below {lo hi : Nat} {w w1 w2 : World} (f : Fr lo hi w w1) (b : Below w1.heap.size w1 w2) : Fr lo hi w w2 :=
  ⟨b.os.trans f.os, b.tape.trans f.tape, b.output.trans f.output, Nat.le_trans f.size b.size, fun k hk hh => (b.block k (by have := f.size; omega)).trans (f.block k hk hh)⟩
theorem rd_set2 {w : World} {R p : Nat} (h : Rd w R p) (a : Addr) (u : Value) (hR : R < a.block) : Rd (w.setCell a u) R p := h.keep fun k hk => heap_setCell_other w a k u (by omega)
/-- What l20Ring leaves: some ring in new memory; the reader some places further; nothing else has changed. -/
def RetRing (w : World) (R p : Nat) (en : Ending) (w' : World) : Prop :=
  ∃ A c d hd tl q, en = .returned (.agg #[.slice A (List.length d) c, .int .i64 hd, .int .i64 tl]) ∧ (Own w' w.heap.size w'.heap.size 3 1 A (List.length d) c (ints d) ∧ List.length d ≤ 17) ∧ ((-1 ≤ hd ∧ hd ≤ 17) ∧ (-1 ≤ tl ∧ tl ≤ 17)) ∧ (p ≤ q ∧ q ≤ p + 100) ∧ Rd w' R q ∧ Fr R (R + 1) w w'
/-- the ring's box while it is drawn -/
def AtRing (w wr : World) (R p : Nat) (hd tl : Int) (n : Nat) : Prop :=
  ∃ A c d q, (wr.heap[w.heap.size]? = some (.cells #[.slice none 0 0, .int .i64 0, .int .i64 0] 25 (0, 0)) ∧ wr.heap[w.heap.size + 1]? = some (.cells #[.slice A n c, .int .i64 hd, .int .i64 tl] 25 (0, 0))) ∧ Own wr (w.heap.size + 1 + 1) wr.heap.size 3 1 A n c (ints d) ∧ (p ≤ q ∧ q ≤ p + 20) ∧ Rd wr R q ∧ Fr R (R + 1) w wr
def AtHead (w wr : World) (R p : Nat) : Prop := ∃ (n : Nat) (hd tl : Int), AtRing w wr R p hd tl n ∧ (2 ≤ n ∧ n ≤ 6) ∧ (0 ≤ hd ∧ hd < n) ∧ (0 ≤ tl ∧ tl ≤ 6)
def AtLoop (w wr : World) (R p : Nat) (j : Int) : Prop :=
  ∃ A c d q, (wr.heap[w.heap.size]? = some (.cells #[.slice none 0 0, .int .i64 0, .int .i64 0] 25 (0, 0)) ∧ wr.heap[w.heap.size + 1]? = some (.cells #[.slice A (List.length d) c, .int .i64 0, .int .i64 0] 25 (0, 0))) ∧ Own wr (w.heap.size + 1 + 1) wr.heap.size 3 1 A (List.length d) c (ints d) ∧ (2 ≤ (List.length d : Int) + j ∧ (List.length d : Int) + j ≤ 6) ∧ (p ≤ q ∧ (q : Int) + j ≤ p + 8) ∧ Rd wr R q ∧ Fr R (R + 1) w wr
theorem pick3 (a b c k : Int) (ha : 0 ≤ a ∧ a ≤ 6) (hb : 0 ≤ b ∧ b ≤ 6) (hc : 0 ≤ c ∧ c ≤ 6) (h0 : 0 ≤ k) (h1 : k < 3) : ∃ v : Int, (0 ≤ v ∧ v ≤ 6) ∧ (#[Value.int .i64 a, .int .i64 b, .int .i64 c] : Array Value)[k.toNat]? = some (.int .i64 v) := by
  have : k = 0 ∨ k = 1 ∨ k = 2 := by omega
  rcases this with rfl | rfl | rfl
  · exact ⟨a, ha, rfl⟩
  · exact ⟨b, hb, rfl⟩
  · exact ⟨c, hc, rfl⟩
theorem pick2n (a b k : Int) (ha : -1 ≤ a ∧ a ≤ 17) (hb : -1 ≤ b ∧ b ≤ 17) (h0 : 0 ≤ k) (h1 : k < 2) : ∃ v : Int, (-1 ≤ v ∧ v ≤ 17) ∧ (#[Value.int .i64 a, .int .i64 b] : Array Value)[k.toNat]? = some (.int .i64 v) := by
  have : k = 0 ∨ k = 1 := by omega
  rcases this with rfl | rfl
  · exact ⟨a, ha, rfl⟩
  · exact ⟨b, hb, rfl⟩
set_option maxHeartbeats 4000000 in
theorem ring_any (R p : Nat) (m : Int) (w : World) (h : Rd w R p) (hp : p ≤ 1000000000000) (hm1 : -9223372036854775808 < m) (hm2 : m ≤ 9223372036854775807) :
    Calls Try.prog 12 #[.pointer (some ⟨R, 0, none⟩), .int .i64 m] w (RetRing w R p) := by
  obtain ⟨i0, hi0, hz0, hz1, hz2⟩ := info_parts int_info
  have hRw := h.lt
  have h1 := (h.alloc (.cells #[.slice none 0 0, .int .i64 0, .int .i64 0] 25)).alloc (.cells #[.slice none 0 0, .int .i64 0, .int .i64 0] 25)
  have r1 : ((w.alloc (.cells #[.slice none 0 0, .int .i64 0, .int .i64 0] 25)).alloc (.cells #[.slice none 0 0, .int .i64 0, .int .i64 0] 25)).heap[w.heap.size + 1]? = some (.cells #[.slice none 0 0, .int .i64 0, .int .i64 0] 25 (0, 0)) := by have := heap_alloc_new (w.alloc (.cells #[.slice none 0 0, .int .i64 0, .int .i64 0] 25)) (.cells #[.slice none 0 0, .int .i64 0, .int .i64 0] 25); rwa [World.size_alloc] at this
  have r0 : ((w.alloc (.cells #[.slice none 0 0, .int .i64 0, .int .i64 0] 25)).alloc (.cells #[.slice none 0 0, .int .i64 0, .int .i64 0] 25)).heap[w.heap.size]? = some (.cells #[.slice none 0 0, .int .i64 0, .int .i64 0] 25 (0, 0)) := rowKeep (heap_alloc_new w _) (below_new _ _)
  have f1 : Fr R (R + 1) w ((w.alloc (.cells #[.slice none 0 0, .int .i64 0, .int .i64 0] 25)).alloc (.cells #[.slice none 0 0, .int .i64 0, .int .i64 0] 25)) := ((Fr.refl _ _ _).alloc _).alloc _
  have zz : w.heap.size + 1 + 1 = ((w.alloc (.cells #[.slice none 0 0, .int .i64 0, .int .i64 0] 25)).alloc (.cells #[.slice none 0 0, .int .i64 0, .int .i64 0] 25)).heap.size := by simp
  go_enter Try.func12, Try.ntmps12
  go_wp2_with fail
  generalize ((w.alloc (.cells #[.slice none 0 0, .int .i64 0, .int .i64 0] 25)).alloc (.cells #[.slice none 0 0, .int .i64 0, .int .i64 0] 25)) = W at *
  refine (pick_any _ _ _ _ h1 (by omega)).mono ?_
  rintro e w3 ⟨k1, rfl, hk1, hr3, hf3, hs3⟩
  have z3 : w.heap.size + 1 + 1 ≤ w3.heap.size := by omega
  replace r0 := rowFr r0 hf3 (.inr (by omega))
  replace r1 := rowFr r1 hf3 (.inr (by omega))
  replace f1 := f1.trans hf3
  have hj : 0 ≤ k1 ∧ k1 ≤ 4 := by omega
  have hst : AtLoop w w3 R p (2 + k1) := ⟨none, 0, [], p + 1, ⟨r0, r1⟩, Own.nil _ _ _ _ _, by simp; omega, by omega, hr3, f1⟩
  clear hf3 hs3 hk1 hr3 r0 r1 f1 z3 zz h1
  go_upto_region 6 with fail
  go_loopw [6] (fun i wr => ∃ (j : Int), (0 ≤ j ∧ j ≤ 6) ∧ i = .int .i64 j ∧ AtLoop w wr R p j) (fun i _ => (intOf i).toNat)
  case atStart => exact ⟨2 + k1, by omega, rfl, hst⟩
  case round =>
    clear hst
    obtain ⟨j, hj, rfl, A, c, d, q, ⟨r0, r1⟩, ho, hdj, hq, hr, hf⟩ := hrel
    have hcap := ho.cap
    have s0 := hf.size
    have s1 := rowLt r1
    obtain ⟨c1, c2, c3⟩ := cells3 r1
    by_cases hj0 : 0 < j
    · have hend : ∀ (v : Int) (A2 : Option Addr) (c2 : Nat) (w9 : World), w9.heap[w.heap.size]? = some (.cells #[.slice none 0 0, .int .i64 0, .int .i64 0] 25 (0, 0)) → w9.heap[w.heap.size + 1]? = some (.cells #[.slice A (List.length d) c, .int .i64 0, .int .i64 0] 25 (0, 0)) → Own w9 (w.heap.size + 1 + 1) w9.heap.size 3 1 A2 (d.length + 1) c2 (ints d ++ [.int .i64 v]) → Rd w9 R (q + 1) → Fr R (R + 1) w w9 → AtLoop w (w9.setCell ⟨w.heap.size + 1, 0, none⟩ (.slice A2 (d.length + 1) c2)) R p (j - 1) := by
        intro v A2 c2 w9 k0 k1 o9 rd9 f9
        refine ⟨A2, c2, d ++ [v], q + 1, ⟨rowSet k0 _ _ (by simp), by rw [List.length_append]; exact set30 k1 _⟩, ?_, by rw [List.length_append]; simp; omega, by omega, rd_set2 rd9 _ _ (by simp; omega), fr_setc f9 (by simp) _⟩
        rw [List.length_append, show ints (d ++ [v]) = ints d ++ [.int .i64 v] by simp [ints]]
        exact (o9.setOther _ _ (.inl (by simp))).wide (Nat.le_refl _) (by simp)
      have HEND := Lib.hid hend
      clear hend
      go_upto_region 5 with fail
      first | (go_region_law (first | (go_simp; go_at_call 21; refine (pick_any R q 100 _ (hr.drewN 1) (by omega)).mono ?_; rintro e w4 ⟨k4, rfl, hk4, hr4, hf4, hs4⟩; have s4 : w4.heap.size ≤ wr.heap.size ∧ wr.heap.size ≤ w4.heap.size := ⟨Nat.le_of_eq hs4, Nat.le_of_eq hs4.symm⟩; clear hs4; have r04 := rowFr (w := wr.drewN 1) r0 hf4 (.inr (by omega)); have r14 := rowFr (w := wr.drewN 1) r1 hf4 (.inr (by omega)); have c14 := (cells3 r14).1; have ho4 := (ho.drewN 1).fr hf4 (by omega); have F4 := (hf.drewN 1).trans hf4; have h8 := ho4.below (below_new w4 (.cells #[.int .i64 k4] 3)); have h9 := Sees.one w4 3 (.int .i64 k4); have g9 := below_new w4 (.cells #[.int .i64 k4] 3); have c24 := (cells3 (rowKeep r14 g9)).1) | (refine step_app (by rfl) (.tmp 16) (.tmp 19) _ (by rfl) 3 i0 (.int .i64 0) 1 8 Try.underlying23 hi0 hz0 hz1 hz2 rfl (by decide) _ _ _ _ _ _ (by rfl) h8 _ _ _ _ _ (by rfl) h9 (one_int _) (by omega) (by omega) (by simp; omega) ?_; intro A2 c5 w5 o5 f5; have r05 := rowFr (rowKeep r04 g9) f5 (.inl (by omega)); have r15 := rowFr (rowKeep r14 g9) f5 (.inl (by omega)); have F5 := fr_later F4 g9 f5 (by omega); have hr5 := (hr4.below g9).fr f5 (by omega); have c15 := (cells3 r15).1; have z15 := frzRow r15 0; have HN := Lib.hid (HEND.out k4 A2 c5 w5 r05 r15 o5 hr5 F5); clear c1) | fail)) | fail
      all_goals
        go_wp2_with fail
        go_roundw
        case rel => exact ⟨j - 1, by omega, by go_num, HN.out⟩
        case measure => simp [intOf]; omega
    · have hn : 2 ≤ d.length ∧ d.length ≤ 6 := by omega
      go_wp2_with fail
      refine (pick_any _ _ _ _ hr (by omega)).mono ?_
      rintro e w4 ⟨k, rfl, hk, hr4, hf4, hs4⟩
      have s4 : wr.heap.size ≤ w4.heap.size := Nat.le_of_eq hs4.symm
      replace r0 := rowFr r0 hf4 (.inr (by omega))
      replace r1 := rowFr r1 hf4 (.inr (by omega))
      replace ho := ho.fr hf4 (.inr (by omega))
      replace hf := hf.trans hf4
      have hk' : 0 ≤ k ∧ k < d.length := by omega
      clear hf4 hs4 hr c1 c2 c3 hk
      obtain ⟨c1, c2, c3⟩ := cells3 r1
      obtain ⟨z1, z2, z3⟩ := frz3 r1
      have y0 := rowSet r0 ⟨w.heap.size + 1, 1, none⟩ (.int .i64 k) (by simp)
      have y1 := set31 r1 (.int .i64 k)
      have yo := ho.setOther ⟨w.heap.size + 1, 1, none⟩ (.int .i64 k) (.inl (by simp))
      have yr := rd_set2 hr4 ⟨w.heap.size + 1, 1, none⟩ (.int .i64 k) (by simp; omega)
      have yf := fr_setc hf (p := ⟨w.heap.size + 1, 1, none⟩) (by simp) (.int .i64 k)
      have yz : w4.heap.size = (w4.setCell ⟨w.heap.size + 1, 1, none⟩ (.int .i64 k)).heap.size := by simp
      go_upto_region 7 with fail
      generalize (w4.setCell ⟨w.heap.size + 1, 1, none⟩ (.int .i64 k)) = W4 at *
      clear c1 c2 c3 z1 z2 z3 r0 r1 ho hr4 hf
      go_cut [] from 28 to 51 (fun wx => AtHead w wx R p)
      case first =>
        obtain ⟨c1, c2, c3⟩ := cells3 y1
        obtain ⟨z1, z2, z3⟩ := frz3 y1
        have e1 : IntKind.i64.wrap (k + (d.length : Int)) = k + (d.length : Int) := IntWalk.i64_in _ (by omega)
        have e2 : IntKind.i64.wrap (k + (d.length : Int) - 1) = k + (d.length : Int) - 1 := IntWalk.i64_in _ (by omega)
        have z4 : ¬ d = [] := by rintro rfl; simp at hn
        obtain ⟨x, hx0, hx1, e3⟩ : ∃ x : Int, 0 ≤ x ∧ x < d.length ∧ (k + (d.length : Int) - 1).tmod (d.length : Int) = x := by
          refine ⟨_, ?_, ?_, Int.tmod_eq_emod_of_nonneg (by omega)⟩
          · exact Int.emod_nonneg _ (by omega)
          · exact Int.emod_lt_of_pos _ (by omega)
        have e4 : IntKind.i64.wrap x = x := IntWalk.i64_in _ (by omega)
        have hfin : ∀ (w9 : World) (v : Int), w9.heap[w.heap.size]? = some (.cells #[.slice none 0 0, .int .i64 0, .int .i64 0] 25 (0, 0)) → w9.heap[w.heap.size + 1]? = some (.cells #[.slice A (List.length d) c, .int .i64 k, .int .i64 0] 25 (0, 0)) → (∃ hi, Own w9 (w.heap.size + 1 + 1) hi 3 1 A d.length c (ints d) ∧ hi ≤ w9.heap.size) → Rd w9 R (q + 1 + 1 + 1) → Fr R (R + 1) w w9 → (0 ≤ v ∧ v ≤ 6) → AtHead w (w9.setCell ⟨w.heap.size + 1, 2, none⟩ (.int .i64 v)) R p := by
          intro w9 v q0 q1 ⟨hi, qo, qh⟩ qr qf hv
          refine ⟨d.length, k, v, ⟨A, c, d, q + 1 + 1 + 1, ⟨rowSet q0 _ _ (by simp), set32 q1 _⟩, (qo.setOther _ _ (.inl (by simp))).wide (Nat.le_refl _) (by simp; omega), by omega, rd_set2 qr _ _ (by simp; omega), fr_setc qf (by simp) _⟩, by omega, by omega, by omega⟩
        have HF := Lib.hid hfin
        clear hfin
        refine wp_region_noPanic ?_
        refine wp_region_held_drew (S := fun w' => w'.cell? ⟨w.heap.size + 1, 0, none⟩ = some (.slice A d.length c) ∧ w'.cell? ⟨w.heap.size + 1, 1, none⟩ = some (.int .i64 k)) (by kernel_rfl) ⟨c1, c2⟩ (fun hHeld => ?_)
        refine wpAnyH_take (i := 0) (v := ?_) rfl (by kernel_rfl) (by kernel_rfl) (by kernel_rfl) (fun _ _ _ h => h) (Or.inl ⟨by rfl, ?_⟩) (by assumption) ?_
        rotate_left
        · (intro wz hSw; (try dsimp only at hSw); go_simp; try with_reducible rfl)
        simp only [Act.put, List.getElem_toArray, List.getElem_cons_zero, List.getElem_cons_succ, List.setIfInBounds_toArray, List.set_cons_zero, List.set_cons_succ]
        refine wpAnyH_take (i := 1) (v := ?_) rfl (by kernel_rfl) (by kernel_rfl) (by kernel_rfl) (fun _ _ _ h => h) (Or.inl ⟨by rfl, ?_⟩) (by assumption) ?_
        rotate_left
        · (intro wz hSw; (try dsimp only at hSw); go_simp; try with_reducible rfl)
        simp only [Act.put, List.getElem_toArray, List.getElem_cons_zero, List.getElem_cons_succ, List.setIfInBounds_toArray, List.set_cons_zero, List.set_cons_succ]
        refine wpAnyH_take (i := 2) (v := ?_) rfl (by kernel_rfl) (by kernel_rfl) (by kernel_rfl) (fun _ _ _ h => h) (Or.inl ⟨by rfl, ?_⟩) (by assumption) ?_
        rotate_left
        · (intro wz hSw; (try dsimp only at hSw); go_simp; try with_reducible rfl)
        simp only [Act.put, List.getElem_toArray, List.getElem_cons_zero, List.getElem_cons_succ, List.setIfInBounds_toArray, List.set_cons_zero, List.set_cons_succ]
        refine wpAnyH_take (i := 3) (v := ?_) rfl (by kernel_rfl) (by kernel_rfl) (by kernel_rfl) (fun _ _ _ h => h) (Or.inl ⟨by rfl, ?_⟩) (by assumption) ?_
        rotate_left
        · (intro wz hSw; (try dsimp only at hSw); go_simp; try with_reducible rfl)
        simp only [Act.put, List.getElem_toArray, List.getElem_cons_zero, List.getElem_cons_succ, List.setIfInBounds_toArray, List.set_cons_zero, List.set_cons_succ]
        refine wpAnyH_take (i := 5) (v := ?_) rfl (by kernel_rfl) (by kernel_rfl) (by kernel_rfl) (fun _ _ _ h => h) (Or.inl ⟨by rfl, ?_⟩) (by assumption) ?_
        rotate_left
        · (intro wz hSw; (try dsimp only at hSw); go_simp; try with_reducible rfl)
        simp only [Act.put, List.getElem_toArray, List.getElem_cons_zero, List.getElem_cons_succ, List.setIfInBounds_toArray, List.set_cons_zero, List.set_cons_succ]
        refine wpAnyH_take (i := 6) (v := ?_) rfl (by kernel_rfl) (by kernel_rfl) (by kernel_rfl) (fun _ _ _ h => h) (Or.inl ⟨by rfl, ?_⟩) (by assumption) ?_
        rotate_left
        · (intro wz hSw; (try dsimp only at hSw); go_simp; try with_reducible rfl)
        simp only [Act.put, List.getElem_toArray, List.getElem_cons_zero, List.getElem_cons_succ, List.setIfInBounds_toArray, List.set_cons_zero, List.set_cons_succ]
        refine wpAnyH_take (i := 7) (v := ?_) rfl (by kernel_rfl) (by kernel_rfl) (by kernel_rfl) (fun _ _ _ h => h) (Or.inl ⟨by rfl, ?_⟩) (by assumption) ?_
        rotate_left
        · (intro wz hSw; (try dsimp only at hSw); go_simp; try with_reducible rfl)
        simp only [Act.put, List.getElem_toArray, List.getElem_cons_zero, List.getElem_cons_succ, List.setIfInBounds_toArray, List.set_cons_zero, List.set_cons_succ]
        refine wpAnyH_take (i := 8) (v := ?_) rfl (by kernel_rfl) (by kernel_rfl) (by kernel_rfl) (fun _ _ _ h => h) (Or.inl ⟨by rfl, ?_⟩) (by assumption) ?_
        rotate_left
        · (intro wz hSw; (try dsimp only at hSw); go_simp; try with_reducible rfl)
        simp only [Act.put, List.getElem_toArray, List.getElem_cons_zero, List.getElem_cons_succ, List.setIfInBounds_toArray, List.set_cons_zero, List.set_cons_succ]
        refine wpAnyH_take (i := 9) (v := ?_) rfl (by kernel_rfl) (by kernel_rfl) (by kernel_rfl) (fun _ _ _ h => h) (Or.inl ⟨by rfl, ?_⟩) (by assumption) ?_
        rotate_left
        · (intro wz hSw; (try dsimp only at hSw); go_simp; try with_reducible rfl)
        simp only [Act.put, List.getElem_toArray, List.getElem_cons_zero, List.getElem_cons_succ, List.setIfInBounds_toArray, List.set_cons_zero, List.set_cons_succ]
        refine wpAnyH_take (i := 10) (v := ?_) rfl (by kernel_rfl) (by kernel_rfl) (by kernel_rfl) (fun _ _ _ h => h) (Or.inl ⟨by rfl, ?_⟩) (by assumption) ?_
        rotate_left
        · (intro wz hSw; (try dsimp only at hSw); go_simp; try with_reducible rfl)
        simp only [Act.put, List.getElem_toArray, List.getElem_cons_zero, List.getElem_cons_succ, List.setIfInBounds_toArray, List.set_cons_zero, List.set_cons_succ]
        refine wpAnyH_take (i := 11) (v := ?_) rfl (by kernel_rfl) (by kernel_rfl) (by kernel_rfl) (fun _ _ _ h => h) (Or.inl ⟨by rfl, ?_⟩) (by assumption) ?_
        rotate_left
        · (intro wz hSw; (try dsimp only at hSw); go_simp; try with_reducible rfl)
        simp only [Act.put, List.getElem_toArray, List.getElem_cons_zero, List.getElem_cons_succ, List.setIfInBounds_toArray, List.set_cons_zero, List.set_cons_succ]
        refine wpAnyH_take (i := 12) (v := ?_) rfl (by kernel_rfl) (by kernel_rfl) (by kernel_rfl) (fun _ _ _ h => h) (Or.inl ⟨by rfl, ?_⟩) (by assumption) ?_
        rotate_left
        · (intro wz hSw; (try dsimp only at hSw); go_simp; try with_reducible rfl)
        simp only [Act.put, List.getElem_toArray, List.getElem_cons_zero, List.getElem_cons_succ, List.setIfInBounds_toArray, List.set_cons_zero, List.set_cons_succ]
        refine wpAnyH_take (i := 13) (v := ?_) rfl (by kernel_rfl) (by kernel_rfl) (by kernel_rfl) (fun _ _ _ h => h) (Or.inl ⟨by rfl, ?_⟩) (by assumption) ?_
        rotate_left
        · (intro wz hSw; (try dsimp only at hSw); go_simp; try with_reducible rfl)
        simp only [Act.put, List.getElem_toArray, List.getElem_cons_zero, List.getElem_cons_succ, List.setIfInBounds_toArray, List.set_cons_zero, List.set_cons_succ]
        refine wpAnyH_take (i := 14) (v := ?_) rfl (by kernel_rfl) (by kernel_rfl) (by kernel_rfl) (fun _ _ _ h => h) (Or.inl ⟨by rfl, ?_⟩) (by assumption) ?_
        rotate_left
        · (intro wz hSw; (try dsimp only at hSw); go_simp; try with_reducible rfl)
        simp only [Act.put, List.getElem_toArray, List.getElem_cons_zero, List.getElem_cons_succ, List.setIfInBounds_toArray, List.set_cons_zero, List.set_cons_succ]
        refine wpAnyH_take (i := 15) (v := ?_) rfl (by kernel_rfl) (by kernel_rfl) (by kernel_rfl) (fun _ _ _ h => h) (Or.inl ⟨by rfl, ?_⟩) (by assumption) ?_
        rotate_left
        · (intro wz hSw; (try dsimp only at hSw); go_simp; try with_reducible rfl)
        simp only [Act.put, List.getElem_toArray, List.getElem_cons_zero, List.getElem_cons_succ, List.setIfInBounds_toArray, List.set_cons_zero, List.set_cons_succ]
        refine wpAnyH_take (i := 16) (v := ?_) rfl (by kernel_rfl) (by kernel_rfl) (by kernel_rfl) (fun _ _ _ h => h) (Or.inl ⟨by rfl, ?_⟩) (by assumption) ?_
        rotate_left
        · (intro wz hSw; (try dsimp only at hSw); go_simp; try with_reducible rfl)
        simp only [Act.put, List.getElem_toArray, List.getElem_cons_zero, List.getElem_cons_succ, List.setIfInBounds_toArray, List.set_cons_zero, List.set_cons_succ]
        refine wpAnyH_take (i := 17) (v := ?_) rfl (by kernel_rfl) (by kernel_rfl) (by kernel_rfl) (fun _ _ _ h => h) (Or.inl ⟨by rfl, ?_⟩) (by assumption) ?_
        rotate_left
        · (intro wz hSw; (try dsimp only at hSw); go_simp; try with_reducible rfl)
        simp only [Act.put, List.getElem_toArray, List.getElem_cons_zero, List.getElem_cons_succ, List.setIfInBounds_toArray, List.set_cons_zero, List.set_cons_succ]
        refine wpAnyH_take (i := 19) (v := ?_) rfl (by kernel_rfl) (by kernel_rfl) (by kernel_rfl) (fun _ _ _ h => h) (Or.inl ⟨by rfl, ?_⟩) (by assumption) ?_
        rotate_left
        · (intro wz hSw; (try dsimp only at hSw); go_simp; try with_reducible rfl)
        simp only [Act.put, List.getElem_toArray, List.getElem_cons_zero, List.getElem_cons_succ, List.setIfInBounds_toArray, List.set_cons_zero, List.set_cons_succ]
        refine wpAnyH_ready (rs := [4]) (by kernel_rfl) (by simp) ?_
        refine AllReadyH.cons rfl (fun K hK => ?_) ?_
        · go_simp
          refine (pick_any R (q + 1) d.length _ (yr.drewN 1) (by omega)).mono ?_
          rintro e w5 ⟨k5, rfl, hk5, hr5, hf5, hs5⟩
          have hk5' : 0 ≤ k5 ∧ k5 < d.length := by omega
          have s5 : W4.heap.size ≤ w5.heap.size := Nat.le_of_eq hs5.symm
          have a0 := rowFr (w := W4.drewN 1) y0 hf5 (.inr (by omega))
          have a1 := rowFr (w := W4.drewN 1) y1 hf5 (.inr (by omega))
          have ao := (yo.drewN 1).fr hf5 (.inr (by omega))
          have af := (yf.drewN 1).trans hf5
          clear hs5 hk5 hf5 c1 c2 c3 z1 z2 z3
          obtain ⟨c1, c2, c3⟩ := cells3 a1
          obtain ⟨z1, z2, z3⟩ := frz3 a1
          go_wp2_with fail
          refine hK.out _ _ ⟨c1, c2⟩ (fun hHeld => ?_)
          clear hK K
          try simp only [Act.put, List.getElem_toArray, List.getElem_cons_zero, List.getElem_cons_succ, List.setIfInBounds_toArray, List.set_cons_zero, List.set_cons_succ]
          refine wpAnyH_ready (rs := [18, 20]) (by kernel_rfl) (by simp) ?_
          refine AllReadyH.cons rfl (fun K hK => ?_) ?_
          · go_simp
            have g5 := below_new w5 (.cells #[.int .i64 k5, .int .i64 k, .int .i64 x] 3)
            have b0 := rowKeep a0 g5
            have b1 := rowKeep a1 g5
            have bo := ao.below g5
            have bf := fr_below af g5
            have br := hr5.alloc (.cells #[.int .i64 k5, .int .i64 k, .int .i64 x] 3)
            have hq5 : (w5.alloc (.cells #[.int .i64 k5, .int .i64 k, .int .i64 x] 3)).heap[w5.heap.size]? = some (.cells #[.int .i64 k5, .int .i64 k, .int .i64 x] 3 (0, 0)) := heap_alloc_new w5 _
            have s5' : w5.heap.size < (w5.alloc (.cells #[.int .i64 k5, .int .i64 k, .int .i64 x] 3)).heap.size := by simp
            obtain ⟨d1, d2, d3⟩ := cells3 b1
            refine hK.out _ _ ⟨d1, d2⟩ (fun hHeld => ?_)
            clear hK K
            try simp only [Act.put, List.getElem_toArray, List.getElem_cons_zero, List.getElem_cons_succ, List.setIfInBounds_toArray, List.set_cons_zero, List.set_cons_succ]
            generalize (w5.alloc (.cells #[.int .i64 k5, .int .i64 k, .int .i64 x] 3)) = W5 at *
            refine wpAnyH_ready (rs := [20]) (by kernel_rfl) (by simp) ?_
            refine AllReadyH.cons rfl (fun K hK => ?_) ?_
            · go_simp
              refine (pick_any R (q + 1 + 1) 3 _ br (by omega)).mono ?_
              rintro e w6 ⟨k6, rfl, hk6, hr6, hf6, hs6⟩
              have hk6' : 0 ≤ k6 ∧ k6 < 3 := by omega
              have s6 : W5.heap.size ≤ w6.heap.size := Nat.le_of_eq hs6.symm
              replace b0 := rowFr b0 hf6 (.inr (by omega))
              replace b1 := rowFr b1 hf6 (.inr (by omega))
              replace bo := bo.fr hf6 (.inr (by omega))
              replace bf := bf.trans hf6
              replace hq5 := rowFr hq5 hf6 (.inr (by omega))
              obtain ⟨v, hv, hpk⟩ := pick3 k5 k x k6 (by omega) (by omega) (by omega) hk6'.1 hk6'.2
              have hcv : w6.cell? ⟨w5.heap.size, k6.toNat, none⟩ = some (.int .i64 v) := by rw [cell_of_row w6 w5.heap.size k6.toNat _ _ _ hq5]; exact hpk
              clear hs6 hk6 hf6 d1 d2 d3 c1 c2 c3 z1 z2 z3 hpk hq5
              obtain ⟨i1, i2⟩ := hk6'
              obtain ⟨d1, d2, d3⟩ := cells3 b1
              obtain ⟨z1, z2, z3⟩ := frz3 b1
              have HE := Lib.hid (cells3 (set32 b1 (.int .i64 v)))
              have HG := Lib.hid (HF.out w6 v b0 b1 ⟨_, bo, by omega⟩ hr6 bf (by omega))
              go_wp2_with fail
              refine hK.out _ _ ⟨d1, d2⟩ (fun hHeld => ?_)
              clear hK K
              try simp only [Act.put, List.getElem_toArray, List.getElem_cons_zero, List.getElem_cons_succ, List.setIfInBounds_toArray, List.set_cons_zero, List.set_cons_succ]
              refine wpAnyH_take (i := 21) (v := ?_) rfl (by kernel_rfl) (by kernel_rfl) (by kernel_rfl) (fun _ _ _ h => h) (Or.inl ⟨by rfl, ?_⟩) (by assumption) ?_
              rotate_left
              · (intro wz hSw; (try dsimp only at hSw); go_simp; try with_reducible rfl)
              simp only [Act.put, List.getElem_toArray, List.getElem_cons_zero, List.getElem_cons_succ, List.setIfInBounds_toArray, List.set_cons_zero, List.set_cons_succ]
              refine wpAnyH_ready (rs := [22]) (by kernel_rfl) (by simp) ?_
              refine AllReadyH.cons rfl (fun K hK => ?_) ?_
              · go_simp
                refine hK.out _ _ ⟨d1, d2⟩ (fun hHeld => ?_)
                clear hK K
                try simp only [Act.put, List.getElem_toArray, List.getElem_cons_zero, List.getElem_cons_succ, List.setIfInBounds_toArray, List.set_cons_zero, List.set_cons_succ]
                refine wpAnyH_take (i := 23) (v := ?_) rfl (by kernel_rfl) (by kernel_rfl) (by kernel_rfl) (fun _ _ _ h => h) (Or.inl ⟨by rfl, ?_⟩) (by assumption) ?_
                rotate_left
                · (intro wz hSw; (try dsimp only at hSw); go_simp; try with_reducible rfl)
                simp only [Act.put, List.getElem_toArray, List.getElem_cons_zero, List.getElem_cons_succ, List.setIfInBounds_toArray, List.set_cons_zero, List.set_cons_succ]
                refine wpAnyH_ready (rs := [24]) (by kernel_rfl) (by simp) ?_
                refine AllReadyH.cons rfl (fun K hK => ?_) ?_
                · go_simp
                  refine hK.out _ _ ⟨HE.out.1, HE.out.2.1⟩ (fun hHeld => ?_)
                  clear hK K
                  try simp only [Act.put, List.getElem_toArray, List.getElem_cons_zero, List.getElem_cons_succ, List.setIfInBounds_toArray, List.set_cons_zero, List.set_cons_succ]
                  refine wpAnyH_done (by kernel_rfl) ?_ _
                  refine NoPanic.normal ?_
                  go_wp2_with fail
                  go_meet
                  exact HG.out
                exact AllReadyH.nil
              exact AllReadyH.nil
            exact AllReadyH.nil
          refine AllReadyH.cons rfl (fun K hK => ?_) ?_
          · go_simp
            refine (pick_any R (q + 1 + 1) 3 _ hr5 (by omega)).mono ?_
            rintro e w6 ⟨k6, rfl, hk6, hr6, hf6, hs6⟩
            have hk6' : 0 ≤ k6 ∧ k6 < 3 := by omega
            have s6 : w5.heap.size ≤ w6.heap.size := Nat.le_of_eq hs6.symm
            have b0 := rowFr a0 hf6 (.inr (by omega))
            have b1 := rowFr a1 hf6 (.inr (by omega))
            have bo := ao.fr hf6 (.inr (by omega))
            have bf := af.trans hf6
            clear hs6 hk6 hf6 c1 c2 c3 z1 z2 z3
            obtain ⟨i1, i2⟩ := hk6'
            obtain ⟨d1, d2, d3⟩ := cells3 b1
            go_wp2_with fail
            refine hK.out _ _ ⟨d1, d2⟩ (fun hHeld => ?_)
            clear hK K
            try simp only [Act.put, List.getElem_toArray, List.getElem_cons_zero, List.getElem_cons_succ, List.setIfInBounds_toArray, List.set_cons_zero, List.set_cons_succ]
            refine wpAnyH_ready (rs := [18]) (by kernel_rfl) (by simp) ?_
            refine AllReadyH.cons rfl (fun K hK => ?_) ?_
            · go_simp
              have g5 := below_new w6 (.cells #[.int .i64 k5, .int .i64 k, .int .i64 x] 3)
              replace b0 := rowKeep b0 g5
              replace b1 := rowKeep b1 g5
              replace bo := bo.below g5
              replace bf := fr_below bf g5
              have br := hr6.alloc (.cells #[.int .i64 k5, .int .i64 k, .int .i64 x] 3)
              have hq5 : (w6.alloc (.cells #[.int .i64 k5, .int .i64 k, .int .i64 x] 3)).heap[w6.heap.size]? = some (.cells #[.int .i64 k5, .int .i64 k, .int .i64 x] 3 (0, 0)) := heap_alloc_new w6 _
              have s5' : w6.heap.size < (w6.alloc (.cells #[.int .i64 k5, .int .i64 k, .int .i64 x] 3)).heap.size := by simp
              clear d1 d2 d3
              obtain ⟨d1, d2, d3⟩ := cells3 b1
              obtain ⟨z1, z2, z3⟩ := frz3 b1
              obtain ⟨v, hv, hpk⟩ := pick3 k5 k x k6 (by omega) (by omega) (by omega) i1 i2
              have hcv : (w6.alloc (.cells #[.int .i64 k5, .int .i64 k, .int .i64 x] 3)).cell? ⟨w6.heap.size, k6.toNat, none⟩ = some (.int .i64 v) := by rw [cell_of_row _ w6.heap.size k6.toNat _ _ _ hq5]; exact hpk
              clear hpk hq5
              refine hK.out _ _ ⟨d1, d2⟩ (fun hHeld => ?_)
              clear hK K
              try simp only [Act.put, List.getElem_toArray, List.getElem_cons_zero, List.getElem_cons_succ, List.setIfInBounds_toArray, List.set_cons_zero, List.set_cons_succ]
              generalize (w6.alloc (.cells #[.int .i64 k5, .int .i64 k, .int .i64 x] 3)) = W6 at *
              have HE := Lib.hid (cells3 (set32 b1 (.int .i64 v)))
              have HG := Lib.hid (HF.out W6 v b0 b1 ⟨_, bo, by omega⟩ br bf (by omega))
              refine wpAnyH_take (i := 21) (v := ?_) rfl (by kernel_rfl) (by kernel_rfl) (by kernel_rfl) (fun _ _ _ h => h) (Or.inl ⟨by rfl, ?_⟩) (by assumption) ?_
              rotate_left
              · (intro wz hSw; (try dsimp only at hSw); go_simp; try with_reducible rfl)
              simp only [Act.put, List.getElem_toArray, List.getElem_cons_zero, List.getElem_cons_succ, List.setIfInBounds_toArray, List.set_cons_zero, List.set_cons_succ]
              refine wpAnyH_ready (rs := [22]) (by kernel_rfl) (by simp) ?_
              refine AllReadyH.cons rfl (fun K hK => ?_) ?_
              · go_simp
                refine hK.out _ _ ⟨d1, d2⟩ (fun hHeld => ?_)
                clear hK K
                try simp only [Act.put, List.getElem_toArray, List.getElem_cons_zero, List.getElem_cons_succ, List.setIfInBounds_toArray, List.set_cons_zero, List.set_cons_succ]
                refine wpAnyH_take (i := 23) (v := ?_) rfl (by kernel_rfl) (by kernel_rfl) (by kernel_rfl) (fun _ _ _ h => h) (Or.inl ⟨by rfl, ?_⟩) (by assumption) ?_
                rotate_left
                · (intro wz hSw; (try dsimp only at hSw); go_simp; try with_reducible rfl)
                simp only [Act.put, List.getElem_toArray, List.getElem_cons_zero, List.getElem_cons_succ, List.setIfInBounds_toArray, List.set_cons_zero, List.set_cons_succ]
                refine wpAnyH_ready (rs := [24]) (by kernel_rfl) (by simp) ?_
                refine AllReadyH.cons rfl (fun K hK => ?_) ?_
                · go_simp
                  refine hK.out _ _ ⟨HE.out.1, HE.out.2.1⟩ (fun hHeld => ?_)
                  clear hK K
                  try simp only [Act.put, List.getElem_toArray, List.getElem_cons_zero, List.getElem_cons_succ, List.setIfInBounds_toArray, List.set_cons_zero, List.set_cons_succ]
                  refine wpAnyH_done (by kernel_rfl) ?_ _
                  refine NoPanic.normal ?_
                  go_wp2_with fail
                  go_meet
                  exact HG.out
                exact AllReadyH.nil
              exact AllReadyH.nil
            exact AllReadyH.nil
          exact AllReadyH.nil
        exact AllReadyH.nil
      case rest =>
        clear yo yr yf yz y0 y1 hdj hj0 hcap s0 s1 s4 hk' hn hq
        obtain ⟨n, hd, tl, ⟨A, c, d, q, ⟨r0, r1⟩, ho, hq, hr, hf⟩, hn, hhd, htl⟩ := hcut
        obtain rfl := ho.sees.int
        have sc := hf.size
        have sx := rowLt r1
        have hcap := ho.cap
        have hend : ∀ (w9 : World) (A : Option Addr) (c : Nat) (d : List Int) (hd tl : Int) (q9 hi : Nat), w9.heap[w.heap.size]? = some (.cells #[.slice none 0 0, .int .i64 0, .int .i64 0] 25 (0, 0)) → Own w9 (w.heap.size + 1 + 1) hi 3 1 A d.length c (ints d) → hi ≤ w9.heap.size → d.length ≤ 17 → (-1 ≤ hd ∧ hd ≤ 17) → (-1 ≤ tl ∧ tl ≤ 17) → (p ≤ q9 ∧ q9 ≤ p + 100) → Rd w9 R q9 → Fr R (R + 1) w w9 →
            RetRing w R p (.returned (.agg #[.slice A d.length c, .int .i64 hd, .int .i64 tl])) (((w9.setCell ⟨w.heap.size, 0, none⟩ (.slice A d.length c)).setCell ⟨w.heap.size, 1, none⟩ (.int .i64 hd)).setCell ⟨w.heap.size, 2, none⟩ (.int .i64 tl)) := by
          intro w9 A c d hd tl q9 hi e0 eo eh el e1 e2 e3 er ef
          exact ⟨A, c, d, hd, tl, q9, rfl, ⟨(((eo.setOther _ _ (.inl (by simp <;> omega))).setOther _ _ (.inl (by simp <;> omega))).setOther _ _ (.inl (by simp <;> omega))).wide (by omega) (by simp <;> omega), el⟩, ⟨e1, e2⟩, e3, rd_set2 (rd_set2 (rd_set2 er _ _ (by simp <;> omega)) _ _ (by simp <;> omega)) _ _ (by simp <;> omega), fr_setc (fr_setc (fr_setc ef (by simp) _) (by simp) _) (by simp) _⟩
        have HEND := Lib.hid hend
        clear hend
        go_wp2_with fail
        refine (odd_any _ _ _ _ hr (by omega) hm1 hm2).mono ?_
        rintro e w4 ⟨b, q4, rfl, hq4, hr4, hf4, hs4⟩
        have s4 : wc.heap.size ≤ w4.heap.size := Nat.le_of_eq hs4.symm
        replace r0 := rowFr r0 hf4 (.inr (by omega))
        replace r1 := rowFr r1 hf4 (.inr (by omega))
        replace ho := ho.fr hf4 (.inr (by omega))
        replace hf := hf.trans hf4
        clear hf4 hs4 hr
        obtain ⟨m0, m1, m2⟩ := cells3 r0
        obtain ⟨mf0, mf1, mf2⟩ := frz3 r0
        obtain ⟨n0, n1, n2⟩ := cells3 r1
        cases b with
        | false =>
          obtain ⟨g0, g1, g2⟩ := cells3 (set32 (set31 (set30 r0 (.slice A d.length c)) (.int .i64 hd)) (.int .i64 tl))
          go_wp2_with fail
          refine bodyPost_ret (v := .agg #[.slice A d.length c, .int .i64 hd, .int .i64 tl]) (by simp [results, Try.results12, go_sem, g0, g1, g2]) rfl ?_
          exact HEND.out w4 A c d hd tl q4 _ r0 ho (by omega) (by omega) (by omega) (by omega) (by omega) hr4 hf
        | true =>
          go_wp2_with fail
          refine (pick_any _ _ _ _ hr4 (by omega)).mono ?_
          rintro e w5 ⟨k5, rfl, hk5, hr5, hf5, hs5⟩
          have s5 : w4.heap.size ≤ w5.heap.size := Nat.le_of_eq hs5.symm
          replace r0 := rowFr r0 hf5 (.inr (by omega))
          replace r1 := rowFr r1 hf5 (.inr (by omega))
          replace ho := ho.fr hf5 (.inr (by omega))
          replace hf := hf.trans hf5
          have hk : k5 = 0 ∨ k5 = 1 ∨ k5 = 2 := by omega
          clear hf5 hs5 hr4 hk5 m0 m1 m2 mf0 mf1 mf2 n0 n1 n2
          obtain ⟨m0, m1, m2⟩ := cells3 r0
          obtain ⟨mf0, mf1, mf2⟩ := frz3 r0
          obtain ⟨n0, n1, n2⟩ := cells3 r1
          obtain ⟨nf0, nf1, nf2⟩ := frz3 r1
          rcases hk with rfl | rfl | rfl
          · go_wp2_with fail
            refine (pick_any _ _ _ _ (hr5.alloc _) (by omega)).mono ?_
            rintro e w6 ⟨k6, rfl, hk6, hr6, hf6, hs6⟩
            have s6 : w5.heap.size + 1 ≤ w6.heap.size := by rw [hs6]; simp
            have hq := rowFr (heap_alloc_new w5 (.cells #[.int .i64 1, .int .i64 17] 3)) hf6 (.inr (by omega))
            have g5 := below_new w5 (.cells #[.int .i64 1, .int .i64 17] 3)
            replace r0 := rowFr (rowKeep r0 g5) hf6 (.inr (by omega))
            replace r1 := rowFr (rowKeep r1 g5) hf6 (.inr (by omega))
            replace hf := (fr_below hf g5).trans hf6
            have hk : k6 = 0 ∨ k6 = 1 := by omega
            clear hf6 hs6 hk6 m0 m1 m2 mf0 mf1 mf2 n0 n1 n2 nf0 nf1 nf2 hr5 g5
            have q0 := cell_of_row w6 w5.heap.size 0 _ _ _ hq
            have q1 := cell_of_row w6 w5.heap.size 1 _ _ _ hq
            simp only [List.getElem?_toArray, List.getElem?_cons_zero, List.getElem?_cons_succ] at q0 q1
            clear hq
            rcases hk with rfl | rfl
            · have hmk := run_make_row' (P := Try.prog) 23 3 (.int .i64 0) 8 Try.underlying23 int_info rfl .i64 .i64 1 (by omega) (by omega)
              rw [show ((1 : Nat) : Int) = 1 from rfl] at hmk
              have gw := below_new w6 (.cells (madeCells #[.int .i64 0] 1) 3)
              have own := Own.made (w := w6) (e := 3) (cur := madeCells #[.int .i64 0] 1) (s := 1) (n := 1) (c := 1) (xs := ints (List.replicate 1 0)) (lo := w.heap.size + 1 + 1) (hi := w6.heap.size + 1) (by simp [size_madeCells]) (Nat.le_refl _) (by omega) (by rw [toList_madeCells_one]; simp [ints]) (by omega) (by omega)
              have a1 := rowKeep r1 gw
              have a0 := rowKeep r0 gw
              have F6 := hf.alloc (.cells (madeCells #[.int .i64 0] 1) 3)
              have hr7 := hr6.alloc (.cells (madeCells #[.int .i64 0] 1) 3)
              have z6 : w6.heap.size + 1 = (w6.alloc (.cells (madeCells #[.int .i64 0] 1) 3)).heap.size := by simp
              obtain ⟨b0, b1, b2⟩ := cells3 a1
              obtain ⟨d0, d1, d2⟩ := frz3 a1
              go_upto_region 15 with fail
              generalize (w6.alloc (.cells (madeCells #[.int .i64 0] 1) 3)) = W6 at *
              clear hmk b0 b1 b2 d0 d1 d2 q0 q1
              have e1 := set30 a1 (.slice (some ⟨w6.heap.size, 0, none⟩) 1 1)
              have e0 := rowSet a0 ⟨w.heap.size + 1, 0, none⟩ (.slice (some ⟨w6.heap.size, 0, none⟩) 1 1) (by simp)
              obtain ⟨m0, m1, m2⟩ := cells3 e0
              obtain ⟨mf0, mf1, mf2⟩ := frz3 e0
              obtain ⟨n0, n1, n2⟩ := cells3 e1
              obtain ⟨g0, g1, g2⟩ := cells3 (set32 (set31 (set30 e0 (.slice (some ⟨w6.heap.size, 0, none⟩) 1 1)) (.int .i64 hd)) (.int .i64 tl))
              have HG := Lib.hid (HEND.out (W6.setCell ⟨w.heap.size + 1, 0, none⟩ (.slice (some ⟨w6.heap.size, 0, none⟩) 1 1)) (some ⟨w6.heap.size, 0, none⟩) 1 (List.replicate 1 0) hd tl (q4 + 1 + 1) _ e0 (own.setOther _ _ (.inl (by simp))) (by simp <;> omega) (by simp) (by omega) (by omega) (by omega) (rd_set2 hr7 _ _ (by simp <;> omega)) (fr_setc F6 (by simp) _))
              go_wp2_with fail
              refine bodyPost_ret (v := .agg #[(.slice (some ⟨w6.heap.size, 0, none⟩) 1 1), .int .i64 hd, .int .i64 tl]) (by simp [results, Try.results12, go_sem, g0, g1, g2]) rfl ?_
              exact HG.out
            · have hmk := run_make_row' (P := Try.prog) 23 3 (.int .i64 0) 8 Try.underlying23 int_info rfl .i64 .i64 17 (by omega) (by omega)
              rw [show ((17 : Nat) : Int) = 17 from rfl] at hmk
              have gw := below_new w6 (.cells (madeCells #[.int .i64 0] 17) 3)
              have own := Own.made (w := w6) (e := 3) (cur := madeCells #[.int .i64 0] 17) (s := 1) (n := 17) (c := 17) (xs := ints (List.replicate 17 0)) (lo := w.heap.size + 1 + 1) (hi := w6.heap.size + 1) (by simp [size_madeCells]) (Nat.le_refl _) (by omega) (by rw [toList_madeCells_one]; simp [ints]) (by omega) (by omega)
              have a1 := rowKeep r1 gw
              have a0 := rowKeep r0 gw
              have F6 := hf.alloc (.cells (madeCells #[.int .i64 0] 17) 3)
              have hr7 := hr6.alloc (.cells (madeCells #[.int .i64 0] 17) 3)
              have z6 : w6.heap.size + 1 = (w6.alloc (.cells (madeCells #[.int .i64 0] 17) 3)).heap.size := by simp
              obtain ⟨b0, b1, b2⟩ := cells3 a1
              obtain ⟨d0, d1, d2⟩ := frz3 a1
              go_upto_region 15 with fail
              generalize (w6.alloc (.cells (madeCells #[.int .i64 0] 17) 3)) = W6 at *
              clear hmk b0 b1 b2 d0 d1 d2 q0 q1
              have e1 := set30 a1 (.slice (some ⟨w6.heap.size, 0, none⟩) 17 17)
              have e0 := rowSet a0 ⟨w.heap.size + 1, 0, none⟩ (.slice (some ⟨w6.heap.size, 0, none⟩) 17 17) (by simp)
              obtain ⟨m0, m1, m2⟩ := cells3 e0
              obtain ⟨mf0, mf1, mf2⟩ := frz3 e0
              obtain ⟨n0, n1, n2⟩ := cells3 e1
              obtain ⟨g0, g1, g2⟩ := cells3 (set32 (set31 (set30 e0 (.slice (some ⟨w6.heap.size, 0, none⟩) 17 17)) (.int .i64 hd)) (.int .i64 tl))
              have HG := Lib.hid (HEND.out (W6.setCell ⟨w.heap.size + 1, 0, none⟩ (.slice (some ⟨w6.heap.size, 0, none⟩) 17 17)) (some ⟨w6.heap.size, 0, none⟩) 17 (List.replicate 17 0) hd tl (q4 + 1 + 1) _ e0 (own.setOther _ _ (.inl (by simp))) (by simp <;> omega) (by simp) (by omega) (by omega) (by omega) (rd_set2 hr7 _ _ (by simp <;> omega)) (fr_setc F6 (by simp) _))
              go_wp2_with fail
              refine bodyPost_ret (v := .agg #[(.slice (some ⟨w6.heap.size, 0, none⟩) 17 17), .int .i64 hd, .int .i64 tl]) (by simp [results, Try.results12, go_sem, g0, g1, g2]) rfl ?_
              exact HG.out
          · go_upto_region 14 with fail
            refine wp_region_noPanic ?_
            refine wp_region_held_drew (S := fun w' => w'.cell? ⟨w.heap.size + 1, 0, none⟩ = some (.slice A d.length c)) (by kernel_rfl) n0 (fun hHeld => ?_)
            refine wpAnyH_take (i := 0) (v := ?_) rfl (by kernel_rfl) (by kernel_rfl) (by kernel_rfl) (fun _ _ _ h => h) (Or.inl ⟨by rfl, ?_⟩) (by assumption) ?_
            rotate_left
            · (intro wz hSw; (try dsimp only at hSw); go_simp; try with_reducible rfl)
            simp only [Act.put, List.getElem_toArray, List.getElem_cons_zero, List.getElem_cons_succ, List.setIfInBounds_toArray, List.set_cons_zero, List.set_cons_succ]
            refine wpAnyH_take (i := 1) (v := ?_) rfl (by kernel_rfl) (by kernel_rfl) (by kernel_rfl) (fun _ _ _ h => h) (Or.inl ⟨by rfl, ?_⟩) (by assumption) ?_
            rotate_left
            · (intro wz hSw; (try dsimp only at hSw); go_simp; try with_reducible rfl)
            simp only [Act.put, List.getElem_toArray, List.getElem_cons_zero, List.getElem_cons_succ, List.setIfInBounds_toArray, List.set_cons_zero, List.set_cons_succ]
            refine wpAnyH_take (i := 2) (v := ?_) rfl (by kernel_rfl) (by kernel_rfl) (by kernel_rfl) (fun _ _ _ h => h) (Or.inl ⟨by rfl, ?_⟩) (by assumption) ?_
            rotate_left
            · (intro wz hSw; (try dsimp only at hSw); go_simp; try with_reducible rfl)
            simp only [Act.put, List.getElem_toArray, List.getElem_cons_zero, List.getElem_cons_succ, List.setIfInBounds_toArray, List.set_cons_zero, List.set_cons_succ]
            refine wpAnyH_take (i := 4) (v := ?_) rfl (by kernel_rfl) (by kernel_rfl) (by kernel_rfl) (fun _ _ _ h => h) (Or.inl ⟨by rfl, ?_⟩) (by assumption) ?_
            rotate_left
            · (intro wz hSw; (try dsimp only at hSw); go_simp; try with_reducible rfl)
            simp only [Act.put, List.getElem_toArray, List.getElem_cons_zero, List.getElem_cons_succ, List.setIfInBounds_toArray, List.set_cons_zero, List.set_cons_succ]
            refine wpAnyH_ready (rs := [3, 5]) (by kernel_rfl) (by simp) ?_
            refine AllReadyH.cons rfl (fun K hK => ?_) ?_
            · go_simp
              have g5 := below_new (w5.drewN 1) (.cells #[.int .i64 (-1), .int .i64 (d.length : Int)] 3)
              have b0 := rowKeep (w := w5.drewN 1) r0 g5
              have b1 := rowKeep (w := w5.drewN 1) r1 g5
              have bo := (ho.drewN 1).below g5
              have bf := fr_below (hf.drewN 1) g5
              have br := (hr5.drewN 1).alloc (.cells #[.int .i64 (-1), .int .i64 (d.length : Int)] 3)
              have hq5 : ((w5.drewN 1).alloc (.cells #[.int .i64 (-1), .int .i64 (d.length : Int)] 3)).heap[w5.heap.size]? = some (.cells #[.int .i64 (-1), .int .i64 (d.length : Int)] 3 (0, 0)) := heap_alloc_new (w5.drewN 1) _
              have s5' : w5.heap.size < ((w5.drewN 1).alloc (.cells #[.int .i64 (-1), .int .i64 (d.length : Int)] 3)).heap.size := by simp
              have d1 := (cells3 b1).1
              refine hK.out _ _ d1 (fun hHeld => ?_)
              clear hK K
              try simp only [Act.put, List.getElem_toArray, List.getElem_cons_zero, List.getElem_cons_succ, List.setIfInBounds_toArray, List.set_cons_zero, List.set_cons_succ]
              refine wpAnyH_ready (rs := [5]) (by kernel_rfl) (by simp) ?_
              refine AllReadyH.cons rfl (fun K hK => ?_) ?_
              · go_simp
                refine (pick_any R (q4 + 1) 2 _ br (by omega)).mono ?_
                rintro e w6 ⟨k6, rfl, hk6, hr6, hf6, hs6⟩
                have hk6' : 0 ≤ k6 ∧ k6 < 2 := by omega
                have s6 : w5.heap.size < w6.heap.size := by rw [hs6]; exact s5'
                replace b0 := rowFr b0 hf6 (.inr (by omega))
                replace b1 := rowFr b1 hf6 (.inr (by omega))
                replace bo := bo.fr hf6 (.inr (by omega))
                replace bf := bf.trans hf6
                replace hq5 := rowFr hq5 hf6 (.inr (by omega))
                replace br := hr6
                obtain ⟨v, hv, hpk⟩ := pick2n (-1) (d.length : Int) k6 (by omega) (by omega) hk6'.1 hk6'.2
                have hcv : w6.cell? ⟨w5.heap.size, k6.toNat, none⟩ = some (.int .i64 v) := by rw [cell_of_row w6 w5.heap.size k6.toNat _ _ _ hq5]; exact hpk
                clear hs6 hk6 hf6 hr6 d1 hpk hq5
                obtain ⟨i1, i2⟩ := hk6'
                clear m0 m1 m2 mf0 mf1 mf2 n0 n1 n2 nf0 nf1 nf2
                obtain ⟨m0, m1, m2⟩ := cells3 b0
                obtain ⟨mf0, mf1, mf2⟩ := frz3 b0
                obtain ⟨n0, n1, n2⟩ := cells3 b1
                obtain ⟨nf0, nf1, nf2⟩ := frz3 b1
                have e1 := set31 b1 (.int .i64 v)
                have e0 := rowSet b0 ⟨w.heap.size + 1, 1, none⟩ (.int .i64 v) (by simp)
                have HE := Lib.hid (And.intro e0 (And.intro e1 (HEND.out (w6.setCell ⟨w.heap.size + 1, 1, none⟩ (.int .i64 v)) A c d (v) (tl) (q4 + 1 + 1) _ e0 (bo.setOther _ _ (.inl (by simp))) (by simp <;> omega) (by omega) (by omega) (by omega) (by omega) (rd_set2 br _ _ (by simp <;> omega)) (fr_setc bf (by simp) _))))
                clear e0 e1
                go_wp2_with fail
                refine hK.out _ _ n0 (fun hHeld => ?_)
                clear hK K
                try simp only [Act.put, List.getElem_toArray, List.getElem_cons_zero, List.getElem_cons_succ, List.setIfInBounds_toArray, List.set_cons_zero, List.set_cons_succ]
                refine wpAnyH_take (i := 6) (v := ?_) rfl (by kernel_rfl) (by kernel_rfl) (by kernel_rfl) (fun _ _ _ h => h) (Or.inl ⟨by rfl, ?_⟩) (by assumption) ?_
                rotate_left
                · (intro wz hSw; (try dsimp only at hSw); go_simp; try with_reducible rfl)
                simp only [Act.put, List.getElem_toArray, List.getElem_cons_zero, List.getElem_cons_succ, List.setIfInBounds_toArray, List.set_cons_zero, List.set_cons_succ]
                refine wpAnyH_ready (rs := [7]) (by kernel_rfl) (by simp) ?_
                refine AllReadyH.cons rfl (fun K hK => ?_) ?_
                · go_simp
                  refine hK.out _ _ n0 (fun hHeld => ?_)
                  clear hK K
                  try simp only [Act.put, List.getElem_toArray, List.getElem_cons_zero, List.getElem_cons_succ, List.setIfInBounds_toArray, List.set_cons_zero, List.set_cons_succ]
                  refine wpAnyH_take (i := 8) (v := ?_) rfl (by kernel_rfl) (by kernel_rfl) (by kernel_rfl) (fun _ _ _ h => h) (Or.inl ⟨by rfl, ?_⟩) (by assumption) ?_
                  rotate_left
                  · (intro wz hSw; (try dsimp only at hSw); go_simp; try with_reducible rfl)
                  simp only [Act.put, List.getElem_toArray, List.getElem_cons_zero, List.getElem_cons_succ, List.setIfInBounds_toArray, List.set_cons_zero, List.set_cons_succ]
                  refine wpAnyH_ready (rs := [9]) (by kernel_rfl) (by simp) ?_
                  refine AllReadyH.cons rfl (fun K hK => ?_) ?_
                  · go_simp
                    refine hK.out _ _ (cells3 HE.out.2.1).1 (fun hHeld => ?_)
                    clear hK K
                    try simp only [Act.put, List.getElem_toArray, List.getElem_cons_zero, List.getElem_cons_succ, List.setIfInBounds_toArray, List.set_cons_zero, List.set_cons_succ]
                    refine wpAnyH_done (by kernel_rfl) ?_ _
                    refine NoPanic.normal ?_
                    obtain ⟨e0, e1, HG⟩ := HE.out
                    replace HG := Lib.hid HG
                    clear m0 m1 m2 mf0 mf1 mf2 n0 n1 n2 nf0 nf1 nf2
                    obtain ⟨m0, m1, m2⟩ := cells3 e0
                    obtain ⟨mf0, mf1, mf2⟩ := frz3 e0
                    obtain ⟨n0, n1, n2⟩ := cells3 e1
                    obtain ⟨g0, g1, g2⟩ := cells3 (set32 (set31 (set30 e0 (.slice A d.length c)) (.int .i64 (v))) (.int .i64 (tl)))
                    go_wp2_with fail
                    refine bodyPost_ret (v := .agg #[.slice A d.length c, .int .i64 (v), .int .i64 (tl)]) (by simp [results, Try.results12, go_sem, g0, g1, g2]) rfl ?_
                    exact HG.out
                  exact AllReadyH.nil
                exact AllReadyH.nil
              exact AllReadyH.nil
            refine AllReadyH.cons rfl (fun K hK => ?_) ?_
            · go_simp
              refine (pick_any R (q4 + 1) 2 _ (hr5.drewN 1) (by omega)).mono ?_
              rintro e w6 ⟨k6, rfl, hk6, hr6, hf6, hs6⟩
              have hk6' : 0 ≤ k6 ∧ k6 < 2 := by omega
              have s6 : w5.heap.size ≤ w6.heap.size := Nat.le_of_eq hs6.symm
              have b0 := rowFr (w := w5.drewN 1) r0 hf6 (.inr (by omega))
              have b1 := rowFr (w := w5.drewN 1) r1 hf6 (.inr (by omega))
              have bo := (ho.drewN 1).fr hf6 (.inr (by omega))
              have bf := (hf.drewN 1).trans hf6
              have br := hr6
              clear hs6 hk6 hf6 hr6
              have d1 := (cells3 b1).1
              go_wp2_with fail
              refine hK.out _ _ d1 (fun hHeld => ?_)
              clear hK K
              try simp only [Act.put, List.getElem_toArray, List.getElem_cons_zero, List.getElem_cons_succ, List.setIfInBounds_toArray, List.set_cons_zero, List.set_cons_succ]
              refine wpAnyH_ready (rs := [3]) (by kernel_rfl) (by simp) ?_
              refine AllReadyH.cons rfl (fun K hK => ?_) ?_
              · go_simp
                have g5 := below_new w6 (.cells #[.int .i64 (-1), .int .i64 (d.length : Int)] 3)
                replace b0 := rowKeep b0 g5
                replace b1 := rowKeep b1 g5
                replace bo := bo.below g5
                replace bf := fr_below bf g5
                replace br := br.alloc (.cells #[.int .i64 (-1), .int .i64 (d.length : Int)] 3)
                have hq5 : (w6.alloc (.cells #[.int .i64 (-1), .int .i64 (d.length : Int)] 3)).heap[w6.heap.size]? = some (.cells #[.int .i64 (-1), .int .i64 (d.length : Int)] 3 (0, 0)) := heap_alloc_new w6 _
                have s5' : w6.heap.size < (w6.alloc (.cells #[.int .i64 (-1), .int .i64 (d.length : Int)] 3)).heap.size := by simp
                obtain ⟨v, hv, hpk⟩ := pick2n (-1) (d.length : Int) k6 (by omega) (by omega) hk6'.1 hk6'.2
                have hcv : (w6.alloc (.cells #[.int .i64 (-1), .int .i64 (d.length : Int)] 3)).cell? ⟨w6.heap.size, k6.toNat, none⟩ = some (.int .i64 v) := by rw [cell_of_row _ w6.heap.size k6.toNat _ _ _ hq5]; exact hpk
                clear hpk hq5 d1
                obtain ⟨i1, i2⟩ := hk6'
                clear m0 m1 m2 mf0 mf1 mf2 n0 n1 n2 nf0 nf1 nf2
                obtain ⟨m0, m1, m2⟩ := cells3 b0
                obtain ⟨mf0, mf1, mf2⟩ := frz3 b0
                obtain ⟨n0, n1, n2⟩ := cells3 b1
                obtain ⟨nf0, nf1, nf2⟩ := frz3 b1
                have e1 := set31 b1 (.int .i64 v)
                have e0 := rowSet b0 ⟨w.heap.size + 1, 1, none⟩ (.int .i64 v) (by simp)
                have HE := Lib.hid (And.intro e0 (And.intro e1 (HEND.out ((w6.alloc (.cells #[.int .i64 (-1), .int .i64 (d.length : Int)] 3)).setCell ⟨w.heap.size + 1, 1, none⟩ (.int .i64 v)) A c d (v) (tl) (q4 + 1 + 1) _ e0 (bo.setOther _ _ (.inl (by simp))) (by simp <;> omega) (by omega) (by omega) (by omega) (by omega) (rd_set2 br _ _ (by simp <;> omega)) (fr_setc bf (by simp) _))))
                clear e0 e1
                refine hK.out _ _ n0 (fun hHeld => ?_)
                clear hK K
                try simp only [Act.put, List.getElem_toArray, List.getElem_cons_zero, List.getElem_cons_succ, List.setIfInBounds_toArray, List.set_cons_zero, List.set_cons_succ]
                generalize (w6.alloc (.cells #[.int .i64 (-1), .int .i64 (d.length : Int)] 3)) = W6 at *
                refine wpAnyH_take (i := 6) (v := ?_) rfl (by kernel_rfl) (by kernel_rfl) (by kernel_rfl) (fun _ _ _ h => h) (Or.inl ⟨by rfl, ?_⟩) (by assumption) ?_
                rotate_left
                · (intro wz hSw; (try dsimp only at hSw); go_simp; try with_reducible rfl)
                simp only [Act.put, List.getElem_toArray, List.getElem_cons_zero, List.getElem_cons_succ, List.setIfInBounds_toArray, List.set_cons_zero, List.set_cons_succ]
                refine wpAnyH_ready (rs := [7]) (by kernel_rfl) (by simp) ?_
                refine AllReadyH.cons rfl (fun K hK => ?_) ?_
                · go_simp
                  refine hK.out _ _ n0 (fun hHeld => ?_)
                  clear hK K
                  try simp only [Act.put, List.getElem_toArray, List.getElem_cons_zero, List.getElem_cons_succ, List.setIfInBounds_toArray, List.set_cons_zero, List.set_cons_succ]
                  refine wpAnyH_take (i := 8) (v := ?_) rfl (by kernel_rfl) (by kernel_rfl) (by kernel_rfl) (fun _ _ _ h => h) (Or.inl ⟨by rfl, ?_⟩) (by assumption) ?_
                  rotate_left
                  · (intro wz hSw; (try dsimp only at hSw); go_simp; try with_reducible rfl)
                  simp only [Act.put, List.getElem_toArray, List.getElem_cons_zero, List.getElem_cons_succ, List.setIfInBounds_toArray, List.set_cons_zero, List.set_cons_succ]
                  refine wpAnyH_ready (rs := [9]) (by kernel_rfl) (by simp) ?_
                  refine AllReadyH.cons rfl (fun K hK => ?_) ?_
                  · go_simp
                    refine hK.out _ _ (cells3 HE.out.2.1).1 (fun hHeld => ?_)
                    clear hK K
                    try simp only [Act.put, List.getElem_toArray, List.getElem_cons_zero, List.getElem_cons_succ, List.setIfInBounds_toArray, List.set_cons_zero, List.set_cons_succ]
                    refine wpAnyH_done (by kernel_rfl) ?_ _
                    refine NoPanic.normal ?_
                    obtain ⟨e0, e1, HG⟩ := HE.out
                    replace HG := Lib.hid HG
                    clear m0 m1 m2 mf0 mf1 mf2 n0 n1 n2 nf0 nf1 nf2
                    obtain ⟨m0, m1, m2⟩ := cells3 e0
                    obtain ⟨mf0, mf1, mf2⟩ := frz3 e0
                    obtain ⟨n0, n1, n2⟩ := cells3 e1
                    obtain ⟨g0, g1, g2⟩ := cells3 (set32 (set31 (set30 e0 (.slice A d.length c)) (.int .i64 (v))) (.int .i64 (tl)))
                    go_wp2_with fail
                    refine bodyPost_ret (v := .agg #[.slice A d.length c, .int .i64 (v), .int .i64 (tl)]) (by simp [results, Try.results12, go_sem, g0, g1, g2]) rfl ?_
                    exact HG.out
                  exact AllReadyH.nil
                exact AllReadyH.nil
              exact AllReadyH.nil
            exact AllReadyH.nil
          · go_upto_region 10 with fail
            refine wp_region_noPanic ?_
            refine wp_region_held_drew (S := fun w' => w'.cell? ⟨w.heap.size + 1, 0, none⟩ = some (.slice A d.length c)) (by kernel_rfl) n0 (fun hHeld => ?_)
            refine wpAnyH_take (i := 0) (v := ?_) rfl (by kernel_rfl) (by kernel_rfl) (by kernel_rfl) (fun _ _ _ h => h) (Or.inl ⟨by rfl, ?_⟩) (by assumption) ?_
            rotate_left
            · (intro wz hSw; (try dsimp only at hSw); go_simp; try with_reducible rfl)
            simp only [Act.put, List.getElem_toArray, List.getElem_cons_zero, List.getElem_cons_succ, List.setIfInBounds_toArray, List.set_cons_zero, List.set_cons_succ]
            refine wpAnyH_take (i := 1) (v := ?_) rfl (by kernel_rfl) (by kernel_rfl) (by kernel_rfl) (fun _ _ _ h => h) (Or.inl ⟨by rfl, ?_⟩) (by assumption) ?_
            rotate_left
            · (intro wz hSw; (try dsimp only at hSw); go_simp; try with_reducible rfl)
            simp only [Act.put, List.getElem_toArray, List.getElem_cons_zero, List.getElem_cons_succ, List.setIfInBounds_toArray, List.set_cons_zero, List.set_cons_succ]
            refine wpAnyH_take (i := 2) (v := ?_) rfl (by kernel_rfl) (by kernel_rfl) (by kernel_rfl) (fun _ _ _ h => h) (Or.inl ⟨by rfl, ?_⟩) (by assumption) ?_
            rotate_left
            · (intro wz hSw; (try dsimp only at hSw); go_simp; try with_reducible rfl)
            simp only [Act.put, List.getElem_toArray, List.getElem_cons_zero, List.getElem_cons_succ, List.setIfInBounds_toArray, List.set_cons_zero, List.set_cons_succ]
            refine wpAnyH_take (i := 4) (v := ?_) rfl (by kernel_rfl) (by kernel_rfl) (by kernel_rfl) (fun _ _ _ h => h) (Or.inl ⟨by rfl, ?_⟩) (by assumption) ?_
            rotate_left
            · (intro wz hSw; (try dsimp only at hSw); go_simp; try with_reducible rfl)
            simp only [Act.put, List.getElem_toArray, List.getElem_cons_zero, List.getElem_cons_succ, List.setIfInBounds_toArray, List.set_cons_zero, List.set_cons_succ]
            refine wpAnyH_ready (rs := [3, 5]) (by kernel_rfl) (by simp) ?_
            refine AllReadyH.cons rfl (fun K hK => ?_) ?_
            · go_simp
              have g5 := below_new (w5.drewN 1) (.cells #[.int .i64 (-1), .int .i64 (d.length : Int)] 3)
              have b0 := rowKeep (w := w5.drewN 1) r0 g5
              have b1 := rowKeep (w := w5.drewN 1) r1 g5
              have bo := (ho.drewN 1).below g5
              have bf := fr_below (hf.drewN 1) g5
              have br := (hr5.drewN 1).alloc (.cells #[.int .i64 (-1), .int .i64 (d.length : Int)] 3)
              have hq5 : ((w5.drewN 1).alloc (.cells #[.int .i64 (-1), .int .i64 (d.length : Int)] 3)).heap[w5.heap.size]? = some (.cells #[.int .i64 (-1), .int .i64 (d.length : Int)] 3 (0, 0)) := heap_alloc_new (w5.drewN 1) _
              have s5' : w5.heap.size < ((w5.drewN 1).alloc (.cells #[.int .i64 (-1), .int .i64 (d.length : Int)] 3)).heap.size := by simp
              have d1 := (cells3 b1).1
              refine hK.out _ _ d1 (fun hHeld => ?_)
              clear hK K
              try simp only [Act.put, List.getElem_toArray, List.getElem_cons_zero, List.getElem_cons_succ, List.setIfInBounds_toArray, List.set_cons_zero, List.set_cons_succ]
              refine wpAnyH_ready (rs := [5]) (by kernel_rfl) (by simp) ?_
              refine AllReadyH.cons rfl (fun K hK => ?_) ?_
              · go_simp
                refine (pick_any R (q4 + 1) 2 _ br (by omega)).mono ?_
                rintro e w6 ⟨k6, rfl, hk6, hr6, hf6, hs6⟩
                have hk6' : 0 ≤ k6 ∧ k6 < 2 := by omega
                have s6 : w5.heap.size < w6.heap.size := by rw [hs6]; exact s5'
                replace b0 := rowFr b0 hf6 (.inr (by omega))
                replace b1 := rowFr b1 hf6 (.inr (by omega))
                replace bo := bo.fr hf6 (.inr (by omega))
                replace bf := bf.trans hf6
                replace hq5 := rowFr hq5 hf6 (.inr (by omega))
                replace br := hr6
                obtain ⟨v, hv, hpk⟩ := pick2n (-1) (d.length : Int) k6 (by omega) (by omega) hk6'.1 hk6'.2
                have hcv : w6.cell? ⟨w5.heap.size, k6.toNat, none⟩ = some (.int .i64 v) := by rw [cell_of_row w6 w5.heap.size k6.toNat _ _ _ hq5]; exact hpk
                clear hs6 hk6 hf6 hr6 d1 hpk hq5
                obtain ⟨i1, i2⟩ := hk6'
                clear m0 m1 m2 mf0 mf1 mf2 n0 n1 n2 nf0 nf1 nf2
                obtain ⟨m0, m1, m2⟩ := cells3 b0
                obtain ⟨mf0, mf1, mf2⟩ := frz3 b0
                obtain ⟨n0, n1, n2⟩ := cells3 b1
                obtain ⟨nf0, nf1, nf2⟩ := frz3 b1
                have e1 := set32 b1 (.int .i64 v)
                have e0 := rowSet b0 ⟨w.heap.size + 1, 2, none⟩ (.int .i64 v) (by simp)
                have HE := Lib.hid (And.intro e0 (And.intro e1 (HEND.out (w6.setCell ⟨w.heap.size + 1, 2, none⟩ (.int .i64 v)) A c d (hd) (v) (q4 + 1 + 1) _ e0 (bo.setOther _ _ (.inl (by simp))) (by simp <;> omega) (by omega) (by omega) (by omega) (by omega) (rd_set2 br _ _ (by simp <;> omega)) (fr_setc bf (by simp) _))))
                clear e0 e1
                go_wp2_with fail
                refine hK.out _ _ n0 (fun hHeld => ?_)
                clear hK K
                try simp only [Act.put, List.getElem_toArray, List.getElem_cons_zero, List.getElem_cons_succ, List.setIfInBounds_toArray, List.set_cons_zero, List.set_cons_succ]
                refine wpAnyH_take (i := 6) (v := ?_) rfl (by kernel_rfl) (by kernel_rfl) (by kernel_rfl) (fun _ _ _ h => h) (Or.inl ⟨by rfl, ?_⟩) (by assumption) ?_
                rotate_left
                · (intro wz hSw; (try dsimp only at hSw); go_simp; try with_reducible rfl)
                simp only [Act.put, List.getElem_toArray, List.getElem_cons_zero, List.getElem_cons_succ, List.setIfInBounds_toArray, List.set_cons_zero, List.set_cons_succ]
                refine wpAnyH_ready (rs := [7]) (by kernel_rfl) (by simp) ?_
                refine AllReadyH.cons rfl (fun K hK => ?_) ?_
                · go_simp
                  refine hK.out _ _ n0 (fun hHeld => ?_)
                  clear hK K
                  try simp only [Act.put, List.getElem_toArray, List.getElem_cons_zero, List.getElem_cons_succ, List.setIfInBounds_toArray, List.set_cons_zero, List.set_cons_succ]
                  refine wpAnyH_take (i := 8) (v := ?_) rfl (by kernel_rfl) (by kernel_rfl) (by kernel_rfl) (fun _ _ _ h => h) (Or.inl ⟨by rfl, ?_⟩) (by assumption) ?_
                  rotate_left
                  · (intro wz hSw; (try dsimp only at hSw); go_simp; try with_reducible rfl)
                  simp only [Act.put, List.getElem_toArray, List.getElem_cons_zero, List.getElem_cons_succ, List.setIfInBounds_toArray, List.set_cons_zero, List.set_cons_succ]
                  refine wpAnyH_ready (rs := [9]) (by kernel_rfl) (by simp) ?_
                  refine AllReadyH.cons rfl (fun K hK => ?_) ?_
                  · go_simp
                    refine hK.out _ _ (cells3 HE.out.2.1).1 (fun hHeld => ?_)
                    clear hK K
                    try simp only [Act.put, List.getElem_toArray, List.getElem_cons_zero, List.getElem_cons_succ, List.setIfInBounds_toArray, List.set_cons_zero, List.set_cons_succ]
                    refine wpAnyH_done (by kernel_rfl) ?_ _
                    refine NoPanic.normal ?_
                    obtain ⟨e0, e1, HG⟩ := HE.out
                    replace HG := Lib.hid HG
                    clear m0 m1 m2 mf0 mf1 mf2 n0 n1 n2 nf0 nf1 nf2
                    obtain ⟨m0, m1, m2⟩ := cells3 e0
                    obtain ⟨mf0, mf1, mf2⟩ := frz3 e0
                    obtain ⟨n0, n1, n2⟩ := cells3 e1
                    obtain ⟨g0, g1, g2⟩ := cells3 (set32 (set31 (set30 e0 (.slice A d.length c)) (.int .i64 (hd))) (.int .i64 (v)))
                    go_wp2_with fail
                    refine bodyPost_ret (v := .agg #[.slice A d.length c, .int .i64 (hd), .int .i64 (v)]) (by simp [results, Try.results12, go_sem, g0, g1, g2]) rfl ?_
                    exact HG.out
                  exact AllReadyH.nil
                exact AllReadyH.nil
              exact AllReadyH.nil
            refine AllReadyH.cons rfl (fun K hK => ?_) ?_
            · go_simp
              refine (pick_any R (q4 + 1) 2 _ (hr5.drewN 1) (by omega)).mono ?_
              rintro e w6 ⟨k6, rfl, hk6, hr6, hf6, hs6⟩
              have hk6' : 0 ≤ k6 ∧ k6 < 2 := by omega
              have s6 : w5.heap.size ≤ w6.heap.size := Nat.le_of_eq hs6.symm
              have b0 := rowFr (w := w5.drewN 1) r0 hf6 (.inr (by omega))
              have b1 := rowFr (w := w5.drewN 1) r1 hf6 (.inr (by omega))
              have bo := (ho.drewN 1).fr hf6 (.inr (by omega))
              have bf := (hf.drewN 1).trans hf6
              have br := hr6
              clear hs6 hk6 hf6 hr6
              have d1 := (cells3 b1).1
              go_wp2_with fail
              refine hK.out _ _ d1 (fun hHeld => ?_)
              clear hK K
              try simp only [Act.put, List.getElem_toArray, List.getElem_cons_zero, List.getElem_cons_succ, List.setIfInBounds_toArray, List.set_cons_zero, List.set_cons_succ]
              refine wpAnyH_ready (rs := [3]) (by kernel_rfl) (by simp) ?_
              refine AllReadyH.cons rfl (fun K hK => ?_) ?_
              · go_simp
                have g5 := below_new w6 (.cells #[.int .i64 (-1), .int .i64 (d.length : Int)] 3)
                replace b0 := rowKeep b0 g5
                replace b1 := rowKeep b1 g5
                replace bo := bo.below g5
                replace bf := fr_below bf g5
                replace br := br.alloc (.cells #[.int .i64 (-1), .int .i64 (d.length : Int)] 3)
                have hq5 : (w6.alloc (.cells #[.int .i64 (-1), .int .i64 (d.length : Int)] 3)).heap[w6.heap.size]? = some (.cells #[.int .i64 (-1), .int .i64 (d.length : Int)] 3 (0, 0)) := heap_alloc_new w6 _
                have s5' : w6.heap.size < (w6.alloc (.cells #[.int .i64 (-1), .int .i64 (d.length : Int)] 3)).heap.size := by simp
                obtain ⟨v, hv, hpk⟩ := pick2n (-1) (d.length : Int) k6 (by omega) (by omega) hk6'.1 hk6'.2
                have hcv : (w6.alloc (.cells #[.int .i64 (-1), .int .i64 (d.length : Int)] 3)).cell? ⟨w6.heap.size, k6.toNat, none⟩ = some (.int .i64 v) := by rw [cell_of_row _ w6.heap.size k6.toNat _ _ _ hq5]; exact hpk
                clear hpk hq5 d1
                obtain ⟨i1, i2⟩ := hk6'
                clear m0 m1 m2 mf0 mf1 mf2 n0 n1 n2 nf0 nf1 nf2
                obtain ⟨m0, m1, m2⟩ := cells3 b0
                obtain ⟨mf0, mf1, mf2⟩ := frz3 b0
                obtain ⟨n0, n1, n2⟩ := cells3 b1
                obtain ⟨nf0, nf1, nf2⟩ := frz3 b1
                have e1 := set32 b1 (.int .i64 v)
                have e0 := rowSet b0 ⟨w.heap.size + 1, 2, none⟩ (.int .i64 v) (by simp)
                have HE := Lib.hid (And.intro e0 (And.intro e1 (HEND.out ((w6.alloc (.cells #[.int .i64 (-1), .int .i64 (d.length : Int)] 3)).setCell ⟨w.heap.size + 1, 2, none⟩ (.int .i64 v)) A c d (hd) (v) (q4 + 1 + 1) _ e0 (bo.setOther _ _ (.inl (by simp))) (by simp <;> omega) (by omega) (by omega) (by omega) (by omega) (rd_set2 br _ _ (by simp <;> omega)) (fr_setc bf (by simp) _))))
                clear e0 e1
                refine hK.out _ _ n0 (fun hHeld => ?_)
                clear hK K
                try simp only [Act.put, List.getElem_toArray, List.getElem_cons_zero, List.getElem_cons_succ, List.setIfInBounds_toArray, List.set_cons_zero, List.set_cons_succ]
                generalize (w6.alloc (.cells #[.int .i64 (-1), .int .i64 (d.length : Int)] 3)) = W6 at *
                refine wpAnyH_take (i := 6) (v := ?_) rfl (by kernel_rfl) (by kernel_rfl) (by kernel_rfl) (fun _ _ _ h => h) (Or.inl ⟨by rfl, ?_⟩) (by assumption) ?_
                rotate_left
                · (intro wz hSw; (try dsimp only at hSw); go_simp; try with_reducible rfl)
                simp only [Act.put, List.getElem_toArray, List.getElem_cons_zero, List.getElem_cons_succ, List.setIfInBounds_toArray, List.set_cons_zero, List.set_cons_succ]
                refine wpAnyH_ready (rs := [7]) (by kernel_rfl) (by simp) ?_
                refine AllReadyH.cons rfl (fun K hK => ?_) ?_
                · go_simp
                  refine hK.out _ _ n0 (fun hHeld => ?_)
                  clear hK K
                  try simp only [Act.put, List.getElem_toArray, List.getElem_cons_zero, List.getElem_cons_succ, List.setIfInBounds_toArray, List.set_cons_zero, List.set_cons_succ]
                  refine wpAnyH_take (i := 8) (v := ?_) rfl (by kernel_rfl) (by kernel_rfl) (by kernel_rfl) (fun _ _ _ h => h) (Or.inl ⟨by rfl, ?_⟩) (by assumption) ?_
                  rotate_left
                  · (intro wz hSw; (try dsimp only at hSw); go_simp; try with_reducible rfl)
                  simp only [Act.put, List.getElem_toArray, List.getElem_cons_zero, List.getElem_cons_succ, List.setIfInBounds_toArray, List.set_cons_zero, List.set_cons_succ]
                  refine wpAnyH_ready (rs := [9]) (by kernel_rfl) (by simp) ?_
                  refine AllReadyH.cons rfl (fun K hK => ?_) ?_
                  · go_simp
                    refine hK.out _ _ (cells3 HE.out.2.1).1 (fun hHeld => ?_)
                    clear hK K
                    try simp only [Act.put, List.getElem_toArray, List.getElem_cons_zero, List.getElem_cons_succ, List.setIfInBounds_toArray, List.set_cons_zero, List.set_cons_succ]
                    refine wpAnyH_done (by kernel_rfl) ?_ _
                    refine NoPanic.normal ?_
                    obtain ⟨e0, e1, HG⟩ := HE.out
                    replace HG := Lib.hid HG
                    clear m0 m1 m2 mf0 mf1 mf2 n0 n1 n2 nf0 nf1 nf2
                    obtain ⟨m0, m1, m2⟩ := cells3 e0
                    obtain ⟨mf0, mf1, mf2⟩ := frz3 e0
                    obtain ⟨n0, n1, n2⟩ := cells3 e1
                    obtain ⟨g0, g1, g2⟩ := cells3 (set32 (set31 (set30 e0 (.slice A d.length c)) (.int .i64 (hd))) (.int .i64 (v)))
                    go_wp2_with fail
                    refine bodyPost_ret (v := .agg #[.slice A d.length c, .int .i64 (hd), .int .i64 (v)]) (by simp [results, Try.results12, go_sem, g0, g1, g2]) rfl ?_
                    exact HG.out
                  exact AllReadyH.nil
                exact AllReadyH.nil
              exact AllReadyH.nil
            exact AllReadyH.nil
end Go.Proofs.Ytcbdphflockopaa
