/-
  Walks: RingPush of the program and of the reference.
-/
import Derived.Test.YtcbdphflockopaaR3
import Derived.Test.YtcbdphflockopaaR4
import Derived.Deep.DeepCutAuto
namespace Go.Proofs.Ytcbdphflockopaa
open Go.RowKit
def pushV (h t : Int) (b : Bool) (v : Value) : Value := .tuple #[ringV h t v, .bool b]
theorem rpush_no (r : Rng) (v : Int) (h : rval r = false) : rpush r v = rz ∧ rpushed r = false := ⟨by unfold rpush; rw [if_neg (by simp [h])], by unfold rpushed; rw [h]; rfl⟩
theorem rpush_full (r : Rng) (v : Int) (h : rval r = true) (hf : rfull r = true) : rpush r v = r ∧ rpushed r = false := ⟨by unfold rpush; rw [if_pos h, if_pos hf], by unfold rpushed; rw [h, hf]; rfl⟩
theorem rpush_put (r : Rng) (v : Int) (h : rval r = true) (hf : rfull r = false) : rpush r v = rput r v ∧ rpushed r = true := ⟨by unfold rpush; rw [if_pos h, if_neg (by simp [hf])], by unfold rpushed; rw [h, hf]; rfl⟩
set_option maxHeartbeats 1000000 in
theorem implRingPush_any (A : Option Addr) (n c B : Nat) (d : List Int) (hd tl v : Int) (w : World) (h : Sees w B 1 A n c (ints d)) (hB : B ≤ w.heap.size) :
    Calls Try.prog 9 #[.agg #[.slice A n c, .int .i64 hd, .int .i64 tl], .int .i64 v] w (RetF w 3 1 (rpush ⟨d, hd, tl⟩ v).slots.length (ints (rpush ⟨d, hd, tl⟩ v).slots) (pushV (rpush ⟨d, hd, tl⟩ v).head (rpush ⟨d, hd, tl⟩ v).tail (rpushed ⟨d, hd, tl⟩))) := by
  obtain rfl := h.int
  have hc1 := h.cap
  have hc2 := h.big
  have b0 : Below w.heap.size w ((w.alloc (.cells #[.slice A d.length c, .int .i64 hd, .int .i64 tl] 25)).alloc (.cells #[.slice none 0 0, .int .i64 0, .int .i64 0] 25)) := (below_new _ _).alloc (Nat.le_of_lt (by simp)) _
  have h0 := h.below b0 hB
  cases hv : rval ⟨d, hd, tl⟩ with
  | false =>
    have HP := Lib.hid (rpush_no ⟨d, hd, tl⟩ v hv)
    go_enter Try.func9, Try.ntmps9
    go_wp2_with fail
    refine (implRingValid_any _ _ _ _ _ _ _ _ h0).mono ?_
    rw [hv]
    rintro e w1 ⟨rfl, b1⟩
    obtain ⟨r0, r1, z1, B1⟩ := rows2 b1
    clear h0 b0
    obtain ⟨n0, n1, n2⟩ := cells3 r1
    obtain ⟨f0, f1, f2⟩ := frz3 r1
    go_wp2_with fail
    refine bodyPost_ret (v := .tuple #[.agg #[.slice none 0 0, .int .i64 0, .int .i64 0], .bool false]) (by simp [results, Try.results9, go_sem, n0, n1, n2]) rfl ?_
    rw [HP.out.1, HP.out.2]
    exact RetF.of (f := pushV 0 0 false) (Own.nil _ w.heap.size w.heap.size _ _) (Nat.le_refl _) (by simp <;> omega) (((B1.setCell (by simp) _).setCell (by simp) _).setCell (by simp) _)
  | true =>
    have hv' := (rval_iff _).1 hv
    simp only at hv'
    have HF := Lib.hid (fun hf => rpush_full ⟨d, hd, tl⟩ v hv hf)
    have HQ := Lib.hid (fun hf => rpush_put ⟨d, hd, tl⟩ v hv hf)
    go_enter Try.func9, Try.ntmps9
    go_wp2_with fail
    refine (implRingValid_any _ _ _ _ _ _ _ _ h0).mono ?_
    rw [hv]
    rintro e w1 ⟨rfl, b1⟩
    obtain ⟨r0, r1, z1, B1⟩ := rows2 b1
    clear h0 b0 b1
    have h1 := h.below B1 hB
    obtain ⟨m0, m1, m2⟩ := cells3 r0
    go_wp2_with fail
    refine (cloneRing_any _ _ _ _ _ _ _ _ h1 (by omega) (by omega)).mono ?_
    rintro e w2 ⟨A2, c2, rfl, o2, b2⟩
    simp only [ringV]
    clear m0 m1 m2
    have x2 : (w2.alloc (.cells #[.slice A2 d.length c2, .int .i64 hd, .int .i64 tl] 25)).heap[w2.heap.size]? = some (.cells #[.slice A2 d.length c2, .int .i64 hd, .int .i64 tl] 25 (0, 0)) := heap_alloc_new w2 _
    have g2 := below_new w2 (.cells #[.slice A2 d.length c2, .int .i64 hd, .int .i64 tl] 25)
    have x0 := rowKeep (rowKeep r0 b2) g2
    have x1 := rowKeep (rowKeep r1 b2) g2
    have p2 := o2.below g2
    have B3 := below_later (below_later B1 b2 (Nat.le_refl _)) g2 (Nat.le_refl _)
    have s2 := b2.size
    have hs4 := h.below B3 hB
    have zz : w2.heap.size < (w2.alloc (.cells #[.slice A2 d.length c2, .int .i64 hd, .int .i64 tl] 25)).heap.size := by rw [World.size_alloc]; omega
    clear r0 r1 b2 g2 o2 h1
    obtain ⟨m0, m1, m2⟩ := cells3 x0
    obtain ⟨n0, n1, n2⟩ := cells3 x1
    obtain ⟨q0, q1, q2⟩ := cells3 x2
    go_wp2_with fail
    generalize (w2.alloc (.cells #[.slice A2 d.length c2, .int .i64 hd, .int .i64 tl] 25)) = W at *
    have e1 : IntKind.i64.wrap ((d.length : Int) - 1) = (d.length : Int) - 1 := IntWalk.i64_in _ (by omega)
    go_region_held3 (fun w' => w'.cell? ⟨w.heap.size, 0, none⟩ = some (.slice A d.length c) ∧ w'.cell? ⟨w.heap.size, 1, none⟩ = some (.int .i64 hd) ∧ w'.cell? ⟨w.heap.size, 2, none⟩ = some (.int .i64 tl)) (first | (refine ⟨?_, ?_, ?_⟩ <;> assumption) | go_keep)
      (first | (go_at_call 19; refine (ringCount_any _ _ _ _ _ _ _ _ (hs4.drewN 1) hv).mono ?_; rintro e w3 ⟨rfl, b3⟩; replace b3 := drew_below b3; replace x0 := rowKeep x0 b3; replace x1 := rowKeep x1 b3; replace x2 := rowKeep x2 b3; replace p2 := p2.below b3; replace B3 := below_later B3 b3 (Nat.le_refl _); have s3 := b3.size; clear b3 m0 m1 m2 n0 n1 n2 q0 q1 q2 hs4; obtain ⟨m0, m1, m2⟩ := cells3 x0; obtain ⟨n0, n1, n2⟩ := cells3 x1; obtain ⟨q0, q1, q2⟩ := cells3 x2))
    clear e1
    cases hf : rfull ⟨d, hd, tl⟩ with
    | true =>
      have hb : (rcn ⟨d, hd, tl⟩ == (d.length : Int) - 1) = true := by unfold rfull at hf; simpa using hf
      have HX := Lib.hid (HF.out hf)
      clear hf HQ HF
      generalize rcn ⟨d, hd, tl⟩ = x at *
      obtain ⟨zb00, zb01, zb02⟩ := cells3 x1
      obtain ⟨zb0f0, zb0f1, zb0f2⟩ := frz3 x1
      obtain ⟨zc00, zc01, zc02⟩ := cells3 x2
      obtain ⟨zc0f0, zc0f1, zc0f2⟩ := frz3 x2
      have yb1 := set30 x1 (.slice A2 d.length c2)
      obtain ⟨zb10, zb11, zb12⟩ := cells3 yb1
      obtain ⟨zb1f0, zb1f1, zb1f2⟩ := frz3 yb1
      have yc1 := rowSet x2 ⟨w.heap.size + 1, 0, none⟩ (.slice A2 d.length c2) (by simp <;> omega)
      obtain ⟨zc10, zc11, zc12⟩ := cells3 yc1
      obtain ⟨zc1f0, zc1f1, zc1f2⟩ := frz3 yc1
      have yb2 := set31 yb1 (.int .i64 hd)
      obtain ⟨zb20, zb21, zb22⟩ := cells3 yb2
      obtain ⟨zb2f0, zb2f1, zb2f2⟩ := frz3 yb2
      have yc2 := rowSet yc1 ⟨w.heap.size + 1, 1, none⟩ (.int .i64 hd) (by simp <;> omega)
      obtain ⟨zc20, zc21, zc22⟩ := cells3 yc2
      obtain ⟨zc2f0, zc2f1, zc2f2⟩ := frz3 yc2
      have yb3 := set32 yb2 (.int .i64 tl)
      obtain ⟨zb30, zb31, zb32⟩ := cells3 yb3
      obtain ⟨zb3f0, zb3f1, zb3f2⟩ := frz3 yb3
      have yc3 := rowSet yc2 ⟨w.heap.size + 1, 2, none⟩ (.int .i64 tl) (by simp <;> omega)
      obtain ⟨zc30, zc31, zc32⟩ := cells3 yc3
      obtain ⟨zc3f0, zc3f1, zc3f2⟩ := frz3 yc3
      go_wp2_with fail
      refine bodyPost_ret (v := .tuple #[.agg #[.slice A2 d.length c2, .int .i64 hd, .int .i64 tl], .bool false]) (by simp [results, Try.results9, go_sem, zb30, zb31, zb32]) rfl ?_
      rw [HX.out.1, HX.out.2]
      exact RetF.of (f := pushV hd tl false) (((p2.setOther ⟨w.heap.size + 1, 0, none⟩ _ (.inl (by simp <;> omega))).setOther ⟨w.heap.size + 1, 1, none⟩ _ (.inl (by simp <;> omega))).setOther ⟨w.heap.size + 1, 2, none⟩ _ (.inl (by simp <;> omega))) (by omega) (by simp <;> omega) (((B3.setCell (by simp) _).setCell (by simp) _).setCell (by simp) _)
    | false =>
      have hb : (rcn ⟨d, hd, tl⟩ == (d.length : Int) - 1) = false := by unfold rfull at hf; simpa using hf
      have HX := Lib.hid (HQ.out hf)
      clear hf HQ HF
      generalize rcn ⟨d, hd, tl⟩ = x at *
      obtain ⟨t, rfl⟩ := Int.eq_ofNat_of_zero_le hv'.2.2.1
      have hlt : t < d.length := by omega
      obtain ⟨g, rfl, hg1, hg2, hg3⟩ := p2.head (by omega)
      have hx := p2.cell rfl t _ (ints_get d t hlt)
      have hfz := p2.frozen rfl t
      have p3 := p2.set rfl t (.int .i64 v)
      rw [ints_set] at p3
      generalize d[t] = old at hx
      have hz : ((d.length : Int) == 0) = false := beq_eq_false_iff_ne.2 (by omega)
      have y0 := rowSet x0 ⟨g, t, none⟩ (.int .i64 v) (by show _ ≠ g; omega)
      have y1 := rowSet x1 ⟨g, t, none⟩ (.int .i64 v) (by show _ ≠ g; omega)
      have y2 := rowSet x2 ⟨g, t, none⟩ (.int .i64 v) (by show _ ≠ g; omega)
      have B4 := B3.setCell (p := ⟨g, t, none⟩) (by show _ ≤ g; omega) (.int .i64 v)
      have s4 : w3.heap.size ≤ (w3.setCell ⟨g, t, none⟩ (.int .i64 v)).heap.size := by simp
      go_upto_region 7 with fail
      generalize (w3.setCell ⟨g, t, none⟩ (.int .i64 v)) = W4 at *
      clear m0 m1 m2 n0 n1 n2 q0 q1 q2 x0 x1 x2 hx hfz p2 B3
      obtain ⟨m0, m1, m2⟩ := cells3 y0
      obtain ⟨n0, n1, n2⟩ := cells3 y1
      obtain ⟨nf0, nf1, nf2⟩ := frz3 y1
      obtain ⟨q0, q1, q2⟩ := cells3 y2
      obtain ⟨qf0, qf1, qf2⟩ := frz3 y2
      have z2 := cells3 (set32 y2 (.int .i64 (((t : Int) + 1) % (d.length : Int))))
      have u1 := rowSet y1 ⟨w2.heap.size, 2, none⟩ (.int .i64 (((t : Int) + 1) % (d.length : Int))) (by simp <;> omega)
      obtain ⟨k0, k1, k2⟩ := cells3 (set32 (set31 (set30 u1 (.slice (some ⟨g, 0, none⟩) d.length c2)) (.int .i64 hd)) (.int .i64 (((t : Int) + 1) % (d.length : Int))))
      go_wp2_with fail
      refine bodyPost_ret (v := .tuple #[.agg #[.slice (some ⟨g, 0, none⟩) d.length c2, .int .i64 hd, .int .i64 (((t : Int) + 1) % (d.length : Int))], .bool true]) (by simp [results, Try.results9, go_sem, k0, k1, k2]) rfl ?_
      rw [HX.out.1, HX.out.2]
      simp only [rput, List.length_set, Int.toNat_natCast]
      exact RetF.of (f := pushV hd (((t : Int) + 1) % (d.length : Int)) true) ((((p3.setOther ⟨w2.heap.size, 2, none⟩ _ (.inr (by simp <;> omega))).setOther ⟨w.heap.size + 1, 0, none⟩ _ (.inl (by simp <;> omega))).setOther ⟨w.heap.size + 1, 1, none⟩ _ (.inl (by simp <;> omega))).setOther ⟨w.heap.size + 1, 2, none⟩ _ (.inl (by simp <;> omega))) (by omega) (by simp <;> omega) ((((B4.setCell (by simp <;> omega) _).setCell (by simp) _).setCell (by simp) _).setCell (by simp) _)
end Go.Proofs.Ytcbdphflockopaa
