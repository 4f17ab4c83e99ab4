/-
  Walk: AnswersValid of the reference.
-/
import Derived.Test.YthkiollagnjfaaaN3
import Derived.BigQuiet
import Derived.Deep.QuietTactic
import Derived.IntWalk
namespace Go.Proofs.Ythkiollagnjfaaa
open Go.RowKit
set_option linter.unusedSimpArgs false
set_option linter.unusedVariables false
theorem quietL {P : Program} {f : FuncId} {args : Array Value} {w : World} {n : Nat} {v : Value} (h : ∀ W, Calls P f args W fun e w' => e = .returned v ∧ W = w') :
    Calls P f args (w.drewN n) fun e w'' => e = .returned v ∧ ∃ m, w'' = w.drewN m := (h _).mono fun _ _ ⟨h1, h2⟩ => ⟨h1, n, h2.symm⟩
set_option maxHeartbeats 20000000 in
theorem specAnswersValid_any (A : Option Addr) (n c B : Nat) (d : List (Int × Bool)) (ps : Int) (pp : Bool) (tk : Int) (tp : Bool) (pd : Int) (w : World) (h : Sees w B 2 A n c (ansC d)) (hB : B ≤ w.heap.size) :
    Calls Try.prog 18 #[.agg #[.slice A n c, .int .i64 ps, .bool pp, .int .i64 tk, .bool tp, .int .i64 pd]] w (RetPure w (.bool (aval ⟨d, ps, pp, tk, tp, pd⟩))) := by
  obtain rfl := h.ans
  have hc1 := h.cap
  have hc2 := h.big
  have b0 := below_new w (.cells #[.slice A d.length c, .int .i64 ps, .bool pp, .int .i64 tk, .bool tp, .int .i64 pd] 24)
  have r0 : (w.alloc (.cells #[.slice A d.length c, .int .i64 ps, .bool pp, .int .i64 tk, .bool tp, .int .i64 pd] 24)).heap[w.heap.size]? = some (.cells #[.slice A d.length c, .int .i64 ps, .bool pp, .int .i64 tk, .bool tp, .int .i64 pd] 24 (0, 0)) := heap_alloc_new _ _
  obtain ⟨m0, m1, m2, m3, m4, m5⟩ := cells6 r0
  cases h1 : win (d.length : Int) 1 16 with
  | false =>
    have HV : Hid ((false : Bool) = aval ⟨d, ps, pp, tk, tp, pd⟩) := Lib.hid (by unfold aval ahead; simp only [Ans.n, h1]; rfl)
    have HC1 : Hid (∀ W, Calls Try.prog 31 #[.int .i64 (d.length : Int), .int .i64 1, .int .i64 16] W fun e w' => e = .returned (.bool false) ∧ W = w') := Lib.hid (fun W => by have q := l1In_any (d.length : Int) 1 16 W; rw [h1] at q; exact q)
    clear h1
    go_enter Try.func18, Try.ntmps18
    go_wp2_with fail
    generalize (w.alloc (.cells #[.slice A d.length c, .int .i64 ps, .bool pp, .int .i64 tk, .bool tp, .int .i64 pd] 24)) = W at *
    go_quiet ((first | (with_reducible exact quietL HC1.out)))
    go_wp2_with fail
    go_ret
    exact ⟨ret_bool HV.out, below_drewN b0 _⟩
  | true =>
    have h1' := (win_iff _ _ _).1 h1
    have hn1 : (0 : Int) ≤ (d.length : Int) - 1 := by omega
    have e0 : IntKind.i64.wrap ((d.length : Int) - 1) = (d.length : Int) - 1 := IntWalk.i64_in _ (by omega)
    cases h2 : win ps 0 ((d.length : Int) - 1) with
    | false =>
      have HV : Hid ((false : Bool) = aval ⟨d, ps, pp, tk, tp, pd⟩) := Lib.hid (by unfold aval ahead; simp only [Ans.n, h1, h2]; rfl)
      have HC1 : Hid (∀ W, Calls Try.prog 31 #[.int .i64 (d.length : Int), .int .i64 1, .int .i64 16] W fun e w' => e = .returned (.bool true) ∧ W = w') := Lib.hid (fun W => by have q := l1In_any (d.length : Int) 1 16 W; rw [h1] at q; exact q)
      have HC2 : Hid (∀ W, Calls Try.prog 31 #[.int .i64 ps, .int .i64 0, .int .i64 ((d.length : Int) - 1)] W fun e w' => e = .returned (.bool false) ∧ W = w') := Lib.hid (fun W => by have q := l1In_any ps 0 ((d.length : Int) - 1) W; rw [h2] at q; exact q)
      clear h1 h2
      go_enter Try.func18, Try.ntmps18
      go_wp2_with fail
      generalize (w.alloc (.cells #[.slice A d.length c, .int .i64 ps, .bool pp, .int .i64 tk, .bool tp, .int .i64 pd] 24)) = W at *
      go_quiet ((first | (with_reducible exact quietL HC1.out) | (with_reducible exact quietL HC2.out)))
      go_wp2_with fail
      go_ret
      exact ⟨ret_bool HV.out, below_drewN b0 _⟩
    | true =>
      cases h3 : win tk 0 ((d.length : Int) - 1) with
      | false =>
        have HV : Hid ((false : Bool) = aval ⟨d, ps, pp, tk, tp, pd⟩) := Lib.hid (by unfold aval ahead; simp only [Ans.n, h1, h2, h3]; rfl)
        have HC1 : Hid (∀ W, Calls Try.prog 31 #[.int .i64 (d.length : Int), .int .i64 1, .int .i64 16] W fun e w' => e = .returned (.bool true) ∧ W = w') := Lib.hid (fun W => by have q := l1In_any (d.length : Int) 1 16 W; rw [h1] at q; exact q)
        have HC2 : Hid (∀ W, Calls Try.prog 31 #[.int .i64 ps, .int .i64 0, .int .i64 ((d.length : Int) - 1)] W fun e w' => e = .returned (.bool true) ∧ W = w') := Lib.hid (fun W => by have q := l1In_any ps 0 ((d.length : Int) - 1) W; rw [h2] at q; exact q)
        have HC3 : Hid (∀ W, Calls Try.prog 31 #[.int .i64 tk, .int .i64 0, .int .i64 ((d.length : Int) - 1)] W fun e w' => e = .returned (.bool false) ∧ W = w') := Lib.hid (fun W => by have q := l1In_any tk 0 ((d.length : Int) - 1) W; rw [h3] at q; exact q)
        clear h1 h2 h3
        go_enter Try.func18, Try.ntmps18
        go_wp2_with fail
        generalize (w.alloc (.cells #[.slice A d.length c, .int .i64 ps, .bool pp, .int .i64 tk, .bool tp, .int .i64 pd] 24)) = W at *
        go_quiet ((first | (with_reducible exact quietL HC1.out) | (with_reducible exact quietL HC2.out) | (with_reducible exact quietL HC3.out)))
        go_wp2_with fail
        go_ret
        exact ⟨ret_bool HV.out, below_drewN b0 _⟩
      | true =>
        cases h4 : win pd 0 (d.length : Int) with
        | false =>
          have HV : Hid ((false : Bool) = aval ⟨d, ps, pp, tk, tp, pd⟩) := Lib.hid (by unfold aval ahead; simp only [Ans.n, h1, h2, h3, h4]; rfl)
          have HC1 : Hid (∀ W, Calls Try.prog 31 #[.int .i64 (d.length : Int), .int .i64 1, .int .i64 16] W fun e w' => e = .returned (.bool true) ∧ W = w') := Lib.hid (fun W => by have q := l1In_any (d.length : Int) 1 16 W; rw [h1] at q; exact q)
          have HC2 : Hid (∀ W, Calls Try.prog 31 #[.int .i64 ps, .int .i64 0, .int .i64 ((d.length : Int) - 1)] W fun e w' => e = .returned (.bool true) ∧ W = w') := Lib.hid (fun W => by have q := l1In_any ps 0 ((d.length : Int) - 1) W; rw [h2] at q; exact q)
          have HC3 : Hid (∀ W, Calls Try.prog 31 #[.int .i64 tk, .int .i64 0, .int .i64 ((d.length : Int) - 1)] W fun e w' => e = .returned (.bool true) ∧ W = w') := Lib.hid (fun W => by have q := l1In_any tk 0 ((d.length : Int) - 1) W; rw [h3] at q; exact q)
          have HC4 : Hid (∀ W, Calls Try.prog 31 #[.int .i64 pd, .int .i64 0, .int .i64 (d.length : Int)] W fun e w' => e = .returned (.bool false) ∧ W = w') := Lib.hid (fun W => by have q := l1In_any pd 0 (d.length : Int) W; rw [h4] at q; exact q)
          clear h1 h2 h3 h4
          go_enter Try.func18, Try.ntmps18
          go_wp2_with fail
          generalize (w.alloc (.cells #[.slice A d.length c, .int .i64 ps, .bool pp, .int .i64 tk, .bool tp, .int .i64 pd] 24)) = W at *
          go_quiet ((first | (with_reducible exact quietL HC1.out) | (with_reducible exact quietL HC2.out) | (with_reducible exact quietL HC3.out) | (with_reducible exact quietL HC4.out)))
          go_wp2_with fail
          go_ret
          exact ⟨ret_bool HV.out, below_drewN b0 _⟩
        | true =>
          have h2' := (win_iff _ _ _).1 h2
          have h3' := (win_iff _ _ _).1 h3
          have h4' := (win_iff _ _ _).1 h4
          have HC1 : Hid (∀ W, Calls Try.prog 31 #[.int .i64 (d.length : Int), .int .i64 1, .int .i64 16] W fun e w' => e = .returned (.bool true) ∧ W = w') := Lib.hid (fun W => by have q := l1In_any (d.length : Int) 1 16 W; rw [h1] at q; exact q)
          have HC2 : Hid (∀ W, Calls Try.prog 31 #[.int .i64 ps, .int .i64 0, .int .i64 ((d.length : Int) - 1)] W fun e w' => e = .returned (.bool true) ∧ W = w') := Lib.hid (fun W => by have q := l1In_any ps 0 ((d.length : Int) - 1) W; rw [h2] at q; exact q)
          have HC3 : Hid (∀ W, Calls Try.prog 31 #[.int .i64 tk, .int .i64 0, .int .i64 ((d.length : Int) - 1)] W fun e w' => e = .returned (.bool true) ∧ W = w') := Lib.hid (fun W => by have q := l1In_any tk 0 ((d.length : Int) - 1) W; rw [h3] at q; exact q)
          have HC4 : Hid (∀ W, Calls Try.prog 31 #[.int .i64 pd, .int .i64 0, .int .i64 (d.length : Int)] W fun e w' => e = .returned (.bool true) ∧ W = w') := Lib.hid (fun W => by have q := l1In_any pd 0 (d.length : Int) W; rw [h4] at q; exact q)
          obtain ⟨k1, k2⟩ := h1'
          obtain ⟨k3, k4⟩ := h2'
          obtain ⟨k5, k6⟩ := h3'
          obtain ⟨k7, k8⟩ := h4'
          have ew : IntKind.i64.wrap (tk + pd) = tk + pd := IntWalk.i64_in _ (by omega)
          obtain ⟨m, hm, hm0, hm1, hme⟩ : ∃ m : Int, (tk + pd) % (d.length : Int) = m ∧ 0 ≤ m ∧ m < (d.length : Int) ∧ (tk + pd).tmod (d.length : Int) = m := ⟨_, rfl, Int.emod_nonneg _ (by omega), Int.emod_lt_of_pos _ (by omega), Int.tmod_eq_emod_of_nonneg (by omega)⟩
          have hhd : ahead ⟨d, ps, pp, tk, tp, pd⟩ = (decide (ps = m) && ((pp == tp) == decide (tk + pd < (d.length : Int)))) := by unfold ahead; simp only [Ans.n, h1, h2, h3, h4, Bool.true_and, hm]; rfl
          have HHD := Lib.hid hhd
          have hzn : ((d.length : Int) == 0) = false := beq_eq_false_iff_ne.2 (by omega)
          clear hhd h1 h2 h3 h4 hm
          have HAV := fun (e : ahead ⟨d, ps, pp, tk, tp, pd⟩ = false) => Lib.hid (show (false : Bool) = aval ⟨d, ps, pp, tk, tp, pd⟩ by unfold aval; rw [e]; rfl)
          by_cases h5 : ps = m
          · have hb5 : (ps != m) = false := by rw [bne_eq_false_iff_eq]; exact h5
            rw [decide_eq_true h5, Bool.true_and] at HHD
            clear h5
            cases hq0 : decide (tk + pd < (d.length : Int)) <;> rw [hq0] at HHD
            · cases pp
              · cases tp
                · have HV := HAV HHD.out
                  clear HAV HHD
                  go_enter Try.func18, Try.ntmps18
                  go_wp2_with fail
                  generalize (w.alloc (.cells #[.slice A d.length c, .int .i64 ps, .bool false, .int .i64 tk, .bool false, .int .i64 pd] 24)) = W at *
                  go_quiet ((first | (with_reducible exact quietL HC1.out) | (with_reducible exact quietL HC2.out) | (with_reducible exact quietL HC3.out) | (with_reducible exact quietL HC4.out)))
                  go_wp2_with fail
                  go_ret
                  exact ⟨ret_bool HV.out, below_drewN b0 _⟩
                
                · have HH := Lib.hid ((ahead_iff _).1 HHD.out)
                  clear HAV HHD
                  go_enter Try.func18, Try.ntmps18
                  go_wp2_with fail
                  generalize (w.alloc (.cells #[.slice A d.length c, .int .i64 ps, .bool false, .int .i64 tk, .bool true, .int .i64 pd] 24)) = W at *
                  go_quiet ((first | (with_reducible exact quietL HC1.out) | (with_reducible exact quietL HC2.out) | (with_reducible exact quietL HC3.out) | (with_reducible exact quietL HC4.out)))
                  go_wp2_with fail
                  clear HC1 HC2 HC3 HC4
                  go_loopw [4] (fun i wr => ∃ (k q : Nat), k ≤ d.length ∧ i = .int .i64 k ∧ Hid (∀ j, j < k → aok ⟨d, ps, false, tk, true, pd⟩ j = true) ∧ wr = W.drewN q) (fun i _ => d.length - (intOf i).toNat)
                  case atStart => exact ⟨0, _, Nat.zero_le _, rfl, Lib.hid (fun j hj => absurd hj (Nat.not_lt_zero j)), rfl⟩
                  case round =>
                    obtain ⟨k, q, hk, rfl, hrel, rfl⟩ := hrel
                    by_cases hlt : k < d.length
                    · have hpl := apl_eq ⟨d, ps, false, tk, true, pd⟩ HH.out k (by show k < d.length + 1; omega)
                      have hpn := apl_lt ⟨d, ps, false, tk, true, pd⟩ k HH.out.n1
                      have hmod : (tk + (k : Int)).tmod (d.length : Int) = (apl ⟨d, ps, false, tk, true, pd⟩ k : Int) := by
                        rw [Int.tmod_eq_emod_of_nonneg (by omega), amod (by omega) (by omega) (by omega)]; exact hpl.symm
                      have hok : aok ⟨d, ps, false, tk, true, pd⟩ k = (aph ⟨d, ps, false, tk, true, pd⟩ (apl ⟨d, ps, false, tk, true, pd⟩ k) == ((true == decide (tk + (k : Int) < (d.length : Int))) == decide ((k : Int) < pd))) := rfl
                      change apl ⟨d, ps, false, tk, true, pd⟩ k < d.length at hpn
                      clear hpl
                      generalize apl ⟨d, ps, false, tk, true, pd⟩ k = i at *
                      have hph : aph ⟨d, ps, false, tk, true, pd⟩ i = d[i].2 := by unfold aph; simp [hpn]
                      obtain ⟨b, o, rfl, _, hcell⟩ := (h.below b0 hB).ans_at (by omega)
                      have hx1 := (hcell i hpn).2
                      rw [hph] at hok
                      have i1 : (0 : Int) ≤ (i : Int) := by omega
                      have i2 : (i : Int) < (d.length : Int) := by omega
                      have e2 : IntKind.i64.wrap (tk + (k : Int)) = tk + (k : Int) := IntWalk.i64_in _ (by omega)
                      have HOK := Lib.hid hok
                      clear hok hph hcell
                      generalize d[i].2 = ph at *
                      have HREL : aok ⟨d, ps, false, tk, true, pd⟩ k = true → Hid (∀ j, j < k + 1 → aok ⟨d, ps, false, tk, true, pd⟩ j = true) := fun e => Lib.hid (fun j hj => by
                        by_cases hjk : j < k
                        · exact hrel.out j hjk
                        · obtain rfl : j = k := by omega
                          exact e)
                      have HFALSE := fun (e : aok ⟨d, ps, false, tk, true, pd⟩ k = false) => (show (false : Bool) = aval ⟨d, ps, false, tk, true, pd⟩ from (by rw [eq_comm, Bool.eq_false_iff]; intro hv; have := ((aval_iff _).1 hv).2 k hlt; rw [e] at this; cases this))
                      cases hq1 : decide (tk + (k : Int) < (d.length : Int)) <;> cases hq2 : decide ((k : Int) < pd) <;> rw [hq1, hq2] at HOK <;> cases ph <;> (first | (have HR := HREL HOK.out; clear HREL HFALSE HOK hrel; go_wp2_with fail; go_quiet (fail); go_wp2_with fail; go_roundw) | (have HR := Lib.hid (HFALSE HOK.out); clear HREL HFALSE HOK hrel; go_wp2_with fail; go_quiet (fail); go_wp2_with fail; go_ret; exact ⟨ret_bool HR.out, below_drewN (below_drewN b0 _) _⟩))
                      all_goals
                        first
                          | exact ⟨k + 1, _, by omega, by go_num, HR, rfl⟩
                          | (simp [intOf]; omega)
                    · go_wp2_with fail
                      go_ret
                      refine ⟨ret_bool ?_, below_drewN b0 _⟩
                      rw [eq_comm]
                      refine (aval_iff _).2 ⟨HH.out, fun j hj => hrel.out j (by change j < d.length at hj; omega)⟩
              
              · cases tp
                · have HH := Lib.hid ((ahead_iff _).1 HHD.out)
                  clear HAV HHD
                  go_enter Try.func18, Try.ntmps18
                  go_wp2_with fail
                  generalize (w.alloc (.cells #[.slice A d.length c, .int .i64 ps, .bool true, .int .i64 tk, .bool false, .int .i64 pd] 24)) = W at *
                  go_quiet ((first | (with_reducible exact quietL HC1.out) | (with_reducible exact quietL HC2.out) | (with_reducible exact quietL HC3.out) | (with_reducible exact quietL HC4.out)))
                  go_wp2_with fail
                  clear HC1 HC2 HC3 HC4
                  go_loopw [4] (fun i wr => ∃ (k q : Nat), k ≤ d.length ∧ i = .int .i64 k ∧ Hid (∀ j, j < k → aok ⟨d, ps, true, tk, false, pd⟩ j = true) ∧ wr = W.drewN q) (fun i _ => d.length - (intOf i).toNat)
                  case atStart => exact ⟨0, _, Nat.zero_le _, rfl, Lib.hid (fun j hj => absurd hj (Nat.not_lt_zero j)), rfl⟩
                  case round =>
                    obtain ⟨k, q, hk, rfl, hrel, rfl⟩ := hrel
                    by_cases hlt : k < d.length
                    · have hpl := apl_eq ⟨d, ps, true, tk, false, pd⟩ HH.out k (by show k < d.length + 1; omega)
                      have hpn := apl_lt ⟨d, ps, true, tk, false, pd⟩ k HH.out.n1
                      have hmod : (tk + (k : Int)).tmod (d.length : Int) = (apl ⟨d, ps, true, tk, false, pd⟩ k : Int) := by
                        rw [Int.tmod_eq_emod_of_nonneg (by omega), amod (by omega) (by omega) (by omega)]; exact hpl.symm
                      have hok : aok ⟨d, ps, true, tk, false, pd⟩ k = (aph ⟨d, ps, true, tk, false, pd⟩ (apl ⟨d, ps, true, tk, false, pd⟩ k) == ((false == decide (tk + (k : Int) < (d.length : Int))) == decide ((k : Int) < pd))) := rfl
                      change apl ⟨d, ps, true, tk, false, pd⟩ k < d.length at hpn
                      clear hpl
                      generalize apl ⟨d, ps, true, tk, false, pd⟩ k = i at *
                      have hph : aph ⟨d, ps, true, tk, false, pd⟩ i = d[i].2 := by unfold aph; simp [hpn]
                      obtain ⟨b, o, rfl, _, hcell⟩ := (h.below b0 hB).ans_at (by omega)
                      have hx1 := (hcell i hpn).2
                      rw [hph] at hok
                      have i1 : (0 : Int) ≤ (i : Int) := by omega
                      have i2 : (i : Int) < (d.length : Int) := by omega
                      have e2 : IntKind.i64.wrap (tk + (k : Int)) = tk + (k : Int) := IntWalk.i64_in _ (by omega)
                      have HOK := Lib.hid hok
                      clear hok hph hcell
                      generalize d[i].2 = ph at *
                      have HREL : aok ⟨d, ps, true, tk, false, pd⟩ k = true → Hid (∀ j, j < k + 1 → aok ⟨d, ps, true, tk, false, pd⟩ j = true) := fun e => Lib.hid (fun j hj => by
                        by_cases hjk : j < k
                        · exact hrel.out j hjk
                        · obtain rfl : j = k := by omega
                          exact e)
                      have HFALSE := fun (e : aok ⟨d, ps, true, tk, false, pd⟩ k = false) => (show (false : Bool) = aval ⟨d, ps, true, tk, false, pd⟩ from (by rw [eq_comm, Bool.eq_false_iff]; intro hv; have := ((aval_iff _).1 hv).2 k hlt; rw [e] at this; cases this))
                      cases hq1 : decide (tk + (k : Int) < (d.length : Int)) <;> cases hq2 : decide ((k : Int) < pd) <;> rw [hq1, hq2] at HOK <;> cases ph <;> (first | (have HR := HREL HOK.out; clear HREL HFALSE HOK hrel; go_wp2_with fail; go_quiet (fail); go_wp2_with fail; go_roundw) | (have HR := Lib.hid (HFALSE HOK.out); clear HREL HFALSE HOK hrel; go_wp2_with fail; go_quiet (fail); go_wp2_with fail; go_ret; exact ⟨ret_bool HR.out, below_drewN (below_drewN b0 _) _⟩))
                      all_goals
                        first
                          | exact ⟨k + 1, _, by omega, by go_num, HR, rfl⟩
                          | (simp [intOf]; omega)
                    · go_wp2_with fail
                      go_ret
                      refine ⟨ret_bool ?_, below_drewN b0 _⟩
                      rw [eq_comm]
                      refine (aval_iff _).2 ⟨HH.out, fun j hj => hrel.out j (by change j < d.length at hj; omega)⟩
                
                · have HV := HAV HHD.out
                  clear HAV HHD
                  go_enter Try.func18, Try.ntmps18
                  go_wp2_with fail
                  generalize (w.alloc (.cells #[.slice A d.length c, .int .i64 ps, .bool true, .int .i64 tk, .bool true, .int .i64 pd] 24)) = W at *
                  go_quiet ((first | (with_reducible exact quietL HC1.out) | (with_reducible exact quietL HC2.out) | (with_reducible exact quietL HC3.out) | (with_reducible exact quietL HC4.out)))
                  go_wp2_with fail
                  go_ret
                  exact ⟨ret_bool HV.out, below_drewN b0 _⟩
            · cases pp
              · cases tp
                · have HH := Lib.hid ((ahead_iff _).1 HHD.out)
                  clear HAV HHD
                  go_enter Try.func18, Try.ntmps18
                  go_wp2_with fail
                  generalize (w.alloc (.cells #[.slice A d.length c, .int .i64 ps, .bool false, .int .i64 tk, .bool false, .int .i64 pd] 24)) = W at *
                  go_quiet ((first | (with_reducible exact quietL HC1.out) | (with_reducible exact quietL HC2.out) | (with_reducible exact quietL HC3.out) | (with_reducible exact quietL HC4.out)))
                  go_wp2_with fail
                  clear HC1 HC2 HC3 HC4
                  go_loopw [4] (fun i wr => ∃ (k q : Nat), k ≤ d.length ∧ i = .int .i64 k ∧ Hid (∀ j, j < k → aok ⟨d, ps, false, tk, false, pd⟩ j = true) ∧ wr = W.drewN q) (fun i _ => d.length - (intOf i).toNat)
                  case atStart => exact ⟨0, _, Nat.zero_le _, rfl, Lib.hid (fun j hj => absurd hj (Nat.not_lt_zero j)), rfl⟩
                  case round =>
                    obtain ⟨k, q, hk, rfl, hrel, rfl⟩ := hrel
                    by_cases hlt : k < d.length
                    · have hpl := apl_eq ⟨d, ps, false, tk, false, pd⟩ HH.out k (by show k < d.length + 1; omega)
                      have hpn := apl_lt ⟨d, ps, false, tk, false, pd⟩ k HH.out.n1
                      have hmod : (tk + (k : Int)).tmod (d.length : Int) = (apl ⟨d, ps, false, tk, false, pd⟩ k : Int) := by
                        rw [Int.tmod_eq_emod_of_nonneg (by omega), amod (by omega) (by omega) (by omega)]; exact hpl.symm
                      have hok : aok ⟨d, ps, false, tk, false, pd⟩ k = (aph ⟨d, ps, false, tk, false, pd⟩ (apl ⟨d, ps, false, tk, false, pd⟩ k) == ((false == decide (tk + (k : Int) < (d.length : Int))) == decide ((k : Int) < pd))) := rfl
                      change apl ⟨d, ps, false, tk, false, pd⟩ k < d.length at hpn
                      clear hpl
                      generalize apl ⟨d, ps, false, tk, false, pd⟩ k = i at *
                      have hph : aph ⟨d, ps, false, tk, false, pd⟩ i = d[i].2 := by unfold aph; simp [hpn]
                      obtain ⟨b, o, rfl, _, hcell⟩ := (h.below b0 hB).ans_at (by omega)
                      have hx1 := (hcell i hpn).2
                      rw [hph] at hok
                      have i1 : (0 : Int) ≤ (i : Int) := by omega
                      have i2 : (i : Int) < (d.length : Int) := by omega
                      have e2 : IntKind.i64.wrap (tk + (k : Int)) = tk + (k : Int) := IntWalk.i64_in _ (by omega)
                      have HOK := Lib.hid hok
                      clear hok hph hcell
                      generalize d[i].2 = ph at *
                      have HREL : aok ⟨d, ps, false, tk, false, pd⟩ k = true → Hid (∀ j, j < k + 1 → aok ⟨d, ps, false, tk, false, pd⟩ j = true) := fun e => Lib.hid (fun j hj => by
                        by_cases hjk : j < k
                        · exact hrel.out j hjk
                        · obtain rfl : j = k := by omega
                          exact e)
                      have HFALSE := fun (e : aok ⟨d, ps, false, tk, false, pd⟩ k = false) => (show (false : Bool) = aval ⟨d, ps, false, tk, false, pd⟩ from (by rw [eq_comm, Bool.eq_false_iff]; intro hv; have := ((aval_iff _).1 hv).2 k hlt; rw [e] at this; cases this))
                      cases hq1 : decide (tk + (k : Int) < (d.length : Int)) <;> cases hq2 : decide ((k : Int) < pd) <;> rw [hq1, hq2] at HOK <;> cases ph <;> (first | (have HR := HREL HOK.out; clear HREL HFALSE HOK hrel; go_wp2_with fail; go_quiet (fail); go_wp2_with fail; go_roundw) | (have HR := Lib.hid (HFALSE HOK.out); clear HREL HFALSE HOK hrel; go_wp2_with fail; go_quiet (fail); go_wp2_with fail; go_ret; exact ⟨ret_bool HR.out, below_drewN (below_drewN b0 _) _⟩))
                      all_goals
                        first
                          | exact ⟨k + 1, _, by omega, by go_num, HR, rfl⟩
                          | (simp [intOf]; omega)
                    · go_wp2_with fail
                      go_ret
                      refine ⟨ret_bool ?_, below_drewN b0 _⟩
                      rw [eq_comm]
                      refine (aval_iff _).2 ⟨HH.out, fun j hj => hrel.out j (by change j < d.length at hj; omega)⟩
                
                · have HV := HAV HHD.out
                  clear HAV HHD
                  go_enter Try.func18, Try.ntmps18
                  go_wp2_with fail
                  generalize (w.alloc (.cells #[.slice A d.length c, .int .i64 ps, .bool false, .int .i64 tk, .bool true, .int .i64 pd] 24)) = W at *
                  go_quiet ((first | (with_reducible exact quietL HC1.out) | (with_reducible exact quietL HC2.out) | (with_reducible exact quietL HC3.out) | (with_reducible exact quietL HC4.out)))
                  go_wp2_with fail
                  go_ret
                  exact ⟨ret_bool HV.out, below_drewN b0 _⟩
              
              · cases tp
                · have HV := HAV HHD.out
                  clear HAV HHD
                  go_enter Try.func18, Try.ntmps18
                  go_wp2_with fail
                  generalize (w.alloc (.cells #[.slice A d.length c, .int .i64 ps, .bool true, .int .i64 tk, .bool false, .int .i64 pd] 24)) = W at *
                  go_quiet ((first | (with_reducible exact quietL HC1.out) | (with_reducible exact quietL HC2.out) | (with_reducible exact quietL HC3.out) | (with_reducible exact quietL HC4.out)))
                  go_wp2_with fail
                  go_ret
                  exact ⟨ret_bool HV.out, below_drewN b0 _⟩
                
                · have HH := Lib.hid ((ahead_iff _).1 HHD.out)
                  clear HAV HHD
                  go_enter Try.func18, Try.ntmps18
                  go_wp2_with fail
                  generalize (w.alloc (.cells #[.slice A d.length c, .int .i64 ps, .bool true, .int .i64 tk, .bool true, .int .i64 pd] 24)) = W at *
                  go_quiet ((first | (with_reducible exact quietL HC1.out) | (with_reducible exact quietL HC2.out) | (with_reducible exact quietL HC3.out) | (with_reducible exact quietL HC4.out)))
                  go_wp2_with fail
                  clear HC1 HC2 HC3 HC4
                  go_loopw [4] (fun i wr => ∃ (k q : Nat), k ≤ d.length ∧ i = .int .i64 k ∧ Hid (∀ j, j < k → aok ⟨d, ps, true, tk, true, pd⟩ j = true) ∧ wr = W.drewN q) (fun i _ => d.length - (intOf i).toNat)
                  case atStart => exact ⟨0, _, Nat.zero_le _, rfl, Lib.hid (fun j hj => absurd hj (Nat.not_lt_zero j)), rfl⟩
                  case round =>
                    obtain ⟨k, q, hk, rfl, hrel, rfl⟩ := hrel
                    by_cases hlt : k < d.length
                    · have hpl := apl_eq ⟨d, ps, true, tk, true, pd⟩ HH.out k (by show k < d.length + 1; omega)
                      have hpn := apl_lt ⟨d, ps, true, tk, true, pd⟩ k HH.out.n1
                      have hmod : (tk + (k : Int)).tmod (d.length : Int) = (apl ⟨d, ps, true, tk, true, pd⟩ k : Int) := by
                        rw [Int.tmod_eq_emod_of_nonneg (by omega), amod (by omega) (by omega) (by omega)]; exact hpl.symm
                      have hok : aok ⟨d, ps, true, tk, true, pd⟩ k = (aph ⟨d, ps, true, tk, true, pd⟩ (apl ⟨d, ps, true, tk, true, pd⟩ k) == ((true == decide (tk + (k : Int) < (d.length : Int))) == decide ((k : Int) < pd))) := rfl
                      change apl ⟨d, ps, true, tk, true, pd⟩ k < d.length at hpn
                      clear hpl
                      generalize apl ⟨d, ps, true, tk, true, pd⟩ k = i at *
                      have hph : aph ⟨d, ps, true, tk, true, pd⟩ i = d[i].2 := by unfold aph; simp [hpn]
                      obtain ⟨b, o, rfl, _, hcell⟩ := (h.below b0 hB).ans_at (by omega)
                      have hx1 := (hcell i hpn).2
                      rw [hph] at hok
                      have i1 : (0 : Int) ≤ (i : Int) := by omega
                      have i2 : (i : Int) < (d.length : Int) := by omega
                      have e2 : IntKind.i64.wrap (tk + (k : Int)) = tk + (k : Int) := IntWalk.i64_in _ (by omega)
                      have HOK := Lib.hid hok
                      clear hok hph hcell
                      generalize d[i].2 = ph at *
                      have HREL : aok ⟨d, ps, true, tk, true, pd⟩ k = true → Hid (∀ j, j < k + 1 → aok ⟨d, ps, true, tk, true, pd⟩ j = true) := fun e => Lib.hid (fun j hj => by
                        by_cases hjk : j < k
                        · exact hrel.out j hjk
                        · obtain rfl : j = k := by omega
                          exact e)
                      have HFALSE := fun (e : aok ⟨d, ps, true, tk, true, pd⟩ k = false) => (show (false : Bool) = aval ⟨d, ps, true, tk, true, pd⟩ from (by rw [eq_comm, Bool.eq_false_iff]; intro hv; have := ((aval_iff _).1 hv).2 k hlt; rw [e] at this; cases this))
                      cases hq1 : decide (tk + (k : Int) < (d.length : Int)) <;> cases hq2 : decide ((k : Int) < pd) <;> rw [hq1, hq2] at HOK <;> cases ph <;> (first | (have HR := HREL HOK.out; clear HREL HFALSE HOK hrel; go_wp2_with fail; go_quiet (fail); go_wp2_with fail; go_roundw) | (have HR := Lib.hid (HFALSE HOK.out); clear HREL HFALSE HOK hrel; go_wp2_with fail; go_quiet (fail); go_wp2_with fail; go_ret; exact ⟨ret_bool HR.out, below_drewN (below_drewN b0 _) _⟩))
                      all_goals
                        first
                          | exact ⟨k + 1, _, by omega, by go_num, HR, rfl⟩
                          | (simp [intOf]; omega)
                    · go_wp2_with fail
                      go_ret
                      refine ⟨ret_bool ?_, below_drewN b0 _⟩
                      rw [eq_comm]
                      refine (aval_iff _).2 ⟨HH.out, fun j hj => hrel.out j (by change j < d.length at hj; omega)⟩
          · have hb5 : (ps != m) = true := bne_iff_ne.2 h5
            have HV := HAV (by rw [HHD.out, decide_eq_false h5]; rfl)
            clear h5 HAV HHD
            go_enter Try.func18, Try.ntmps18
            go_wp2_with fail
            generalize (w.alloc (.cells #[.slice A d.length c, .int .i64 ps, .bool pp, .int .i64 tk, .bool tp, .int .i64 pd] 24)) = W at *
            go_quiet ((first | (with_reducible exact quietL HC1.out) | (with_reducible exact quietL HC2.out) | (with_reducible exact quietL HC3.out) | (with_reducible exact quietL HC4.out)))
            go_wp2_with fail
            go_ret
            exact ⟨ret_bool HV.out, below_drewN b0 _⟩
end Go.Proofs.Ythkiollagnjfaaa
