-- PRINTED BY print.sh 35421559b90ae4d0a3588c463048766b98c2df88dd9212a6774a882060cdf62d: not written by this session
import Derived.Test.YtnbkmmhomghlmaaPArithAppliesx0
import Derived.Test.YtnbkmmhomghlmaaPArithAppliesx1
namespace Go.Proofs.Ytnbkmmhomghlmaa.PArithApplies
open Go.RowKit Go.Proofs.YtnbkmmhomghlmaaW.PrintWords Go.Proofs.YtnbkmmhomghlmaaW.PrintLast Go.Proofs.YtnbkmmhomghlmaaW.PrintMore
attribute [local go_sem] max2_int min2_int max_two min_two max_three min_three max_four min_four   -- for this text's walks alone
set_option linter.unusedVariables false
set_option linter.unusedSimpArgs false

/-! ### backstepref01_Apply: function 13 -/
def backstepref01_Apply.j0 : Nat → Int → Int → Int → Int → Bool → Option (Int × Int)
  | 0, _, _, _, _, _ => none
  | k + 1, x0, x1, x2, x8, x24 => if x24 = true then (if x2 = 0 then (some (0, 11)) else (if x0 = 11 then (some (wrap64 (Int.tdiv x1 x2), 0)) else (some (Int.tmod x1 x2, 0)))) else (if x8 = 13 then (some (Go.bits .and .i64 x1 x2, 0)) else (if x8 = 14 then (some (Go.bits .or .i64 x1 x2, 0)) else (if x8 = 15 then (some (Go.bits .xor .i64 x1 x2, 0)) else (if x8 = 16 then ((backstepref01_truth.f (x1 == x2)).bind fun t125 => (some (t125, 0))) else (if x8 = 17 then ((backstepref01_truth.f (x1 != x2)).bind fun t126 => (some (t126, 0))) else (if x8 = 18 then ((backstepref01_truth.f (decide (x1 < x2))).bind fun t127 => (some (t127, 0))) else (if x8 = 19 then ((backstepref01_truth.f (decide (x1 ≤ x2))).bind fun t128 => (some (t128, 0))) else (if x8 = 20 then ((backstepref01_truth.f (decide (x1 > x2))).bind fun t129 => (some (t129, 0))) else (if x8 = 21 then ((backstepref01_truth.f (decide (x1 ≥ x2))).bind fun t130 => (some (t130, 0))) else (if x8 = 22 then (if x1 = 0 then ((backstepref01_truth.f false).bind fun t131 => (some (t131, 0))) else ((backstepref01_truth.f (x2 != 0)).bind fun t132 => (some (t132, 0)))) else (if x8 = 23 then (if x1 = 0 then ((backstepref01_truth.f (x2 != 0)).bind fun t133 => (some (t133, 0))) else ((backstepref01_truth.f true).bind fun t134 => (some (t134, 0)))) else (some (0, 7)))))))))))))
def backstepref01_Apply.f (k : Nat) (a0 : Int) (a1 : Int) (a2 : Int) : Option (Int × Int) := if a0 = 8 then (some (wrap64 (a1 + a2), 0)) else (if a0 = 9 then (some (wrap64 (a1 - a2), 0)) else (if a0 = 10 then (some (wrap64 (a1 * a2), 0)) else (if a0 = 11 then (backstepref01_Apply.j0 k a0 a1 a2 a0 (a0 == 11)) else (backstepref01_Apply.j0 k a0 a1 a2 a0 (a0 == 12)))))
theorem backstepref01_Apply.mono_l : ∀ k, (∀ y0 y1 y2 y3 y4, LeO (backstepref01_Apply.j0 k y0 y1 y2 y3 y4) (backstepref01_Apply.j0 (k + 1) y0 y1 y2 y3 y4))
  | 0 => fun _ _ _ _ _ r h => by simp [backstepref01_Apply.j0] at h
  | k + 1 => by
    have ih0 := backstepref01_Apply.mono_l k
    · intro y0 y1 y2 y3 y4
      unfold backstepref01_Apply.j0
      repeat' first
      | (with_reducible exact ih0 _ _ _ _ _)
      | (with_reducible exact LeO.refl _)
      | (with_reducible exact LeO.none _)
      | (with_reducible refine LeO.ite ?_ ?_)
      | (with_reducible refine LeO.bind ?_ (fun _ => ?_))
      | exact ih0 _ _ _ _ _
      | exact LeO.none _
      | refine LeO.ite ?_ ?_
      | refine LeO.bind ?_ (fun _ => ?_)
theorem backstepref01_Apply.mono : ∀ a0 a1 a2 k, LeO (backstepref01_Apply.f k a0 a1 a2) (backstepref01_Apply.f (k + 1) a0 a1 a2) := by
  intro a0 a1 a2 k
  have ih0 := backstepref01_Apply.mono_l k
  unfold backstepref01_Apply.f
  repeat' first
      | (with_reducible exact ih0 _ _ _ _ _)
      | (with_reducible exact LeO.refl _)
      | (with_reducible exact LeO.none _)
      | (with_reducible refine LeO.ite ?_ ?_)
      | (with_reducible refine LeO.bind ?_ (fun _ => ?_))
      | exact ih0 _ _ _ _ _
      | exact LeO.none _
      | refine LeO.ite ?_ ?_
      | refine LeO.bind ?_ (fun _ => ?_)
set_option maxHeartbeats 8000000 in
set_option maxRecDepth 100000 in
theorem backstepref01_Apply.calls (k : Nat) (a0 : Int) (a1 : Int) (a2 : Int) (r1 : Int) (r2 : Int) (w : World) (h : backstepref01_Apply.f k a0 a1 a2 = some (r1, r2)) :
    Calls Try.prog 13 #[.int .u8 a0, .int .i64 a1, .int .i64 a2] w fun e w' => e = .returned (.tuple #[.int .i64 r1, .int .i64 r2]) ∧ Drawn0 w w' := by
  have H : (if a0 = 8 then (some (wrap64 (a1 + a2), 0)) else (if a0 = 9 then (some (wrap64 (a1 - a2), 0)) else (if a0 = 10 then (some (wrap64 (a1 * a2), 0)) else (if a0 = 11 then (backstepref01_Apply.j0 k a0 a1 a2 a0 (a0 == 11)) else (backstepref01_Apply.j0 k a0 a1 a2 a0 (a0 == 12)))))) = some (r1, r2) := h
  clear h
  by_cases c4 : a0 = 8
  · rw [if_pos c4] at H
    have c4b0 : (a0 == 8) = true := beq_iff_eq.mpr c4
    have c4b1 : (a0 != 8) = false := bne_eq_false_iff_eq.mpr c4
    clear c4
    simp only [Option.some.injEq, Prod.mk.injEq] at H
    obtain ⟨rfl, rfl⟩ := H
    go_enter Try.func13, Try.ntmps13
    go_wp2
    go_ret2
    exact ⟨by first | rfl | (simp; done) | (simp [*]; done), by repeat (first | exact Drawn0.refl _ | apply Drawn0.step)⟩
  · rw [if_neg c4] at H
    have c4b0 : (a0 == 8) = false := beq_eq_false_iff_ne.mpr c4
    have c4b1 : (a0 != 8) = true := bne_iff_ne.mpr c4
    by_cases c5 : a0 = 9
    · rw [if_pos c5] at H
      have c5b0 : (a0 == 9) = true := beq_iff_eq.mpr c5
      have c5b1 : (a0 != 9) = false := bne_eq_false_iff_eq.mpr c5
      clear c5
      simp only [Option.some.injEq, Prod.mk.injEq] at H
      obtain ⟨rfl, rfl⟩ := H
      go_enter Try.func13, Try.ntmps13
      go_wp2
      go_ret2
      exact ⟨by first | rfl | (simp; done) | (simp [*]; done), by repeat (first | exact Drawn0.refl _ | apply Drawn0.step)⟩
    · rw [if_neg c5] at H
      have c5b0 : (a0 == 9) = false := beq_eq_false_iff_ne.mpr c5
      have c5b1 : (a0 != 9) = true := bne_iff_ne.mpr c5
      by_cases c6 : a0 = 10
      · rw [if_pos c6] at H
        have c6b0 : (a0 == 10) = true := beq_iff_eq.mpr c6
        have c6b1 : (a0 != 10) = false := bne_eq_false_iff_eq.mpr c6
        clear c6
        simp only [Option.some.injEq, Prod.mk.injEq] at H
        obtain ⟨rfl, rfl⟩ := H
        go_enter Try.func13, Try.ntmps13
        go_wp2
        go_ret2
        exact ⟨by first | rfl | (simp; done) | (simp [*]; done), by repeat (first | exact Drawn0.refl _ | apply Drawn0.step)⟩
      · rw [if_neg c6] at H
        have c6b0 : (a0 == 10) = false := beq_eq_false_iff_ne.mpr c6
        have c6b1 : (a0 != 10) = true := bne_iff_ne.mpr c6
        have HC7 := Aside0.mk H
        clear H
        go_enter Try.func13, Try.ntmps13
        go_upto_if 24 with (fail)
        go_cut [24] (fun v24 wc => ∃ (kq : Nat) (x24_6 : Bool), v24 = .bool x24_6 ∧ Aside0 (backstepref01_Apply.j0 kq a0 a1 a2 a0 x24_6 = some (r1, r2)) ∧ Aside0 (kq ≤ k) ∧ Drawn0 w wc)
        case first =>
          have H := HC7.out
          clear HC7
          by_cases c8 : a0 = 11
          · rw [if_pos c8] at H
            have c8b0 : (a0 == 11) = true := beq_iff_eq.mpr c8
            have c8b1 : (a0 != 11) = false := bne_eq_false_iff_eq.mpr c8
            clear c8
            (first | rw [c8b0] | (simp only [i64_w, i32_w]; rw [c8b0]) | skip)
            have H' := Aside0.mk H
            clear H
            go_wp2
            go_meet
            case rel => exact ⟨_, ((a0 == 11)), (by first | rfl | (simp; done) | (simp [*]; done)), H', ⟨by first | omega | exact Nat.le_refl _⟩, by repeat (first | exact Drawn0.refl _ | apply Drawn0.step)⟩
          · rw [if_neg c8] at H
            have c8b0 : (a0 == 11) = false := beq_eq_false_iff_ne.mpr c8
            have c8b1 : (a0 != 11) = true := bne_iff_ne.mpr c8
            (first | rw [c8b0] | (simp only [i64_w, i32_w]; rw [c8b0]) | skip)
            have H' := Aside0.mk H
            clear H
            go_wp2
            go_meet
            case rel => exact ⟨_, ((a0 == 12)), (by first | rfl | (simp; done) | (simp [*]; done)), H', ⟨by first | omega | exact Nat.le_refl _⟩, by repeat (first | exact Drawn0.refl _ | apply Drawn0.step)⟩
        case rest =>
          clear HC7
          try clear c1
          try clear p2
          try clear c4
          try clear c4b0
          try clear c4b1
          try clear c5
          try clear c5b0
          try clear c5b1
          try clear c6
          try clear c6b0
          try clear c6b1
          try clear p6
          try clear c8
          try clear c8b0
          try clear c8b1
          obtain ⟨kq, x24_6, rfl, HA, HJ6, ⟨mc6, rfl⟩⟩ := hcut
          cases kq with
          | zero => exact absurd HA.out (by simp [backstepref01_Apply.j0])
          | succ kj6 =>
            have H := HA.out
            clear HA
            simp only [backstepref01_Apply.j0] at H
            by_cases c9 : x24_6 = true
            · subst c9
              have H1 : (if a2 = 0 then (some (0, 11)) else (if a0 = 11 then (some (wrap64 (Int.tdiv a1 a2), 0)) else (some (Int.tmod a1 a2, 0)))) = some (r1, r2) := by rw [if_pos rfl] at H; exact H
              clear H
              have H := H1
              clear H1
              by_cases c10 : a2 = 0
              · rw [if_pos c10] at H
                have c10b0 : (a2 == 0) = true := beq_iff_eq.mpr c10
                have c10b1 : (a2 != 0) = false := bne_eq_false_iff_eq.mpr c10
                clear c10
                simp only [Option.some.injEq, Prod.mk.injEq] at H
                obtain ⟨rfl, rfl⟩ := H
                go_wp2
                go_ret2
                exact ⟨by first | rfl | (simp; done) | (simp [*]; done), by repeat (first | exact Drawn0.refl _ | apply Drawn0.step)⟩
              · rw [if_neg c10] at H
                have c10b0 : (a2 == 0) = false := beq_eq_false_iff_ne.mpr c10
                have c10b1 : (a2 != 0) = true := bne_iff_ne.mpr c10
                by_cases c11 : a0 = 11
                · rw [if_pos c11] at H
                  have c11b0 : (a0 == 11) = true := beq_iff_eq.mpr c11
                  have c11b1 : (a0 != 11) = false := bne_eq_false_iff_eq.mpr c11
                  clear c11
                  simp only [Option.some.injEq, Prod.mk.injEq] at H
                  obtain ⟨rfl, rfl⟩ := H
                  go_wp2
                  go_ret2
                  exact ⟨by first | rfl | (simp; done) | (simp [*]; done), by repeat (first | exact Drawn0.refl _ | apply Drawn0.step)⟩
                · rw [if_neg c11] at H
                  have c11b0 : (a0 == 11) = false := beq_eq_false_iff_ne.mpr c11
                  have c11b1 : (a0 != 11) = true := bne_iff_ne.mpr c11
                  simp only [Option.some.injEq, Prod.mk.injEq] at H
                  obtain ⟨rfl, rfl⟩ := H
                  go_wp2
                  go_ret2
                  exact ⟨by first | rfl | (simp; done) | (simp [*]; done), by repeat (first | exact Drawn0.refl _ | apply Drawn0.step)⟩
            · replace c9 := Bool.eq_false_iff.mpr c9
              subst c9
              have H1 : (if a0 = 13 then (some (Go.bits .and .i64 a1 a2, 0)) else (if a0 = 14 then (some (Go.bits .or .i64 a1 a2, 0)) else (if a0 = 15 then (some (Go.bits .xor .i64 a1 a2, 0)) else (if a0 = 16 then ((backstepref01_truth.f (a1 == a2)).bind fun t125 => (some (t125, 0))) else (if a0 = 17 then ((backstepref01_truth.f (a1 != a2)).bind fun t126 => (some (t126, 0))) else (if a0 = 18 then ((backstepref01_truth.f (decide (a1 < a2))).bind fun t127 => (some (t127, 0))) else (if a0 = 19 then ((backstepref01_truth.f (decide (a1 ≤ a2))).bind fun t128 => (some (t128, 0))) else (if a0 = 20 then ((backstepref01_truth.f (decide (a1 > a2))).bind fun t129 => (some (t129, 0))) else (if a0 = 21 then ((backstepref01_truth.f (decide (a1 ≥ a2))).bind fun t130 => (some (t130, 0))) else (if a0 = 22 then (if a1 = 0 then ((backstepref01_truth.f false).bind fun t131 => (some (t131, 0))) else ((backstepref01_truth.f (a2 != 0)).bind fun t132 => (some (t132, 0)))) else (if a0 = 23 then (if a1 = 0 then ((backstepref01_truth.f (a2 != 0)).bind fun t133 => (some (t133, 0))) else ((backstepref01_truth.f true).bind fun t134 => (some (t134, 0)))) else (some (0, 7))))))))))))) = some (r1, r2) := by rw [if_neg (show ¬ (false = true) by decide)] at H; exact H
              clear H
              have H := H1
              clear H1
              by_cases c12 : a0 = 13
              · rw [if_pos c12] at H
                have c12b0 : (a0 == 13) = true := beq_iff_eq.mpr c12
                have c12b1 : (a0 != 13) = false := bne_eq_false_iff_eq.mpr c12
                clear c12
                simp only [Option.some.injEq, Prod.mk.injEq] at H
                obtain ⟨rfl, rfl⟩ := H
                go_wp2
                go_ret2
                exact ⟨by first | rfl | (simp; done) | (simp [*]; done), by repeat (first | exact Drawn0.refl _ | apply Drawn0.step)⟩
              · rw [if_neg c12] at H
                have c12b0 : (a0 == 13) = false := beq_eq_false_iff_ne.mpr c12
                have c12b1 : (a0 != 13) = true := bne_iff_ne.mpr c12
                by_cases c13 : a0 = 14
                · rw [if_pos c13] at H
                  have c13b0 : (a0 == 14) = true := beq_iff_eq.mpr c13
                  have c13b1 : (a0 != 14) = false := bne_eq_false_iff_eq.mpr c13
                  clear c13
                  simp only [Option.some.injEq, Prod.mk.injEq] at H
                  obtain ⟨rfl, rfl⟩ := H
                  go_wp2
                  go_ret2
                  exact ⟨by first | rfl | (simp; done) | (simp [*]; done), by repeat (first | exact Drawn0.refl _ | apply Drawn0.step)⟩
                · rw [if_neg c13] at H
                  have c13b0 : (a0 == 14) = false := beq_eq_false_iff_ne.mpr c13
                  have c13b1 : (a0 != 14) = true := bne_iff_ne.mpr c13
                  by_cases c14 : a0 = 15
                  · rw [if_pos c14] at H
                    have c14b0 : (a0 == 15) = true := beq_iff_eq.mpr c14
                    have c14b1 : (a0 != 15) = false := bne_eq_false_iff_eq.mpr c14
                    clear c14
                    simp only [Option.some.injEq, Prod.mk.injEq] at H
                    obtain ⟨rfl, rfl⟩ := H
                    go_wp2
                    go_ret2
                    exact ⟨by first | rfl | (simp; done) | (simp [*]; done), by repeat (first | exact Drawn0.refl _ | apply Drawn0.step)⟩
                  · rw [if_neg c14] at H
                    have c14b0 : (a0 == 15) = false := beq_eq_false_iff_ne.mpr c14
                    have c14b1 : (a0 != 15) = true := bne_iff_ne.mpr c14
                    by_cases c15 : a0 = 16
                    · rw [if_pos c15] at H
                      have c15b0 : (a0 == 16) = true := beq_iff_eq.mpr c15
                      have c15b1 : (a0 != 16) = false := bne_eq_false_iff_eq.mpr c15
                      clear c15
                      replace H := Option.bind_eq_some_iff.mp H
                      obtain ⟨t125, A160, H⟩ := H
                      replace H : (some (t125, 0)) = some (r1, r2) := H
                      have A16 := Aside0.mk A160
                      clear A160
                      simp only [Option.some.injEq, Prod.mk.injEq] at H
                      obtain ⟨rfl, rfl⟩ := H
                      go_wp2_with (first | ((with_reducible refine gate_callee (f := 30) rfl ?_); refine goesL_ (some 57) rfl rfl Try.func30 (by kernel_rfl) rfl #[.bool (a1 == a2)] rfl (by (try simp only [List.map_toArray, List.map_cons, List.map_nil]); first | done | rfl | (simp only [List.length_drop, List.length_take]; rfl)) ?_; (with_reducible refine (backstepref01_truth.calls (a1 == a2) t125 _ A16.out).mono ?_); rintro e w' ⟨rfl, ⟨nd, rfl⟩⟩; refine ⟨_, rfl, ?_⟩))
                      go_ret2
                      exact ⟨by first | rfl | (simp; done) | (simp [*]; done), by repeat (first | exact Drawn0.refl _ | apply Drawn0.step)⟩
                    · rw [if_neg c15] at H
                      have c15b0 : (a0 == 16) = false := beq_eq_false_iff_ne.mpr c15
                      have c15b1 : (a0 != 16) = true := bne_iff_ne.mpr c15
                      by_cases c17 : a0 = 17
                      · rw [if_pos c17] at H
                        have c17b0 : (a0 == 17) = true := beq_iff_eq.mpr c17
                        have c17b1 : (a0 != 17) = false := bne_eq_false_iff_eq.mpr c17
                        clear c17
                        replace H := Option.bind_eq_some_iff.mp H
                        obtain ⟨t126, A180, H⟩ := H
                        replace H : (some (t126, 0)) = some (r1, r2) := H
                        have A18 := Aside0.mk A180
                        clear A180
                        simp only [Option.some.injEq, Prod.mk.injEq] at H
                        obtain ⟨rfl, rfl⟩ := H
                        go_wp2_with (first | ((with_reducible refine gate_callee (f := 30) rfl ?_); refine goesL_ (some 63) rfl rfl Try.func30 (by kernel_rfl) rfl #[.bool (a1 != a2)] rfl (by (try simp only [List.map_toArray, List.map_cons, List.map_nil]); first | done | rfl | (simp only [List.length_drop, List.length_take]; rfl)) ?_; (with_reducible refine (backstepref01_truth.calls (a1 != a2) t126 _ A18.out).mono ?_); rintro e w' ⟨rfl, ⟨nd, rfl⟩⟩; refine ⟨_, rfl, ?_⟩))
                        go_ret2
                        exact ⟨by first | rfl | (simp; done) | (simp [*]; done), by repeat (first | exact Drawn0.refl _ | apply Drawn0.step)⟩
                      · rw [if_neg c17] at H
                        have c17b0 : (a0 == 17) = false := beq_eq_false_iff_ne.mpr c17
                        have c17b1 : (a0 != 17) = true := bne_iff_ne.mpr c17
                        by_cases c19 : a0 = 18
                        · rw [if_pos c19] at H
                          have c19b0 : (a0 == 18) = true := beq_iff_eq.mpr c19
                          have c19b1 : (a0 != 18) = false := bne_eq_false_iff_eq.mpr c19
                          clear c19
                          replace H := Option.bind_eq_some_iff.mp H
                          obtain ⟨t127, A200, H⟩ := H
                          replace H : (some (t127, 0)) = some (r1, r2) := H
                          have A20 := Aside0.mk A200
                          clear A200
                          simp only [Option.some.injEq, Prod.mk.injEq] at H
                          obtain ⟨rfl, rfl⟩ := H
                          go_wp2_with (first | ((with_reducible refine gate_callee (f := 30) rfl ?_); refine goesL_ (some 69) rfl rfl Try.func30 (by kernel_rfl) rfl #[.bool (decide (a1 < a2))] rfl (by (try simp only [List.map_toArray, List.map_cons, List.map_nil]); first | done | rfl | (simp only [List.length_drop, List.length_take]; rfl)) ?_; (with_reducible refine (backstepref01_truth.calls (decide (a1 < a2)) t127 _ A20.out).mono ?_); rintro e w' ⟨rfl, ⟨nd, rfl⟩⟩; refine ⟨_, rfl, ?_⟩))
                          go_ret2
                          exact ⟨by first | rfl | (simp; done) | (simp [*]; done), by repeat (first | exact Drawn0.refl _ | apply Drawn0.step)⟩
                        · rw [if_neg c19] at H
                          have c19b0 : (a0 == 18) = false := beq_eq_false_iff_ne.mpr c19
                          have c19b1 : (a0 != 18) = true := bne_iff_ne.mpr c19
                          by_cases c21 : a0 = 19
                          · rw [if_pos c21] at H
                            have c21b0 : (a0 == 19) = true := beq_iff_eq.mpr c21
                            have c21b1 : (a0 != 19) = false := bne_eq_false_iff_eq.mpr c21
                            clear c21
                            replace H := Option.bind_eq_some_iff.mp H
                            obtain ⟨t128, A220, H⟩ := H
                            replace H : (some (t128, 0)) = some (r1, r2) := H
                            have A22 := Aside0.mk A220
                            clear A220
                            simp only [Option.some.injEq, Prod.mk.injEq] at H
                            obtain ⟨rfl, rfl⟩ := H
                            go_wp2_with (first | ((with_reducible refine gate_callee (f := 30) rfl ?_); refine goesL_ (some 75) rfl rfl Try.func30 (by kernel_rfl) rfl #[.bool (decide (a1 ≤ a2))] rfl (by (try simp only [List.map_toArray, List.map_cons, List.map_nil]); first | done | rfl | (simp only [List.length_drop, List.length_take]; rfl)) ?_; (with_reducible refine (backstepref01_truth.calls (decide (a1 ≤ a2)) t128 _ A22.out).mono ?_); rintro e w' ⟨rfl, ⟨nd, rfl⟩⟩; refine ⟨_, rfl, ?_⟩))
                            go_ret2
                            exact ⟨by first | rfl | (simp; done) | (simp [*]; done), by repeat (first | exact Drawn0.refl _ | apply Drawn0.step)⟩
                          · rw [if_neg c21] at H
                            have c21b0 : (a0 == 19) = false := beq_eq_false_iff_ne.mpr c21
                            have c21b1 : (a0 != 19) = true := bne_iff_ne.mpr c21
                            by_cases c23 : a0 = 20
                            · rw [if_pos c23] at H
                              have c23b0 : (a0 == 20) = true := beq_iff_eq.mpr c23
                              have c23b1 : (a0 != 20) = false := bne_eq_false_iff_eq.mpr c23
                              clear c23
                              replace H := Option.bind_eq_some_iff.mp H
                              obtain ⟨t129, A240, H⟩ := H
                              replace H : (some (t129, 0)) = some (r1, r2) := H
                              have A24 := Aside0.mk A240
                              clear A240
                              simp only [Option.some.injEq, Prod.mk.injEq] at H
                              obtain ⟨rfl, rfl⟩ := H
                              go_wp2_with (first | ((with_reducible refine gate_callee (f := 30) rfl ?_); refine goesL_ (some 81) rfl rfl Try.func30 (by kernel_rfl) rfl #[.bool (decide (a1 > a2))] rfl (by (try simp only [List.map_toArray, List.map_cons, List.map_nil]); first | done | rfl | (simp only [List.length_drop, List.length_take]; rfl)) ?_; (with_reducible refine (backstepref01_truth.calls (decide (a1 > a2)) t129 _ A24.out).mono ?_); rintro e w' ⟨rfl, ⟨nd, rfl⟩⟩; refine ⟨_, rfl, ?_⟩))
                              go_ret2
                              exact ⟨by first | rfl | (simp; done) | (simp [*]; done), by repeat (first | exact Drawn0.refl _ | apply Drawn0.step)⟩
                            · rw [if_neg c23] at H
                              have c23b0 : (a0 == 20) = false := beq_eq_false_iff_ne.mpr c23
                              have c23b1 : (a0 != 20) = true := bne_iff_ne.mpr c23
                              by_cases c25 : a0 = 21
                              · rw [if_pos c25] at H
                                have c25b0 : (a0 == 21) = true := beq_iff_eq.mpr c25
                                have c25b1 : (a0 != 21) = false := bne_eq_false_iff_eq.mpr c25
                                clear c25
                                replace H := Option.bind_eq_some_iff.mp H
                                obtain ⟨t130, A260, H⟩ := H
                                replace H : (some (t130, 0)) = some (r1, r2) := H
                                have A26 := Aside0.mk A260
                                clear A260
                                simp only [Option.some.injEq, Prod.mk.injEq] at H
                                obtain ⟨rfl, rfl⟩ := H
                                go_wp2_with (first | ((with_reducible refine gate_callee (f := 30) rfl ?_); refine goesL_ (some 87) rfl rfl Try.func30 (by kernel_rfl) rfl #[.bool (decide (a1 ≥ a2))] rfl (by (try simp only [List.map_toArray, List.map_cons, List.map_nil]); first | done | rfl | (simp only [List.length_drop, List.length_take]; rfl)) ?_; (with_reducible refine (backstepref01_truth.calls (decide (a1 ≥ a2)) t130 _ A26.out).mono ?_); rintro e w' ⟨rfl, ⟨nd, rfl⟩⟩; refine ⟨_, rfl, ?_⟩))
                                go_ret2
                                exact ⟨by first | rfl | (simp; done) | (simp [*]; done), by repeat (first | exact Drawn0.refl _ | apply Drawn0.step)⟩
                              · rw [if_neg c25] at H
                                have c25b0 : (a0 == 21) = false := beq_eq_false_iff_ne.mpr c25
                                have c25b1 : (a0 != 21) = true := bne_iff_ne.mpr c25
                                by_cases c27 : a0 = 22
                                · rw [if_pos c27] at H
                                  have c27b0 : (a0 == 22) = true := beq_iff_eq.mpr c27
                                  have c27b1 : (a0 != 22) = false := bne_eq_false_iff_eq.mpr c27
                                  clear c27
                                  by_cases c28 : a1 = 0
                                  · rw [if_pos c28] at H
                                    have c28b0 : (a1 == 0) = true := beq_iff_eq.mpr c28
                                    have c28b1 : (a1 != 0) = false := bne_eq_false_iff_eq.mpr c28
                                    clear c28
                                    replace H := Option.bind_eq_some_iff.mp H
                                    obtain ⟨t131, A290, H⟩ := H
                                    replace H : (some (t131, 0)) = some (r1, r2) := H
                                    have A29 := Aside0.mk A290
                                    clear A290
                                    simp only [Option.some.injEq, Prod.mk.injEq] at H
                                    obtain ⟨rfl, rfl⟩ := H
                                    go_wp2_with (first | ((with_reducible refine gate_callee (f := 30) rfl ?_); refine goesL_ (some 96) rfl rfl Try.func30 (by kernel_rfl) rfl #[.bool false] rfl (by (try simp only [List.map_toArray, List.map_cons, List.map_nil]); first | done | rfl | (simp only [List.length_drop, List.length_take]; rfl)) ?_; (with_reducible refine (backstepref01_truth.calls false t131 _ A29.out).mono ?_); rintro e w' ⟨rfl, ⟨nd, rfl⟩⟩; refine ⟨_, rfl, ?_⟩))
                                    go_ret2
                                    exact ⟨by first | rfl | (simp; done) | (simp [*]; done), by repeat (first | exact Drawn0.refl _ | apply Drawn0.step)⟩
                                  · rw [if_neg c28] at H
                                    have c28b0 : (a1 == 0) = false := beq_eq_false_iff_ne.mpr c28
                                    have c28b1 : (a1 != 0) = true := bne_iff_ne.mpr c28
                                    replace H := Option.bind_eq_some_iff.mp H
                                    obtain ⟨t132, A300, H⟩ := H
                                    replace H : (some (t132, 0)) = some (r1, r2) := H
                                    have A30 := Aside0.mk A300
                                    clear A300
                                    simp only [Option.some.injEq, Prod.mk.injEq] at H
                                    obtain ⟨rfl, rfl⟩ := H
                                    go_wp2_with (first | ((with_reducible refine gate_callee (f := 30) rfl ?_); refine goesL_ (some 96) rfl rfl Try.func30 (by kernel_rfl) rfl #[.bool (a2 != 0)] rfl (by (try simp only [List.map_toArray, List.map_cons, List.map_nil]); first | done | rfl | (simp only [List.length_drop, List.length_take]; rfl)) ?_; (with_reducible refine (backstepref01_truth.calls (a2 != 0) t132 _ A30.out).mono ?_); rintro e w' ⟨rfl, ⟨nd, rfl⟩⟩; refine ⟨_, rfl, ?_⟩))
                                    go_ret2
                                    exact ⟨by first | rfl | (simp; done) | (simp [*]; done), by repeat (first | exact Drawn0.refl _ | apply Drawn0.step)⟩
                                · rw [if_neg c27] at H
                                  have c27b0 : (a0 == 22) = false := beq_eq_false_iff_ne.mpr c27
                                  have c27b1 : (a0 != 22) = true := bne_iff_ne.mpr c27
                                  by_cases c31 : a0 = 23
                                  · rw [if_pos c31] at H
                                    have c31b0 : (a0 == 23) = true := beq_iff_eq.mpr c31
                                    have c31b1 : (a0 != 23) = false := bne_eq_false_iff_eq.mpr c31
                                    clear c31
                                    by_cases c32 : a1 = 0
                                    · rw [if_pos c32] at H
                                      have c32b0 : (a1 == 0) = true := beq_iff_eq.mpr c32
                                      have c32b1 : (a1 != 0) = false := bne_eq_false_iff_eq.mpr c32
                                      clear c32
                                      replace H := Option.bind_eq_some_iff.mp H
                                      obtain ⟨t133, A330, H⟩ := H
                                      replace H : (some (t133, 0)) = some (r1, r2) := H
                                      have A33 := Aside0.mk A330
                                      clear A330
                                      simp only [Option.some.injEq, Prod.mk.injEq] at H
                                      obtain ⟨rfl, rfl⟩ := H
                                      go_wp2_with (first | ((with_reducible refine gate_callee (f := 30) rfl ?_); refine goesL_ (some 105) rfl rfl Try.func30 (by kernel_rfl) rfl #[.bool (a2 != 0)] rfl (by (try simp only [List.map_toArray, List.map_cons, List.map_nil]); first | done | rfl | (simp only [List.length_drop, List.length_take]; rfl)) ?_; (with_reducible refine (backstepref01_truth.calls (a2 != 0) t133 _ A33.out).mono ?_); rintro e w' ⟨rfl, ⟨nd, rfl⟩⟩; refine ⟨_, rfl, ?_⟩))
                                      go_ret2
                                      exact ⟨by first | rfl | (simp; done) | (simp [*]; done), by repeat (first | exact Drawn0.refl _ | apply Drawn0.step)⟩
                                    · rw [if_neg c32] at H
                                      have c32b0 : (a1 == 0) = false := beq_eq_false_iff_ne.mpr c32
                                      have c32b1 : (a1 != 0) = true := bne_iff_ne.mpr c32
                                      replace H := Option.bind_eq_some_iff.mp H
                                      obtain ⟨t134, A340, H⟩ := H
                                      replace H : (some (t134, 0)) = some (r1, r2) := H
                                      have A34 := Aside0.mk A340
                                      clear A340
                                      simp only [Option.some.injEq, Prod.mk.injEq] at H
                                      obtain ⟨rfl, rfl⟩ := H
                                      go_wp2_with (first | ((with_reducible refine gate_callee (f := 30) rfl ?_); refine goesL_ (some 105) rfl rfl Try.func30 (by kernel_rfl) rfl #[.bool true] rfl (by (try simp only [List.map_toArray, List.map_cons, List.map_nil]); first | done | rfl | (simp only [List.length_drop, List.length_take]; rfl)) ?_; (with_reducible refine (backstepref01_truth.calls true t134 _ A34.out).mono ?_); rintro e w' ⟨rfl, ⟨nd, rfl⟩⟩; refine ⟨_, rfl, ?_⟩))
                                      go_ret2
                                      exact ⟨by first | rfl | (simp; done) | (simp [*]; done), by repeat (first | exact Drawn0.refl _ | apply Drawn0.step)⟩
                                  · rw [if_neg c31] at H
                                    have c31b0 : (a0 == 23) = false := beq_eq_false_iff_ne.mpr c31
                                    have c31b1 : (a0 != 23) = true := bne_iff_ne.mpr c31
                                    simp only [Option.some.injEq, Prod.mk.injEq] at H
                                    obtain ⟨rfl, rfl⟩ := H
                                    go_wp2
                                    go_ret2
                                    exact ⟨by first | rfl | (simp; done) | (simp [*]; done), by repeat (first | exact Drawn0.refl _ | apply Drawn0.step)⟩

/-! ### backsteplaw01_ArithApplies: function 3 -/
def backsteplaw01_ArithApplies.f (k : Nat) (a0 : Int) (a1 : Int) (a2 : Int) : Option (Bool) := (backsteplaw01_awake.f k).bind fun t135 => (if t135 = true then ((arith_Apply.f k a0 a1 a2).bind fun bt136 => ((backstepref01_Apply.f k a0 a1 a2).bind fun bt138 => (if bt136.1 = bt138.1 then (some (bt136.2 == bt138.2)) else (some false)))) else (some false))
theorem backsteplaw01_ArithApplies.mono : ∀ a0 a1 a2 k, LeO (backsteplaw01_ArithApplies.f k a0 a1 a2) (backsteplaw01_ArithApplies.f (k + 1) a0 a1 a2) := by
  intro a0 a1 a2 k
  unfold backsteplaw01_ArithApplies.f
  repeat' first
      | (with_reducible exact arith_Apply.mono _ _ _ _)
      | (with_reducible exact backsteplaw01_awake.mono _)
      | (with_reducible exact backstepref01_Apply.mono _ _ _ _)
      | (with_reducible exact LeO.refl _)
      | (with_reducible exact LeO.none _)
      | (with_reducible refine LeO.ite ?_ ?_)
      | (with_reducible refine LeO.bind ?_ (fun _ => ?_))
      | exact arith_Apply.mono _ _ _ _
      | exact backsteplaw01_awake.mono _
      | exact backstepref01_Apply.mono _ _ _ _
      | exact LeO.none _
      | refine LeO.ite ?_ ?_
      | refine LeO.bind ?_ (fun _ => ?_)
set_option maxHeartbeats 8000000 in
set_option maxRecDepth 100000 in
theorem backsteplaw01_ArithApplies.calls (k : Nat) (a0 : Int) (a1 : Int) (a2 : Int) (r : Bool) (w : World) (h : backsteplaw01_ArithApplies.f k a0 a1 a2 = some r) :
    Calls Try.prog 3 #[.int .u8 a0, .int .i64 a1, .int .i64 a2] w fun e w' => e = .returned (.bool r) ∧ Drawn0 w w' := by
  have H : ((backsteplaw01_awake.f k).bind fun t135 => (if t135 = true then ((arith_Apply.f k a0 a1 a2).bind fun bt136 => ((backstepref01_Apply.f k a0 a1 a2).bind fun bt138 => (if bt136.1 = bt138.1 then (some (bt136.2 == bt138.2)) else (some false)))) else (some false))) = some r := h
  clear h
  replace H := Option.bind_eq_some_iff.mp H
  obtain ⟨t135, A40, H⟩ := H
  replace H : (if t135 = true then ((arith_Apply.f k a0 a1 a2).bind fun bt136 => ((backstepref01_Apply.f k a0 a1 a2).bind fun bt138 => (if bt136.1 = bt138.1 then (some (bt136.2 == bt138.2)) else (some false)))) else (some false)) = some r := H
  have A4 := Aside0.mk A40
  clear A40
  by_cases c5 : t135 = true
  · subst c5
    have H1 : ((arith_Apply.f k a0 a1 a2).bind fun bt136 => ((backstepref01_Apply.f k a0 a1 a2).bind fun bt138 => (if bt136.1 = bt138.1 then (some (bt136.2 == bt138.2)) else (some false)))) = some r := by rw [if_pos rfl] at H; exact H
    clear H
    have H := H1
    clear H1
    replace H := Option.bind_eq_some_iff.mp H
    obtain ⟨⟨t136, t137⟩, A60, H⟩ := H
    replace H : ((backstepref01_Apply.f k a0 a1 a2).bind fun bt138 => (if t136 = bt138.1 then (some (t137 == bt138.2)) else (some false))) = some r := H
    have A6 := Aside0.mk A60
    clear A60
    replace H := Option.bind_eq_some_iff.mp H
    obtain ⟨⟨t138, t139⟩, A70, H⟩ := H
    replace H : (if t136 = t138 then (some (t137 == t139)) else (some false)) = some r := H
    have A7 := Aside0.mk A70
    clear A70
    by_cases c8 : t136 = t138
    · rw [if_pos c8] at H
      have c8b0 : (t136 == t138) = true := beq_iff_eq.mpr c8
      have c8b1 : (t136 != t138) = false := bne_eq_false_iff_eq.mpr c8
      clear c8
      obtain rfl := Option.some.inj H
      go_enter Try.func3, Try.ntmps3
      go_wp2_with (first | ((with_reducible refine gate_callee (f := 11) rfl ?_); refine goesL_ (some 11) rfl rfl Try.func11 (by kernel_rfl) rfl #[] rfl (by (try simp only [List.map_toArray, List.map_cons, List.map_nil]); first | done | rfl | (simp only [List.length_drop, List.length_take]; rfl)) ?_; (with_reducible refine (backsteplaw01_awake.calls k  true _ A4.out).mono ?_); rintro e w' ⟨rfl, ⟨nd, rfl⟩⟩; refine ⟨_, rfl, ?_⟩) | ((with_reducible refine gate_callee (f := 12) rfl ?_); refine goesL_ (some 17) rfl rfl Try.func12 (by kernel_rfl) rfl #[.int .u8 a0, .int .i64 a1, .int .i64 a2] rfl (by (try simp only [List.map_toArray, List.map_cons, List.map_nil]); first | done | rfl | (simp only [List.length_drop, List.length_take]; rfl)) ?_; (with_reducible refine (arith_Apply.calls k a0 a1 a2 t136 t137 _ A6.out).mono ?_); rintro e w' ⟨rfl, ⟨nd, rfl⟩⟩; refine ⟨_, rfl, ?_⟩) | ((with_reducible refine gate_callee (f := 13) rfl ?_); refine goesL_ (some 24) rfl rfl Try.func13 (by kernel_rfl) rfl #[.int .u8 a0, .int .i64 a1, .int .i64 a2] rfl (by (try simp only [List.map_toArray, List.map_cons, List.map_nil]); first | done | rfl | (simp only [List.length_drop, List.length_take]; rfl)) ?_; (with_reducible refine (backstepref01_Apply.calls k a0 a1 a2 t138 t139 _ A7.out).mono ?_); rintro e w' ⟨rfl, ⟨nd, rfl⟩⟩; refine ⟨_, rfl, ?_⟩))
      go_ret
      exact ⟨by first | rfl | (simp; done) | (simp [*]; done), by repeat (first | exact Drawn0.refl _ | apply Drawn0.step)⟩
    · rw [if_neg c8] at H
      have c8b0 : (t136 == t138) = false := beq_eq_false_iff_ne.mpr c8
      have c8b1 : (t136 != t138) = true := bne_iff_ne.mpr c8
      obtain rfl := Option.some.inj H
      go_enter Try.func3, Try.ntmps3
      go_wp2_with (first | ((with_reducible refine gate_callee (f := 11) rfl ?_); refine goesL_ (some 11) rfl rfl Try.func11 (by kernel_rfl) rfl #[] rfl (by (try simp only [List.map_toArray, List.map_cons, List.map_nil]); first | done | rfl | (simp only [List.length_drop, List.length_take]; rfl)) ?_; (with_reducible refine (backsteplaw01_awake.calls k  true _ A4.out).mono ?_); rintro e w' ⟨rfl, ⟨nd, rfl⟩⟩; refine ⟨_, rfl, ?_⟩) | ((with_reducible refine gate_callee (f := 12) rfl ?_); refine goesL_ (some 17) rfl rfl Try.func12 (by kernel_rfl) rfl #[.int .u8 a0, .int .i64 a1, .int .i64 a2] rfl (by (try simp only [List.map_toArray, List.map_cons, List.map_nil]); first | done | rfl | (simp only [List.length_drop, List.length_take]; rfl)) ?_; (with_reducible refine (arith_Apply.calls k a0 a1 a2 t136 t137 _ A6.out).mono ?_); rintro e w' ⟨rfl, ⟨nd, rfl⟩⟩; refine ⟨_, rfl, ?_⟩) | ((with_reducible refine gate_callee (f := 13) rfl ?_); refine goesL_ (some 24) rfl rfl Try.func13 (by kernel_rfl) rfl #[.int .u8 a0, .int .i64 a1, .int .i64 a2] rfl (by (try simp only [List.map_toArray, List.map_cons, List.map_nil]); first | done | rfl | (simp only [List.length_drop, List.length_take]; rfl)) ?_; (with_reducible refine (backstepref01_Apply.calls k a0 a1 a2 t138 t139 _ A7.out).mono ?_); rintro e w' ⟨rfl, ⟨nd, rfl⟩⟩; refine ⟨_, rfl, ?_⟩))
      go_ret
      exact ⟨by first | rfl | (simp; done) | (simp [*]; done), by repeat (first | exact Drawn0.refl _ | apply Drawn0.step)⟩
  · replace c5 := Bool.eq_false_iff.mpr c5
    subst c5
    have H1 : (some false) = some r := by rw [if_neg (show ¬ (false = true) by decide)] at H; exact H
    clear H
    have H := H1
    clear H1
    obtain rfl := Option.some.inj H
    go_enter Try.func3, Try.ntmps3
    go_wp2_with (first | ((with_reducible refine gate_callee (f := 11) rfl ?_); refine goesL_ (some 11) rfl rfl Try.func11 (by kernel_rfl) rfl #[] rfl (by (try simp only [List.map_toArray, List.map_cons, List.map_nil]); first | done | rfl | (simp only [List.length_drop, List.length_take]; rfl)) ?_; (with_reducible refine (backsteplaw01_awake.calls k  false _ A4.out).mono ?_); rintro e w' ⟨rfl, ⟨nd, rfl⟩⟩; refine ⟨_, rfl, ?_⟩))
    go_ret
    exact ⟨by first | rfl | (simp; done) | (simp [*]; done), by repeat (first | exact Drawn0.refl _ | apply Drawn0.step)⟩

/-- THE ONE PURE STATEMENT of backsteplaw01_ArithApplies: yours. -/
def backsteplaw01_ArithApplies.Pure : Prop := ∀ (a0 : Int) (a1 : Int) (a2 : Int), (Lit.int .u8 a0).wf = true → (Lit.int .i64 a1).wf = true → (Lit.int .i64 a2).wf = true → ∃ k, backsteplaw01_ArithApplies.f k a0 a1 a2 = some true
theorem backsteplaw01_ArithApplies.walk (P : backsteplaw01_ArithApplies.Pure) (a0 : Int) (a1 : Int) (a2 : Int) (w : World) (w0 : (Lit.int .u8 a0).wf = true) (w1 : (Lit.int .i64 a1).wf = true) (w2 : (Lit.int .i64 a2).wf = true) :
    Calls Try.prog 3 #[.int .u8 a0, .int .i64 a1, .int .i64 a2] w fun e w' => e = .returned (.bool true) ∧ Below w.heap.size w w' := by
  obtain ⟨k, h⟩ := P a0 a1 a2 w0 w1 w2
  refine (backsteplaw01_ArithApplies.calls k a0 a1 a2 true w h).mono ?_
  rintro e w' ⟨rfl, hd⟩
  exact ⟨rfl, hd.below⟩

end Go.Proofs.Ytnbkmmhomghlmaa.PArithApplies
