-- PRINTED BY print.sh 35421559b90ae4d0a3588c463048766b98c2df88dd9212a6774a882060cdf62d: not written by this session
import Derived.Test.YtnbkmmhomghlmaaPArithOperatorsx0
import Derived.Test.YtnbkmmhomghlmaaPArithOperatorsx1
namespace Go.Proofs.Ytnbkmmhomghlmaa.PArithOperators
open Go.RowKit Go.Proofs.YtnbkmmhomghlmaaW.PrintWords Go.Proofs.YtnbkmmhomghlmaaW.PrintLast Go.Proofs.YtnbkmmhomghlmaaW.PrintMore
attribute [local go_sem] max2_int min2_int max_two min_two max_three min_three max_four min_four   -- for this text's walks alone
set_option linter.unusedVariables false
set_option linter.unusedSimpArgs false

/-! ### backstepref01_Apply: function 13 -/
def backstepref01_Apply.j0 : Nat → Int → Int → Int → Int → Bool → Option (Int × Int)
  | 0, _, _, _, _, _ => none
  | k + 1, x0, x1, x2, x8, x24 => if x24 = true then (if x2 = 0 then (some (0, 11)) else (if x0 = 11 then (some (wrap64 (Int.tdiv x1 x2), 0)) else (some (Int.tmod x1 x2, 0)))) else (if x8 = 13 then (some (Go.bits .and .i64 x1 x2, 0)) else (if x8 = 14 then (some (Go.bits .or .i64 x1 x2, 0)) else (if x8 = 15 then (some (Go.bits .xor .i64 x1 x2, 0)) else (if x8 = 16 then ((backstepref01_truth.f (x1 == x2)).bind fun t125 => (some (t125, 0))) else (if x8 = 17 then ((backstepref01_truth.f (x1 != x2)).bind fun t126 => (some (t126, 0))) else (if x8 = 18 then ((backstepref01_truth.f (decide (x1 < x2))).bind fun t127 => (some (t127, 0))) else (if x8 = 19 then ((backstepref01_truth.f (decide (x1 ≤ x2))).bind fun t128 => (some (t128, 0))) else (if x8 = 20 then ((backstepref01_truth.f (decide (x1 > x2))).bind fun t129 => (some (t129, 0))) else (if x8 = 21 then ((backstepref01_truth.f (decide (x1 ≥ x2))).bind fun t130 => (some (t130, 0))) else (if x8 = 22 then (if x1 = 0 then ((backstepref01_truth.f false).bind fun t131 => (some (t131, 0))) else ((backstepref01_truth.f (x2 != 0)).bind fun t132 => (some (t132, 0)))) else (if x8 = 23 then (if x1 = 0 then ((backstepref01_truth.f (x2 != 0)).bind fun t133 => (some (t133, 0))) else ((backstepref01_truth.f true).bind fun t134 => (some (t134, 0)))) else (some (0, 7)))))))))))))
def backstepref01_Apply.f (k : Nat) (a0 : Int) (a1 : Int) (a2 : Int) : Option (Int × Int) := if a0 = 8 then (some (wrap64 (a1 + a2), 0)) else (if a0 = 9 then (some (wrap64 (a1 - a2), 0)) else (if a0 = 10 then (some (wrap64 (a1 * a2), 0)) else (if a0 = 11 then (backstepref01_Apply.j0 k a0 a1 a2 a0 (a0 == 11)) else (backstepref01_Apply.j0 k a0 a1 a2 a0 (a0 == 12)))))
theorem backstepref01_Apply.mono_l : ∀ k, (∀ y0 y1 y2 y3 y4, LeO (backstepref01_Apply.j0 k y0 y1 y2 y3 y4) (backstepref01_Apply.j0 (k + 1) y0 y1 y2 y3 y4))
  | 0 => fun _ _ _ _ _ r h => by simp [backstepref01_Apply.j0] at h
  | k + 1 => by
    have ih0 := backstepref01_Apply.mono_l k
    · intro y0 y1 y2 y3 y4
      unfold backstepref01_Apply.j0
      repeat' first
      | (with_reducible exact ih0 _ _ _ _ _)
      | (with_reducible exact LeO.refl _)
      | (with_reducible exact LeO.none _)
      | (with_reducible refine LeO.ite ?_ ?_)
      | (with_reducible refine LeO.bind ?_ (fun _ => ?_))
      | exact ih0 _ _ _ _ _
      | exact LeO.none _
      | refine LeO.ite ?_ ?_
      | refine LeO.bind ?_ (fun _ => ?_)
theorem backstepref01_Apply.mono : ∀ a0 a1 a2 k, LeO (backstepref01_Apply.f k a0 a1 a2) (backstepref01_Apply.f (k + 1) a0 a1 a2) := by
  intro a0 a1 a2 k
  have ih0 := backstepref01_Apply.mono_l k
  unfold backstepref01_Apply.f
  repeat' first
      | (with_reducible exact ih0 _ _ _ _ _)
      | (with_reducible exact LeO.refl _)
      | (with_reducible exact LeO.none _)
      | (with_reducible refine LeO.ite ?_ ?_)
      | (with_reducible refine LeO.bind ?_ (fun _ => ?_))
      | exact ih0 _ _ _ _ _
      | exact LeO.none _
      | refine LeO.ite ?_ ?_
      | refine LeO.bind ?_ (fun _ => ?_)
set_option maxHeartbeats 8000000 in
set_option maxRecDepth 100000 in
theorem backstepref01_Apply.calls (k : Nat) (a0 : Int) (a1 : Int) (a2 : Int) (r1 : Int) (r2 : Int) (w : World) (h : backstepref01_Apply.f k a0 a1 a2 = some (r1, r2)) :
    Calls Try.prog 13 #[.int .u8 a0, .int .i64 a1, .int .i64 a2] w fun e w' => e = .returned (.tuple #[.int .i64 r1, .int .i64 r2]) ∧ Drawn0 w w' := by
  have H : (if a0 = 8 then (some (wrap64 (a1 + a2), 0)) else (if a0 = 9 then (some (wrap64 (a1 - a2), 0)) else (if a0 = 10 then (some (wrap64 (a1 * a2), 0)) else (if a0 = 11 then (backstepref01_Apply.j0 k a0 a1 a2 a0 (a0 == 11)) else (backstepref01_Apply.j0 k a0 a1 a2 a0 (a0 == 12)))))) = some (r1, r2) := h
  clear h
  by_cases c4 : a0 = 8
  · rw [if_pos c4] at H
    have c4b0 : (a0 == 8) = true := beq_iff_eq.mpr c4
    have c4b1 : (a0 != 8) = false := bne_eq_false_iff_eq.mpr c4
    clear c4
    simp only [Option.some.injEq, Prod.mk.injEq] at H
    obtain ⟨rfl, rfl⟩ := H
    go_enter Try.func13, Try.ntmps13
    go_wp2
    go_ret2
    exact ⟨by first | rfl | (simp; done) | (simp [*]; done), by repeat (first | exact Drawn0.refl _ | apply Drawn0.step)⟩
  · rw [if_neg c4] at H
    have c4b0 : (a0 == 8) = false := beq_eq_false_iff_ne.mpr c4
    have c4b1 : (a0 != 8) = true := bne_iff_ne.mpr c4
    by_cases c5 : a0 = 9
    · rw [if_pos c5] at H
      have c5b0 : (a0 == 9) = true := beq_iff_eq.mpr c5
      have c5b1 : (a0 != 9) = false := bne_eq_false_iff_eq.mpr c5
      clear c5
      simp only [Option.some.injEq, Prod.mk.injEq] at H
      obtain ⟨rfl, rfl⟩ := H
      go_enter Try.func13, Try.ntmps13
      go_wp2
      go_ret2
      exact ⟨by first | rfl | (simp; done) | (simp [*]; done), by repeat (first | exact Drawn0.refl _ | apply Drawn0.step)⟩
    · rw [if_neg c5] at H
      have c5b0 : (a0 == 9) = false := beq_eq_false_iff_ne.mpr c5
      have c5b1 : (a0 != 9) = true := bne_iff_ne.mpr c5
      by_cases c6 : a0 = 10
      · rw [if_pos c6] at H
        have c6b0 : (a0 == 10) = true := beq_iff_eq.mpr c6
        have c6b1 : (a0 != 10) = false := bne_eq_false_iff_eq.mpr c6
        clear c6
        simp only [Option.some.injEq, Prod.mk.injEq] at H
        obtain ⟨rfl, rfl⟩ := H
        go_enter Try.func13, Try.ntmps13
        go_wp2
        go_ret2
        exact ⟨by first | rfl | (simp; done) | (simp [*]; done), by repeat (first | exact Drawn0.refl _ | apply Drawn0.step)⟩
      · rw [if_neg c6] at H
        have c6b0 : (a0 == 10) = false := beq_eq_false_iff_ne.mpr c6
        have c6b1 : (a0 != 10) = true := bne_iff_ne.mpr c6
        have HC7 := Aside0.mk H
        clear H
        go_enter Try.func13, Try.ntmps13
        go_upto_if 24 with (fail)
        go_cut [24] (fun v24 wc => ∃ (kq : Nat) (x24_6 : Bool), v24 = .bool x24_6 ∧ Aside0 (backstepref01_Apply.j0 kq a0 a1 a2 a0 x24_6 = some (r1, r2)) ∧ Aside0 (kq ≤ k) ∧ Drawn0 w wc)
        case first =>
          have H := HC7.out
          clear HC7
          by_cases c8 : a0 = 11
          · rw [if_pos c8] at H
            have c8b0 : (a0 == 11) = true := beq_iff_eq.mpr c8
            have c8b1 : (a0 != 11) = false := bne_eq_false_iff_eq.mpr c8
            clear c8
            (first | rw [c8b0] | (simp only [i64_w, i32_w]; rw [c8b0]) | skip)
            have H' := Aside0.mk H
            clear H
            go_wp2
            go_meet
            case rel => exact ⟨_, ((a0 == 11)), (by first | rfl | (simp; done) | (simp [*]; done)), H', ⟨by first | omega | exact Nat.le_refl _⟩, by repeat (first | exact Drawn0.refl _ | apply Drawn0.step)⟩
          · rw [if_neg c8] at H
            have c8b0 : (a0 == 11) = false := beq_eq_false_iff_ne.mpr c8
            have c8b1 : (a0 != 11) = true := bne_iff_ne.mpr c8
            (first | rw [c8b0] | (simp only [i64_w, i32_w]; rw [c8b0]) | skip)
            have H' := Aside0.mk H
            clear H
            go_wp2
            go_meet
            case rel => exact ⟨_, ((a0 == 12)), (by first | rfl | (simp; done) | (simp [*]; done)), H', ⟨by first | omega | exact Nat.le_refl _⟩, by repeat (first | exact Drawn0.refl _ | apply Drawn0.step)⟩
        case rest =>
          clear HC7
          try clear c1
          try clear p2
          try clear c4
          try clear c4b0
          try clear c4b1
          try clear c5
          try clear c5b0
          try clear c5b1
          try clear c6
          try clear c6b0
          try clear c6b1
          try clear p6
          try clear c8
          try clear c8b0
          try clear c8b1
          obtain ⟨kq, x24_6, rfl, HA, HJ6, ⟨mc6, rfl⟩⟩ := hcut
          cases kq with
          | zero => exact absurd HA.out (by simp [backstepref01_Apply.j0])
          | succ kj6 =>
            have H := HA.out
            clear HA
            simp only [backstepref01_Apply.j0] at H
            by_cases c9 : x24_6 = true
            · subst c9
              have H1 : (if a2 = 0 then (some (0, 11)) else (if a0 = 11 then (some (wrap64 (Int.tdiv a1 a2), 0)) else (some (Int.tmod a1 a2, 0)))) = some (r1, r2) := by rw [if_pos rfl] at H; exact H
              clear H
              have H := H1
              clear H1
              by_cases c10 : a2 = 0
              · rw [if_pos c10] at H
                have c10b0 : (a2 == 0) = true := beq_iff_eq.mpr c10
                have c10b1 : (a2 != 0) = false := bne_eq_false_iff_eq.mpr c10
                clear c10
                simp only [Option.some.injEq, Prod.mk.injEq] at H
                obtain ⟨rfl, rfl⟩ := H
                go_wp2
                go_ret2
                exact ⟨by first | rfl | (simp; done) | (simp [*]; done), by repeat (first | exact Drawn0.refl _ | apply Drawn0.step)⟩
              · rw [if_neg c10] at H
                have c10b0 : (a2 == 0) = false := beq_eq_false_iff_ne.mpr c10
                have c10b1 : (a2 != 0) = true := bne_iff_ne.mpr c10
                by_cases c11 : a0 = 11
                · rw [if_pos c11] at H
                  have c11b0 : (a0 == 11) = true := beq_iff_eq.mpr c11
                  have c11b1 : (a0 != 11) = false := bne_eq_false_iff_eq.mpr c11
                  clear c11
                  simp only [Option.some.injEq, Prod.mk.injEq] at H
                  obtain ⟨rfl, rfl⟩ := H
                  go_wp2
                  go_ret2
                  exact ⟨by first | rfl | (simp; done) | (simp [*]; done), by repeat (first | exact Drawn0.refl _ | apply Drawn0.step)⟩
                · rw [if_neg c11] at H
                  have c11b0 : (a0 == 11) = false := beq_eq_false_iff_ne.mpr c11
                  have c11b1 : (a0 != 11) = true := bne_iff_ne.mpr c11
                  simp only [Option.some.injEq, Prod.mk.injEq] at H
                  obtain ⟨rfl, rfl⟩ := H
                  go_wp2
                  go_ret2
                  exact ⟨by first | rfl | (simp; done) | (simp [*]; done), by repeat (first | exact Drawn0.refl _ | apply Drawn0.step)⟩
            · replace c9 := Bool.eq_false_iff.mpr c9
              subst c9
              have H1 : (if a0 = 13 then (some (Go.bits .and .i64 a1 a2, 0)) else (if a0 = 14 then (some (Go.bits .or .i64 a1 a2, 0)) else (if a0 = 15 then (some (Go.bits .xor .i64 a1 a2, 0)) else (if a0 = 16 then ((backstepref01_truth.f (a1 == a2)).bind fun t125 => (some (t125, 0))) else (if a0 = 17 then ((backstepref01_truth.f (a1 != a2)).bind fun t126 => (some (t126, 0))) else (if a0 = 18 then ((backstepref01_truth.f (decide (a1 < a2))).bind fun t127 => (some (t127, 0))) else (if a0 = 19 then ((backstepref01_truth.f (decide (a1 ≤ a2))).bind fun t128 => (some (t128, 0))) else (if a0 = 20 then ((backstepref01_truth.f (decide (a1 > a2))).bind fun t129 => (some (t129, 0))) else (if a0 = 21 then ((backstepref01_truth.f (decide (a1 ≥ a2))).bind fun t130 => (some (t130, 0))) else (if a0 = 22 then (if a1 = 0 then ((backstepref01_truth.f false).bind fun t131 => (some (t131, 0))) else ((backstepref01_truth.f (a2 != 0)).bind fun t132 => (some (t132, 0)))) else (if a0 = 23 then (if a1 = 0 then ((backstepref01_truth.f (a2 != 0)).bind fun t133 => (some (t133, 0))) else ((backstepref01_truth.f true).bind fun t134 => (some (t134, 0)))) else (some (0, 7))))))))))))) = some (r1, r2) := by rw [if_neg (show ¬ (false = true) by decide)] at H; exact H
              clear H
              have H := H1
              clear H1
              by_cases c12 : a0 = 13
              · rw [if_pos c12] at H
                have c12b0 : (a0 == 13) = true := beq_iff_eq.mpr c12
                have c12b1 : (a0 != 13) = false := bne_eq_false_iff_eq.mpr c12
                clear c12
                simp only [Option.some.injEq, Prod.mk.injEq] at H
                obtain ⟨rfl, rfl⟩ := H
                go_wp2
                go_ret2
                exact ⟨by first | rfl | (simp; done) | (simp [*]; done), by repeat (first | exact Drawn0.refl _ | apply Drawn0.step)⟩
              · rw [if_neg c12] at H
                have c12b0 : (a0 == 13) = false := beq_eq_false_iff_ne.mpr c12
                have c12b1 : (a0 != 13) = true := bne_iff_ne.mpr c12
                by_cases c13 : a0 = 14
                · rw [if_pos c13] at H
                  have c13b0 : (a0 == 14) = true := beq_iff_eq.mpr c13
                  have c13b1 : (a0 != 14) = false := bne_eq_false_iff_eq.mpr c13
                  clear c13
                  simp only [Option.some.injEq, Prod.mk.injEq] at H
                  obtain ⟨rfl, rfl⟩ := H
                  go_wp2
                  go_ret2
                  exact ⟨by first | rfl | (simp; done) | (simp [*]; done), by repeat (first | exact Drawn0.refl _ | apply Drawn0.step)⟩
                · rw [if_neg c13] at H
                  have c13b0 : (a0 == 14) = false := beq_eq_false_iff_ne.mpr c13
                  have c13b1 : (a0 != 14) = true := bne_iff_ne.mpr c13
                  by_cases c14 : a0 = 15
                  · rw [if_pos c14] at H
                    have c14b0 : (a0 == 15) = true := beq_iff_eq.mpr c14
                    have c14b1 : (a0 != 15) = false := bne_eq_false_iff_eq.mpr c14
                    clear c14
                    simp only [Option.some.injEq, Prod.mk.injEq] at H
                    obtain ⟨rfl, rfl⟩ := H
                    go_wp2
                    go_ret2
                    exact ⟨by first | rfl | (simp; done) | (simp [*]; done), by repeat (first | exact Drawn0.refl _ | apply Drawn0.step)⟩
                  · rw [if_neg c14] at H
                    have c14b0 : (a0 == 15) = false := beq_eq_false_iff_ne.mpr c14
                    have c14b1 : (a0 != 15) = true := bne_iff_ne.mpr c14
                    by_cases c15 : a0 = 16
                    · rw [if_pos c15] at H
                      have c15b0 : (a0 == 16) = true := beq_iff_eq.mpr c15
                      have c15b1 : (a0 != 16) = false := bne_eq_false_iff_eq.mpr c15
                      clear c15
                      replace H := Option.bind_eq_some_iff.mp H
                      obtain ⟨t125, A160, H⟩ := H
                      replace H : (some (t125, 0)) = some (r1, r2) := H
                      have A16 := Aside0.mk A160
                      clear A160
                      simp only [Option.some.injEq, Prod.mk.injEq] at H
                      obtain ⟨rfl, rfl⟩ := H
                      go_wp2_with (first | ((with_reducible refine gate_callee (f := 30) rfl ?_); refine goesL_ (some 57) rfl rfl Try.func30 (by kernel_rfl) rfl #[.bool (a1 == a2)] rfl (by (try simp only [List.map_toArray, List.map_cons, List.map_nil]); first | done | rfl | (simp only [List.length_drop, List.length_take]; rfl)) ?_; (with_reducible refine (backstepref01_truth.calls (a1 == a2) t125 _ A16.out).mono ?_); rintro e w' ⟨rfl, ⟨nd, rfl⟩⟩; refine ⟨_, rfl, ?_⟩))
                      go_ret2
                      exact ⟨by first | rfl | (simp; done) | (simp [*]; done), by repeat (first | exact Drawn0.refl _ | apply Drawn0.step)⟩
                    · rw [if_neg c15] at H
                      have c15b0 : (a0 == 16) = false := beq_eq_false_iff_ne.mpr c15
                      have c15b1 : (a0 != 16) = true := bne_iff_ne.mpr c15
                      by_cases c17 : a0 = 17
                      · rw [if_pos c17] at H
                        have c17b0 : (a0 == 17) = true := beq_iff_eq.mpr c17
                        have c17b1 : (a0 != 17) = false := bne_eq_false_iff_eq.mpr c17
                        clear c17
                        replace H := Option.bind_eq_some_iff.mp H
                        obtain ⟨t126, A180, H⟩ := H
                        replace H : (some (t126, 0)) = some (r1, r2) := H
                        have A18 := Aside0.mk A180
                        clear A180
                        simp only [Option.some.injEq, Prod.mk.injEq] at H
                        obtain ⟨rfl, rfl⟩ := H
                        go_wp2_with (first | ((with_reducible refine gate_callee (f := 30) rfl ?_); refine goesL_ (some 63) rfl rfl Try.func30 (by kernel_rfl) rfl #[.bool (a1 != a2)] rfl (by (try simp only [List.map_toArray, List.map_cons, List.map_nil]); first | done | rfl | (simp only [List.length_drop, List.length_take]; rfl)) ?_; (with_reducible refine (backstepref01_truth.calls (a1 != a2) t126 _ A18.out).mono ?_); rintro e w' ⟨rfl, ⟨nd, rfl⟩⟩; refine ⟨_, rfl, ?_⟩))
                        go_ret2
                        exact ⟨by first | rfl | (simp; done) | (simp [*]; done), by repeat (first | exact Drawn0.refl _ | apply Drawn0.step)⟩
                      · rw [if_neg c17] at H
                        have c17b0 : (a0 == 17) = false := beq_eq_false_iff_ne.mpr c17
                        have c17b1 : (a0 != 17) = true := bne_iff_ne.mpr c17
                        by_cases c19 : a0 = 18
                        · rw [if_pos c19] at H
                          have c19b0 : (a0 == 18) = true := beq_iff_eq.mpr c19
                          have c19b1 : (a0 != 18) = false := bne_eq_false_iff_eq.mpr c19
                          clear c19
                          replace H := Option.bind_eq_some_iff.mp H
                          obtain ⟨t127, A200, H⟩ := H
                          replace H : (some (t127, 0)) = some (r1, r2) := H
                          have A20 := Aside0.mk A200
                          clear A200
                          simp only [Option.some.injEq, Prod.mk.injEq] at H
                          obtain ⟨rfl, rfl⟩ := H
                          go_wp2_with (first | ((with_reducible refine gate_callee (f := 30) rfl ?_); refine goesL_ (some 69) rfl rfl Try.func30 (by kernel_rfl) rfl #[.bool (decide (a1 < a2))] rfl (by (try simp only [List.map_toArray, List.map_cons, List.map_nil]); first | done | rfl | (simp only [List.length_drop, List.length_take]; rfl)) ?_; (with_reducible refine (backstepref01_truth.calls (decide (a1 < a2)) t127 _ A20.out).mono ?_); rintro e w' ⟨rfl, ⟨nd, rfl⟩⟩; refine ⟨_, rfl, ?_⟩))
                          go_ret2
                          exact ⟨by first | rfl | (simp; done) | (simp [*]; done), by repeat (first | exact Drawn0.refl _ | apply Drawn0.step)⟩
                        · rw [if_neg c19] at H
                          have c19b0 : (a0 == 18) = false := beq_eq_false_iff_ne.mpr c19
                          have c19b1 : (a0 != 18) = true := bne_iff_ne.mpr c19
                          by_cases c21 : a0 = 19
                          · rw [if_pos c21] at H
                            have c21b0 : (a0 == 19) = true := beq_iff_eq.mpr c21
                            have c21b1 : (a0 != 19) = false := bne_eq_false_iff_eq.mpr c21
                            clear c21
                            replace H := Option.bind_eq_some_iff.mp H
                            obtain ⟨t128, A220, H⟩ := H
                            replace H : (some (t128, 0)) = some (r1, r2) := H
                            have A22 := Aside0.mk A220
                            clear A220
                            simp only [Option.some.injEq, Prod.mk.injEq] at H
                            obtain ⟨rfl, rfl⟩ := H
                            go_wp2_with (first | ((with_reducible refine gate_callee (f := 30) rfl ?_); refine goesL_ (some 75) rfl rfl Try.func30 (by kernel_rfl) rfl #[.bool (decide (a1 ≤ a2))] rfl (by (try simp only [List.map_toArray, List.map_cons, List.map_nil]); first | done | rfl | (simp only [List.length_drop, List.length_take]; rfl)) ?_; (with_reducible refine (backstepref01_truth.calls (decide (a1 ≤ a2)) t128 _ A22.out).mono ?_); rintro e w' ⟨rfl, ⟨nd, rfl⟩⟩; refine ⟨_, rfl, ?_⟩))
                            go_ret2
                            exact ⟨by first | rfl | (simp; done) | (simp [*]; done), by repeat (first | exact Drawn0.refl _ | apply Drawn0.step)⟩
                          · rw [if_neg c21] at H
                            have c21b0 : (a0 == 19) = false := beq_eq_false_iff_ne.mpr c21
                            have c21b1 : (a0 != 19) = true := bne_iff_ne.mpr c21
                            by_cases c23 : a0 = 20
                            · rw [if_pos c23] at H
                              have c23b0 : (a0 == 20) = true := beq_iff_eq.mpr c23
                              have c23b1 : (a0 != 20) = false := bne_eq_false_iff_eq.mpr c23
                              clear c23
                              replace H := Option.bind_eq_some_iff.mp H
                              obtain ⟨t129, A240, H⟩ := H
                              replace H : (some (t129, 0)) = some (r1, r2) := H
                              have A24 := Aside0.mk A240
                              clear A240
                              simp only [Option.some.injEq, Prod.mk.injEq] at H
                              obtain ⟨rfl, rfl⟩ := H
                              go_wp2_with (first | ((with_reducible refine gate_callee (f := 30) rfl ?_); refine goesL_ (some 81) rfl rfl Try.func30 (by kernel_rfl) rfl #[.bool (decide (a1 > a2))] rfl (by (try simp only [List.map_toArray, List.map_cons, List.map_nil]); first | done | rfl | (simp only [List.length_drop, List.length_take]; rfl)) ?_; (with_reducible refine (backstepref01_truth.calls (decide (a1 > a2)) t129 _ A24.out).mono ?_); rintro e w' ⟨rfl, ⟨nd, rfl⟩⟩; refine ⟨_, rfl, ?_⟩))
                              go_ret2
                              exact ⟨by first | rfl | (simp; done) | (simp [*]; done), by repeat (first | exact Drawn0.refl _ | apply Drawn0.step)⟩
                            · rw [if_neg c23] at H
                              have c23b0 : (a0 == 20) = false := beq_eq_false_iff_ne.mpr c23
                              have c23b1 : (a0 != 20) = true := bne_iff_ne.mpr c23
                              by_cases c25 : a0 = 21
                              · rw [if_pos c25] at H
                                have c25b0 : (a0 == 21) = true := beq_iff_eq.mpr c25
                                have c25b1 : (a0 != 21) = false := bne_eq_false_iff_eq.mpr c25
                                clear c25
                                replace H := Option.bind_eq_some_iff.mp H
                                obtain ⟨t130, A260, H⟩ := H
                                replace H : (some (t130, 0)) = some (r1, r2) := H
                                have A26 := Aside0.mk A260
                                clear A260
                                simp only [Option.some.injEq, Prod.mk.injEq] at H
                                obtain ⟨rfl, rfl⟩ := H
                                go_wp2_with (first | ((with_reducible refine gate_callee (f := 30) rfl ?_); refine goesL_ (some 87) rfl rfl Try.func30 (by kernel_rfl) rfl #[.bool (decide (a1 ≥ a2))] rfl (by (try simp only [List.map_toArray, List.map_cons, List.map_nil]); first | done | rfl | (simp only [List.length_drop, List.length_take]; rfl)) ?_; (with_reducible refine (backstepref01_truth.calls (decide (a1 ≥ a2)) t130 _ A26.out).mono ?_); rintro e w' ⟨rfl, ⟨nd, rfl⟩⟩; refine ⟨_, rfl, ?_⟩))
                                go_ret2
                                exact ⟨by first | rfl | (simp; done) | (simp [*]; done), by repeat (first | exact Drawn0.refl _ | apply Drawn0.step)⟩
                              · rw [if_neg c25] at H
                                have c25b0 : (a0 == 21) = false := beq_eq_false_iff_ne.mpr c25
                                have c25b1 : (a0 != 21) = true := bne_iff_ne.mpr c25
                                by_cases c27 : a0 = 22
                                · rw [if_pos c27] at H
                                  have c27b0 : (a0 == 22) = true := beq_iff_eq.mpr c27
                                  have c27b1 : (a0 != 22) = false := bne_eq_false_iff_eq.mpr c27
                                  clear c27
                                  by_cases c28 : a1 = 0
                                  · rw [if_pos c28] at H
                                    have c28b0 : (a1 == 0) = true := beq_iff_eq.mpr c28
                                    have c28b1 : (a1 != 0) = false := bne_eq_false_iff_eq.mpr c28
                                    clear c28
                                    replace H := Option.bind_eq_some_iff.mp H
                                    obtain ⟨t131, A290, H⟩ := H
                                    replace H : (some (t131, 0)) = some (r1, r2) := H
                                    have A29 := Aside0.mk A290
                                    clear A290
                                    simp only [Option.some.injEq, Prod.mk.injEq] at H
                                    obtain ⟨rfl, rfl⟩ := H
                                    go_wp2_with (first | ((with_reducible refine gate_callee (f := 30) rfl ?_); refine goesL_ (some 96) rfl rfl Try.func30 (by kernel_rfl) rfl #[.bool false] rfl (by (try simp only [List.map_toArray, List.map_cons, List.map_nil]); first | done | rfl | (simp only [List.length_drop, List.length_take]; rfl)) ?_; (with_reducible refine (backstepref01_truth.calls false t131 _ A29.out).mono ?_); rintro e w' ⟨rfl, ⟨nd, rfl⟩⟩; refine ⟨_, rfl, ?_⟩))
                                    go_ret2
                                    exact ⟨by first | rfl | (simp; done) | (simp [*]; done), by repeat (first | exact Drawn0.refl _ | apply Drawn0.step)⟩
                                  · rw [if_neg c28] at H
                                    have c28b0 : (a1 == 0) = false := beq_eq_false_iff_ne.mpr c28
                                    have c28b1 : (a1 != 0) = true := bne_iff_ne.mpr c28
                                    replace H := Option.bind_eq_some_iff.mp H
                                    obtain ⟨t132, A300, H⟩ := H
                                    replace H : (some (t132, 0)) = some (r1, r2) := H
                                    have A30 := Aside0.mk A300
                                    clear A300
                                    simp only [Option.some.injEq, Prod.mk.injEq] at H
                                    obtain ⟨rfl, rfl⟩ := H
                                    go_wp2_with (first | ((with_reducible refine gate_callee (f := 30) rfl ?_); refine goesL_ (some 96) rfl rfl Try.func30 (by kernel_rfl) rfl #[.bool (a2 != 0)] rfl (by (try simp only [List.map_toArray, List.map_cons, List.map_nil]); first | done | rfl | (simp only [List.length_drop, List.length_take]; rfl)) ?_; (with_reducible refine (backstepref01_truth.calls (a2 != 0) t132 _ A30.out).mono ?_); rintro e w' ⟨rfl, ⟨nd, rfl⟩⟩; refine ⟨_, rfl, ?_⟩))
                                    go_ret2
                                    exact ⟨by first | rfl | (simp; done) | (simp [*]; done), by repeat (first | exact Drawn0.refl _ | apply Drawn0.step)⟩
                                · rw [if_neg c27] at H
                                  have c27b0 : (a0 == 22) = false := beq_eq_false_iff_ne.mpr c27
                                  have c27b1 : (a0 != 22) = true := bne_iff_ne.mpr c27
                                  by_cases c31 : a0 = 23
                                  · rw [if_pos c31] at H
                                    have c31b0 : (a0 == 23) = true := beq_iff_eq.mpr c31
                                    have c31b1 : (a0 != 23) = false := bne_eq_false_iff_eq.mpr c31
                                    clear c31
                                    by_cases c32 : a1 = 0
                                    · rw [if_pos c32] at H
                                      have c32b0 : (a1 == 0) = true := beq_iff_eq.mpr c32
                                      have c32b1 : (a1 != 0) = false := bne_eq_false_iff_eq.mpr c32
                                      clear c32
                                      replace H := Option.bind_eq_some_iff.mp H
                                      obtain ⟨t133, A330, H⟩ := H
                                      replace H : (some (t133, 0)) = some (r1, r2) := H
                                      have A33 := Aside0.mk A330
                                      clear A330
                                      simp only [Option.some.injEq, Prod.mk.injEq] at H
                                      obtain ⟨rfl, rfl⟩ := H
                                      go_wp2_with (first | ((with_reducible refine gate_callee (f := 30) rfl ?_); refine goesL_ (some 105) rfl rfl Try.func30 (by kernel_rfl) rfl #[.bool (a2 != 0)] rfl (by (try simp only [List.map_toArray, List.map_cons, List.map_nil]); first | done | rfl | (simp only [List.length_drop, List.length_take]; rfl)) ?_; (with_reducible refine (backstepref01_truth.calls (a2 != 0) t133 _ A33.out).mono ?_); rintro e w' ⟨rfl, ⟨nd, rfl⟩⟩; refine ⟨_, rfl, ?_⟩))
                                      go_ret2
                                      exact ⟨by first | rfl | (simp; done) | (simp [*]; done), by repeat (first | exact Drawn0.refl _ | apply Drawn0.step)⟩
                                    · rw [if_neg c32] at H
                                      have c32b0 : (a1 == 0) = false := beq_eq_false_iff_ne.mpr c32
                                      have c32b1 : (a1 != 0) = true := bne_iff_ne.mpr c32
                                      replace H := Option.bind_eq_some_iff.mp H
                                      obtain ⟨t134, A340, H⟩ := H
                                      replace H : (some (t134, 0)) = some (r1, r2) := H
                                      have A34 := Aside0.mk A340
                                      clear A340
                                      simp only [Option.some.injEq, Prod.mk.injEq] at H
                                      obtain ⟨rfl, rfl⟩ := H
                                      go_wp2_with (first | ((with_reducible refine gate_callee (f := 30) rfl ?_); refine goesL_ (some 105) rfl rfl Try.func30 (by kernel_rfl) rfl #[.bool true] rfl (by (try simp only [List.map_toArray, List.map_cons, List.map_nil]); first | done | rfl | (simp only [List.length_drop, List.length_take]; rfl)) ?_; (with_reducible refine (backstepref01_truth.calls true t134 _ A34.out).mono ?_); rintro e w' ⟨rfl, ⟨nd, rfl⟩⟩; refine ⟨_, rfl, ?_⟩))
                                      go_ret2
                                      exact ⟨by first | rfl | (simp; done) | (simp [*]; done), by repeat (first | exact Drawn0.refl _ | apply Drawn0.step)⟩
                                  · rw [if_neg c31] at H
                                    have c31b0 : (a0 == 23) = false := beq_eq_false_iff_ne.mpr c31
                                    have c31b1 : (a0 != 23) = true := bne_iff_ne.mpr c31
                                    simp only [Option.some.injEq, Prod.mk.injEq] at H
                                    obtain ⟨rfl, rfl⟩ := H
                                    go_wp2
                                    go_ret2
                                    exact ⟨by first | rfl | (simp; done) | (simp [*]; done), by repeat (first | exact Drawn0.refl _ | apply Drawn0.step)⟩

/-! ### arith_entries: function 32 -/
def arith_entries.f  : Option ((List (S45))) := some (([(⟨8, (⟨#[43]⟩ : ByteArray), 7⟩ : S45), (⟨9, (⟨#[45]⟩ : ByteArray), 7⟩ : S45), (⟨10, (⟨#[42]⟩ : ByteArray), 8⟩ : S45), (⟨11, (⟨#[47]⟩ : ByteArray), 8⟩ : S45), (⟨12, (⟨#[37]⟩ : ByteArray), 8⟩ : S45), (⟨13, (⟨#[38]⟩ : ByteArray), 5⟩ : S45), (⟨14, (⟨#[124]⟩ : ByteArray), 3⟩ : S45), (⟨15, (⟨#[94]⟩ : ByteArray), 4⟩ : S45), (⟨16, (⟨#[61, 61]⟩ : ByteArray), 6⟩ : S45), (⟨17, (⟨#[33, 61]⟩ : ByteArray), 6⟩ : S45), (⟨18, (⟨#[60]⟩ : ByteArray), 6⟩ : S45), (⟨19, (⟨#[60, 61]⟩ : ByteArray), 6⟩ : S45), (⟨20, (⟨#[62]⟩ : ByteArray), 6⟩ : S45), (⟨21, (⟨#[62, 61]⟩ : ByteArray), 6⟩ : S45), (⟨22, (⟨#[38, 38]⟩ : ByteArray), 2⟩ : S45), (⟨23, (⟨#[124, 124]⟩ : ByteArray), 1⟩ : S45), (⟨6, (⟨#[45]⟩ : ByteArray), 9⟩ : S45), (⟨7, (⟨#[33]⟩ : ByteArray), 9⟩ : S45), (⟨40, (⟨#[43, 61]⟩ : ByteArray), 0⟩ : S45), (⟨41, (⟨#[45, 61]⟩ : ByteArray), 0⟩ : S45), (⟨42, (⟨#[94, 61]⟩ : ByteArray), 0⟩ : S45)] : List (S45)))
set_option maxHeartbeats 8000000 in
set_option maxRecDepth 100000 in
theorem arith_entries.calls  (r : List (S45)) (w : World) (h : arith_entries.f  = some r) :
    Calls Try.prog 32 #[] w fun e w' => ∃ v0_ : Value, e = .returned (v0_) ∧ Kd.R k45 45 w' w.heap.size (fun _ => True) v0_ r ∧ Below w.heap.size w w' := by
  have hu45 := Try.underlying45
  have HB := Aside0.mk (Below.refl w.heap.size w)
  have H : (some (([(⟨8, (⟨#[43]⟩ : ByteArray), 7⟩ : S45), (⟨9, (⟨#[45]⟩ : ByteArray), 7⟩ : S45), (⟨10, (⟨#[42]⟩ : ByteArray), 8⟩ : S45), (⟨11, (⟨#[47]⟩ : ByteArray), 8⟩ : S45), (⟨12, (⟨#[37]⟩ : ByteArray), 8⟩ : S45), (⟨13, (⟨#[38]⟩ : ByteArray), 5⟩ : S45), (⟨14, (⟨#[124]⟩ : ByteArray), 3⟩ : S45), (⟨15, (⟨#[94]⟩ : ByteArray), 4⟩ : S45), (⟨16, (⟨#[61, 61]⟩ : ByteArray), 6⟩ : S45), (⟨17, (⟨#[33, 61]⟩ : ByteArray), 6⟩ : S45), (⟨18, (⟨#[60]⟩ : ByteArray), 6⟩ : S45), (⟨19, (⟨#[60, 61]⟩ : ByteArray), 6⟩ : S45), (⟨20, (⟨#[62]⟩ : ByteArray), 6⟩ : S45), (⟨21, (⟨#[62, 61]⟩ : ByteArray), 6⟩ : S45), (⟨22, (⟨#[38, 38]⟩ : ByteArray), 2⟩ : S45), (⟨23, (⟨#[124, 124]⟩ : ByteArray), 1⟩ : S45), (⟨6, (⟨#[45]⟩ : ByteArray), 9⟩ : S45), (⟨7, (⟨#[33]⟩ : ByteArray), 9⟩ : S45), (⟨40, (⟨#[43, 61]⟩ : ByteArray), 0⟩ : S45), (⟨41, (⟨#[45, 61]⟩ : ByteArray), 0⟩ : S45), (⟨42, (⟨#[94, 61]⟩ : ByteArray), 0⟩ : S45)] : List (S45)))) = some r := h
  clear h
  obtain ⟨y135, hy135⟩ : ∃ y_ : List (S45), y_ = (([(⟨8, (⟨#[43]⟩ : ByteArray), 7⟩ : S45), (⟨9, (⟨#[45]⟩ : ByteArray), 7⟩ : S45), (⟨10, (⟨#[42]⟩ : ByteArray), 8⟩ : S45), (⟨11, (⟨#[47]⟩ : ByteArray), 8⟩ : S45), (⟨12, (⟨#[37]⟩ : ByteArray), 8⟩ : S45), (⟨13, (⟨#[38]⟩ : ByteArray), 5⟩ : S45), (⟨14, (⟨#[124]⟩ : ByteArray), 3⟩ : S45), (⟨15, (⟨#[94]⟩ : ByteArray), 4⟩ : S45), (⟨16, (⟨#[61, 61]⟩ : ByteArray), 6⟩ : S45), (⟨17, (⟨#[33, 61]⟩ : ByteArray), 6⟩ : S45), (⟨18, (⟨#[60]⟩ : ByteArray), 6⟩ : S45), (⟨19, (⟨#[60, 61]⟩ : ByteArray), 6⟩ : S45), (⟨20, (⟨#[62]⟩ : ByteArray), 6⟩ : S45), (⟨21, (⟨#[62, 61]⟩ : ByteArray), 6⟩ : S45), (⟨22, (⟨#[38, 38]⟩ : ByteArray), 2⟩ : S45), (⟨23, (⟨#[124, 124]⟩ : ByteArray), 1⟩ : S45), (⟨6, (⟨#[45]⟩ : ByteArray), 9⟩ : S45), (⟨7, (⟨#[33]⟩ : ByteArray), 9⟩ : S45), (⟨40, (⟨#[43, 61]⟩ : ByteArray), 0⟩ : S45), (⟨41, (⟨#[45, 61]⟩ : ByteArray), 0⟩ : S45), (⟨42, (⟨#[94, 61]⟩ : ByteArray), 0⟩ : S45)] : List (S45))) := ⟨_, rfl⟩
  replace H : (some y135) = some r := by first | (rw [hy135]; with_reducible exact H) | (have H2_ := (Option.bind_some _ _).symm.trans H; rw [hy135]; with_reducible exact H2_) | (have H2_ := (Option.bind_some _ _).symm.trans H; with_reducible exact H2_) | with_reducible exact H | (rw [hy135]; exact H) | exact H
  have Ny135 := Aside0.mk hy135
  clear hy135
  obtain rfl := Option.some.inj H
  go_enter Try.func32, Try.ntmps32
  go_wp2_with (first | ((with_reducible refine gate_dst (N := 22) rfl ?_); refine Kd.R_lit k45 _ 45 ?hg (N := 22) ?hd (xs := ([(⟨8, (⟨#[43]⟩ : ByteArray), 7⟩ : S45), (⟨9, (⟨#[45]⟩ : ByteArray), 7⟩ : S45), (⟨10, (⟨#[42]⟩ : ByteArray), 8⟩ : S45), (⟨11, (⟨#[47]⟩ : ByteArray), 8⟩ : S45), (⟨12, (⟨#[37]⟩ : ByteArray), 8⟩ : S45), (⟨13, (⟨#[38]⟩ : ByteArray), 5⟩ : S45), (⟨14, (⟨#[124]⟩ : ByteArray), 3⟩ : S45), (⟨15, (⟨#[94]⟩ : ByteArray), 4⟩ : S45), (⟨16, (⟨#[61, 61]⟩ : ByteArray), 6⟩ : S45), (⟨17, (⟨#[33, 61]⟩ : ByteArray), 6⟩ : S45), (⟨18, (⟨#[60]⟩ : ByteArray), 6⟩ : S45), (⟨19, (⟨#[60, 61]⟩ : ByteArray), 6⟩ : S45), (⟨20, (⟨#[62]⟩ : ByteArray), 6⟩ : S45), (⟨21, (⟨#[62, 61]⟩ : ByteArray), 6⟩ : S45), (⟨22, (⟨#[38, 38]⟩ : ByteArray), 2⟩ : S45), (⟨23, (⟨#[124, 124]⟩ : ByteArray), 1⟩ : S45), (⟨6, (⟨#[45]⟩ : ByteArray), 9⟩ : S45), (⟨7, (⟨#[33]⟩ : ByteArray), 9⟩ : S45), (⟨40, (⟨#[43, 61]⟩ : ByteArray), 0⟩ : S45), (⟨41, (⟨#[45, 61]⟩ : ByteArray), 0⟩ : S45), (⟨42, (⟨#[94, 61]⟩ : ByteArray), 0⟩ : S45)] : List (S45))) (inner := [.int .u8 8, .string (⟨#[43]⟩ : ByteArray), .int .i64 7, .int .u8 9, .string (⟨#[45]⟩ : ByteArray), .int .i64 7, .int .u8 10, .string (⟨#[42]⟩ : ByteArray), .int .i64 8, .int .u8 11, .string (⟨#[47]⟩ : ByteArray), .int .i64 8, .int .u8 12, .string (⟨#[37]⟩ : ByteArray), .int .i64 8, .int .u8 13, .string (⟨#[38]⟩ : ByteArray), .int .i64 5, .int .u8 14, .string (⟨#[124]⟩ : ByteArray), .int .i64 3, .int .u8 15, .string (⟨#[94]⟩ : ByteArray), .int .i64 4, .int .u8 16, .string (⟨#[61, 61]⟩ : ByteArray), .int .i64 6, .int .u8 17, .string (⟨#[33, 61]⟩ : ByteArray), .int .i64 6, .int .u8 18, .string (⟨#[60]⟩ : ByteArray), .int .i64 6, .int .u8 19, .string (⟨#[60, 61]⟩ : ByteArray), .int .i64 6, .int .u8 20, .string (⟨#[62]⟩ : ByteArray), .int .i64 6, .int .u8 21, .string (⟨#[62, 61]⟩ : ByteArray), .int .i64 6, .int .u8 22, .string (⟨#[38, 38]⟩ : ByteArray), .int .i64 2, .int .u8 23, .string (⟨#[124, 124]⟩ : ByteArray), .int .i64 1, .int .u8 6, .string (⟨#[45]⟩ : ByteArray), .int .i64 9, .int .u8 7, .string (⟨#[33]⟩ : ByteArray), .int .i64 9, .int .u8 40, .string (⟨#[43, 61]⟩ : ByteArray), .int .i64 0, .int .u8 41, .string (⟨#[45, 61]⟩ : ByteArray), .int .i64 0, .int .u8 42, .string (⟨#[94, 61]⟩ : ByteArray), .int .i64 0]) (ok := fun _ => True) (okp := fun _ => True) ?hr ?hp (fun _ hk => hk) trivial (Below.refl _ _) (Nat.le_refl _) (by simp) ?_; (case hd => rfl); (case hg => rfl); (case hr => first | (go_simp; done) | (go_simp; rfl)); (case hp => exact (Reps.c3 (show Kd.M k45 _ _ _ (⟨8, (⟨#[43]⟩ : ByteArray), 7⟩ : S45) [.int .u8 8, .string (⟨#[43]⟩ : ByteArray), .int .i64 7] from (k45_mkM _ _ _ (⟨8, (⟨#[43]⟩ : ByteArray), 7⟩ : S45) )) (Reps.c3 (show Kd.M k45 _ _ _ (⟨9, (⟨#[45]⟩ : ByteArray), 7⟩ : S45) [.int .u8 9, .string (⟨#[45]⟩ : ByteArray), .int .i64 7] from (k45_mkM _ _ _ (⟨9, (⟨#[45]⟩ : ByteArray), 7⟩ : S45) )) (Reps.c3 (show Kd.M k45 _ _ _ (⟨10, (⟨#[42]⟩ : ByteArray), 8⟩ : S45) [.int .u8 10, .string (⟨#[42]⟩ : ByteArray), .int .i64 8] from (k45_mkM _ _ _ (⟨10, (⟨#[42]⟩ : ByteArray), 8⟩ : S45) )) (Reps.c3 (show Kd.M k45 _ _ _ (⟨11, (⟨#[47]⟩ : ByteArray), 8⟩ : S45) [.int .u8 11, .string (⟨#[47]⟩ : ByteArray), .int .i64 8] from (k45_mkM _ _ _ (⟨11, (⟨#[47]⟩ : ByteArray), 8⟩ : S45) )) (Reps.c3 (show Kd.M k45 _ _ _ (⟨12, (⟨#[37]⟩ : ByteArray), 8⟩ : S45) [.int .u8 12, .string (⟨#[37]⟩ : ByteArray), .int .i64 8] from (k45_mkM _ _ _ (⟨12, (⟨#[37]⟩ : ByteArray), 8⟩ : S45) )) (Reps.c3 (show Kd.M k45 _ _ _ (⟨13, (⟨#[38]⟩ : ByteArray), 5⟩ : S45) [.int .u8 13, .string (⟨#[38]⟩ : ByteArray), .int .i64 5] from (k45_mkM _ _ _ (⟨13, (⟨#[38]⟩ : ByteArray), 5⟩ : S45) )) (Reps.c3 (show Kd.M k45 _ _ _ (⟨14, (⟨#[124]⟩ : ByteArray), 3⟩ : S45) [.int .u8 14, .string (⟨#[124]⟩ : ByteArray), .int .i64 3] from (k45_mkM _ _ _ (⟨14, (⟨#[124]⟩ : ByteArray), 3⟩ : S45) )) (Reps.c3 (show Kd.M k45 _ _ _ (⟨15, (⟨#[94]⟩ : ByteArray), 4⟩ : S45) [.int .u8 15, .string (⟨#[94]⟩ : ByteArray), .int .i64 4] from (k45_mkM _ _ _ (⟨15, (⟨#[94]⟩ : ByteArray), 4⟩ : S45) )) (Reps.c3 (show Kd.M k45 _ _ _ (⟨16, (⟨#[61, 61]⟩ : ByteArray), 6⟩ : S45) [.int .u8 16, .string (⟨#[61, 61]⟩ : ByteArray), .int .i64 6] from (k45_mkM _ _ _ (⟨16, (⟨#[61, 61]⟩ : ByteArray), 6⟩ : S45) )) (Reps.c3 (show Kd.M k45 _ _ _ (⟨17, (⟨#[33, 61]⟩ : ByteArray), 6⟩ : S45) [.int .u8 17, .string (⟨#[33, 61]⟩ : ByteArray), .int .i64 6] from (k45_mkM _ _ _ (⟨17, (⟨#[33, 61]⟩ : ByteArray), 6⟩ : S45) )) (Reps.c3 (show Kd.M k45 _ _ _ (⟨18, (⟨#[60]⟩ : ByteArray), 6⟩ : S45) [.int .u8 18, .string (⟨#[60]⟩ : ByteArray), .int .i64 6] from (k45_mkM _ _ _ (⟨18, (⟨#[60]⟩ : ByteArray), 6⟩ : S45) )) (Reps.c3 (show Kd.M k45 _ _ _ (⟨19, (⟨#[60, 61]⟩ : ByteArray), 6⟩ : S45) [.int .u8 19, .string (⟨#[60, 61]⟩ : ByteArray), .int .i64 6] from (k45_mkM _ _ _ (⟨19, (⟨#[60, 61]⟩ : ByteArray), 6⟩ : S45) )) (Reps.c3 (show Kd.M k45 _ _ _ (⟨20, (⟨#[62]⟩ : ByteArray), 6⟩ : S45) [.int .u8 20, .string (⟨#[62]⟩ : ByteArray), .int .i64 6] from (k45_mkM _ _ _ (⟨20, (⟨#[62]⟩ : ByteArray), 6⟩ : S45) )) (Reps.c3 (show Kd.M k45 _ _ _ (⟨21, (⟨#[62, 61]⟩ : ByteArray), 6⟩ : S45) [.int .u8 21, .string (⟨#[62, 61]⟩ : ByteArray), .int .i64 6] from (k45_mkM _ _ _ (⟨21, (⟨#[62, 61]⟩ : ByteArray), 6⟩ : S45) )) (Reps.c3 (show Kd.M k45 _ _ _ (⟨22, (⟨#[38, 38]⟩ : ByteArray), 2⟩ : S45) [.int .u8 22, .string (⟨#[38, 38]⟩ : ByteArray), .int .i64 2] from (k45_mkM _ _ _ (⟨22, (⟨#[38, 38]⟩ : ByteArray), 2⟩ : S45) )) (Reps.c3 (show Kd.M k45 _ _ _ (⟨23, (⟨#[124, 124]⟩ : ByteArray), 1⟩ : S45) [.int .u8 23, .string (⟨#[124, 124]⟩ : ByteArray), .int .i64 1] from (k45_mkM _ _ _ (⟨23, (⟨#[124, 124]⟩ : ByteArray), 1⟩ : S45) )) (Reps.c3 (show Kd.M k45 _ _ _ (⟨6, (⟨#[45]⟩ : ByteArray), 9⟩ : S45) [.int .u8 6, .string (⟨#[45]⟩ : ByteArray), .int .i64 9] from (k45_mkM _ _ _ (⟨6, (⟨#[45]⟩ : ByteArray), 9⟩ : S45) )) (Reps.c3 (show Kd.M k45 _ _ _ (⟨7, (⟨#[33]⟩ : ByteArray), 9⟩ : S45) [.int .u8 7, .string (⟨#[33]⟩ : ByteArray), .int .i64 9] from (k45_mkM _ _ _ (⟨7, (⟨#[33]⟩ : ByteArray), 9⟩ : S45) )) (Reps.c3 (show Kd.M k45 _ _ _ (⟨40, (⟨#[43, 61]⟩ : ByteArray), 0⟩ : S45) [.int .u8 40, .string (⟨#[43, 61]⟩ : ByteArray), .int .i64 0] from (k45_mkM _ _ _ (⟨40, (⟨#[43, 61]⟩ : ByteArray), 0⟩ : S45) )) (Reps.c3 (show Kd.M k45 _ _ _ (⟨41, (⟨#[45, 61]⟩ : ByteArray), 0⟩ : S45) [.int .u8 41, .string (⟨#[45, 61]⟩ : ByteArray), .int .i64 0] from (k45_mkM _ _ _ (⟨41, (⟨#[45, 61]⟩ : ByteArray), 0⟩ : S45) )) (Reps.c3 (show Kd.M k45 _ _ _ (⟨42, (⟨#[94, 61]⟩ : ByteArray), 0⟩ : S45) [.int .u8 42, .string (⟨#[94, 61]⟩ : ByteArray), .int .i64 0] from (k45_mkM _ _ _ (⟨42, (⟨#[94, 61]⟩ : ByteArray), 0⟩ : S45) )) (Reps.none _ _))))))))))))))))))))))); intro v136 w1 ho2 hb hg_ hnew_; clear hg_ hnew_; (first | rw [← Ny135.out] at ho2 | (simp only [Int.reduceToNat] at ho2; rw [← Ny135.out] at ho2)); have n0_ := Aside0.mk (Kd.R_lower ho2 (below_size (by repeat (first | (with_reducible first | exact HB.out | apply below_alloc | apply pw_below_drewN | apply below_drew1) | exact HB.out)))); have n1_ := Aside0.mk (below_step (by repeat (first | (with_reducible first | exact HB.out | apply below_alloc | apply pw_below_drewN | apply below_drew1) | exact HB.out)) hb); clear HB; have HO137 := n0_; have HB := n1_; clear n0_ n1_; clear hb ho2))
  go_ret
  exact ⟨_, by first | rfl | (simp [errW_none, errW_some] <;> rfl) | (simp [*, errW_none, errW_some] <;> rfl), by (with_reducible repeat (first | apply Kd.R_alloc | apply Kd.R_drewN | apply Kd.R_drew)); exact HO137.out, by repeat (first | (with_reducible first | exact HB.out | apply below_alloc | apply pw_below_drewN | apply below_drew1) | exact HB.out)⟩

/-! ### cmp_isNaN_byte: function 52 -/
def cmp_isNaN_byte.f (a0 : Int) : Option (Bool) := some (a0 != a0)
set_option maxHeartbeats 8000000 in
set_option maxRecDepth 100000 in
theorem cmp_isNaN_byte.calls (a0 : Int) (r : Bool) (w : World) (h : cmp_isNaN_byte.f a0 = some r) :
    Calls Try.prog 52 #[.int .u8 a0] w fun e w' => e = .returned (.bool r) ∧ Drawn0 w w' := by
  have H : (some (a0 != a0)) = some r := h
  clear h
  obtain rfl := Option.some.inj H
  go_enter Try.func52, Try.ntmps52
  go_wp2
  go_ret
  exact ⟨by first | rfl | (simp; done) | (simp [*]; done), by repeat (first | exact Drawn0.refl _ | apply Drawn0.step)⟩

/-! ### cmp_Less_byte: function 42 -/
def cmp_Less_byte.f (a0 : Int) (a1 : Int) : Option (Bool) := (cmp_isNaN_byte.f a0).bind fun t138 => (if t138 = true then ((cmp_isNaN_byte.f a1).bind fun t139 => (if t139 = true then (some (decide (a0 < a1))) else (some true))) else (some (decide (a0 < a1))))
set_option maxHeartbeats 8000000 in
set_option maxRecDepth 100000 in
theorem cmp_Less_byte.calls (a0 : Int) (a1 : Int) (r : Bool) (w : World) (h : cmp_Less_byte.f a0 a1 = some r) :
    Calls Try.prog 42 #[.int .u8 a0, .int .u8 a1] w fun e w' => e = .returned (.bool r) ∧ Drawn0 w w' := by
  have H : ((cmp_isNaN_byte.f a0).bind fun t138 => (if t138 = true then ((cmp_isNaN_byte.f a1).bind fun t139 => (if t139 = true then (some (decide (a0 < a1))) else (some true))) else (some (decide (a0 < a1))))) = some r := h
  clear h
  replace H := Option.bind_eq_some_iff.mp H
  obtain ⟨t138, A30, H⟩ := H
  replace H : (if t138 = true then ((cmp_isNaN_byte.f a1).bind fun t139 => (if t139 = true then (some (decide (a0 < a1))) else (some true))) else (some (decide (a0 < a1)))) = some r := H
  have A3 := Aside0.mk A30
  clear A30
  by_cases c4 : t138 = true
  · subst c4
    have H1 : ((cmp_isNaN_byte.f a1).bind fun t139 => (if t139 = true then (some (decide (a0 < a1))) else (some true))) = some r := by rw [if_pos rfl] at H; exact H
    clear H
    have H := H1
    clear H1
    replace H := Option.bind_eq_some_iff.mp H
    obtain ⟨t139, A50, H⟩ := H
    replace H : (if t139 = true then (some (decide (a0 < a1))) else (some true)) = some r := H
    have A5 := Aside0.mk A50
    clear A50
    by_cases c6 : t139 = true
    · subst c6
      have H1 : (some (decide (a0 < a1))) = some r := by rw [if_pos rfl] at H; exact H
      clear H
      have H := H1
      clear H1
      obtain rfl := Option.some.inj H
      go_enter Try.func42, Try.ntmps42
      go_wp2_with (first | ((with_reducible refine gate_callee (f := 52) rfl ?_); refine goesL_ (some 6) rfl rfl Try.func52 (by kernel_rfl) rfl #[.int .u8 a0] rfl (by (try simp only [List.map_toArray, List.map_cons, List.map_nil]); first | done | rfl | (simp only [List.length_drop, List.length_take]; rfl)) ?_; (with_reducible refine (cmp_isNaN_byte.calls a0 true _ A3.out).mono ?_); rintro e w' ⟨rfl, ⟨nd, rfl⟩⟩; refine ⟨_, rfl, ?_⟩) | (go_at_call 52; (with_reducible refine (cmp_isNaN_byte.calls a1 true _ A5.out).mono ?_); rintro e w' ⟨rfl, ⟨nd, rfl⟩⟩))
      go_ret
      exact ⟨by first | rfl | (simp; done) | (simp [*]; done), by repeat (first | exact Drawn0.refl _ | apply Drawn0.step)⟩
    · replace c6 := Bool.eq_false_iff.mpr c6
      subst c6
      have H1 : (some true) = some r := by rw [if_neg (show ¬ (false = true) by decide)] at H; exact H
      clear H
      have H := H1
      clear H1
      obtain rfl := Option.some.inj H
      go_enter Try.func42, Try.ntmps42
      go_wp2_with (first | ((with_reducible refine gate_callee (f := 52) rfl ?_); refine goesL_ (some 6) rfl rfl Try.func52 (by kernel_rfl) rfl #[.int .u8 a0] rfl (by (try simp only [List.map_toArray, List.map_cons, List.map_nil]); first | done | rfl | (simp only [List.length_drop, List.length_take]; rfl)) ?_; (with_reducible refine (cmp_isNaN_byte.calls a0 true _ A3.out).mono ?_); rintro e w' ⟨rfl, ⟨nd, rfl⟩⟩; refine ⟨_, rfl, ?_⟩) | (go_at_call 52; (with_reducible refine (cmp_isNaN_byte.calls a1 false _ A5.out).mono ?_); rintro e w' ⟨rfl, ⟨nd, rfl⟩⟩))
      go_ret
      exact ⟨by first | rfl | (simp; done) | (simp [*]; done), by repeat (first | exact Drawn0.refl _ | apply Drawn0.step)⟩
  · replace c4 := Bool.eq_false_iff.mpr c4
    subst c4
    have H1 : (some (decide (a0 < a1))) = some r := by rw [if_neg (show ¬ (false = true) by decide)] at H; exact H
    clear H
    have H := H1
    clear H1
    obtain rfl := Option.some.inj H
    go_enter Try.func42, Try.ntmps42
    go_wp2_with (first | ((with_reducible refine gate_callee (f := 52) rfl ?_); refine goesL_ (some 6) rfl rfl Try.func52 (by kernel_rfl) rfl #[.int .u8 a0] rfl (by (try simp only [List.map_toArray, List.map_cons, List.map_nil]); first | done | rfl | (simp only [List.length_drop, List.length_take]; rfl)) ?_; (with_reducible refine (cmp_isNaN_byte.calls a0 false _ A3.out).mono ?_); rintro e w' ⟨rfl, ⟨nd, rfl⟩⟩; refine ⟨_, rfl, ?_⟩))
    go_ret
    exact ⟨by first | rfl | (simp; done) | (simp [*]; done), by repeat (first | exact Drawn0.refl _ | apply Drawn0.step)⟩

end Go.Proofs.Ytnbkmmhomghlmaa.PArithOperators
