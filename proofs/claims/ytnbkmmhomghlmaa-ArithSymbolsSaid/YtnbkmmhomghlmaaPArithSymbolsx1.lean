-- PRINTED BY print.sh 35421559b90ae4d0a3588c463048766b98c2df88dd9212a6774a882060cdf62d: not written by this session
import Derived.Test.YtnbkmmhomghlmaaPArithSymbolsx0
namespace Go.Proofs.Ytnbkmmhomghlmaa.PArithSymbols
open Go.RowKit Go.Proofs.YtnbkmmhomghlmaaW.PrintWords Go.Proofs.YtnbkmmhomghlmaaW.PrintLast Go.Proofs.YtnbkmmhomghlmaaW.PrintMore
attribute [local go_sem] max2_int min2_int max_two min_two max_three min_three max_four min_four   -- for this text's walks alone
set_option linter.unusedVariables false
set_option linter.unusedSimpArgs false

/-! ### arith_divide: function 28 -/
def arith_divide.f (a0 : Int) (a1 : Int) : Option (Int × Int) := if a1 = (-1) then (some (wrap64 (-a0), 0)) else (if a1 = 0 then (none) else (some (wrap64 (Int.tdiv a0 a1), Int.tmod a0 a1)))
set_option maxHeartbeats 8000000 in
set_option maxRecDepth 100000 in
theorem arith_divide.calls (a0 : Int) (a1 : Int) (r1 : Int) (r2 : Int) (w : World) (h : arith_divide.f a0 a1 = some (r1, r2)) :
    Calls Try.prog 28 #[.int .i64 a0, .int .i64 a1] w fun e w' => e = .returned (.tuple #[.int .i64 r1, .int .i64 r2]) ∧ Drawn0 w w' := by
  have H : (if a1 = (-1) then (some (wrap64 (-a0), 0)) else (if a1 = 0 then (none) else (some (wrap64 (Int.tdiv a0 a1), Int.tmod a0 a1)))) = some (r1, r2) := h
  clear h
  by_cases c3 : a1 = (-1)
  · rw [if_pos c3] at H
    have c3b0 : (a1 == (-1)) = true := beq_iff_eq.mpr c3
    have c3b1 : (a1 != (-1)) = false := bne_eq_false_iff_eq.mpr c3
    clear c3
    simp only [Option.some.injEq, Prod.mk.injEq] at H
    obtain ⟨rfl, rfl⟩ := H
    go_enter Try.func28, Try.ntmps28
    go_wp2
    repeat (go_quiet (fail); try go_wp2)
    go_ret2
    exact ⟨by first | rfl | (simp; done) | (simp [*]; done), by repeat (first | exact Drawn0.refl _ | apply Drawn0.step)⟩
  · rw [if_neg c3] at H
    have c3b0 : (a1 == (-1)) = false := beq_eq_false_iff_ne.mpr c3
    have c3b1 : (a1 != (-1)) = true := bne_iff_ne.mpr c3
    by_cases c4 : a1 = 0
    · rw [if_pos c4] at H
      exact absurd H (by simp)
    · rw [if_neg c4] at H
      have c4b0 : (a1 == 0) = false := beq_eq_false_iff_ne.mpr c4
      have c4b1 : (a1 != 0) = true := bne_iff_ne.mpr c4
      simp only [Option.some.injEq, Prod.mk.injEq] at H
      obtain ⟨rfl, rfl⟩ := H
      go_enter Try.func28, Try.ntmps28
      go_wp2
      repeat (go_quiet (fail); try go_wp2)
      go_ret2
      exact ⟨by first | rfl | (simp; done) | (simp [*]; done), by repeat (first | exact Drawn0.refl _ | apply Drawn0.step)⟩

/-! ### arith_flag: function 29 -/
def arith_flag.f (a0 : Bool) : Option (Int) := if a0 = true then (some 1) else (some 0)
set_option maxHeartbeats 8000000 in
set_option maxRecDepth 100000 in
theorem arith_flag.calls (a0 : Bool) (r : Int) (w : World) (h : arith_flag.f a0 = some r) :
    Calls Try.prog 29 #[.bool a0] w fun e w' => e = .returned (.int .i64 r) ∧ Drawn0 w w' := by
  have H : (if a0 = true then (some 1) else (some 0)) = some r := h
  clear h
  by_cases c2 : a0 = true
  · subst c2
    have H1 : (some 1) = some r := by rw [if_pos rfl] at H; exact H
    clear H
    have H := H1
    clear H1
    obtain rfl := Option.some.inj H
    go_enter Try.func29, Try.ntmps29
    go_wp2
    go_ret
    exact ⟨by first | rfl | (simp; done) | (simp [*]; done), by repeat (first | exact Drawn0.refl _ | apply Drawn0.step)⟩
  · replace c2 := Bool.eq_false_iff.mpr c2
    subst c2
    have H1 : (some 0) = some r := by rw [if_neg (show ¬ (false = true) by decide)] at H; exact H
    clear H
    have H := H1
    clear H1
    obtain rfl := Option.some.inj H
    go_enter Try.func29, Try.ntmps29
    go_wp2
    go_ret
    exact ⟨by first | rfl | (simp; done) | (simp [*]; done), by repeat (first | exact Drawn0.refl _ | apply Drawn0.step)⟩

/-! ### arith_Apply: function 12 -/
def arith_Apply.j0 : Nat → Int → Int → Int → Bool → Option (Int × Int)
  | 0, _, _, _, _ => none
  | k + 1, x0, x1, x2, x21 => if x21 = true then (some (0, 11)) else (if x0 = 8 then (some (wrap64 (x1 + x2), 0)) else (if x0 = 9 then (some (wrap64 (x1 - x2), 0)) else (if x0 = 10 then (some (wrap64 (x1 * x2), 0)) else (if x0 = 11 then ((arith_divide.f x1 x2).bind fun bt101 => (some (bt101.1, 0))) else (if x0 = 12 then ((arith_divide.f x1 x2).bind fun bt103 => (some (bt103.2, 0))) else (if x0 = 13 then (some (Go.bits .and .i64 x1 x2, 0)) else (if x0 = 14 then (some (Go.bits .or .i64 x1 x2, 0)) else (if x0 = 15 then (some (Go.bits .xor .i64 x1 x2, 0)) else (if x0 = 16 then ((arith_flag.f (x1 == x2)).bind fun t105 => (some (t105, 0))) else (if x0 = 17 then ((arith_flag.f (x1 != x2)).bind fun t106 => (some (t106, 0))) else (if x0 = 18 then ((arith_flag.f (decide (x1 < x2))).bind fun t107 => (some (t107, 0))) else (if x0 = 19 then ((arith_flag.f (decide (x1 ≤ x2))).bind fun t108 => (some (t108, 0))) else (if x0 = 20 then ((arith_flag.f (decide (x1 > x2))).bind fun t109 => (some (t109, 0))) else (if x0 = 21 then ((arith_flag.f (decide (x1 ≥ x2))).bind fun t110 => (some (t110, 0))) else (if x0 = 22 then (if x1 = 0 then ((arith_flag.f false).bind fun t111 => (some (t111, 0))) else ((arith_flag.f (x2 != 0)).bind fun t112 => (some (t112, 0)))) else (if x0 = 23 then (if x1 = 0 then ((arith_flag.f (x2 != 0)).bind fun t113 => (some (t113, 0))) else ((arith_flag.f true).bind fun t114 => (some (t114, 0)))) else (some (0, 7))))))))))))))))))
def arith_Apply.f (k : Nat) (a0 : Int) (a1 : Int) (a2 : Int) : Option (Int × Int) := if a0 = 11 then (arith_Apply.j0 k a0 a1 a2 (a2 == 0)) else (if a0 = 12 then (arith_Apply.j0 k a0 a1 a2 (a2 == 0)) else (arith_Apply.j0 k a0 a1 a2 false))
theorem arith_Apply.mono_l : ∀ k, (∀ y0 y1 y2 y3, LeO (arith_Apply.j0 k y0 y1 y2 y3) (arith_Apply.j0 (k + 1) y0 y1 y2 y3))
  | 0 => fun _ _ _ _ r h => by simp [arith_Apply.j0] at h
  | k + 1 => by
    have ih0 := arith_Apply.mono_l k
    · intro y0 y1 y2 y3
      unfold arith_Apply.j0
      repeat' first
      | (with_reducible exact ih0 _ _ _ _)
      | (with_reducible exact LeO.refl _)
      | (with_reducible exact LeO.none _)
      | (with_reducible refine LeO.ite ?_ ?_)
      | (with_reducible refine LeO.bind ?_ (fun _ => ?_))
      | exact ih0 _ _ _ _
      | exact LeO.none _
      | refine LeO.ite ?_ ?_
      | refine LeO.bind ?_ (fun _ => ?_)
theorem arith_Apply.mono : ∀ a0 a1 a2 k, LeO (arith_Apply.f k a0 a1 a2) (arith_Apply.f (k + 1) a0 a1 a2) := by
  intro a0 a1 a2 k
  have ih0 := arith_Apply.mono_l k
  unfold arith_Apply.f
  repeat' first
      | (with_reducible exact ih0 _ _ _ _)
      | (with_reducible exact LeO.refl _)
      | (with_reducible exact LeO.none _)
      | (with_reducible refine LeO.ite ?_ ?_)
      | (with_reducible refine LeO.bind ?_ (fun _ => ?_))
      | exact ih0 _ _ _ _
      | exact LeO.none _
      | refine LeO.ite ?_ ?_
      | refine LeO.bind ?_ (fun _ => ?_)
set_option maxHeartbeats 8000000 in
set_option maxRecDepth 100000 in
theorem arith_Apply.calls (k : Nat) (a0 : Int) (a1 : Int) (a2 : Int) (r1 : Int) (r2 : Int) (w : World) (h : arith_Apply.f k a0 a1 a2 = some (r1, r2)) :
    Calls Try.prog 12 #[.int .u8 a0, .int .i64 a1, .int .i64 a2] w fun e w' => e = .returned (.tuple #[.int .i64 r1, .int .i64 r2]) ∧ Drawn0 w w' := by
  have H : (if a0 = 11 then (arith_Apply.j0 k a0 a1 a2 (a2 == 0)) else (if a0 = 12 then (arith_Apply.j0 k a0 a1 a2 (a2 == 0)) else (arith_Apply.j0 k a0 a1 a2 false))) = some (r1, r2) := h
  clear h
  have HC4 := Aside0.mk H
  clear H
  go_enter Try.func12, Try.ntmps12
  go_upto_region 1 with (fail)
  go_cut [21] (fun v21 wc => ∃ (kq : Nat) (x21_3 : Bool), v21 = .bool x21_3 ∧ Aside0 (arith_Apply.j0 kq a0 a1 a2 x21_3 = some (r1, r2)) ∧ Aside0 (kq ≤ k) ∧ Drawn0 w wc)
  case first =>
    have H := HC4.out
    clear HC4
    by_cases c5 : a0 = 11
    · rw [if_pos c5] at H
      have c5b0 : (a0 == 11) = true := beq_iff_eq.mpr c5
      have c5b1 : (a0 != 11) = false := bne_eq_false_iff_eq.mpr c5
      clear c5
      (first | rw [c5b0] | (simp only [i64_w, i32_w]; rw [c5b0]) | skip)
      have H' := Aside0.mk H
      clear H
      go_wp2
      go_meet
      case rel => exact ⟨_, ((a2 == 0)), (by first | rfl | (simp; done) | (simp [*]; done)), H', ⟨by first | omega | exact Nat.le_refl _⟩, by repeat (first | exact Drawn0.refl _ | apply Drawn0.step)⟩
    · rw [if_neg c5] at H
      have c5b0 : (a0 == 11) = false := beq_eq_false_iff_ne.mpr c5
      have c5b1 : (a0 != 11) = true := bne_iff_ne.mpr c5
      (first | rw [c5b0] | (simp only [i64_w, i32_w]; rw [c5b0]) | skip)
      by_cases c6 : a0 = 12
      · rw [if_pos c6] at H
        have c6b0 : (a0 == 12) = true := beq_iff_eq.mpr c6
        have c6b1 : (a0 != 12) = false := bne_eq_false_iff_eq.mpr c6
        clear c6
        have H' := Aside0.mk H
        clear H
        go_wp2
        go_meet
        case rel => exact ⟨_, ((a2 == 0)), (by first | rfl | (simp; done) | (simp [*]; done)), H', ⟨by first | omega | exact Nat.le_refl _⟩, by repeat (first | exact Drawn0.refl _ | apply Drawn0.step)⟩
      · rw [if_neg c6] at H
        have c6b0 : (a0 == 12) = false := beq_eq_false_iff_ne.mpr c6
        have c6b1 : (a0 != 12) = true := bne_iff_ne.mpr c6
        have H' := Aside0.mk H
        clear H
        go_wp2
        go_meet
        case rel => exact ⟨_, (false), (by first | rfl | (simp; done) | (simp [*]; done)), H', ⟨by first | omega | exact Nat.le_refl _⟩, by repeat (first | exact Drawn0.refl _ | apply Drawn0.step)⟩
  case rest =>
    clear HC4
    try clear c1
    try clear p2
    try clear c5
    try clear c5b0
    try clear c5b1
    try clear c6
    try clear c6b0
    try clear c6b1
    obtain ⟨kq, x21_3, rfl, HA, HJ3, ⟨mc3, rfl⟩⟩ := hcut
    cases kq with
    | zero => exact absurd HA.out (by simp [arith_Apply.j0])
    | succ kj3 =>
      have H := HA.out
      clear HA
      simp only [arith_Apply.j0] at H
      by_cases c7 : x21_3 = true
      · subst c7
        have H1 : (some (0, 11)) = some (r1, r2) := by rw [if_pos rfl] at H; exact H
        clear H
        have H := H1
        clear H1
        simp only [Option.some.injEq, Prod.mk.injEq] at H
        obtain ⟨rfl, rfl⟩ := H
        go_wp2
        go_ret2
        exact ⟨by first | rfl | (simp; done) | (simp [*]; done), by repeat (first | exact Drawn0.refl _ | apply Drawn0.step)⟩
      · replace c7 := Bool.eq_false_iff.mpr c7
        subst c7
        have H1 : (if a0 = 8 then (some (wrap64 (a1 + a2), 0)) else (if a0 = 9 then (some (wrap64 (a1 - a2), 0)) else (if a0 = 10 then (some (wrap64 (a1 * a2), 0)) else (if a0 = 11 then ((arith_divide.f a1 a2).bind fun bt101 => (some (bt101.1, 0))) else (if a0 = 12 then ((arith_divide.f a1 a2).bind fun bt103 => (some (bt103.2, 0))) else (if a0 = 13 then (some (Go.bits .and .i64 a1 a2, 0)) else (if a0 = 14 then (some (Go.bits .or .i64 a1 a2, 0)) else (if a0 = 15 then (some (Go.bits .xor .i64 a1 a2, 0)) else (if a0 = 16 then ((arith_flag.f (a1 == a2)).bind fun t105 => (some (t105, 0))) else (if a0 = 17 then ((arith_flag.f (a1 != a2)).bind fun t106 => (some (t106, 0))) else (if a0 = 18 then ((arith_flag.f (decide (a1 < a2))).bind fun t107 => (some (t107, 0))) else (if a0 = 19 then ((arith_flag.f (decide (a1 ≤ a2))).bind fun t108 => (some (t108, 0))) else (if a0 = 20 then ((arith_flag.f (decide (a1 > a2))).bind fun t109 => (some (t109, 0))) else (if a0 = 21 then ((arith_flag.f (decide (a1 ≥ a2))).bind fun t110 => (some (t110, 0))) else (if a0 = 22 then (if a1 = 0 then ((arith_flag.f false).bind fun t111 => (some (t111, 0))) else ((arith_flag.f (a2 != 0)).bind fun t112 => (some (t112, 0)))) else (if a0 = 23 then (if a1 = 0 then ((arith_flag.f (a2 != 0)).bind fun t113 => (some (t113, 0))) else ((arith_flag.f true).bind fun t114 => (some (t114, 0)))) else (some (0, 7)))))))))))))))))) = some (r1, r2) := by rw [if_neg (show ¬ (false = true) by decide)] at H; exact H
        clear H
        have H := H1
        clear H1
        by_cases c8 : a0 = 8
        · rw [if_pos c8] at H
          have c8b0 : (a0 == 8) = true := beq_iff_eq.mpr c8
          have c8b1 : (a0 != 8) = false := bne_eq_false_iff_eq.mpr c8
          clear c8
          simp only [Option.some.injEq, Prod.mk.injEq] at H
          obtain ⟨rfl, rfl⟩ := H
          go_wp2
          go_ret2
          exact ⟨by first | rfl | (simp; done) | (simp [*]; done), by repeat (first | exact Drawn0.refl _ | apply Drawn0.step)⟩
        · rw [if_neg c8] at H
          have c8b0 : (a0 == 8) = false := beq_eq_false_iff_ne.mpr c8
          have c8b1 : (a0 != 8) = true := bne_iff_ne.mpr c8
          by_cases c9 : a0 = 9
          · rw [if_pos c9] at H
            have c9b0 : (a0 == 9) = true := beq_iff_eq.mpr c9
            have c9b1 : (a0 != 9) = false := bne_eq_false_iff_eq.mpr c9
            clear c9
            simp only [Option.some.injEq, Prod.mk.injEq] at H
            obtain ⟨rfl, rfl⟩ := H
            go_wp2
            go_ret2
            exact ⟨by first | rfl | (simp; done) | (simp [*]; done), by repeat (first | exact Drawn0.refl _ | apply Drawn0.step)⟩
          · rw [if_neg c9] at H
            have c9b0 : (a0 == 9) = false := beq_eq_false_iff_ne.mpr c9
            have c9b1 : (a0 != 9) = true := bne_iff_ne.mpr c9
            by_cases c10 : a0 = 10
            · rw [if_pos c10] at H
              have c10b0 : (a0 == 10) = true := beq_iff_eq.mpr c10
              have c10b1 : (a0 != 10) = false := bne_eq_false_iff_eq.mpr c10
              clear c10
              simp only [Option.some.injEq, Prod.mk.injEq] at H
              obtain ⟨rfl, rfl⟩ := H
              go_wp2
              go_ret2
              exact ⟨by first | rfl | (simp; done) | (simp [*]; done), by repeat (first | exact Drawn0.refl _ | apply Drawn0.step)⟩
            · rw [if_neg c10] at H
              have c10b0 : (a0 == 10) = false := beq_eq_false_iff_ne.mpr c10
              have c10b1 : (a0 != 10) = true := bne_iff_ne.mpr c10
              by_cases c11 : a0 = 11
              · rw [if_pos c11] at H
                have c11b0 : (a0 == 11) = true := beq_iff_eq.mpr c11
                have c11b1 : (a0 != 11) = false := bne_eq_false_iff_eq.mpr c11
                clear c11
                replace H := Option.bind_eq_some_iff.mp H
                obtain ⟨⟨t101, t102⟩, A120, H⟩ := H
                replace H : (some (t101, 0)) = some (r1, r2) := H
                have A12 := Aside0.mk A120
                clear A120
                simp only [Option.some.injEq, Prod.mk.injEq] at H
                obtain ⟨rfl, rfl⟩ := H
                go_wp2_with (first | ((with_reducible refine gate_callee (f := 28) rfl ?_); refine goesL_ (some 43) rfl rfl Try.func28 (by kernel_rfl) rfl #[.int .i64 a1, .int .i64 a2] rfl (by (try simp only [List.map_toArray, List.map_cons, List.map_nil]); first | done | rfl | (simp only [List.length_drop, List.length_take]; rfl)) ?_; (with_reducible refine (arith_divide.calls a1 a2 t101 t102 _ A12.out).mono ?_); rintro e w' ⟨rfl, ⟨nd, rfl⟩⟩; refine ⟨_, rfl, ?_⟩))
                go_ret2
                exact ⟨by first | rfl | (simp; done) | (simp [*]; done), by repeat (first | exact Drawn0.refl _ | apply Drawn0.step)⟩
              · rw [if_neg c11] at H
                have c11b0 : (a0 == 11) = false := beq_eq_false_iff_ne.mpr c11
                have c11b1 : (a0 != 11) = true := bne_iff_ne.mpr c11
                by_cases c13 : a0 = 12
                · rw [if_pos c13] at H
                  have c13b0 : (a0 == 12) = true := beq_iff_eq.mpr c13
                  have c13b1 : (a0 != 12) = false := bne_eq_false_iff_eq.mpr c13
                  clear c13
                  replace H := Option.bind_eq_some_iff.mp H
                  obtain ⟨⟨t103, t104⟩, A140, H⟩ := H
                  replace H : (some (t104, 0)) = some (r1, r2) := H
                  have A14 := Aside0.mk A140
                  clear A140
                  simp only [Option.some.injEq, Prod.mk.injEq] at H
                  obtain ⟨rfl, rfl⟩ := H
                  go_wp2_with (first | ((with_reducible refine gate_callee (f := 28) rfl ?_); refine goesL_ (some 52) rfl rfl Try.func28 (by kernel_rfl) rfl #[.int .i64 a1, .int .i64 a2] rfl (by (try simp only [List.map_toArray, List.map_cons, List.map_nil]); first | done | rfl | (simp only [List.length_drop, List.length_take]; rfl)) ?_; (with_reducible refine (arith_divide.calls a1 a2 t103 t104 _ A14.out).mono ?_); rintro e w' ⟨rfl, ⟨nd, rfl⟩⟩; refine ⟨_, rfl, ?_⟩))
                  go_ret2
                  exact ⟨by first | rfl | (simp; done) | (simp [*]; done), by repeat (first | exact Drawn0.refl _ | apply Drawn0.step)⟩
                · rw [if_neg c13] at H
                  have c13b0 : (a0 == 12) = false := beq_eq_false_iff_ne.mpr c13
                  have c13b1 : (a0 != 12) = true := bne_iff_ne.mpr c13
                  by_cases c15 : a0 = 13
                  · rw [if_pos c15] at H
                    have c15b0 : (a0 == 13) = true := beq_iff_eq.mpr c15
                    have c15b1 : (a0 != 13) = false := bne_eq_false_iff_eq.mpr c15
                    clear c15
                    simp only [Option.some.injEq, Prod.mk.injEq] at H
                    obtain ⟨rfl, rfl⟩ := H
                    go_wp2
                    go_ret2
                    exact ⟨by first | rfl | (simp; done) | (simp [*]; done), by repeat (first | exact Drawn0.refl _ | apply Drawn0.step)⟩
                  · rw [if_neg c15] at H
                    have c15b0 : (a0 == 13) = false := beq_eq_false_iff_ne.mpr c15
                    have c15b1 : (a0 != 13) = true := bne_iff_ne.mpr c15
                    by_cases c16 : a0 = 14
                    · rw [if_pos c16] at H
                      have c16b0 : (a0 == 14) = true := beq_iff_eq.mpr c16
                      have c16b1 : (a0 != 14) = false := bne_eq_false_iff_eq.mpr c16
                      clear c16
                      simp only [Option.some.injEq, Prod.mk.injEq] at H
                      obtain ⟨rfl, rfl⟩ := H
                      go_wp2
                      go_ret2
                      exact ⟨by first | rfl | (simp; done) | (simp [*]; done), by repeat (first | exact Drawn0.refl _ | apply Drawn0.step)⟩
                    · rw [if_neg c16] at H
                      have c16b0 : (a0 == 14) = false := beq_eq_false_iff_ne.mpr c16
                      have c16b1 : (a0 != 14) = true := bne_iff_ne.mpr c16
                      by_cases c17 : a0 = 15
                      · rw [if_pos c17] at H
                        have c17b0 : (a0 == 15) = true := beq_iff_eq.mpr c17
                        have c17b1 : (a0 != 15) = false := bne_eq_false_iff_eq.mpr c17
                        clear c17
                        simp only [Option.some.injEq, Prod.mk.injEq] at H
                        obtain ⟨rfl, rfl⟩ := H
                        go_wp2
                        go_ret2
                        exact ⟨by first | rfl | (simp; done) | (simp [*]; done), by repeat (first | exact Drawn0.refl _ | apply Drawn0.step)⟩
                      · rw [if_neg c17] at H
                        have c17b0 : (a0 == 15) = false := beq_eq_false_iff_ne.mpr c17
                        have c17b1 : (a0 != 15) = true := bne_iff_ne.mpr c17
                        by_cases c18 : a0 = 16
                        · rw [if_pos c18] at H
                          have c18b0 : (a0 == 16) = true := beq_iff_eq.mpr c18
                          have c18b1 : (a0 != 16) = false := bne_eq_false_iff_eq.mpr c18
                          clear c18
                          replace H := Option.bind_eq_some_iff.mp H
                          obtain ⟨t105, A190, H⟩ := H
                          replace H : (some (t105, 0)) = some (r1, r2) := H
                          have A19 := Aside0.mk A190
                          clear A190
                          simp only [Option.some.injEq, Prod.mk.injEq] at H
                          obtain ⟨rfl, rfl⟩ := H
                          go_wp2_with (first | ((with_reducible refine gate_callee (f := 29) rfl ?_); refine goesL_ (some 76) rfl rfl Try.func29 (by kernel_rfl) rfl #[.bool (a1 == a2)] rfl (by (try simp only [List.map_toArray, List.map_cons, List.map_nil]); first | done | rfl | (simp only [List.length_drop, List.length_take]; rfl)) ?_; (with_reducible refine (arith_flag.calls (a1 == a2) t105 _ A19.out).mono ?_); rintro e w' ⟨rfl, ⟨nd, rfl⟩⟩; refine ⟨_, rfl, ?_⟩))
                          go_ret2
                          exact ⟨by first | rfl | (simp; done) | (simp [*]; done), by repeat (first | exact Drawn0.refl _ | apply Drawn0.step)⟩
                        · rw [if_neg c18] at H
                          have c18b0 : (a0 == 16) = false := beq_eq_false_iff_ne.mpr c18
                          have c18b1 : (a0 != 16) = true := bne_iff_ne.mpr c18
                          by_cases c20 : a0 = 17
                          · rw [if_pos c20] at H
                            have c20b0 : (a0 == 17) = true := beq_iff_eq.mpr c20
                            have c20b1 : (a0 != 17) = false := bne_eq_false_iff_eq.mpr c20
                            clear c20
                            replace H := Option.bind_eq_some_iff.mp H
                            obtain ⟨t106, A210, H⟩ := H
                            replace H : (some (t106, 0)) = some (r1, r2) := H
                            have A21 := Aside0.mk A210
                            clear A210
                            simp only [Option.some.injEq, Prod.mk.injEq] at H
                            obtain ⟨rfl, rfl⟩ := H
                            go_wp2_with (first | ((with_reducible refine gate_callee (f := 29) rfl ?_); refine goesL_ (some 82) rfl rfl Try.func29 (by kernel_rfl) rfl #[.bool (a1 != a2)] rfl (by (try simp only [List.map_toArray, List.map_cons, List.map_nil]); first | done | rfl | (simp only [List.length_drop, List.length_take]; rfl)) ?_; (with_reducible refine (arith_flag.calls (a1 != a2) t106 _ A21.out).mono ?_); rintro e w' ⟨rfl, ⟨nd, rfl⟩⟩; refine ⟨_, rfl, ?_⟩))
                            go_ret2
                            exact ⟨by first | rfl | (simp; done) | (simp [*]; done), by repeat (first | exact Drawn0.refl _ | apply Drawn0.step)⟩
                          · rw [if_neg c20] at H
                            have c20b0 : (a0 == 17) = false := beq_eq_false_iff_ne.mpr c20
                            have c20b1 : (a0 != 17) = true := bne_iff_ne.mpr c20
                            by_cases c22 : a0 = 18
                            · rw [if_pos c22] at H
                              have c22b0 : (a0 == 18) = true := beq_iff_eq.mpr c22
                              have c22b1 : (a0 != 18) = false := bne_eq_false_iff_eq.mpr c22
                              clear c22
                              replace H := Option.bind_eq_some_iff.mp H
                              obtain ⟨t107, A230, H⟩ := H
                              replace H : (some (t107, 0)) = some (r1, r2) := H
                              have A23 := Aside0.mk A230
                              clear A230
                              simp only [Option.some.injEq, Prod.mk.injEq] at H
                              obtain ⟨rfl, rfl⟩ := H
                              go_wp2_with (first | ((with_reducible refine gate_callee (f := 29) rfl ?_); refine goesL_ (some 88) rfl rfl Try.func29 (by kernel_rfl) rfl #[.bool (decide (a1 < a2))] rfl (by (try simp only [List.map_toArray, List.map_cons, List.map_nil]); first | done | rfl | (simp only [List.length_drop, List.length_take]; rfl)) ?_; (with_reducible refine (arith_flag.calls (decide (a1 < a2)) t107 _ A23.out).mono ?_); rintro e w' ⟨rfl, ⟨nd, rfl⟩⟩; refine ⟨_, rfl, ?_⟩))
                              go_ret2
                              exact ⟨by first | rfl | (simp; done) | (simp [*]; done), by repeat (first | exact Drawn0.refl _ | apply Drawn0.step)⟩
                            · rw [if_neg c22] at H
                              have c22b0 : (a0 == 18) = false := beq_eq_false_iff_ne.mpr c22
                              have c22b1 : (a0 != 18) = true := bne_iff_ne.mpr c22
                              by_cases c24 : a0 = 19
                              · rw [if_pos c24] at H
                                have c24b0 : (a0 == 19) = true := beq_iff_eq.mpr c24
                                have c24b1 : (a0 != 19) = false := bne_eq_false_iff_eq.mpr c24
                                clear c24
                                replace H := Option.bind_eq_some_iff.mp H
                                obtain ⟨t108, A250, H⟩ := H
                                replace H : (some (t108, 0)) = some (r1, r2) := H
                                have A25 := Aside0.mk A250
                                clear A250
                                simp only [Option.some.injEq, Prod.mk.injEq] at H
                                obtain ⟨rfl, rfl⟩ := H
                                go_wp2_with (first | ((with_reducible refine gate_callee (f := 29) rfl ?_); refine goesL_ (some 94) rfl rfl Try.func29 (by kernel_rfl) rfl #[.bool (decide (a1 ≤ a2))] rfl (by (try simp only [List.map_toArray, List.map_cons, List.map_nil]); first | done | rfl | (simp only [List.length_drop, List.length_take]; rfl)) ?_; (with_reducible refine (arith_flag.calls (decide (a1 ≤ a2)) t108 _ A25.out).mono ?_); rintro e w' ⟨rfl, ⟨nd, rfl⟩⟩; refine ⟨_, rfl, ?_⟩))
                                go_ret2
                                exact ⟨by first | rfl | (simp; done) | (simp [*]; done), by repeat (first | exact Drawn0.refl _ | apply Drawn0.step)⟩
                              · rw [if_neg c24] at H
                                have c24b0 : (a0 == 19) = false := beq_eq_false_iff_ne.mpr c24
                                have c24b1 : (a0 != 19) = true := bne_iff_ne.mpr c24
                                by_cases c26 : a0 = 20
                                · rw [if_pos c26] at H
                                  have c26b0 : (a0 == 20) = true := beq_iff_eq.mpr c26
                                  have c26b1 : (a0 != 20) = false := bne_eq_false_iff_eq.mpr c26
                                  clear c26
                                  replace H := Option.bind_eq_some_iff.mp H
                                  obtain ⟨t109, A270, H⟩ := H
                                  replace H : (some (t109, 0)) = some (r1, r2) := H
                                  have A27 := Aside0.mk A270
                                  clear A270
                                  simp only [Option.some.injEq, Prod.mk.injEq] at H
                                  obtain ⟨rfl, rfl⟩ := H
                                  go_wp2_with (first | ((with_reducible refine gate_callee (f := 29) rfl ?_); refine goesL_ (some 100) rfl rfl Try.func29 (by kernel_rfl) rfl #[.bool (decide (a1 > a2))] rfl (by (try simp only [List.map_toArray, List.map_cons, List.map_nil]); first | done | rfl | (simp only [List.length_drop, List.length_take]; rfl)) ?_; (with_reducible refine (arith_flag.calls (decide (a1 > a2)) t109 _ A27.out).mono ?_); rintro e w' ⟨rfl, ⟨nd, rfl⟩⟩; refine ⟨_, rfl, ?_⟩))
                                  go_ret2
                                  exact ⟨by first | rfl | (simp; done) | (simp [*]; done), by repeat (first | exact Drawn0.refl _ | apply Drawn0.step)⟩
                                · rw [if_neg c26] at H
                                  have c26b0 : (a0 == 20) = false := beq_eq_false_iff_ne.mpr c26
                                  have c26b1 : (a0 != 20) = true := bne_iff_ne.mpr c26
                                  by_cases c28 : a0 = 21
                                  · rw [if_pos c28] at H
                                    have c28b0 : (a0 == 21) = true := beq_iff_eq.mpr c28
                                    have c28b1 : (a0 != 21) = false := bne_eq_false_iff_eq.mpr c28
                                    clear c28
                                    replace H := Option.bind_eq_some_iff.mp H
                                    obtain ⟨t110, A290, H⟩ := H
                                    replace H : (some (t110, 0)) = some (r1, r2) := H
                                    have A29 := Aside0.mk A290
                                    clear A290
                                    simp only [Option.some.injEq, Prod.mk.injEq] at H
                                    obtain ⟨rfl, rfl⟩ := H
                                    go_wp2_with (first | ((with_reducible refine gate_callee (f := 29) rfl ?_); refine goesL_ (some 106) rfl rfl Try.func29 (by kernel_rfl) rfl #[.bool (decide (a1 ≥ a2))] rfl (by (try simp only [List.map_toArray, List.map_cons, List.map_nil]); first | done | rfl | (simp only [List.length_drop, List.length_take]; rfl)) ?_; (with_reducible refine (arith_flag.calls (decide (a1 ≥ a2)) t110 _ A29.out).mono ?_); rintro e w' ⟨rfl, ⟨nd, rfl⟩⟩; refine ⟨_, rfl, ?_⟩))
                                    go_ret2
                                    exact ⟨by first | rfl | (simp; done) | (simp [*]; done), by repeat (first | exact Drawn0.refl _ | apply Drawn0.step)⟩
                                  · rw [if_neg c28] at H
                                    have c28b0 : (a0 == 21) = false := beq_eq_false_iff_ne.mpr c28
                                    have c28b1 : (a0 != 21) = true := bne_iff_ne.mpr c28
                                    by_cases c30 : a0 = 22
                                    · rw [if_pos c30] at H
                                      have c30b0 : (a0 == 22) = true := beq_iff_eq.mpr c30
                                      have c30b1 : (a0 != 22) = false := bne_eq_false_iff_eq.mpr c30
                                      clear c30
                                      by_cases c31 : a1 = 0
                                      · rw [if_pos c31] at H
                                        have c31b0 : (a1 == 0) = true := beq_iff_eq.mpr c31
                                        have c31b1 : (a1 != 0) = false := bne_eq_false_iff_eq.mpr c31
                                        clear c31
                                        replace H := Option.bind_eq_some_iff.mp H
                                        obtain ⟨t111, A320, H⟩ := H
                                        replace H : (some (t111, 0)) = some (r1, r2) := H
                                        have A32 := Aside0.mk A320
                                        clear A320
                                        simp only [Option.some.injEq, Prod.mk.injEq] at H
                                        obtain ⟨rfl, rfl⟩ := H
                                        go_wp2_with (first | ((with_reducible refine gate_callee (f := 29) rfl ?_); refine goesL_ (some 115) rfl rfl Try.func29 (by kernel_rfl) rfl #[.bool false] rfl (by (try simp only [List.map_toArray, List.map_cons, List.map_nil]); first | done | rfl | (simp only [List.length_drop, List.length_take]; rfl)) ?_; (with_reducible refine (arith_flag.calls false t111 _ A32.out).mono ?_); rintro e w' ⟨rfl, ⟨nd, rfl⟩⟩; refine ⟨_, rfl, ?_⟩))
                                        go_ret2
                                        exact ⟨by first | rfl | (simp; done) | (simp [*]; done), by repeat (first | exact Drawn0.refl _ | apply Drawn0.step)⟩
                                      · rw [if_neg c31] at H
                                        have c31b0 : (a1 == 0) = false := beq_eq_false_iff_ne.mpr c31
                                        have c31b1 : (a1 != 0) = true := bne_iff_ne.mpr c31
                                        replace H := Option.bind_eq_some_iff.mp H
                                        obtain ⟨t112, A330, H⟩ := H
                                        replace H : (some (t112, 0)) = some (r1, r2) := H
                                        have A33 := Aside0.mk A330
                                        clear A330
                                        simp only [Option.some.injEq, Prod.mk.injEq] at H
                                        obtain ⟨rfl, rfl⟩ := H
                                        go_wp2_with (first | ((with_reducible refine gate_callee (f := 29) rfl ?_); refine goesL_ (some 115) rfl rfl Try.func29 (by kernel_rfl) rfl #[.bool (a2 != 0)] rfl (by (try simp only [List.map_toArray, List.map_cons, List.map_nil]); first | done | rfl | (simp only [List.length_drop, List.length_take]; rfl)) ?_; (with_reducible refine (arith_flag.calls (a2 != 0) t112 _ A33.out).mono ?_); rintro e w' ⟨rfl, ⟨nd, rfl⟩⟩; refine ⟨_, rfl, ?_⟩))
                                        go_ret2
                                        exact ⟨by first | rfl | (simp; done) | (simp [*]; done), by repeat (first | exact Drawn0.refl _ | apply Drawn0.step)⟩
                                    · rw [if_neg c30] at H
                                      have c30b0 : (a0 == 22) = false := beq_eq_false_iff_ne.mpr c30
                                      have c30b1 : (a0 != 22) = true := bne_iff_ne.mpr c30
                                      by_cases c34 : a0 = 23
                                      · rw [if_pos c34] at H
                                        have c34b0 : (a0 == 23) = true := beq_iff_eq.mpr c34
                                        have c34b1 : (a0 != 23) = false := bne_eq_false_iff_eq.mpr c34
                                        clear c34
                                        by_cases c35 : a1 = 0
                                        · rw [if_pos c35] at H
                                          have c35b0 : (a1 == 0) = true := beq_iff_eq.mpr c35
                                          have c35b1 : (a1 != 0) = false := bne_eq_false_iff_eq.mpr c35
                                          clear c35
                                          replace H := Option.bind_eq_some_iff.mp H
                                          obtain ⟨t113, A360, H⟩ := H
                                          replace H : (some (t113, 0)) = some (r1, r2) := H
                                          have A36 := Aside0.mk A360
                                          clear A360
                                          simp only [Option.some.injEq, Prod.mk.injEq] at H
                                          obtain ⟨rfl, rfl⟩ := H
                                          go_wp2_with (first | ((with_reducible refine gate_callee (f := 29) rfl ?_); refine goesL_ (some 124) rfl rfl Try.func29 (by kernel_rfl) rfl #[.bool (a2 != 0)] rfl (by (try simp only [List.map_toArray, List.map_cons, List.map_nil]); first | done | rfl | (simp only [List.length_drop, List.length_take]; rfl)) ?_; (with_reducible refine (arith_flag.calls (a2 != 0) t113 _ A36.out).mono ?_); rintro e w' ⟨rfl, ⟨nd, rfl⟩⟩; refine ⟨_, rfl, ?_⟩))
                                          go_ret2
                                          exact ⟨by first | rfl | (simp; done) | (simp [*]; done), by repeat (first | exact Drawn0.refl _ | apply Drawn0.step)⟩
                                        · rw [if_neg c35] at H
                                          have c35b0 : (a1 == 0) = false := beq_eq_false_iff_ne.mpr c35
                                          have c35b1 : (a1 != 0) = true := bne_iff_ne.mpr c35
                                          replace H := Option.bind_eq_some_iff.mp H
                                          obtain ⟨t114, A370, H⟩ := H
                                          replace H : (some (t114, 0)) = some (r1, r2) := H
                                          have A37 := Aside0.mk A370
                                          clear A370
                                          simp only [Option.some.injEq, Prod.mk.injEq] at H
                                          obtain ⟨rfl, rfl⟩ := H
                                          go_wp2_with (first | ((with_reducible refine gate_callee (f := 29) rfl ?_); refine goesL_ (some 124) rfl rfl Try.func29 (by kernel_rfl) rfl #[.bool true] rfl (by (try simp only [List.map_toArray, List.map_cons, List.map_nil]); first | done | rfl | (simp only [List.length_drop, List.length_take]; rfl)) ?_; (with_reducible refine (arith_flag.calls true t114 _ A37.out).mono ?_); rintro e w' ⟨rfl, ⟨nd, rfl⟩⟩; refine ⟨_, rfl, ?_⟩))
                                          go_ret2
                                          exact ⟨by first | rfl | (simp; done) | (simp [*]; done), by repeat (first | exact Drawn0.refl _ | apply Drawn0.step)⟩
                                      · rw [if_neg c34] at H
                                        have c34b0 : (a0 == 23) = false := beq_eq_false_iff_ne.mpr c34
                                        have c34b1 : (a0 != 23) = true := bne_iff_ne.mpr c34
                                        simp only [Option.some.injEq, Prod.mk.injEq] at H
                                        obtain ⟨rfl, rfl⟩ := H
                                        go_wp2
                                        go_ret2
                                        exact ⟨by first | rfl | (simp; done) | (simp [*]; done), by repeat (first | exact Drawn0.refl _ | apply Drawn0.step)⟩

/-! ### arith_Update: function 14 -/
def arith_Update.f (a0 : Int) (a1 : Int) (a2 : Int) : Option (Int × Int) := if a0 = 40 then (some (wrap64 (a1 + a2), 0)) else (if a0 = 41 then (some (wrap64 (a1 - a2), 0)) else (if a0 = 42 then (some (Go.bits .xor .i64 a1 a2, 0)) else (some (0, 7))))
set_option maxHeartbeats 8000000 in
set_option maxRecDepth 100000 in
theorem arith_Update.calls (a0 : Int) (a1 : Int) (a2 : Int) (r1 : Int) (r2 : Int) (w : World) (h : arith_Update.f a0 a1 a2 = some (r1, r2)) :
    Calls Try.prog 14 #[.int .u8 a0, .int .i64 a1, .int .i64 a2] w fun e w' => e = .returned (.tuple #[.int .i64 r1, .int .i64 r2]) ∧ Drawn0 w w' := by
  have H : (if a0 = 40 then (some (wrap64 (a1 + a2), 0)) else (if a0 = 41 then (some (wrap64 (a1 - a2), 0)) else (if a0 = 42 then (some (Go.bits .xor .i64 a1 a2, 0)) else (some (0, 7))))) = some (r1, r2) := h
  clear h
  by_cases c4 : a0 = 40
  · rw [if_pos c4] at H
    have c4b0 : (a0 == 40) = true := beq_iff_eq.mpr c4
    have c4b1 : (a0 != 40) = false := bne_eq_false_iff_eq.mpr c4
    clear c4
    simp only [Option.some.injEq, Prod.mk.injEq] at H
    obtain ⟨rfl, rfl⟩ := H
    go_enter Try.func14, Try.ntmps14
    go_wp2
    go_ret2
    exact ⟨by first | rfl | (simp; done) | (simp [*]; done), by repeat (first | exact Drawn0.refl _ | apply Drawn0.step)⟩
  · rw [if_neg c4] at H
    have c4b0 : (a0 == 40) = false := beq_eq_false_iff_ne.mpr c4
    have c4b1 : (a0 != 40) = true := bne_iff_ne.mpr c4
    by_cases c5 : a0 = 41
    · rw [if_pos c5] at H
      have c5b0 : (a0 == 41) = true := beq_iff_eq.mpr c5
      have c5b1 : (a0 != 41) = false := bne_eq_false_iff_eq.mpr c5
      clear c5
      simp only [Option.some.injEq, Prod.mk.injEq] at H
      obtain ⟨rfl, rfl⟩ := H
      go_enter Try.func14, Try.ntmps14
      go_wp2
      go_ret2
      exact ⟨by first | rfl | (simp; done) | (simp [*]; done), by repeat (first | exact Drawn0.refl _ | apply Drawn0.step)⟩
    · rw [if_neg c5] at H
      have c5b0 : (a0 == 41) = false := beq_eq_false_iff_ne.mpr c5
      have c5b1 : (a0 != 41) = true := bne_iff_ne.mpr c5
      by_cases c6 : a0 = 42
      · rw [if_pos c6] at H
        have c6b0 : (a0 == 42) = true := beq_iff_eq.mpr c6
        have c6b1 : (a0 != 42) = false := bne_eq_false_iff_eq.mpr c6
        clear c6
        simp only [Option.some.injEq, Prod.mk.injEq] at H
        obtain ⟨rfl, rfl⟩ := H
        go_enter Try.func14, Try.ntmps14
        go_wp2
        go_ret2
        exact ⟨by first | rfl | (simp; done) | (simp [*]; done), by repeat (first | exact Drawn0.refl _ | apply Drawn0.step)⟩
      · rw [if_neg c6] at H
        have c6b0 : (a0 == 42) = false := beq_eq_false_iff_ne.mpr c6
        have c6b1 : (a0 != 42) = true := bne_iff_ne.mpr c6
        simp only [Option.some.injEq, Prod.mk.injEq] at H
        obtain ⟨rfl, rfl⟩ := H
        go_enter Try.func14, Try.ntmps14
        go_wp2
        go_ret2
        exact ⟨by first | rfl | (simp; done) | (simp [*]; done), by repeat (first | exact Drawn0.refl _ | apply Drawn0.step)⟩

/-! ### backsteplaw01_awake: function 11 -/
def backsteplaw01_awake.f (k : Nat)  : Option (Bool) := (arith_Apply.f k 11 (-7) 2).bind fun bt115 => ((arith_Apply.f k 12 (-7) 2).bind fun bt117 => ((arith_Apply.f k 22 5 (-1)).bind fun bt119 => ((arith_Apply.f k 12 1 0).bind fun bt121 => ((arith_Update.f 41 3 5).bind fun bt123 => (if bt115.1 = (-3) then (if bt115.2 = 0 then (if bt117.1 = (-1) then (if bt117.2 = 0 then (if bt119.1 = 1 then (if bt119.2 = 0 then (if bt121.2 = 11 then (if bt123.1 = (-2) then (some (bt123.2 == 0)) else (some false)) else (some false)) else (some false)) else (some false)) else (some false)) else (some false)) else (some false)) else (some false))))))
theorem backsteplaw01_awake.mono : ∀ k, LeO (backsteplaw01_awake.f k ) (backsteplaw01_awake.f (k + 1) ) := by
  intro  k
  unfold backsteplaw01_awake.f
  repeat' first
      | (with_reducible exact arith_Apply.mono _ _ _ _)
      | (with_reducible exact LeO.refl _)
      | (with_reducible exact LeO.none _)
      | (with_reducible refine LeO.ite ?_ ?_)
      | (with_reducible refine LeO.bind ?_ (fun _ => ?_))
      | exact arith_Apply.mono _ _ _ _
      | exact LeO.none _
      | refine LeO.ite ?_ ?_
      | refine LeO.bind ?_ (fun _ => ?_)
set_option maxHeartbeats 8000000 in
set_option maxRecDepth 100000 in
theorem backsteplaw01_awake.calls (k : Nat)  (r : Bool) (w : World) (h : backsteplaw01_awake.f k  = some r) :
    Calls Try.prog 11 #[] w fun e w' => e = .returned (.bool r) ∧ Drawn0 w w' := by
  have H : ((arith_Apply.f k 11 (-7) 2).bind fun bt115 => ((arith_Apply.f k 12 (-7) 2).bind fun bt117 => ((arith_Apply.f k 22 5 (-1)).bind fun bt119 => ((arith_Apply.f k 12 1 0).bind fun bt121 => ((arith_Update.f 41 3 5).bind fun bt123 => (if bt115.1 = (-3) then (if bt115.2 = 0 then (if bt117.1 = (-1) then (if bt117.2 = 0 then (if bt119.1 = 1 then (if bt119.2 = 0 then (if bt121.2 = 11 then (if bt123.1 = (-2) then (some (bt123.2 == 0)) else (some false)) else (some false)) else (some false)) else (some false)) else (some false)) else (some false)) else (some false)) else (some false))))))) = some r := h
  clear h
  replace H := Option.bind_eq_some_iff.mp H
  obtain ⟨⟨t115, t116⟩, A10, H⟩ := H
  replace H : ((arith_Apply.f k 12 (-7) 2).bind fun bt117 => ((arith_Apply.f k 22 5 (-1)).bind fun bt119 => ((arith_Apply.f k 12 1 0).bind fun bt121 => ((arith_Update.f 41 3 5).bind fun bt123 => (if t115 = (-3) then (if t116 = 0 then (if bt117.1 = (-1) then (if bt117.2 = 0 then (if bt119.1 = 1 then (if bt119.2 = 0 then (if bt121.2 = 11 then (if bt123.1 = (-2) then (some (bt123.2 == 0)) else (some false)) else (some false)) else (some false)) else (some false)) else (some false)) else (some false)) else (some false)) else (some false)))))) = some r := H
  have A1 := Aside0.mk A10
  clear A10
  replace H := Option.bind_eq_some_iff.mp H
  obtain ⟨⟨t117, t118⟩, A20, H⟩ := H
  replace H : ((arith_Apply.f k 22 5 (-1)).bind fun bt119 => ((arith_Apply.f k 12 1 0).bind fun bt121 => ((arith_Update.f 41 3 5).bind fun bt123 => (if t115 = (-3) then (if t116 = 0 then (if t117 = (-1) then (if t118 = 0 then (if bt119.1 = 1 then (if bt119.2 = 0 then (if bt121.2 = 11 then (if bt123.1 = (-2) then (some (bt123.2 == 0)) else (some false)) else (some false)) else (some false)) else (some false)) else (some false)) else (some false)) else (some false)) else (some false))))) = some r := H
  have A2 := Aside0.mk A20
  clear A20
  replace H := Option.bind_eq_some_iff.mp H
  obtain ⟨⟨t119, t120⟩, A30, H⟩ := H
  replace H : ((arith_Apply.f k 12 1 0).bind fun bt121 => ((arith_Update.f 41 3 5).bind fun bt123 => (if t115 = (-3) then (if t116 = 0 then (if t117 = (-1) then (if t118 = 0 then (if t119 = 1 then (if t120 = 0 then (if bt121.2 = 11 then (if bt123.1 = (-2) then (some (bt123.2 == 0)) else (some false)) else (some false)) else (some false)) else (some false)) else (some false)) else (some false)) else (some false)) else (some false)))) = some r := H
  have A3 := Aside0.mk A30
  clear A30
  replace H := Option.bind_eq_some_iff.mp H
  obtain ⟨⟨t121, t122⟩, A40, H⟩ := H
  replace H : ((arith_Update.f 41 3 5).bind fun bt123 => (if t115 = (-3) then (if t116 = 0 then (if t117 = (-1) then (if t118 = 0 then (if t119 = 1 then (if t120 = 0 then (if t122 = 11 then (if bt123.1 = (-2) then (some (bt123.2 == 0)) else (some false)) else (some false)) else (some false)) else (some false)) else (some false)) else (some false)) else (some false)) else (some false))) = some r := H
  have A4 := Aside0.mk A40
  clear A40
  replace H := Option.bind_eq_some_iff.mp H
  obtain ⟨⟨t123, t124⟩, A50, H⟩ := H
  replace H : (if t115 = (-3) then (if t116 = 0 then (if t117 = (-1) then (if t118 = 0 then (if t119 = 1 then (if t120 = 0 then (if t122 = 11 then (if t123 = (-2) then (some (t124 == 0)) else (some false)) else (some false)) else (some false)) else (some false)) else (some false)) else (some false)) else (some false)) else (some false)) = some r := H
  have A5 := Aside0.mk A50
  clear A50
  by_cases c6 : t115 = (-3)
  · rw [if_pos c6] at H
    have c6b0 : (t115 == (-3)) = true := beq_iff_eq.mpr c6
    have c6b1 : (t115 != (-3)) = false := bne_eq_false_iff_eq.mpr c6
    clear c6
    by_cases c7 : t116 = 0
    · rw [if_pos c7] at H
      have c7b0 : (t116 == 0) = true := beq_iff_eq.mpr c7
      have c7b1 : (t116 != 0) = false := bne_eq_false_iff_eq.mpr c7
      clear c7
      by_cases c8 : t117 = (-1)
      · rw [if_pos c8] at H
        have c8b0 : (t117 == (-1)) = true := beq_iff_eq.mpr c8
        have c8b1 : (t117 != (-1)) = false := bne_eq_false_iff_eq.mpr c8
        clear c8
        by_cases c9 : t118 = 0
        · rw [if_pos c9] at H
          have c9b0 : (t118 == 0) = true := beq_iff_eq.mpr c9
          have c9b1 : (t118 != 0) = false := bne_eq_false_iff_eq.mpr c9
          clear c9
          by_cases c10 : t119 = 1
          · rw [if_pos c10] at H
            have c10b0 : (t119 == 1) = true := beq_iff_eq.mpr c10
            have c10b1 : (t119 != 1) = false := bne_eq_false_iff_eq.mpr c10
            clear c10
            by_cases c11 : t120 = 0
            · rw [if_pos c11] at H
              have c11b0 : (t120 == 0) = true := beq_iff_eq.mpr c11
              have c11b1 : (t120 != 0) = false := bne_eq_false_iff_eq.mpr c11
              clear c11
              by_cases c12 : t122 = 11
              · rw [if_pos c12] at H
                have c12b0 : (t122 == 11) = true := beq_iff_eq.mpr c12
                have c12b1 : (t122 != 11) = false := bne_eq_false_iff_eq.mpr c12
                clear c12
                by_cases c13 : t123 = (-2)
                · rw [if_pos c13] at H
                  have c13b0 : (t123 == (-2)) = true := beq_iff_eq.mpr c13
                  have c13b1 : (t123 != (-2)) = false := bne_eq_false_iff_eq.mpr c13
                  clear c13
                  obtain rfl := Option.some.inj H
                  go_enter Try.func11, Try.ntmps11
                  go_wp2_with (first | ((with_reducible refine gate_callee (f := 12) rfl ?_); refine goesL_ (some 12) rfl rfl Try.func12 (by kernel_rfl) rfl #[.int .u8 11, .int .i64 (-7), .int .i64 2] rfl (by (try simp only [List.map_toArray, List.map_cons, List.map_nil]); first | done | rfl | (simp only [List.length_drop, List.length_take]; rfl)) ?_; (with_reducible refine (arith_Apply.calls k 11 (-7) 2 t115 t116 _ A1.out).mono ?_); rintro e w' ⟨rfl, ⟨nd, rfl⟩⟩; refine ⟨_, rfl, ?_⟩) | ((with_reducible refine gate_callee (f := 12) rfl ?_); refine goesL_ (some 16) rfl rfl Try.func12 (by kernel_rfl) rfl #[.int .u8 12, .int .i64 (-7), .int .i64 2] rfl (by (try simp only [List.map_toArray, List.map_cons, List.map_nil]); first | done | rfl | (simp only [List.length_drop, List.length_take]; rfl)) ?_; (with_reducible refine (arith_Apply.calls k 12 (-7) 2 t117 t118 _ A2.out).mono ?_); rintro e w' ⟨rfl, ⟨nd, rfl⟩⟩; refine ⟨_, rfl, ?_⟩) | ((with_reducible refine gate_callee (f := 12) rfl ?_); refine goesL_ (some 20) rfl rfl Try.func12 (by kernel_rfl) rfl #[.int .u8 22, .int .i64 5, .int .i64 (-1)] rfl (by (try simp only [List.map_toArray, List.map_cons, List.map_nil]); first | done | rfl | (simp only [List.length_drop, List.length_take]; rfl)) ?_; (with_reducible refine (arith_Apply.calls k 22 5 (-1) t119 t120 _ A3.out).mono ?_); rintro e w' ⟨rfl, ⟨nd, rfl⟩⟩; refine ⟨_, rfl, ?_⟩) | ((with_reducible refine gate_callee (f := 12) rfl ?_); refine goesL_ (some 24) rfl rfl Try.func12 (by kernel_rfl) rfl #[.int .u8 12, .int .i64 1, .int .i64 0] rfl (by (try simp only [List.map_toArray, List.map_cons, List.map_nil]); first | done | rfl | (simp only [List.length_drop, List.length_take]; rfl)) ?_; (with_reducible refine (arith_Apply.calls k 12 1 0 t121 t122 _ A4.out).mono ?_); rintro e w' ⟨rfl, ⟨nd, rfl⟩⟩; refine ⟨_, rfl, ?_⟩) | ((with_reducible refine gate_callee (f := 14) rfl ?_); refine goesL_ (some 28) rfl rfl Try.func14 (by kernel_rfl) rfl #[.int .u8 41, .int .i64 3, .int .i64 5] rfl (by (try simp only [List.map_toArray, List.map_cons, List.map_nil]); first | done | rfl | (simp only [List.length_drop, List.length_take]; rfl)) ?_; (with_reducible refine (arith_Update.calls 41 3 5 t123 t124 _ A5.out).mono ?_); rintro e w' ⟨rfl, ⟨nd, rfl⟩⟩; refine ⟨_, rfl, ?_⟩))
                  go_ret
                  exact ⟨by first | rfl | (simp; done) | (simp [*]; done), by repeat (first | exact Drawn0.refl _ | apply Drawn0.step)⟩
                · rw [if_neg c13] at H
                  have c13b0 : (t123 == (-2)) = false := beq_eq_false_iff_ne.mpr c13
                  have c13b1 : (t123 != (-2)) = true := bne_iff_ne.mpr c13
                  obtain rfl := Option.some.inj H
                  go_enter Try.func11, Try.ntmps11
                  go_wp2_with (first | ((with_reducible refine gate_callee (f := 12) rfl ?_); refine goesL_ (some 12) rfl rfl Try.func12 (by kernel_rfl) rfl #[.int .u8 11, .int .i64 (-7), .int .i64 2] rfl (by (try simp only [List.map_toArray, List.map_cons, List.map_nil]); first | done | rfl | (simp only [List.length_drop, List.length_take]; rfl)) ?_; (with_reducible refine (arith_Apply.calls k 11 (-7) 2 t115 t116 _ A1.out).mono ?_); rintro e w' ⟨rfl, ⟨nd, rfl⟩⟩; refine ⟨_, rfl, ?_⟩) | ((with_reducible refine gate_callee (f := 12) rfl ?_); refine goesL_ (some 16) rfl rfl Try.func12 (by kernel_rfl) rfl #[.int .u8 12, .int .i64 (-7), .int .i64 2] rfl (by (try simp only [List.map_toArray, List.map_cons, List.map_nil]); first | done | rfl | (simp only [List.length_drop, List.length_take]; rfl)) ?_; (with_reducible refine (arith_Apply.calls k 12 (-7) 2 t117 t118 _ A2.out).mono ?_); rintro e w' ⟨rfl, ⟨nd, rfl⟩⟩; refine ⟨_, rfl, ?_⟩) | ((with_reducible refine gate_callee (f := 12) rfl ?_); refine goesL_ (some 20) rfl rfl Try.func12 (by kernel_rfl) rfl #[.int .u8 22, .int .i64 5, .int .i64 (-1)] rfl (by (try simp only [List.map_toArray, List.map_cons, List.map_nil]); first | done | rfl | (simp only [List.length_drop, List.length_take]; rfl)) ?_; (with_reducible refine (arith_Apply.calls k 22 5 (-1) t119 t120 _ A3.out).mono ?_); rintro e w' ⟨rfl, ⟨nd, rfl⟩⟩; refine ⟨_, rfl, ?_⟩) | ((with_reducible refine gate_callee (f := 12) rfl ?_); refine goesL_ (some 24) rfl rfl Try.func12 (by kernel_rfl) rfl #[.int .u8 12, .int .i64 1, .int .i64 0] rfl (by (try simp only [List.map_toArray, List.map_cons, List.map_nil]); first | done | rfl | (simp only [List.length_drop, List.length_take]; rfl)) ?_; (with_reducible refine (arith_Apply.calls k 12 1 0 t121 t122 _ A4.out).mono ?_); rintro e w' ⟨rfl, ⟨nd, rfl⟩⟩; refine ⟨_, rfl, ?_⟩) | ((with_reducible refine gate_callee (f := 14) rfl ?_); refine goesL_ (some 28) rfl rfl Try.func14 (by kernel_rfl) rfl #[.int .u8 41, .int .i64 3, .int .i64 5] rfl (by (try simp only [List.map_toArray, List.map_cons, List.map_nil]); first | done | rfl | (simp only [List.length_drop, List.length_take]; rfl)) ?_; (with_reducible refine (arith_Update.calls 41 3 5 t123 t124 _ A5.out).mono ?_); rintro e w' ⟨rfl, ⟨nd, rfl⟩⟩; refine ⟨_, rfl, ?_⟩))
                  go_ret
                  exact ⟨by first | rfl | (simp; done) | (simp [*]; done), by repeat (first | exact Drawn0.refl _ | apply Drawn0.step)⟩
              · rw [if_neg c12] at H
                have c12b0 : (t122 == 11) = false := beq_eq_false_iff_ne.mpr c12
                have c12b1 : (t122 != 11) = true := bne_iff_ne.mpr c12
                obtain rfl := Option.some.inj H
                go_enter Try.func11, Try.ntmps11
                go_wp2_with (first | ((with_reducible refine gate_callee (f := 12) rfl ?_); refine goesL_ (some 12) rfl rfl Try.func12 (by kernel_rfl) rfl #[.int .u8 11, .int .i64 (-7), .int .i64 2] rfl (by (try simp only [List.map_toArray, List.map_cons, List.map_nil]); first | done | rfl | (simp only [List.length_drop, List.length_take]; rfl)) ?_; (with_reducible refine (arith_Apply.calls k 11 (-7) 2 t115 t116 _ A1.out).mono ?_); rintro e w' ⟨rfl, ⟨nd, rfl⟩⟩; refine ⟨_, rfl, ?_⟩) | ((with_reducible refine gate_callee (f := 12) rfl ?_); refine goesL_ (some 16) rfl rfl Try.func12 (by kernel_rfl) rfl #[.int .u8 12, .int .i64 (-7), .int .i64 2] rfl (by (try simp only [List.map_toArray, List.map_cons, List.map_nil]); first | done | rfl | (simp only [List.length_drop, List.length_take]; rfl)) ?_; (with_reducible refine (arith_Apply.calls k 12 (-7) 2 t117 t118 _ A2.out).mono ?_); rintro e w' ⟨rfl, ⟨nd, rfl⟩⟩; refine ⟨_, rfl, ?_⟩) | ((with_reducible refine gate_callee (f := 12) rfl ?_); refine goesL_ (some 20) rfl rfl Try.func12 (by kernel_rfl) rfl #[.int .u8 22, .int .i64 5, .int .i64 (-1)] rfl (by (try simp only [List.map_toArray, List.map_cons, List.map_nil]); first | done | rfl | (simp only [List.length_drop, List.length_take]; rfl)) ?_; (with_reducible refine (arith_Apply.calls k 22 5 (-1) t119 t120 _ A3.out).mono ?_); rintro e w' ⟨rfl, ⟨nd, rfl⟩⟩; refine ⟨_, rfl, ?_⟩) | ((with_reducible refine gate_callee (f := 12) rfl ?_); refine goesL_ (some 24) rfl rfl Try.func12 (by kernel_rfl) rfl #[.int .u8 12, .int .i64 1, .int .i64 0] rfl (by (try simp only [List.map_toArray, List.map_cons, List.map_nil]); first | done | rfl | (simp only [List.length_drop, List.length_take]; rfl)) ?_; (with_reducible refine (arith_Apply.calls k 12 1 0 t121 t122 _ A4.out).mono ?_); rintro e w' ⟨rfl, ⟨nd, rfl⟩⟩; refine ⟨_, rfl, ?_⟩) | ((with_reducible refine gate_callee (f := 14) rfl ?_); refine goesL_ (some 28) rfl rfl Try.func14 (by kernel_rfl) rfl #[.int .u8 41, .int .i64 3, .int .i64 5] rfl (by (try simp only [List.map_toArray, List.map_cons, List.map_nil]); first | done | rfl | (simp only [List.length_drop, List.length_take]; rfl)) ?_; (with_reducible refine (arith_Update.calls 41 3 5 t123 t124 _ A5.out).mono ?_); rintro e w' ⟨rfl, ⟨nd, rfl⟩⟩; refine ⟨_, rfl, ?_⟩))
                go_ret
                exact ⟨by first | rfl | (simp; done) | (simp [*]; done), by repeat (first | exact Drawn0.refl _ | apply Drawn0.step)⟩
            · rw [if_neg c11] at H
              have c11b0 : (t120 == 0) = false := beq_eq_false_iff_ne.mpr c11
              have c11b1 : (t120 != 0) = true := bne_iff_ne.mpr c11
              obtain rfl := Option.some.inj H
              go_enter Try.func11, Try.ntmps11
              go_wp2_with (first | ((with_reducible refine gate_callee (f := 12) rfl ?_); refine goesL_ (some 12) rfl rfl Try.func12 (by kernel_rfl) rfl #[.int .u8 11, .int .i64 (-7), .int .i64 2] rfl (by (try simp only [List.map_toArray, List.map_cons, List.map_nil]); first | done | rfl | (simp only [List.length_drop, List.length_take]; rfl)) ?_; (with_reducible refine (arith_Apply.calls k 11 (-7) 2 t115 t116 _ A1.out).mono ?_); rintro e w' ⟨rfl, ⟨nd, rfl⟩⟩; refine ⟨_, rfl, ?_⟩) | ((with_reducible refine gate_callee (f := 12) rfl ?_); refine goesL_ (some 16) rfl rfl Try.func12 (by kernel_rfl) rfl #[.int .u8 12, .int .i64 (-7), .int .i64 2] rfl (by (try simp only [List.map_toArray, List.map_cons, List.map_nil]); first | done | rfl | (simp only [List.length_drop, List.length_take]; rfl)) ?_; (with_reducible refine (arith_Apply.calls k 12 (-7) 2 t117 t118 _ A2.out).mono ?_); rintro e w' ⟨rfl, ⟨nd, rfl⟩⟩; refine ⟨_, rfl, ?_⟩) | ((with_reducible refine gate_callee (f := 12) rfl ?_); refine goesL_ (some 20) rfl rfl Try.func12 (by kernel_rfl) rfl #[.int .u8 22, .int .i64 5, .int .i64 (-1)] rfl (by (try simp only [List.map_toArray, List.map_cons, List.map_nil]); first | done | rfl | (simp only [List.length_drop, List.length_take]; rfl)) ?_; (with_reducible refine (arith_Apply.calls k 22 5 (-1) t119 t120 _ A3.out).mono ?_); rintro e w' ⟨rfl, ⟨nd, rfl⟩⟩; refine ⟨_, rfl, ?_⟩) | ((with_reducible refine gate_callee (f := 12) rfl ?_); refine goesL_ (some 24) rfl rfl Try.func12 (by kernel_rfl) rfl #[.int .u8 12, .int .i64 1, .int .i64 0] rfl (by (try simp only [List.map_toArray, List.map_cons, List.map_nil]); first | done | rfl | (simp only [List.length_drop, List.length_take]; rfl)) ?_; (with_reducible refine (arith_Apply.calls k 12 1 0 t121 t122 _ A4.out).mono ?_); rintro e w' ⟨rfl, ⟨nd, rfl⟩⟩; refine ⟨_, rfl, ?_⟩) | ((with_reducible refine gate_callee (f := 14) rfl ?_); refine goesL_ (some 28) rfl rfl Try.func14 (by kernel_rfl) rfl #[.int .u8 41, .int .i64 3, .int .i64 5] rfl (by (try simp only [List.map_toArray, List.map_cons, List.map_nil]); first | done | rfl | (simp only [List.length_drop, List.length_take]; rfl)) ?_; (with_reducible refine (arith_Update.calls 41 3 5 t123 t124 _ A5.out).mono ?_); rintro e w' ⟨rfl, ⟨nd, rfl⟩⟩; refine ⟨_, rfl, ?_⟩))
              go_ret
              exact ⟨by first | rfl | (simp; done) | (simp [*]; done), by repeat (first | exact Drawn0.refl _ | apply Drawn0.step)⟩
          · rw [if_neg c10] at H
            have c10b0 : (t119 == 1) = false := beq_eq_false_iff_ne.mpr c10
            have c10b1 : (t119 != 1) = true := bne_iff_ne.mpr c10
            obtain rfl := Option.some.inj H
            go_enter Try.func11, Try.ntmps11
            go_wp2_with (first | ((with_reducible refine gate_callee (f := 12) rfl ?_); refine goesL_ (some 12) rfl rfl Try.func12 (by kernel_rfl) rfl #[.int .u8 11, .int .i64 (-7), .int .i64 2] rfl (by (try simp only [List.map_toArray, List.map_cons, List.map_nil]); first | done | rfl | (simp only [List.length_drop, List.length_take]; rfl)) ?_; (with_reducible refine (arith_Apply.calls k 11 (-7) 2 t115 t116 _ A1.out).mono ?_); rintro e w' ⟨rfl, ⟨nd, rfl⟩⟩; refine ⟨_, rfl, ?_⟩) | ((with_reducible refine gate_callee (f := 12) rfl ?_); refine goesL_ (some 16) rfl rfl Try.func12 (by kernel_rfl) rfl #[.int .u8 12, .int .i64 (-7), .int .i64 2] rfl (by (try simp only [List.map_toArray, List.map_cons, List.map_nil]); first | done | rfl | (simp only [List.length_drop, List.length_take]; rfl)) ?_; (with_reducible refine (arith_Apply.calls k 12 (-7) 2 t117 t118 _ A2.out).mono ?_); rintro e w' ⟨rfl, ⟨nd, rfl⟩⟩; refine ⟨_, rfl, ?_⟩) | ((with_reducible refine gate_callee (f := 12) rfl ?_); refine goesL_ (some 20) rfl rfl Try.func12 (by kernel_rfl) rfl #[.int .u8 22, .int .i64 5, .int .i64 (-1)] rfl (by (try simp only [List.map_toArray, List.map_cons, List.map_nil]); first | done | rfl | (simp only [List.length_drop, List.length_take]; rfl)) ?_; (with_reducible refine (arith_Apply.calls k 22 5 (-1) t119 t120 _ A3.out).mono ?_); rintro e w' ⟨rfl, ⟨nd, rfl⟩⟩; refine ⟨_, rfl, ?_⟩) | ((with_reducible refine gate_callee (f := 12) rfl ?_); refine goesL_ (some 24) rfl rfl Try.func12 (by kernel_rfl) rfl #[.int .u8 12, .int .i64 1, .int .i64 0] rfl (by (try simp only [List.map_toArray, List.map_cons, List.map_nil]); first | done | rfl | (simp only [List.length_drop, List.length_take]; rfl)) ?_; (with_reducible refine (arith_Apply.calls k 12 1 0 t121 t122 _ A4.out).mono ?_); rintro e w' ⟨rfl, ⟨nd, rfl⟩⟩; refine ⟨_, rfl, ?_⟩) | ((with_reducible refine gate_callee (f := 14) rfl ?_); refine goesL_ (some 28) rfl rfl Try.func14 (by kernel_rfl) rfl #[.int .u8 41, .int .i64 3, .int .i64 5] rfl (by (try simp only [List.map_toArray, List.map_cons, List.map_nil]); first | done | rfl | (simp only [List.length_drop, List.length_take]; rfl)) ?_; (with_reducible refine (arith_Update.calls 41 3 5 t123 t124 _ A5.out).mono ?_); rintro e w' ⟨rfl, ⟨nd, rfl⟩⟩; refine ⟨_, rfl, ?_⟩))
            go_ret
            exact ⟨by first | rfl | (simp; done) | (simp [*]; done), by repeat (first | exact Drawn0.refl _ | apply Drawn0.step)⟩
        · rw [if_neg c9] at H
          have c9b0 : (t118 == 0) = false := beq_eq_false_iff_ne.mpr c9
          have c9b1 : (t118 != 0) = true := bne_iff_ne.mpr c9
          obtain rfl := Option.some.inj H
          go_enter Try.func11, Try.ntmps11
          go_wp2_with (first | ((with_reducible refine gate_callee (f := 12) rfl ?_); refine goesL_ (some 12) rfl rfl Try.func12 (by kernel_rfl) rfl #[.int .u8 11, .int .i64 (-7), .int .i64 2] rfl (by (try simp only [List.map_toArray, List.map_cons, List.map_nil]); first | done | rfl | (simp only [List.length_drop, List.length_take]; rfl)) ?_; (with_reducible refine (arith_Apply.calls k 11 (-7) 2 t115 t116 _ A1.out).mono ?_); rintro e w' ⟨rfl, ⟨nd, rfl⟩⟩; refine ⟨_, rfl, ?_⟩) | ((with_reducible refine gate_callee (f := 12) rfl ?_); refine goesL_ (some 16) rfl rfl Try.func12 (by kernel_rfl) rfl #[.int .u8 12, .int .i64 (-7), .int .i64 2] rfl (by (try simp only [List.map_toArray, List.map_cons, List.map_nil]); first | done | rfl | (simp only [List.length_drop, List.length_take]; rfl)) ?_; (with_reducible refine (arith_Apply.calls k 12 (-7) 2 t117 t118 _ A2.out).mono ?_); rintro e w' ⟨rfl, ⟨nd, rfl⟩⟩; refine ⟨_, rfl, ?_⟩) | ((with_reducible refine gate_callee (f := 12) rfl ?_); refine goesL_ (some 20) rfl rfl Try.func12 (by kernel_rfl) rfl #[.int .u8 22, .int .i64 5, .int .i64 (-1)] rfl (by (try simp only [List.map_toArray, List.map_cons, List.map_nil]); first | done | rfl | (simp only [List.length_drop, List.length_take]; rfl)) ?_; (with_reducible refine (arith_Apply.calls k 22 5 (-1) t119 t120 _ A3.out).mono ?_); rintro e w' ⟨rfl, ⟨nd, rfl⟩⟩; refine ⟨_, rfl, ?_⟩) | ((with_reducible refine gate_callee (f := 12) rfl ?_); refine goesL_ (some 24) rfl rfl Try.func12 (by kernel_rfl) rfl #[.int .u8 12, .int .i64 1, .int .i64 0] rfl (by (try simp only [List.map_toArray, List.map_cons, List.map_nil]); first | done | rfl | (simp only [List.length_drop, List.length_take]; rfl)) ?_; (with_reducible refine (arith_Apply.calls k 12 1 0 t121 t122 _ A4.out).mono ?_); rintro e w' ⟨rfl, ⟨nd, rfl⟩⟩; refine ⟨_, rfl, ?_⟩) | ((with_reducible refine gate_callee (f := 14) rfl ?_); refine goesL_ (some 28) rfl rfl Try.func14 (by kernel_rfl) rfl #[.int .u8 41, .int .i64 3, .int .i64 5] rfl (by (try simp only [List.map_toArray, List.map_cons, List.map_nil]); first | done | rfl | (simp only [List.length_drop, List.length_take]; rfl)) ?_; (with_reducible refine (arith_Update.calls 41 3 5 t123 t124 _ A5.out).mono ?_); rintro e w' ⟨rfl, ⟨nd, rfl⟩⟩; refine ⟨_, rfl, ?_⟩))
          go_ret
          exact ⟨by first | rfl | (simp; done) | (simp [*]; done), by repeat (first | exact Drawn0.refl _ | apply Drawn0.step)⟩
      · rw [if_neg c8] at H
        have c8b0 : (t117 == (-1)) = false := beq_eq_false_iff_ne.mpr c8
        have c8b1 : (t117 != (-1)) = true := bne_iff_ne.mpr c8
        obtain rfl := Option.some.inj H
        go_enter Try.func11, Try.ntmps11
        go_wp2_with (first | ((with_reducible refine gate_callee (f := 12) rfl ?_); refine goesL_ (some 12) rfl rfl Try.func12 (by kernel_rfl) rfl #[.int .u8 11, .int .i64 (-7), .int .i64 2] rfl (by (try simp only [List.map_toArray, List.map_cons, List.map_nil]); first | done | rfl | (simp only [List.length_drop, List.length_take]; rfl)) ?_; (with_reducible refine (arith_Apply.calls k 11 (-7) 2 t115 t116 _ A1.out).mono ?_); rintro e w' ⟨rfl, ⟨nd, rfl⟩⟩; refine ⟨_, rfl, ?_⟩) | ((with_reducible refine gate_callee (f := 12) rfl ?_); refine goesL_ (some 16) rfl rfl Try.func12 (by kernel_rfl) rfl #[.int .u8 12, .int .i64 (-7), .int .i64 2] rfl (by (try simp only [List.map_toArray, List.map_cons, List.map_nil]); first | done | rfl | (simp only [List.length_drop, List.length_take]; rfl)) ?_; (with_reducible refine (arith_Apply.calls k 12 (-7) 2 t117 t118 _ A2.out).mono ?_); rintro e w' ⟨rfl, ⟨nd, rfl⟩⟩; refine ⟨_, rfl, ?_⟩) | ((with_reducible refine gate_callee (f := 12) rfl ?_); refine goesL_ (some 20) rfl rfl Try.func12 (by kernel_rfl) rfl #[.int .u8 22, .int .i64 5, .int .i64 (-1)] rfl (by (try simp only [List.map_toArray, List.map_cons, List.map_nil]); first | done | rfl | (simp only [List.length_drop, List.length_take]; rfl)) ?_; (with_reducible refine (arith_Apply.calls k 22 5 (-1) t119 t120 _ A3.out).mono ?_); rintro e w' ⟨rfl, ⟨nd, rfl⟩⟩; refine ⟨_, rfl, ?_⟩) | ((with_reducible refine gate_callee (f := 12) rfl ?_); refine goesL_ (some 24) rfl rfl Try.func12 (by kernel_rfl) rfl #[.int .u8 12, .int .i64 1, .int .i64 0] rfl (by (try simp only [List.map_toArray, List.map_cons, List.map_nil]); first | done | rfl | (simp only [List.length_drop, List.length_take]; rfl)) ?_; (with_reducible refine (arith_Apply.calls k 12 1 0 t121 t122 _ A4.out).mono ?_); rintro e w' ⟨rfl, ⟨nd, rfl⟩⟩; refine ⟨_, rfl, ?_⟩) | ((with_reducible refine gate_callee (f := 14) rfl ?_); refine goesL_ (some 28) rfl rfl Try.func14 (by kernel_rfl) rfl #[.int .u8 41, .int .i64 3, .int .i64 5] rfl (by (try simp only [List.map_toArray, List.map_cons, List.map_nil]); first | done | rfl | (simp only [List.length_drop, List.length_take]; rfl)) ?_; (with_reducible refine (arith_Update.calls 41 3 5 t123 t124 _ A5.out).mono ?_); rintro e w' ⟨rfl, ⟨nd, rfl⟩⟩; refine ⟨_, rfl, ?_⟩))
        go_ret
        exact ⟨by first | rfl | (simp; done) | (simp [*]; done), by repeat (first | exact Drawn0.refl _ | apply Drawn0.step)⟩
    · rw [if_neg c7] at H
      have c7b0 : (t116 == 0) = false := beq_eq_false_iff_ne.mpr c7
      have c7b1 : (t116 != 0) = true := bne_iff_ne.mpr c7
      obtain rfl := Option.some.inj H
      go_enter Try.func11, Try.ntmps11
      go_wp2_with (first | ((with_reducible refine gate_callee (f := 12) rfl ?_); refine goesL_ (some 12) rfl rfl Try.func12 (by kernel_rfl) rfl #[.int .u8 11, .int .i64 (-7), .int .i64 2] rfl (by (try simp only [List.map_toArray, List.map_cons, List.map_nil]); first | done | rfl | (simp only [List.length_drop, List.length_take]; rfl)) ?_; (with_reducible refine (arith_Apply.calls k 11 (-7) 2 t115 t116 _ A1.out).mono ?_); rintro e w' ⟨rfl, ⟨nd, rfl⟩⟩; refine ⟨_, rfl, ?_⟩) | ((with_reducible refine gate_callee (f := 12) rfl ?_); refine goesL_ (some 16) rfl rfl Try.func12 (by kernel_rfl) rfl #[.int .u8 12, .int .i64 (-7), .int .i64 2] rfl (by (try simp only [List.map_toArray, List.map_cons, List.map_nil]); first | done | rfl | (simp only [List.length_drop, List.length_take]; rfl)) ?_; (with_reducible refine (arith_Apply.calls k 12 (-7) 2 t117 t118 _ A2.out).mono ?_); rintro e w' ⟨rfl, ⟨nd, rfl⟩⟩; refine ⟨_, rfl, ?_⟩) | ((with_reducible refine gate_callee (f := 12) rfl ?_); refine goesL_ (some 20) rfl rfl Try.func12 (by kernel_rfl) rfl #[.int .u8 22, .int .i64 5, .int .i64 (-1)] rfl (by (try simp only [List.map_toArray, List.map_cons, List.map_nil]); first | done | rfl | (simp only [List.length_drop, List.length_take]; rfl)) ?_; (with_reducible refine (arith_Apply.calls k 22 5 (-1) t119 t120 _ A3.out).mono ?_); rintro e w' ⟨rfl, ⟨nd, rfl⟩⟩; refine ⟨_, rfl, ?_⟩) | ((with_reducible refine gate_callee (f := 12) rfl ?_); refine goesL_ (some 24) rfl rfl Try.func12 (by kernel_rfl) rfl #[.int .u8 12, .int .i64 1, .int .i64 0] rfl (by (try simp only [List.map_toArray, List.map_cons, List.map_nil]); first | done | rfl | (simp only [List.length_drop, List.length_take]; rfl)) ?_; (with_reducible refine (arith_Apply.calls k 12 1 0 t121 t122 _ A4.out).mono ?_); rintro e w' ⟨rfl, ⟨nd, rfl⟩⟩; refine ⟨_, rfl, ?_⟩) | ((with_reducible refine gate_callee (f := 14) rfl ?_); refine goesL_ (some 28) rfl rfl Try.func14 (by kernel_rfl) rfl #[.int .u8 41, .int .i64 3, .int .i64 5] rfl (by (try simp only [List.map_toArray, List.map_cons, List.map_nil]); first | done | rfl | (simp only [List.length_drop, List.length_take]; rfl)) ?_; (with_reducible refine (arith_Update.calls 41 3 5 t123 t124 _ A5.out).mono ?_); rintro e w' ⟨rfl, ⟨nd, rfl⟩⟩; refine ⟨_, rfl, ?_⟩))
      go_ret
      exact ⟨by first | rfl | (simp; done) | (simp [*]; done), by repeat (first | exact Drawn0.refl _ | apply Drawn0.step)⟩
  · rw [if_neg c6] at H
    have c6b0 : (t115 == (-3)) = false := beq_eq_false_iff_ne.mpr c6
    have c6b1 : (t115 != (-3)) = true := bne_iff_ne.mpr c6
    obtain rfl := Option.some.inj H
    go_enter Try.func11, Try.ntmps11
    go_wp2_with (first | ((with_reducible refine gate_callee (f := 12) rfl ?_); refine goesL_ (some 12) rfl rfl Try.func12 (by kernel_rfl) rfl #[.int .u8 11, .int .i64 (-7), .int .i64 2] rfl (by (try simp only [List.map_toArray, List.map_cons, List.map_nil]); first | done | rfl | (simp only [List.length_drop, List.length_take]; rfl)) ?_; (with_reducible refine (arith_Apply.calls k 11 (-7) 2 t115 t116 _ A1.out).mono ?_); rintro e w' ⟨rfl, ⟨nd, rfl⟩⟩; refine ⟨_, rfl, ?_⟩) | ((with_reducible refine gate_callee (f := 12) rfl ?_); refine goesL_ (some 16) rfl rfl Try.func12 (by kernel_rfl) rfl #[.int .u8 12, .int .i64 (-7), .int .i64 2] rfl (by (try simp only [List.map_toArray, List.map_cons, List.map_nil]); first | done | rfl | (simp only [List.length_drop, List.length_take]; rfl)) ?_; (with_reducible refine (arith_Apply.calls k 12 (-7) 2 t117 t118 _ A2.out).mono ?_); rintro e w' ⟨rfl, ⟨nd, rfl⟩⟩; refine ⟨_, rfl, ?_⟩) | ((with_reducible refine gate_callee (f := 12) rfl ?_); refine goesL_ (some 20) rfl rfl Try.func12 (by kernel_rfl) rfl #[.int .u8 22, .int .i64 5, .int .i64 (-1)] rfl (by (try simp only [List.map_toArray, List.map_cons, List.map_nil]); first | done | rfl | (simp only [List.length_drop, List.length_take]; rfl)) ?_; (with_reducible refine (arith_Apply.calls k 22 5 (-1) t119 t120 _ A3.out).mono ?_); rintro e w' ⟨rfl, ⟨nd, rfl⟩⟩; refine ⟨_, rfl, ?_⟩) | ((with_reducible refine gate_callee (f := 12) rfl ?_); refine goesL_ (some 24) rfl rfl Try.func12 (by kernel_rfl) rfl #[.int .u8 12, .int .i64 1, .int .i64 0] rfl (by (try simp only [List.map_toArray, List.map_cons, List.map_nil]); first | done | rfl | (simp only [List.length_drop, List.length_take]; rfl)) ?_; (with_reducible refine (arith_Apply.calls k 12 1 0 t121 t122 _ A4.out).mono ?_); rintro e w' ⟨rfl, ⟨nd, rfl⟩⟩; refine ⟨_, rfl, ?_⟩) | ((with_reducible refine gate_callee (f := 14) rfl ?_); refine goesL_ (some 28) rfl rfl Try.func14 (by kernel_rfl) rfl #[.int .u8 41, .int .i64 3, .int .i64 5] rfl (by (try simp only [List.map_toArray, List.map_cons, List.map_nil]); first | done | rfl | (simp only [List.length_drop, List.length_take]; rfl)) ?_; (with_reducible refine (arith_Update.calls 41 3 5 t123 t124 _ A5.out).mono ?_); rintro e w' ⟨rfl, ⟨nd, rfl⟩⟩; refine ⟨_, rfl, ?_⟩))
    go_ret
    exact ⟨by first | rfl | (simp; done) | (simp [*]; done), by repeat (first | exact Drawn0.refl _ | apply Drawn0.step)⟩

/-! ### arith_Inverse: function 21 -/
def arith_Inverse.f (a0 : Int) : Option (Int × Bool) := if a0 = 40 then (some (41, true)) else (if a0 = 41 then (some (40, true)) else (if a0 = 42 then (some (42, true)) else (some (0, false))))
set_option maxHeartbeats 8000000 in
set_option maxRecDepth 100000 in
theorem arith_Inverse.calls (a0 : Int) (r1 : Int) (r2 : Bool) (w : World) (h : arith_Inverse.f a0 = some (r1, r2)) :
    Calls Try.prog 21 #[.int .u8 a0] w fun e w' => e = .returned (.tuple #[.int .u8 r1, .bool r2]) ∧ Drawn0 w w' := by
  have H : (if a0 = 40 then (some (41, true)) else (if a0 = 41 then (some (40, true)) else (if a0 = 42 then (some (42, true)) else (some (0, false))))) = some (r1, r2) := h
  clear h
  by_cases c2 : a0 = 40
  · rw [if_pos c2] at H
    have c2b0 : (a0 == 40) = true := beq_iff_eq.mpr c2
    have c2b1 : (a0 != 40) = false := bne_eq_false_iff_eq.mpr c2
    clear c2
    simp only [Option.some.injEq, Prod.mk.injEq] at H
    obtain ⟨rfl, rfl⟩ := H
    go_enter Try.func21, Try.ntmps21
    go_wp2
    go_ret2
    exact ⟨by first | rfl | (simp; done) | (simp [*]; done), by repeat (first | exact Drawn0.refl _ | apply Drawn0.step)⟩
  · rw [if_neg c2] at H
    have c2b0 : (a0 == 40) = false := beq_eq_false_iff_ne.mpr c2
    have c2b1 : (a0 != 40) = true := bne_iff_ne.mpr c2
    by_cases c3 : a0 = 41
    · rw [if_pos c3] at H
      have c3b0 : (a0 == 41) = true := beq_iff_eq.mpr c3
      have c3b1 : (a0 != 41) = false := bne_eq_false_iff_eq.mpr c3
      clear c3
      simp only [Option.some.injEq, Prod.mk.injEq] at H
      obtain ⟨rfl, rfl⟩ := H
      go_enter Try.func21, Try.ntmps21
      go_wp2
      go_ret2
      exact ⟨by first | rfl | (simp; done) | (simp [*]; done), by repeat (first | exact Drawn0.refl _ | apply Drawn0.step)⟩
    · rw [if_neg c3] at H
      have c3b0 : (a0 == 41) = false := beq_eq_false_iff_ne.mpr c3
      have c3b1 : (a0 != 41) = true := bne_iff_ne.mpr c3
      by_cases c4 : a0 = 42
      · rw [if_pos c4] at H
        have c4b0 : (a0 == 42) = true := beq_iff_eq.mpr c4
        have c4b1 : (a0 != 42) = false := bne_eq_false_iff_eq.mpr c4
        clear c4
        simp only [Option.some.injEq, Prod.mk.injEq] at H
        obtain ⟨rfl, rfl⟩ := H
        go_enter Try.func21, Try.ntmps21
        go_wp2
        go_ret2
        exact ⟨by first | rfl | (simp; done) | (simp [*]; done), by repeat (first | exact Drawn0.refl _ | apply Drawn0.step)⟩
      · rw [if_neg c4] at H
        have c4b0 : (a0 == 42) = false := beq_eq_false_iff_ne.mpr c4
        have c4b1 : (a0 != 42) = true := bne_iff_ne.mpr c4
        simp only [Option.some.injEq, Prod.mk.injEq] at H
        obtain ⟨rfl, rfl⟩ := H
        go_enter Try.func21, Try.ntmps21
        go_wp2
        go_ret2
        exact ⟨by first | rfl | (simp; done) | (simp [*]; done), by repeat (first | exact Drawn0.refl _ | apply Drawn0.step)⟩

/-! ### arith_entries: function 32 -/
def arith_entries.f  : Option ((List (S45))) := some (([(⟨8, (⟨#[43]⟩ : ByteArray), 7⟩ : S45), (⟨9, (⟨#[45]⟩ : ByteArray), 7⟩ : S45), (⟨10, (⟨#[42]⟩ : ByteArray), 8⟩ : S45), (⟨11, (⟨#[47]⟩ : ByteArray), 8⟩ : S45), (⟨12, (⟨#[37]⟩ : ByteArray), 8⟩ : S45), (⟨13, (⟨#[38]⟩ : ByteArray), 5⟩ : S45), (⟨14, (⟨#[124]⟩ : ByteArray), 3⟩ : S45), (⟨15, (⟨#[94]⟩ : ByteArray), 4⟩ : S45), (⟨16, (⟨#[61, 61]⟩ : ByteArray), 6⟩ : S45), (⟨17, (⟨#[33, 61]⟩ : ByteArray), 6⟩ : S45), (⟨18, (⟨#[60]⟩ : ByteArray), 6⟩ : S45), (⟨19, (⟨#[60, 61]⟩ : ByteArray), 6⟩ : S45), (⟨20, (⟨#[62]⟩ : ByteArray), 6⟩ : S45), (⟨21, (⟨#[62, 61]⟩ : ByteArray), 6⟩ : S45), (⟨22, (⟨#[38, 38]⟩ : ByteArray), 2⟩ : S45), (⟨23, (⟨#[124, 124]⟩ : ByteArray), 1⟩ : S45), (⟨6, (⟨#[45]⟩ : ByteArray), 9⟩ : S45), (⟨7, (⟨#[33]⟩ : ByteArray), 9⟩ : S45), (⟨40, (⟨#[43, 61]⟩ : ByteArray), 0⟩ : S45), (⟨41, (⟨#[45, 61]⟩ : ByteArray), 0⟩ : S45), (⟨42, (⟨#[94, 61]⟩ : ByteArray), 0⟩ : S45)] : List (S45)))
set_option maxHeartbeats 8000000 in
set_option maxRecDepth 100000 in
theorem arith_entries.calls  (r : List (S45)) (w : World) (h : arith_entries.f  = some r) :
    Calls Try.prog 32 #[] w fun e w' => ∃ v0_ : Value, e = .returned (v0_) ∧ Kd.R k45 45 w' w.heap.size (fun _ => True) v0_ r ∧ Below w.heap.size w w' := by
  have hu45 := Try.underlying45
  have HB := Aside0.mk (Below.refl w.heap.size w)
  have H : (some (([(⟨8, (⟨#[43]⟩ : ByteArray), 7⟩ : S45), (⟨9, (⟨#[45]⟩ : ByteArray), 7⟩ : S45), (⟨10, (⟨#[42]⟩ : ByteArray), 8⟩ : S45), (⟨11, (⟨#[47]⟩ : ByteArray), 8⟩ : S45), (⟨12, (⟨#[37]⟩ : ByteArray), 8⟩ : S45), (⟨13, (⟨#[38]⟩ : ByteArray), 5⟩ : S45), (⟨14, (⟨#[124]⟩ : ByteArray), 3⟩ : S45), (⟨15, (⟨#[94]⟩ : ByteArray), 4⟩ : S45), (⟨16, (⟨#[61, 61]⟩ : ByteArray), 6⟩ : S45), (⟨17, (⟨#[33, 61]⟩ : ByteArray), 6⟩ : S45), (⟨18, (⟨#[60]⟩ : ByteArray), 6⟩ : S45), (⟨19, (⟨#[60, 61]⟩ : ByteArray), 6⟩ : S45), (⟨20, (⟨#[62]⟩ : ByteArray), 6⟩ : S45), (⟨21, (⟨#[62, 61]⟩ : ByteArray), 6⟩ : S45), (⟨22, (⟨#[38, 38]⟩ : ByteArray), 2⟩ : S45), (⟨23, (⟨#[124, 124]⟩ : ByteArray), 1⟩ : S45), (⟨6, (⟨#[45]⟩ : ByteArray), 9⟩ : S45), (⟨7, (⟨#[33]⟩ : ByteArray), 9⟩ : S45), (⟨40, (⟨#[43, 61]⟩ : ByteArray), 0⟩ : S45), (⟨41, (⟨#[45, 61]⟩ : ByteArray), 0⟩ : S45), (⟨42, (⟨#[94, 61]⟩ : ByteArray), 0⟩ : S45)] : List (S45)))) = some r := h
  clear h
  obtain ⟨y125, hy125⟩ : ∃ y_ : List (S45), y_ = (([(⟨8, (⟨#[43]⟩ : ByteArray), 7⟩ : S45), (⟨9, (⟨#[45]⟩ : ByteArray), 7⟩ : S45), (⟨10, (⟨#[42]⟩ : ByteArray), 8⟩ : S45), (⟨11, (⟨#[47]⟩ : ByteArray), 8⟩ : S45), (⟨12, (⟨#[37]⟩ : ByteArray), 8⟩ : S45), (⟨13, (⟨#[38]⟩ : ByteArray), 5⟩ : S45), (⟨14, (⟨#[124]⟩ : ByteArray), 3⟩ : S45), (⟨15, (⟨#[94]⟩ : ByteArray), 4⟩ : S45), (⟨16, (⟨#[61, 61]⟩ : ByteArray), 6⟩ : S45), (⟨17, (⟨#[33, 61]⟩ : ByteArray), 6⟩ : S45), (⟨18, (⟨#[60]⟩ : ByteArray), 6⟩ : S45), (⟨19, (⟨#[60, 61]⟩ : ByteArray), 6⟩ : S45), (⟨20, (⟨#[62]⟩ : ByteArray), 6⟩ : S45), (⟨21, (⟨#[62, 61]⟩ : ByteArray), 6⟩ : S45), (⟨22, (⟨#[38, 38]⟩ : ByteArray), 2⟩ : S45), (⟨23, (⟨#[124, 124]⟩ : ByteArray), 1⟩ : S45), (⟨6, (⟨#[45]⟩ : ByteArray), 9⟩ : S45), (⟨7, (⟨#[33]⟩ : ByteArray), 9⟩ : S45), (⟨40, (⟨#[43, 61]⟩ : ByteArray), 0⟩ : S45), (⟨41, (⟨#[45, 61]⟩ : ByteArray), 0⟩ : S45), (⟨42, (⟨#[94, 61]⟩ : ByteArray), 0⟩ : S45)] : List (S45))) := ⟨_, rfl⟩
  replace H : (some y125) = some r := by first | (rw [hy125]; with_reducible exact H) | (have H2_ := (Option.bind_some _ _).symm.trans H; rw [hy125]; with_reducible exact H2_) | (have H2_ := (Option.bind_some _ _).symm.trans H; with_reducible exact H2_) | with_reducible exact H | (rw [hy125]; exact H) | exact H
  have Ny125 := Aside0.mk hy125
  clear hy125
  obtain rfl := Option.some.inj H
  go_enter Try.func32, Try.ntmps32
  go_wp2_with (first | ((with_reducible refine gate_dst (N := 22) rfl ?_); refine Kd.R_lit k45 _ 45 ?hg (N := 22) ?hd (xs := ([(⟨8, (⟨#[43]⟩ : ByteArray), 7⟩ : S45), (⟨9, (⟨#[45]⟩ : ByteArray), 7⟩ : S45), (⟨10, (⟨#[42]⟩ : ByteArray), 8⟩ : S45), (⟨11, (⟨#[47]⟩ : ByteArray), 8⟩ : S45), (⟨12, (⟨#[37]⟩ : ByteArray), 8⟩ : S45), (⟨13, (⟨#[38]⟩ : ByteArray), 5⟩ : S45), (⟨14, (⟨#[124]⟩ : ByteArray), 3⟩ : S45), (⟨15, (⟨#[94]⟩ : ByteArray), 4⟩ : S45), (⟨16, (⟨#[61, 61]⟩ : ByteArray), 6⟩ : S45), (⟨17, (⟨#[33, 61]⟩ : ByteArray), 6⟩ : S45), (⟨18, (⟨#[60]⟩ : ByteArray), 6⟩ : S45), (⟨19, (⟨#[60, 61]⟩ : ByteArray), 6⟩ : S45), (⟨20, (⟨#[62]⟩ : ByteArray), 6⟩ : S45), (⟨21, (⟨#[62, 61]⟩ : ByteArray), 6⟩ : S45), (⟨22, (⟨#[38, 38]⟩ : ByteArray), 2⟩ : S45), (⟨23, (⟨#[124, 124]⟩ : ByteArray), 1⟩ : S45), (⟨6, (⟨#[45]⟩ : ByteArray), 9⟩ : S45), (⟨7, (⟨#[33]⟩ : ByteArray), 9⟩ : S45), (⟨40, (⟨#[43, 61]⟩ : ByteArray), 0⟩ : S45), (⟨41, (⟨#[45, 61]⟩ : ByteArray), 0⟩ : S45), (⟨42, (⟨#[94, 61]⟩ : ByteArray), 0⟩ : S45)] : List (S45))) (inner := [.int .u8 8, .string (⟨#[43]⟩ : ByteArray), .int .i64 7, .int .u8 9, .string (⟨#[45]⟩ : ByteArray), .int .i64 7, .int .u8 10, .string (⟨#[42]⟩ : ByteArray), .int .i64 8, .int .u8 11, .string (⟨#[47]⟩ : ByteArray), .int .i64 8, .int .u8 12, .string (⟨#[37]⟩ : ByteArray), .int .i64 8, .int .u8 13, .string (⟨#[38]⟩ : ByteArray), .int .i64 5, .int .u8 14, .string (⟨#[124]⟩ : ByteArray), .int .i64 3, .int .u8 15, .string (⟨#[94]⟩ : ByteArray), .int .i64 4, .int .u8 16, .string (⟨#[61, 61]⟩ : ByteArray), .int .i64 6, .int .u8 17, .string (⟨#[33, 61]⟩ : ByteArray), .int .i64 6, .int .u8 18, .string (⟨#[60]⟩ : ByteArray), .int .i64 6, .int .u8 19, .string (⟨#[60, 61]⟩ : ByteArray), .int .i64 6, .int .u8 20, .string (⟨#[62]⟩ : ByteArray), .int .i64 6, .int .u8 21, .string (⟨#[62, 61]⟩ : ByteArray), .int .i64 6, .int .u8 22, .string (⟨#[38, 38]⟩ : ByteArray), .int .i64 2, .int .u8 23, .string (⟨#[124, 124]⟩ : ByteArray), .int .i64 1, .int .u8 6, .string (⟨#[45]⟩ : ByteArray), .int .i64 9, .int .u8 7, .string (⟨#[33]⟩ : ByteArray), .int .i64 9, .int .u8 40, .string (⟨#[43, 61]⟩ : ByteArray), .int .i64 0, .int .u8 41, .string (⟨#[45, 61]⟩ : ByteArray), .int .i64 0, .int .u8 42, .string (⟨#[94, 61]⟩ : ByteArray), .int .i64 0]) (ok := fun _ => True) (okp := fun _ => True) ?hr ?hp (fun _ hk => hk) trivial (Below.refl _ _) (Nat.le_refl _) (by simp) ?_; (case hd => rfl); (case hg => rfl); (case hr => first | (go_simp; done) | (go_simp; rfl)); (case hp => exact (Reps.c3 (show Kd.M k45 _ _ _ (⟨8, (⟨#[43]⟩ : ByteArray), 7⟩ : S45) [.int .u8 8, .string (⟨#[43]⟩ : ByteArray), .int .i64 7] from (k45_mkM _ _ _ (⟨8, (⟨#[43]⟩ : ByteArray), 7⟩ : S45) )) (Reps.c3 (show Kd.M k45 _ _ _ (⟨9, (⟨#[45]⟩ : ByteArray), 7⟩ : S45) [.int .u8 9, .string (⟨#[45]⟩ : ByteArray), .int .i64 7] from (k45_mkM _ _ _ (⟨9, (⟨#[45]⟩ : ByteArray), 7⟩ : S45) )) (Reps.c3 (show Kd.M k45 _ _ _ (⟨10, (⟨#[42]⟩ : ByteArray), 8⟩ : S45) [.int .u8 10, .string (⟨#[42]⟩ : ByteArray), .int .i64 8] from (k45_mkM _ _ _ (⟨10, (⟨#[42]⟩ : ByteArray), 8⟩ : S45) )) (Reps.c3 (show Kd.M k45 _ _ _ (⟨11, (⟨#[47]⟩ : ByteArray), 8⟩ : S45) [.int .u8 11, .string (⟨#[47]⟩ : ByteArray), .int .i64 8] from (k45_mkM _ _ _ (⟨11, (⟨#[47]⟩ : ByteArray), 8⟩ : S45) )) (Reps.c3 (show Kd.M k45 _ _ _ (⟨12, (⟨#[37]⟩ : ByteArray), 8⟩ : S45) [.int .u8 12, .string (⟨#[37]⟩ : ByteArray), .int .i64 8] from (k45_mkM _ _ _ (⟨12, (⟨#[37]⟩ : ByteArray), 8⟩ : S45) )) (Reps.c3 (show Kd.M k45 _ _ _ (⟨13, (⟨#[38]⟩ : ByteArray), 5⟩ : S45) [.int .u8 13, .string (⟨#[38]⟩ : ByteArray), .int .i64 5] from (k45_mkM _ _ _ (⟨13, (⟨#[38]⟩ : ByteArray), 5⟩ : S45) )) (Reps.c3 (show Kd.M k45 _ _ _ (⟨14, (⟨#[124]⟩ : ByteArray), 3⟩ : S45) [.int .u8 14, .string (⟨#[124]⟩ : ByteArray), .int .i64 3] from (k45_mkM _ _ _ (⟨14, (⟨#[124]⟩ : ByteArray), 3⟩ : S45) )) (Reps.c3 (show Kd.M k45 _ _ _ (⟨15, (⟨#[94]⟩ : ByteArray), 4⟩ : S45) [.int .u8 15, .string (⟨#[94]⟩ : ByteArray), .int .i64 4] from (k45_mkM _ _ _ (⟨15, (⟨#[94]⟩ : ByteArray), 4⟩ : S45) )) (Reps.c3 (show Kd.M k45 _ _ _ (⟨16, (⟨#[61, 61]⟩ : ByteArray), 6⟩ : S45) [.int .u8 16, .string (⟨#[61, 61]⟩ : ByteArray), .int .i64 6] from (k45_mkM _ _ _ (⟨16, (⟨#[61, 61]⟩ : ByteArray), 6⟩ : S45) )) (Reps.c3 (show Kd.M k45 _ _ _ (⟨17, (⟨#[33, 61]⟩ : ByteArray), 6⟩ : S45) [.int .u8 17, .string (⟨#[33, 61]⟩ : ByteArray), .int .i64 6] from (k45_mkM _ _ _ (⟨17, (⟨#[33, 61]⟩ : ByteArray), 6⟩ : S45) )) (Reps.c3 (show Kd.M k45 _ _ _ (⟨18, (⟨#[60]⟩ : ByteArray), 6⟩ : S45) [.int .u8 18, .string (⟨#[60]⟩ : ByteArray), .int .i64 6] from (k45_mkM _ _ _ (⟨18, (⟨#[60]⟩ : ByteArray), 6⟩ : S45) )) (Reps.c3 (show Kd.M k45 _ _ _ (⟨19, (⟨#[60, 61]⟩ : ByteArray), 6⟩ : S45) [.int .u8 19, .string (⟨#[60, 61]⟩ : ByteArray), .int .i64 6] from (k45_mkM _ _ _ (⟨19, (⟨#[60, 61]⟩ : ByteArray), 6⟩ : S45) )) (Reps.c3 (show Kd.M k45 _ _ _ (⟨20, (⟨#[62]⟩ : ByteArray), 6⟩ : S45) [.int .u8 20, .string (⟨#[62]⟩ : ByteArray), .int .i64 6] from (k45_mkM _ _ _ (⟨20, (⟨#[62]⟩ : ByteArray), 6⟩ : S45) )) (Reps.c3 (show Kd.M k45 _ _ _ (⟨21, (⟨#[62, 61]⟩ : ByteArray), 6⟩ : S45) [.int .u8 21, .string (⟨#[62, 61]⟩ : ByteArray), .int .i64 6] from (k45_mkM _ _ _ (⟨21, (⟨#[62, 61]⟩ : ByteArray), 6⟩ : S45) )) (Reps.c3 (show Kd.M k45 _ _ _ (⟨22, (⟨#[38, 38]⟩ : ByteArray), 2⟩ : S45) [.int .u8 22, .string (⟨#[38, 38]⟩ : ByteArray), .int .i64 2] from (k45_mkM _ _ _ (⟨22, (⟨#[38, 38]⟩ : ByteArray), 2⟩ : S45) )) (Reps.c3 (show Kd.M k45 _ _ _ (⟨23, (⟨#[124, 124]⟩ : ByteArray), 1⟩ : S45) [.int .u8 23, .string (⟨#[124, 124]⟩ : ByteArray), .int .i64 1] from (k45_mkM _ _ _ (⟨23, (⟨#[124, 124]⟩ : ByteArray), 1⟩ : S45) )) (Reps.c3 (show Kd.M k45 _ _ _ (⟨6, (⟨#[45]⟩ : ByteArray), 9⟩ : S45) [.int .u8 6, .string (⟨#[45]⟩ : ByteArray), .int .i64 9] from (k45_mkM _ _ _ (⟨6, (⟨#[45]⟩ : ByteArray), 9⟩ : S45) )) (Reps.c3 (show Kd.M k45 _ _ _ (⟨7, (⟨#[33]⟩ : ByteArray), 9⟩ : S45) [.int .u8 7, .string (⟨#[33]⟩ : ByteArray), .int .i64 9] from (k45_mkM _ _ _ (⟨7, (⟨#[33]⟩ : ByteArray), 9⟩ : S45) )) (Reps.c3 (show Kd.M k45 _ _ _ (⟨40, (⟨#[43, 61]⟩ : ByteArray), 0⟩ : S45) [.int .u8 40, .string (⟨#[43, 61]⟩ : ByteArray), .int .i64 0] from (k45_mkM _ _ _ (⟨40, (⟨#[43, 61]⟩ : ByteArray), 0⟩ : S45) )) (Reps.c3 (show Kd.M k45 _ _ _ (⟨41, (⟨#[45, 61]⟩ : ByteArray), 0⟩ : S45) [.int .u8 41, .string (⟨#[45, 61]⟩ : ByteArray), .int .i64 0] from (k45_mkM _ _ _ (⟨41, (⟨#[45, 61]⟩ : ByteArray), 0⟩ : S45) )) (Reps.c3 (show Kd.M k45 _ _ _ (⟨42, (⟨#[94, 61]⟩ : ByteArray), 0⟩ : S45) [.int .u8 42, .string (⟨#[94, 61]⟩ : ByteArray), .int .i64 0] from (k45_mkM _ _ _ (⟨42, (⟨#[94, 61]⟩ : ByteArray), 0⟩ : S45) )) (Reps.none _ _))))))))))))))))))))))); intro v126 w1 ho2 hb hg_ hnew_; clear hg_ hnew_; (first | rw [← Ny125.out] at ho2 | (simp only [Int.reduceToNat] at ho2; rw [← Ny125.out] at ho2)); have n0_ := Aside0.mk (Kd.R_lower ho2 (below_size (by repeat (first | (with_reducible first | exact HB.out | apply below_alloc | apply pw_below_drewN | apply below_drew1) | exact HB.out)))); have n1_ := Aside0.mk (below_step (by repeat (first | (with_reducible first | exact HB.out | apply below_alloc | apply pw_below_drewN | apply below_drew1) | exact HB.out)) hb); clear HB; have HO127 := n0_; have HB := n1_; clear n0_ n1_; clear hb ho2))
  go_ret
  exact ⟨_, by first | rfl | (simp [errW_none, errW_some] <;> rfl) | (simp [*, errW_none, errW_some] <;> rfl), by (with_reducible repeat (first | apply Kd.R_alloc | apply Kd.R_drewN | apply Kd.R_drew)); exact HO127.out, by repeat (first | (with_reducible first | exact HB.out | apply below_alloc | apply pw_below_drewN | apply below_drew1) | exact HB.out)⟩

/-! ### arith_find: function 31 -/
def arith_find.l0 : Nat → Int → List (S45) → Int → Int → Option (Int × ByteArray × Int)
  | 0, _, _, _, _ => none
  | k + 1, x0, x5, x6, x7 => if x7 < x6 then (if 0 ≤ x7 then (if x7 < (x5.length : Int) then (if ((rd_T45 x5 x7).f0) = x0 then (some ((rd_T45 x5 x7).f0, (rd_T45 x5 x7).f1, (rd_T45 x5 x7).f2)) else (arith_find.l0 k x0 x5 x6 (wrap64 (x7 + 1)))) else (none)) else (none)) else (some (0, (⟨#[]⟩ : ByteArray), 0))
def arith_find.f (k : Nat) (a0 : Int) : Option (Int × ByteArray × Int) := (arith_entries.f).bind fun t129 => (arith_find.l0 k a0 t129 (t129.length : Int) 0)
theorem arith_find.mono_l : ∀ k, (∀ y0 y1 y2 y3, LeO (arith_find.l0 k y0 y1 y2 y3) (arith_find.l0 (k + 1) y0 y1 y2 y3))
  | 0 => fun _ _ _ _ r h => by simp [arith_find.l0] at h
  | k + 1 => by
    have ih0 := arith_find.mono_l k
    · intro y0 y1 y2 y3
      unfold arith_find.l0
      repeat' first
      | (with_reducible exact ih0 _ _ _ _)
      | (with_reducible exact LeO.refl _)
      | (with_reducible exact LeO.none _)
      | (with_reducible refine LeO.ite ?_ ?_)
      | (with_reducible refine LeO.bind ?_ (fun _ => ?_))
      | exact ih0 _ _ _ _
      | exact LeO.none _
      | refine LeO.ite ?_ ?_
      | refine LeO.bind ?_ (fun _ => ?_)
theorem arith_find.mono : ∀ a0 k, LeO (arith_find.f k a0) (arith_find.f (k + 1) a0) := by
  intro a0 k
  have ih0 := arith_find.mono_l k
  unfold arith_find.f
  repeat' first
      | (with_reducible exact ih0 _ _ _ _)
      | (with_reducible exact LeO.refl _)
      | (with_reducible exact LeO.none _)
      | (with_reducible refine LeO.ite ?_ ?_)
      | (with_reducible refine LeO.bind ?_ (fun _ => ?_))
      | exact ih0 _ _ _ _
      | exact LeO.none _
      | refine LeO.ite ?_ ?_
      | refine LeO.bind ?_ (fun _ => ?_)
set_option maxHeartbeats 8000000 in
set_option maxRecDepth 100000 in
theorem arith_find.calls (k : Nat) (a0 : Int) (r1 : Int) (r2 : ByteArray) (r3 : Int) (w : World) (h : arith_find.f k a0 = some (r1, r2, r3)) :
    Calls Try.prog 31 #[.int .u8 a0] w fun e w' => e = .returned (.agg #[.int .u8 r1, .string r2, .int .i64 r3]) ∧ Below w.heap.size w w' := by
  have hu45 := Try.underlying45
  have HB := Aside0.mk (Below.refl w.heap.size w)
  have H : ((arith_entries.f).bind fun t129 => (arith_find.l0 k a0 t129 (t129.length : Int) 0)) = some (r1, r2, r3) := h
  clear h
  replace H := Option.bind_eq_some_iff.mp H
  obtain ⟨t129, A20, H⟩ := H
  replace H : (arith_find.l0 k a0 t129 (t129.length : Int) 0) = some (r1, r2, r3) := H
  have A2 := Aside0.mk A20
  clear A20
  have H' := Aside0.mk H
  clear H
  go_enter Try.func31, Try.ntmps31
  go_wp2_with (first | ((with_reducible refine gate_dst (N := 2) rfl ?_); refine box_event ?hg (N := 2) ?hd (cs := #[.int .u8 0, .string (⟨#[]⟩ : ByteArray), .int .i64 0]) (t := 45) ?hr ?_; (case hd => rfl); (case hg => rfl); (case hr => first | (go_simp; done) | (go_simp; rfl)); intro gb128 hg w3 hbox hb; have n0_ := Aside0.mk (below_step (by repeat (first | (with_reducible first | exact HB.out | apply below_alloc | apply pw_below_drewN | apply below_drew1) | exact HB.out)) hb); have n1_ := Aside0.mk (hbox); have n2_ := Aside0.mk ((by rw [hg]; exact (below_size (by repeat (first | (with_reducible first | exact HB.out | apply below_alloc | apply pw_below_drewN | apply below_drew1) | exact HB.out))) : w.heap.size ≤ gb128)); have n3_ := Aside0.mk ((by rw [hg]; exact (below_size (by repeat (first | (with_reducible first | exact HB.out | apply below_alloc | apply pw_below_drewN | apply below_drew1) | exact HB.out))) : w.heap.size ≤ gb128)); clear HB; have HB := n0_; have BK128 := n1_; have GW128 := n2_; have GE128 := n3_; clear n0_ n1_ n2_ n3_; clear hb hbox hg) | ((with_reducible refine gate_callee (f := 32) rfl ?_); refine goesL_ (some 5) rfl rfl Try.func32 (by kernel_rfl) rfl #[] rfl (by (try simp only [List.map_toArray, List.map_cons, List.map_nil]); first | done | rfl | (simp only [List.length_drop, List.length_take]; rfl)) ?_; (with_reducible refine (arith_entries.calls  t129 _ A2.out).mono ?_); rintro e w4 ⟨v130, rfl, ho0, hb⟩; refine ⟨_, rfl, ?_⟩; have n0_ := Aside0.mk (Kd.R_lower (Kd.R_newB ho0 (g := gb128) (o := .cells #[.int .u8 0, .string (⟨#[]⟩ : ByteArray), .int .i64 0] 45 (0, 0)) (by (with_reducible repeat (first | refine blk_drewN ?_ _ | refine blk_drew ?_ | refine blk_alloc ?_ _)); exact BK128.out)) (below_size (by repeat (first | (with_reducible first | exact HB.out | apply below_alloc | apply pw_below_drewN | apply below_drew1 | refine below_set ?_ GE128.out) | exact HB.out)))); have n1_ := Aside0.mk (blk_below (g := gb128) (o := .cells #[.int .u8 0, .string (⟨#[]⟩ : ByteArray), .int .i64 0] 45 (0, 0)) (by (with_reducible repeat (first | refine blk_drewN ?_ _ | refine blk_drew ?_ | refine blk_alloc ?_ _)); exact BK128.out) hb); have n2_ := Aside0.mk (below_step (by repeat (first | (with_reducible first | exact HB.out | apply below_alloc | apply pw_below_drewN | apply below_drew1 | refine below_set ?_ GE128.out) | exact HB.out)) hb); clear BK128; clear HB; have HO131 := n0_; have BK128 := n1_; have HB := n2_; clear n0_ n1_ n2_; (try clear hb); (try clear hb2); (try clear hk); (try clear hi); (try clear ho0); obtain ⟨Ao5, co5, eo5⟩ := Kd.R_slice HO131.out; subst eo5))
  go_loopg [7] k (fun kq v7 w' => ∃ (x7_1 : Int) (x129000_1 : Int) (x129001_1 : ByteArray) (x129002_1 : Int), v7 = .int .i64 x7_1 ∧ Aside0 (arith_find.l0 kq a0 t129 (t129.length : Int) x7_1 = some (r1, r2, r3)) ∧ Aside0 (kq ≤ k) ∧ Aside0 (Kd.R k45 45 w' w.heap.size (fun k_ => k_ ≠ gb128) (.slice Ao5 t129.length co5) t129) ∧ Aside0 (w'.heap[gb128]? = some (.cells #[.int .u8 x129000_1, .string x129001_1, .int .i64 x129002_1] 45 (0, 0))) ∧ Aside0 (Below w.heap.size w w'))
  case atStart => exact ⟨(0), (0), ((⟨#[]⟩ : ByteArray)), (0), (by first | rfl | (simp; done) | (simp [*]; done)), H', ⟨Nat.le_refl _⟩, ⟨by (with_reducible repeat (first | apply Kd.R_alloc | apply Kd.R_drewN | apply Kd.R_drew)); exact Kd.R_mono HO131.out (fun _ hk => hk.2)⟩, ⟨by (with_reducible repeat (first | refine blk_drewN ?_ _ | refine blk_drew ?_ | refine blk_alloc ?_ _)); exact BK128.out⟩, ⟨by repeat (first | (with_reducible first | exact HB.out | apply below_alloc | apply pw_below_drewN | apply below_drew1 | refine below_set ?_ GE128.out) | exact HB.out)⟩⟩
  case round =>
    clear H'
    try clear p2
    try clear c3
    obtain ⟨x7_1, x129000_1, x129001_1, x129002_1, rfl, HA, HK1, HO_5, BK128, HB⟩ := hrel
    cases gk with
    | zero => exact absurd HA.out (by simp [arith_find.l0])
    | succ k1 =>
      have H := HA.out
      clear HA
      simp only [arith_find.l0] at H
      by_cases c6 : x7_1 < (t129.length : Int)
      · rw [if_pos c6] at H
        have c6b0 : decide (x7_1 < (t129.length : Int)) = true := decide_eq_true c6
        clear c6
        by_cases c7 : 0 ≤ x7_1
        · rw [if_pos c7] at H
          have c7b0 : decide (0 ≤ x7_1) = true := decide_eq_true c7
          clear c7
          by_cases c8 : x7_1 < (t129.length : Int)
          · rw [if_pos c8] at H
            have c8b0 : decide (x7_1 < (t129.length : Int)) = true := decide_eq_true c8
            clear c8
            by_cases c9 : ((rd_T45 t129 x7_1).f0) = a0
            · rw [if_pos c9] at H
              have c9b0 : (((rd_T45 t129 x7_1).f0) == a0) = true := beq_iff_eq.mpr c9
              have c9b1 : (((rd_T45 t129 x7_1).f0) != a0) = false := bne_eq_false_iff_eq.mpr c9
              clear c9
              simp only [Option.some.injEq, Prod.mk.injEq] at H
              obtain ⟨rfl, rfl, rfl⟩ := H
              have p132 : 0 ≤ (x7_1 : Int) := of_decide_eq_true (by first | (with_reducible assumption) | assumption)
              have q132 : x7_1 < (t129.length : Int) := of_decide_eq_true (by first | (with_reducible assumption) | assumption)
              obtain ⟨ad132, e132, hx132_0, hx132_1, hx132_2⟩ := at_T45 (Kd.R_reads' HO_5.out).2.2 x7_1 p132 q132
              cases e132
              replace p132 := eq_true p132
              replace q132 := eq_true q132
              go_wp2_with (first | ((with_reducible refine gate_dst (N := 4) rfl ?_); refine box_event ?hg (N := 4) ?hd (cs := #[.int .u8 0, .string (⟨#[]⟩ : ByteArray), .int .i64 0]) (t := 45) ?hr ?_; (case hd => rfl); (case hg => rfl); (case hr => first | (go_simp; done) | (go_simp; rfl)); intro gb133 hg w10 hbox hb; have n0_ := Aside0.mk (Kd.R_below (Kd.R_elderB (by (with_reducible repeat (first | apply Kd.R_alloc | apply Kd.R_drewN | apply Kd.R_drew)); exact HO_5.out) gb133 (Nat.le_of_eq hg.symm)) hb); have n1_ := Aside0.mk (blk_below (g := gb128) (o := .cells #[.int .u8 x129000_1, .string x129001_1, .int .i64 x129002_1] 45 (0, 0)) (by (with_reducible repeat (first | refine blk_drewN ?_ _ | refine blk_drew ?_ | refine blk_alloc ?_ _)); exact BK128.out) hb); have n2_ := Aside0.mk (below_step (by repeat (first | (with_reducible first | exact HB.out | apply below_alloc | apply pw_below_drewN | apply below_drew1 | refine below_set ?_ GE128.out) | exact HB.out)) hb); have n3_ := Aside0.mk (hbox); have n4_ := Aside0.mk ((by rw [hg]; exact (below_size (by repeat (first | (with_reducible first | exact HB.out | apply below_alloc | apply pw_below_drewN | apply below_drew1 | refine below_set ?_ GE128.out) | exact HB.out))) : w.heap.size ≤ gb133)); have n5_ := Aside0.mk ((by rw [hg]; exact (below_size (by repeat (first | (with_reducible first | exact HB.out | apply below_alloc | apply pw_below_drewN | apply below_drew1 | refine below_set ?_ GE128.out) | exact HB.out))) : w.heap.size ≤ gb133)); have n6_ := Aside0.mk ((by rw [hg]; exact Nat.ne_of_lt (blk_lt (g := gb128) (o := .cells #[.int .u8 x129000_1, .string x129001_1, .int .i64 x129002_1] 45 (0, 0)) (by (with_reducible repeat (first | refine blk_drewN ?_ _ | refine blk_drew ?_ | refine blk_alloc ?_ _)); exact BK128.out)) : gb128 ≠ gb133)); have n7_ := Aside0.mk ((by rw [hg]; exact Nat.ne_of_gt (blk_lt (g := gb128) (o := .cells #[.int .u8 x129000_1, .string x129001_1, .int .i64 x129002_1] 45 (0, 0)) (by (with_reducible repeat (first | refine blk_drewN ?_ _ | refine blk_drew ?_ | refine blk_alloc ?_ _)); exact BK128.out)) : gb133 ≠ gb128)); clear HO_5; clear BK128; clear HB; have HO_5 := n0_; have BK128 := n1_; have HB := n2_; have BK133 := n3_; have GW133 := n4_; have GE133 := n5_; have NB128_133 := n6_; have NB133_128 := n7_; clear n0_ n1_ n2_ n3_ n4_ n5_ n6_ n7_; clear hb hbox hg; have hnb11 := NB133_128.out; have hnc11 := NB128_133.out; have hcz12_0 : w10.cell? ⟨gb133, 0, none⟩ = some (.int .u8 0) := (blk_cell BK133.out 0).trans rfl; have hcz12_1 : w10.cell? ⟨gb133, 1, none⟩ = some (.string (⟨#[]⟩ : ByteArray)) := (blk_cell BK133.out 1).trans rfl; have hcz12_2 : w10.cell? ⟨gb133, 2, none⟩ = some (.int .i64 0) := (blk_cell BK133.out 2).trans rfl; have hfz12_0 := blk_frozen BK133.out 0; have hfz12_1 := blk_frozen BK133.out 1; have hfz12_2 := blk_frozen BK133.out 2; have hcz13_0 : w10.cell? ⟨gb128, 0, none⟩ = some (.int .u8 x129000_1) := (blk_cell BK128.out 0).trans rfl; have hcz13_1 : w10.cell? ⟨gb128, 1, none⟩ = some (.string x129001_1) := (blk_cell BK128.out 1).trans rfl; have hcz13_2 : w10.cell? ⟨gb128, 2, none⟩ = some (.int .i64 x129002_1) := (blk_cell BK128.out 2).trans rfl; have hfz13_0 := blk_frozen BK128.out 0; have hfz13_1 := blk_frozen BK128.out 1; have hfz13_2 := blk_frozen BK128.out 2))
              refine bodyPost_ret (results_cell_row rfl _ _ gb128 45 #[.int .u8 ((rd_T45 t129 x7_1).f0), .string ((rd_T45 t129 x7_1).f1), .int .i64 ((rd_T45 t129 x7_1).f2)] (0, 0) _ rfl (by (with_reducible repeat (first | refine blk_drewN ?_ _ | refine blk_drew ?_ | refine blk_alloc ?_ _)); refine blk_put (cs := #[.int .u8 ((rd_T45 t129 x7_1).f0), .string ((rd_T45 t129 x7_1).f1), .int .i64 x129002_1]) ?_ 2 _ rfl; (with_reducible repeat (first | refine blk_drewN ?_ _ | refine blk_drew ?_ | refine blk_alloc ?_ _)); refine blk_put (cs := #[.int .u8 ((rd_T45 t129 x7_1).f0), .string x129001_1, .int .i64 x129002_1]) ?_ 1 _ rfl; (with_reducible repeat (first | refine blk_drewN ?_ _ | refine blk_drew ?_ | refine blk_alloc ?_ _)); refine blk_put (cs := #[.int .u8 x129000_1, .string x129001_1, .int .i64 x129002_1]) ?_ 0 _ rfl; (with_reducible repeat (first | refine blk_drewN ?_ _ | refine blk_drew ?_ | refine blk_alloc ?_ _)); refine blk_far ?_ NB128_133.out _; (with_reducible repeat (first | refine blk_drewN ?_ _ | refine blk_drew ?_ | refine blk_alloc ?_ _)); refine blk_far ?_ NB128_133.out _; (with_reducible repeat (first | refine blk_drewN ?_ _ | refine blk_drew ?_ | refine blk_alloc ?_ _)); refine blk_far ?_ NB128_133.out _; (with_reducible repeat (first | refine blk_drewN ?_ _ | refine blk_drew ?_ | refine blk_alloc ?_ _)); exact BK128.out) Try.underlying45 rfl (by kernel_rfl)) rfl ?_
              exact ⟨by first | rfl | (simp [errW_none, errW_some] <;> rfl) | (simp [*, errW_none, errW_some] <;> rfl), by repeat (first | (with_reducible first | exact HB.out | apply below_alloc | apply pw_below_drewN | apply below_drew1 | refine below_set ?_ GE128.out | refine below_set ?_ GE133.out) | exact HB.out)⟩
            · rw [if_neg c9] at H
              have c9b0 : (((rd_T45 t129 x7_1).f0) == a0) = false := beq_eq_false_iff_ne.mpr c9
              have c9b1 : (((rd_T45 t129 x7_1).f0) != a0) = true := bne_iff_ne.mpr c9
              have H' := Aside0.mk H
              clear H
              have p132 : 0 ≤ (x7_1 : Int) := of_decide_eq_true (by first | (with_reducible assumption) | assumption)
              have q132 : x7_1 < (t129.length : Int) := of_decide_eq_true (by first | (with_reducible assumption) | assumption)
              obtain ⟨ad132, e132, hx132_0, hx132_1, hx132_2⟩ := at_T45 (Kd.R_reads' HO_5.out).2.2 x7_1 p132 q132
              cases e132
              replace p132 := eq_true p132
              replace q132 := eq_true q132
              go_wp2_with (first | ((with_reducible refine gate_dst (N := 4) rfl ?_); refine box_event ?hg (N := 4) ?hd (cs := #[.int .u8 0, .string (⟨#[]⟩ : ByteArray), .int .i64 0]) (t := 45) ?hr ?_; (case hd => rfl); (case hg => rfl); (case hr => first | (go_simp; done) | (go_simp; rfl)); intro gb133 hg w14 hbox hb; have n0_ := Aside0.mk (Kd.R_below (Kd.R_elderB (by (with_reducible repeat (first | apply Kd.R_alloc | apply Kd.R_drewN | apply Kd.R_drew)); exact HO_5.out) gb133 (Nat.le_of_eq hg.symm)) hb); have n1_ := Aside0.mk (blk_below (g := gb128) (o := .cells #[.int .u8 x129000_1, .string x129001_1, .int .i64 x129002_1] 45 (0, 0)) (by (with_reducible repeat (first | refine blk_drewN ?_ _ | refine blk_drew ?_ | refine blk_alloc ?_ _)); exact BK128.out) hb); have n2_ := Aside0.mk (below_step (by repeat (first | (with_reducible first | exact HB.out | apply below_alloc | apply pw_below_drewN | apply below_drew1 | refine below_set ?_ GE128.out) | exact HB.out)) hb); have n3_ := Aside0.mk (hbox); have n4_ := Aside0.mk ((by rw [hg]; exact (below_size (by repeat (first | (with_reducible first | exact HB.out | apply below_alloc | apply pw_below_drewN | apply below_drew1 | refine below_set ?_ GE128.out) | exact HB.out))) : w.heap.size ≤ gb133)); have n5_ := Aside0.mk ((by rw [hg]; exact (below_size (by repeat (first | (with_reducible first | exact HB.out | apply below_alloc | apply pw_below_drewN | apply below_drew1 | refine below_set ?_ GE128.out) | exact HB.out))) : w.heap.size ≤ gb133)); have n6_ := Aside0.mk ((by rw [hg]; exact Nat.ne_of_lt (blk_lt (g := gb128) (o := .cells #[.int .u8 x129000_1, .string x129001_1, .int .i64 x129002_1] 45 (0, 0)) (by (with_reducible repeat (first | refine blk_drewN ?_ _ | refine blk_drew ?_ | refine blk_alloc ?_ _)); exact BK128.out)) : gb128 ≠ gb133)); have n7_ := Aside0.mk ((by rw [hg]; exact Nat.ne_of_gt (blk_lt (g := gb128) (o := .cells #[.int .u8 x129000_1, .string x129001_1, .int .i64 x129002_1] 45 (0, 0)) (by (with_reducible repeat (first | refine blk_drewN ?_ _ | refine blk_drew ?_ | refine blk_alloc ?_ _)); exact BK128.out)) : gb133 ≠ gb128)); clear HO_5; clear BK128; clear HB; have HO_5 := n0_; have BK128 := n1_; have HB := n2_; have BK133 := n3_; have GW133 := n4_; have GE133 := n5_; have NB128_133 := n6_; have NB133_128 := n7_; clear n0_ n1_ n2_ n3_ n4_ n5_ n6_ n7_; clear hb hbox hg; have hnb15 := NB133_128.out; have hnc15 := NB128_133.out; have hcz16_0 : w14.cell? ⟨gb133, 0, none⟩ = some (.int .u8 0) := (blk_cell BK133.out 0).trans rfl; have hcz16_1 : w14.cell? ⟨gb133, 1, none⟩ = some (.string (⟨#[]⟩ : ByteArray)) := (blk_cell BK133.out 1).trans rfl; have hcz16_2 : w14.cell? ⟨gb133, 2, none⟩ = some (.int .i64 0) := (blk_cell BK133.out 2).trans rfl; have hfz16_0 := blk_frozen BK133.out 0; have hfz16_1 := blk_frozen BK133.out 1; have hfz16_2 := blk_frozen BK133.out 2))
              go_roundg k1
              case measure => have := HK1.out; omega
              case rel => exact ⟨(wrap64 (x7_1 + 1)), (x129000_1), (x129001_1), (x129002_1), (by first | rfl | (simp; done) | (simp [*]; done)), H', ⟨by have := HK1.out; omega⟩, ⟨by (with_reducible repeat (first | apply Kd.R_alloc | apply Kd.R_drewN | apply Kd.R_drew)); exact Kd.R_mono (Kd.R_far (p := ⟨gb133, 2, none⟩) (Kd.R_far (p := ⟨gb133, 1, none⟩) (Kd.R_far (p := ⟨gb133, 0, none⟩) (Kd.R_mono HO_5.out (fun k_ hk => (⟨hk, hk.2⟩ : _ ∧ k_ ≠ gb133))) (fun _ hk => hk.2) (.int .u8 ((rd_T45 t129 x7_1).f0))) (fun _ hk => hk.2) (.string ((rd_T45 t129 x7_1).f1))) (fun _ hk => hk.2) (.int .i64 ((rd_T45 t129 x7_1).f2))) (fun _ hk => hk.1.1)⟩, ⟨by (with_reducible repeat (first | refine blk_drewN ?_ _ | refine blk_drew ?_ | refine blk_alloc ?_ _)); refine blk_far ?_ NB128_133.out _; (with_reducible repeat (first | refine blk_drewN ?_ _ | refine blk_drew ?_ | refine blk_alloc ?_ _)); refine blk_far ?_ NB128_133.out _; (with_reducible repeat (first | refine blk_drewN ?_ _ | refine blk_drew ?_ | refine blk_alloc ?_ _)); refine blk_far ?_ NB128_133.out _; (with_reducible repeat (first | refine blk_drewN ?_ _ | refine blk_drew ?_ | refine blk_alloc ?_ _)); exact BK128.out⟩, ⟨by repeat (first | (with_reducible first | exact HB.out | apply below_alloc | apply pw_below_drewN | apply below_drew1 | refine below_set ?_ GE128.out | refine below_set ?_ GE133.out) | exact HB.out)⟩⟩
          · rw [if_neg c8] at H
            exact absurd H (by simp)
        · rw [if_neg c7] at H
          exact absurd H (by simp)
      · rw [if_neg c6] at H
        have c6b0 : decide (x7_1 < (t129.length : Int)) = false := decide_eq_false c6
        clear c6
        simp only [Option.some.injEq, Prod.mk.injEq] at H
        obtain ⟨rfl, rfl, rfl⟩ := H
        have hcz17_0 : wr.cell? ⟨gb128, 0, none⟩ = some (.int .u8 x129000_1) := (blk_cell BK128.out 0).trans rfl
        have hcz17_1 : wr.cell? ⟨gb128, 1, none⟩ = some (.string x129001_1) := (blk_cell BK128.out 1).trans rfl
        have hcz17_2 : wr.cell? ⟨gb128, 2, none⟩ = some (.int .i64 x129002_1) := (blk_cell BK128.out 2).trans rfl
        have hfz17_0 := blk_frozen BK128.out 0
        have hfz17_1 := blk_frozen BK128.out 1
        have hfz17_2 := blk_frozen BK128.out 2
        go_wp2
        refine bodyPost_ret (results_cell_row rfl _ _ gb128 45 #[.int .u8 0, .string (⟨#[]⟩ : ByteArray), .int .i64 0] (0, 0) _ rfl (by (with_reducible repeat (first | refine blk_drewN ?_ _ | refine blk_drew ?_ | refine blk_alloc ?_ _)); refine blk_put (cs := #[.int .u8 0, .string (⟨#[]⟩ : ByteArray), .int .i64 x129002_1]) ?_ 2 _ rfl; (with_reducible repeat (first | refine blk_drewN ?_ _ | refine blk_drew ?_ | refine blk_alloc ?_ _)); refine blk_put (cs := #[.int .u8 0, .string x129001_1, .int .i64 x129002_1]) ?_ 1 _ rfl; (with_reducible repeat (first | refine blk_drewN ?_ _ | refine blk_drew ?_ | refine blk_alloc ?_ _)); refine blk_put (cs := #[.int .u8 x129000_1, .string x129001_1, .int .i64 x129002_1]) ?_ 0 _ rfl; (with_reducible repeat (first | refine blk_drewN ?_ _ | refine blk_drew ?_ | refine blk_alloc ?_ _)); exact BK128.out) Try.underlying45 rfl (by kernel_rfl)) rfl ?_
        exact ⟨by first | rfl | (simp [errW_none, errW_some] <;> rfl) | (simp [*, errW_none, errW_some] <;> rfl), by repeat (first | (with_reducible first | exact HB.out | apply below_alloc | apply pw_below_drewN | apply below_drew1 | refine below_set ?_ GE128.out) | exact HB.out)⟩

end Go.Proofs.Ytnbkmmhomghlmaa.PArithSymbols
