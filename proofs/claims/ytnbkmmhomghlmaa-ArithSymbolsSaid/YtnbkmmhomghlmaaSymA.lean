/- The walks of the symbol and of the level of an operator: printed text in which the field of a struct value that a call hands back is read by a fact of its own. -/
import Derived.Test.YtnbkmmhomghlmaaPArithSymbolsx0
import Derived.Test.YtnbkmmhomghlmaaPArithSymbolsx1
namespace Go.Proofs.Ytnbkmmhomghlmaa.PArithSymbols
open Go.RowKit Go.Proofs.YtnbkmmhomghlmaaW.PrintWords Go.Proofs.YtnbkmmhomghlmaaW.PrintLast Go.Proofs.YtnbkmmhomghlmaaW.PrintMore
attribute [local go_sem] max2_int min2_int max_two min_two max_three min_three max_four min_four   -- for this text's walks alone
set_option linter.unusedVariables false
set_option linter.unusedSimpArgs false

/-! ### arith_Symbol: function 22 -/
def arith_Symbol.f (k : Nat) (a0 : Int) : Option (ByteArray) := (arith_find.f k a0).bind fun bt134 => (some bt134.2.1)
theorem arith_Symbol.mono : ∀ a0 k, LeO (arith_Symbol.f k a0) (arith_Symbol.f (k + 1) a0) := by
  intro a0 k
  unfold arith_Symbol.f
  repeat' first
      | (with_reducible exact arith_find.mono _ _)
      | (with_reducible exact LeO.refl _)
      | (with_reducible exact LeO.none _)
      | (with_reducible refine LeO.ite ?_ ?_)
      | (with_reducible refine LeO.bind ?_ (fun _ => ?_))
      | exact arith_find.mono _ _
      | exact LeO.none _
      | refine LeO.ite ?_ ?_
      | refine LeO.bind ?_ (fun _ => ?_)
set_option maxHeartbeats 8000000 in
set_option maxRecDepth 100000 in
theorem arith_Symbol.calls (k : Nat) (a0 : Int) (r : ByteArray) (w : World) (h : arith_Symbol.f k a0 = some r) :
    Calls Try.prog 22 #[.int .u8 a0] w fun e w' => e = .returned (.string r) ∧ Below w.heap.size w w' := by
  have HB := Aside0.mk (Below.refl w.heap.size w)
  have H : ((arith_find.f k a0).bind fun bt134 => (some bt134.2.1)) = some r := h
  clear h
  replace H := Option.bind_eq_some_iff.mp H
  obtain ⟨⟨t134, t135, t136⟩, A20, H⟩ := H
  replace H : (some t135) = some r := H
  have A2 := Aside0.mk A20
  clear A20
  obtain rfl := Option.some.inj H
  have hfld : ∀ W : World, (Instr.field 45 (.agg #[.int .u8 t134, .string t135, .int .i64 t136]) 1).run Try.prog W = .ok (.string t135) W := fun _ => by kernel_rfl
  go_enter Try.func22, Try.ntmps22
  go_wp2_with (first | ((with_reducible refine gate_callee (f := 31) rfl ?_); refine goesL_ (some 4) rfl rfl Try.func31 (by kernel_rfl) rfl #[.int .u8 a0] rfl (by (try simp only [List.map_toArray, List.map_cons, List.map_nil]); first | done | rfl | (simp only [List.length_drop, List.length_take]; rfl)) ?_; (with_reducible refine (arith_find.calls k a0 t134 t135 t136 _ A2.out).mono ?_); rintro e w3 ⟨rfl, hb⟩; refine ⟨_, rfl, ?_⟩; have n0_ := Aside0.mk (below_step (by repeat (first | (with_reducible first | exact HB.out | apply below_alloc | apply pw_below_drewN | apply below_drew1) | exact HB.out)) hb); clear HB; have HB := n0_; clear n0_; (try clear hb); (try clear hb2); (try clear hk); (try clear hi)))
  go_ret
  exact ⟨by first | rfl | (simp [errW_none, errW_some] <;> rfl) | (simp [*, errW_none, errW_some] <;> rfl), by repeat (first | (with_reducible first | exact HB.out | apply below_alloc | apply pw_below_drewN | apply below_drew1) | exact HB.out)⟩

/-! ### backstepref01_Symbol: function 23 -/
def backstepref01_Symbol.j0 : Nat → Int → Bool → Option (ByteArray)
  | 0, _, _ => none
  | k + 1, x3, x6 => if x6 = true then (some (⟨#[45]⟩ : ByteArray)) else (if x3 = 10 then (some (⟨#[42]⟩ : ByteArray)) else (if x3 = 11 then (some (⟨#[47]⟩ : ByteArray)) else (if x3 = 12 then (some (⟨#[37]⟩ : ByteArray)) else (if x3 = 13 then (some (⟨#[38]⟩ : ByteArray)) else (if x3 = 14 then (some (⟨#[124]⟩ : ByteArray)) else (if x3 = 15 then (some (⟨#[94]⟩ : ByteArray)) else (if x3 = 16 then (some (⟨#[61, 61]⟩ : ByteArray)) else (if x3 = 17 then (some (⟨#[33, 61]⟩ : ByteArray)) else (if x3 = 18 then (some (⟨#[60]⟩ : ByteArray)) else (if x3 = 19 then (some (⟨#[60, 61]⟩ : ByteArray)) else (if x3 = 20 then (some (⟨#[62]⟩ : ByteArray)) else (if x3 = 21 then (some (⟨#[62, 61]⟩ : ByteArray)) else (if x3 = 22 then (some (⟨#[38, 38]⟩ : ByteArray)) else (if x3 = 23 then (some (⟨#[124, 124]⟩ : ByteArray)) else (if x3 = 7 then (some (⟨#[33]⟩ : ByteArray)) else (if x3 = 40 then (some (⟨#[43, 61]⟩ : ByteArray)) else (if x3 = 41 then (some (⟨#[45, 61]⟩ : ByteArray)) else (if x3 = 42 then (some (⟨#[94, 61]⟩ : ByteArray)) else (some (⟨#[]⟩ : ByteArray))))))))))))))))))))
def backstepref01_Symbol.f (k : Nat) (a0 : Int) : Option (ByteArray) := if a0 = 8 then (some (⟨#[43]⟩ : ByteArray)) else (if a0 = 9 then (backstepref01_Symbol.j0 k a0 (a0 == 9)) else (backstepref01_Symbol.j0 k a0 (a0 == 6)))
theorem backstepref01_Symbol.mono_l : ∀ k, (∀ y0 y1, LeO (backstepref01_Symbol.j0 k y0 y1) (backstepref01_Symbol.j0 (k + 1) y0 y1))
  | 0 => fun _ _ r h => by simp [backstepref01_Symbol.j0] at h
  | k + 1 => by
    have ih0 := backstepref01_Symbol.mono_l k
    · intro y0 y1
      unfold backstepref01_Symbol.j0
      repeat' first
      | (with_reducible exact ih0 _ _)
      | (with_reducible exact LeO.refl _)
      | (with_reducible exact LeO.none _)
      | (with_reducible refine LeO.ite ?_ ?_)
      | (with_reducible refine LeO.bind ?_ (fun _ => ?_))
      | exact ih0 _ _
      | exact LeO.none _
      | refine LeO.ite ?_ ?_
      | refine LeO.bind ?_ (fun _ => ?_)
theorem backstepref01_Symbol.mono : ∀ a0 k, LeO (backstepref01_Symbol.f k a0) (backstepref01_Symbol.f (k + 1) a0) := by
  intro a0 k
  have ih0 := backstepref01_Symbol.mono_l k
  unfold backstepref01_Symbol.f
  repeat' first
      | (with_reducible exact ih0 _ _)
      | (with_reducible exact LeO.refl _)
      | (with_reducible exact LeO.none _)
      | (with_reducible refine LeO.ite ?_ ?_)
      | (with_reducible refine LeO.bind ?_ (fun _ => ?_))
      | exact ih0 _ _
      | exact LeO.none _
      | refine LeO.ite ?_ ?_
      | refine LeO.bind ?_ (fun _ => ?_)
set_option maxHeartbeats 8000000 in
set_option maxRecDepth 100000 in
theorem backstepref01_Symbol.calls (k : Nat) (a0 : Int) (r : ByteArray) (w : World) (h : backstepref01_Symbol.f k a0 = some r) :
    Calls Try.prog 23 #[.int .u8 a0] w fun e w' => e = .returned (.string r) ∧ Drawn0 w w' := by
  have H : (if a0 = 8 then (some (⟨#[43]⟩ : ByteArray)) else (if a0 = 9 then (backstepref01_Symbol.j0 k a0 (a0 == 9)) else (backstepref01_Symbol.j0 k a0 (a0 == 6)))) = some r := h
  clear h
  by_cases c2 : a0 = 8
  · rw [if_pos c2] at H
    have c2b0 : (a0 == 8) = true := beq_iff_eq.mpr c2
    have c2b1 : (a0 != 8) = false := bne_eq_false_iff_eq.mpr c2
    clear c2
    obtain rfl := Option.some.inj H
    go_enter Try.func23, Try.ntmps23
    go_wp2
    go_ret
    exact ⟨by first | rfl | (simp; done) | (simp [*]; done), by repeat (first | exact Drawn0.refl _ | apply Drawn0.step)⟩
  · rw [if_neg c2] at H
    have c2b0 : (a0 == 8) = false := beq_eq_false_iff_ne.mpr c2
    have c2b1 : (a0 != 8) = true := bne_iff_ne.mpr c2
    have HC3 := Aside0.mk H
    clear H
    go_enter Try.func23, Try.ntmps23
    go_upto_if 6 with (fail)
    go_cut [6] (fun v6 wc => ∃ (kq : Nat) (x6_2 : Bool), v6 = .bool x6_2 ∧ Aside0 (backstepref01_Symbol.j0 kq a0 x6_2 = some r) ∧ Aside0 (kq ≤ k) ∧ Drawn0 w wc)
    case first =>
      have H := HC3.out
      clear HC3
      by_cases c4 : a0 = 9
      · rw [if_pos c4] at H
        have c4b0 : (a0 == 9) = true := beq_iff_eq.mpr c4
        have c4b1 : (a0 != 9) = false := bne_eq_false_iff_eq.mpr c4
        clear c4
        (first | rw [c4b0] | (simp only [i64_w, i32_w]; rw [c4b0]) | skip)
        have H' := Aside0.mk H
        clear H
        go_wp2
        go_meet
        case rel => exact ⟨_, ((a0 == 9)), (by first | rfl | (simp; done) | (simp [*]; done)), H', ⟨by first | omega | exact Nat.le_refl _⟩, by repeat (first | exact Drawn0.refl _ | apply Drawn0.step)⟩
      · rw [if_neg c4] at H
        have c4b0 : (a0 == 9) = false := beq_eq_false_iff_ne.mpr c4
        have c4b1 : (a0 != 9) = true := bne_iff_ne.mpr c4
        (first | rw [c4b0] | (simp only [i64_w, i32_w]; rw [c4b0]) | skip)
        have H' := Aside0.mk H
        clear H
        go_wp2
        go_meet
        case rel => exact ⟨_, ((a0 == 6)), (by first | rfl | (simp; done) | (simp [*]; done)), H', ⟨by first | omega | exact Nat.le_refl _⟩, by repeat (first | exact Drawn0.refl _ | apply Drawn0.step)⟩
    case rest =>
      clear HC3
      try clear c2
      try clear c2b0
      try clear c2b1
      try clear p2
      try clear c4
      try clear c4b0
      try clear c4b1
      obtain ⟨kq, x6_2, rfl, HA, HJ2, ⟨mc2, rfl⟩⟩ := hcut
      cases kq with
      | zero => exact absurd HA.out (by simp [backstepref01_Symbol.j0])
      | succ kj2 =>
        have H := HA.out
        clear HA
        simp only [backstepref01_Symbol.j0] at H
        by_cases c5 : x6_2 = true
        · subst c5
          have H1 : (some (⟨#[45]⟩ : ByteArray)) = some r := by rw [if_pos rfl] at H; exact H
          clear H
          have H := H1
          clear H1
          obtain rfl := Option.some.inj H
          go_wp2
          go_ret
          exact ⟨by first | rfl | (simp; done) | (simp [*]; done), by repeat (first | exact Drawn0.refl _ | apply Drawn0.step)⟩
        · replace c5 := Bool.eq_false_iff.mpr c5
          subst c5
          have H1 : (if a0 = 10 then (some (⟨#[42]⟩ : ByteArray)) else (if a0 = 11 then (some (⟨#[47]⟩ : ByteArray)) else (if a0 = 12 then (some (⟨#[37]⟩ : ByteArray)) else (if a0 = 13 then (some (⟨#[38]⟩ : ByteArray)) else (if a0 = 14 then (some (⟨#[124]⟩ : ByteArray)) else (if a0 = 15 then (some (⟨#[94]⟩ : ByteArray)) else (if a0 = 16 then (some (⟨#[61, 61]⟩ : ByteArray)) else (if a0 = 17 then (some (⟨#[33, 61]⟩ : ByteArray)) else (if a0 = 18 then (some (⟨#[60]⟩ : ByteArray)) else (if a0 = 19 then (some (⟨#[60, 61]⟩ : ByteArray)) else (if a0 = 20 then (some (⟨#[62]⟩ : ByteArray)) else (if a0 = 21 then (some (⟨#[62, 61]⟩ : ByteArray)) else (if a0 = 22 then (some (⟨#[38, 38]⟩ : ByteArray)) else (if a0 = 23 then (some (⟨#[124, 124]⟩ : ByteArray)) else (if a0 = 7 then (some (⟨#[33]⟩ : ByteArray)) else (if a0 = 40 then (some (⟨#[43, 61]⟩ : ByteArray)) else (if a0 = 41 then (some (⟨#[45, 61]⟩ : ByteArray)) else (if a0 = 42 then (some (⟨#[94, 61]⟩ : ByteArray)) else (some (⟨#[]⟩ : ByteArray)))))))))))))))))))) = some r := by rw [if_neg (show ¬ (false = true) by decide)] at H; exact H
          clear H
          have H := H1
          clear H1
          by_cases c6 : a0 = 10
          · rw [if_pos c6] at H
            have c6b0 : (a0 == 10) = true := beq_iff_eq.mpr c6
            have c6b1 : (a0 != 10) = false := bne_eq_false_iff_eq.mpr c6
            clear c6
            obtain rfl := Option.some.inj H
            go_wp2
            go_ret
            exact ⟨by first | rfl | (simp; done) | (simp [*]; done), by repeat (first | exact Drawn0.refl _ | apply Drawn0.step)⟩
          · rw [if_neg c6] at H
            have c6b0 : (a0 == 10) = false := beq_eq_false_iff_ne.mpr c6
            have c6b1 : (a0 != 10) = true := bne_iff_ne.mpr c6
            by_cases c7 : a0 = 11
            · rw [if_pos c7] at H
              have c7b0 : (a0 == 11) = true := beq_iff_eq.mpr c7
              have c7b1 : (a0 != 11) = false := bne_eq_false_iff_eq.mpr c7
              clear c7
              obtain rfl := Option.some.inj H
              go_wp2
              go_ret
              exact ⟨by first | rfl | (simp; done) | (simp [*]; done), by repeat (first | exact Drawn0.refl _ | apply Drawn0.step)⟩
            · rw [if_neg c7] at H
              have c7b0 : (a0 == 11) = false := beq_eq_false_iff_ne.mpr c7
              have c7b1 : (a0 != 11) = true := bne_iff_ne.mpr c7
              by_cases c8 : a0 = 12
              · rw [if_pos c8] at H
                have c8b0 : (a0 == 12) = true := beq_iff_eq.mpr c8
                have c8b1 : (a0 != 12) = false := bne_eq_false_iff_eq.mpr c8
                clear c8
                obtain rfl := Option.some.inj H
                go_wp2
                go_ret
                exact ⟨by first | rfl | (simp; done) | (simp [*]; done), by repeat (first | exact Drawn0.refl _ | apply Drawn0.step)⟩
              · rw [if_neg c8] at H
                have c8b0 : (a0 == 12) = false := beq_eq_false_iff_ne.mpr c8
                have c8b1 : (a0 != 12) = true := bne_iff_ne.mpr c8
                by_cases c9 : a0 = 13
                · rw [if_pos c9] at H
                  have c9b0 : (a0 == 13) = true := beq_iff_eq.mpr c9
                  have c9b1 : (a0 != 13) = false := bne_eq_false_iff_eq.mpr c9
                  clear c9
                  obtain rfl := Option.some.inj H
                  go_wp2
                  go_ret
                  exact ⟨by first | rfl | (simp; done) | (simp [*]; done), by repeat (first | exact Drawn0.refl _ | apply Drawn0.step)⟩
                · rw [if_neg c9] at H
                  have c9b0 : (a0 == 13) = false := beq_eq_false_iff_ne.mpr c9
                  have c9b1 : (a0 != 13) = true := bne_iff_ne.mpr c9
                  by_cases c10 : a0 = 14
                  · rw [if_pos c10] at H
                    have c10b0 : (a0 == 14) = true := beq_iff_eq.mpr c10
                    have c10b1 : (a0 != 14) = false := bne_eq_false_iff_eq.mpr c10
                    clear c10
                    obtain rfl := Option.some.inj H
                    go_wp2
                    go_ret
                    exact ⟨by first | rfl | (simp; done) | (simp [*]; done), by repeat (first | exact Drawn0.refl _ | apply Drawn0.step)⟩
                  · rw [if_neg c10] at H
                    have c10b0 : (a0 == 14) = false := beq_eq_false_iff_ne.mpr c10
                    have c10b1 : (a0 != 14) = true := bne_iff_ne.mpr c10
                    by_cases c11 : a0 = 15
                    · rw [if_pos c11] at H
                      have c11b0 : (a0 == 15) = true := beq_iff_eq.mpr c11
                      have c11b1 : (a0 != 15) = false := bne_eq_false_iff_eq.mpr c11
                      clear c11
                      obtain rfl := Option.some.inj H
                      go_wp2
                      go_ret
                      exact ⟨by first | rfl | (simp; done) | (simp [*]; done), by repeat (first | exact Drawn0.refl _ | apply Drawn0.step)⟩
                    · rw [if_neg c11] at H
                      have c11b0 : (a0 == 15) = false := beq_eq_false_iff_ne.mpr c11
                      have c11b1 : (a0 != 15) = true := bne_iff_ne.mpr c11
                      by_cases c12 : a0 = 16
                      · rw [if_pos c12] at H
                        have c12b0 : (a0 == 16) = true := beq_iff_eq.mpr c12
                        have c12b1 : (a0 != 16) = false := bne_eq_false_iff_eq.mpr c12
                        clear c12
                        obtain rfl := Option.some.inj H
                        go_wp2
                        go_ret
                        exact ⟨by first | rfl | (simp; done) | (simp [*]; done), by repeat (first | exact Drawn0.refl _ | apply Drawn0.step)⟩
                      · rw [if_neg c12] at H
                        have c12b0 : (a0 == 16) = false := beq_eq_false_iff_ne.mpr c12
                        have c12b1 : (a0 != 16) = true := bne_iff_ne.mpr c12
                        by_cases c13 : a0 = 17
                        · rw [if_pos c13] at H
                          have c13b0 : (a0 == 17) = true := beq_iff_eq.mpr c13
                          have c13b1 : (a0 != 17) = false := bne_eq_false_iff_eq.mpr c13
                          clear c13
                          obtain rfl := Option.some.inj H
                          go_wp2
                          go_ret
                          exact ⟨by first | rfl | (simp; done) | (simp [*]; done), by repeat (first | exact Drawn0.refl _ | apply Drawn0.step)⟩
                        · rw [if_neg c13] at H
                          have c13b0 : (a0 == 17) = false := beq_eq_false_iff_ne.mpr c13
                          have c13b1 : (a0 != 17) = true := bne_iff_ne.mpr c13
                          by_cases c14 : a0 = 18
                          · rw [if_pos c14] at H
                            have c14b0 : (a0 == 18) = true := beq_iff_eq.mpr c14
                            have c14b1 : (a0 != 18) = false := bne_eq_false_iff_eq.mpr c14
                            clear c14
                            obtain rfl := Option.some.inj H
                            go_wp2
                            go_ret
                            exact ⟨by first | rfl | (simp; done) | (simp [*]; done), by repeat (first | exact Drawn0.refl _ | apply Drawn0.step)⟩
                          · rw [if_neg c14] at H
                            have c14b0 : (a0 == 18) = false := beq_eq_false_iff_ne.mpr c14
                            have c14b1 : (a0 != 18) = true := bne_iff_ne.mpr c14
                            by_cases c15 : a0 = 19
                            · rw [if_pos c15] at H
                              have c15b0 : (a0 == 19) = true := beq_iff_eq.mpr c15
                              have c15b1 : (a0 != 19) = false := bne_eq_false_iff_eq.mpr c15
                              clear c15
                              obtain rfl := Option.some.inj H
                              go_wp2
                              go_ret
                              exact ⟨by first | rfl | (simp; done) | (simp [*]; done), by repeat (first | exact Drawn0.refl _ | apply Drawn0.step)⟩
                            · rw [if_neg c15] at H
                              have c15b0 : (a0 == 19) = false := beq_eq_false_iff_ne.mpr c15
                              have c15b1 : (a0 != 19) = true := bne_iff_ne.mpr c15
                              by_cases c16 : a0 = 20
                              · rw [if_pos c16] at H
                                have c16b0 : (a0 == 20) = true := beq_iff_eq.mpr c16
                                have c16b1 : (a0 != 20) = false := bne_eq_false_iff_eq.mpr c16
                                clear c16
                                obtain rfl := Option.some.inj H
                                go_wp2
                                go_ret
                                exact ⟨by first | rfl | (simp; done) | (simp [*]; done), by repeat (first | exact Drawn0.refl _ | apply Drawn0.step)⟩
                              · rw [if_neg c16] at H
                                have c16b0 : (a0 == 20) = false := beq_eq_false_iff_ne.mpr c16
                                have c16b1 : (a0 != 20) = true := bne_iff_ne.mpr c16
                                by_cases c17 : a0 = 21
                                · rw [if_pos c17] at H
                                  have c17b0 : (a0 == 21) = true := beq_iff_eq.mpr c17
                                  have c17b1 : (a0 != 21) = false := bne_eq_false_iff_eq.mpr c17
                                  clear c17
                                  obtain rfl := Option.some.inj H
                                  go_wp2
                                  go_ret
                                  exact ⟨by first | rfl | (simp; done) | (simp [*]; done), by repeat (first | exact Drawn0.refl _ | apply Drawn0.step)⟩
                                · rw [if_neg c17] at H
                                  have c17b0 : (a0 == 21) = false := beq_eq_false_iff_ne.mpr c17
                                  have c17b1 : (a0 != 21) = true := bne_iff_ne.mpr c17
                                  by_cases c18 : a0 = 22
                                  · rw [if_pos c18] at H
                                    have c18b0 : (a0 == 22) = true := beq_iff_eq.mpr c18
                                    have c18b1 : (a0 != 22) = false := bne_eq_false_iff_eq.mpr c18
                                    clear c18
                                    obtain rfl := Option.some.inj H
                                    go_wp2
                                    go_ret
                                    exact ⟨by first | rfl | (simp; done) | (simp [*]; done), by repeat (first | exact Drawn0.refl _ | apply Drawn0.step)⟩
                                  · rw [if_neg c18] at H
                                    have c18b0 : (a0 == 22) = false := beq_eq_false_iff_ne.mpr c18
                                    have c18b1 : (a0 != 22) = true := bne_iff_ne.mpr c18
                                    by_cases c19 : a0 = 23
                                    · rw [if_pos c19] at H
                                      have c19b0 : (a0 == 23) = true := beq_iff_eq.mpr c19
                                      have c19b1 : (a0 != 23) = false := bne_eq_false_iff_eq.mpr c19
                                      clear c19
                                      obtain rfl := Option.some.inj H
                                      go_wp2
                                      go_ret
                                      exact ⟨by first | rfl | (simp; done) | (simp [*]; done), by repeat (first | exact Drawn0.refl _ | apply Drawn0.step)⟩
                                    · rw [if_neg c19] at H
                                      have c19b0 : (a0 == 23) = false := beq_eq_false_iff_ne.mpr c19
                                      have c19b1 : (a0 != 23) = true := bne_iff_ne.mpr c19
                                      by_cases c20 : a0 = 7
                                      · rw [if_pos c20] at H
                                        have c20b0 : (a0 == 7) = true := beq_iff_eq.mpr c20
                                        have c20b1 : (a0 != 7) = false := bne_eq_false_iff_eq.mpr c20
                                        clear c20
                                        obtain rfl := Option.some.inj H
                                        go_wp2
                                        go_ret
                                        exact ⟨by first | rfl | (simp; done) | (simp [*]; done), by repeat (first | exact Drawn0.refl _ | apply Drawn0.step)⟩
                                      · rw [if_neg c20] at H
                                        have c20b0 : (a0 == 7) = false := beq_eq_false_iff_ne.mpr c20
                                        have c20b1 : (a0 != 7) = true := bne_iff_ne.mpr c20
                                        by_cases c21 : a0 = 40
                                        · rw [if_pos c21] at H
                                          have c21b0 : (a0 == 40) = true := beq_iff_eq.mpr c21
                                          have c21b1 : (a0 != 40) = false := bne_eq_false_iff_eq.mpr c21
                                          clear c21
                                          obtain rfl := Option.some.inj H
                                          go_wp2
                                          go_ret
                                          exact ⟨by first | rfl | (simp; done) | (simp [*]; done), by repeat (first | exact Drawn0.refl _ | apply Drawn0.step)⟩
                                        · rw [if_neg c21] at H
                                          have c21b0 : (a0 == 40) = false := beq_eq_false_iff_ne.mpr c21
                                          have c21b1 : (a0 != 40) = true := bne_iff_ne.mpr c21
                                          by_cases c22 : a0 = 41
                                          · rw [if_pos c22] at H
                                            have c22b0 : (a0 == 41) = true := beq_iff_eq.mpr c22
                                            have c22b1 : (a0 != 41) = false := bne_eq_false_iff_eq.mpr c22
                                            clear c22
                                            obtain rfl := Option.some.inj H
                                            go_wp2
                                            go_ret
                                            exact ⟨by first | rfl | (simp; done) | (simp [*]; done), by repeat (first | exact Drawn0.refl _ | apply Drawn0.step)⟩
                                          · rw [if_neg c22] at H
                                            have c22b0 : (a0 == 41) = false := beq_eq_false_iff_ne.mpr c22
                                            have c22b1 : (a0 != 41) = true := bne_iff_ne.mpr c22
                                            by_cases c23 : a0 = 42
                                            · rw [if_pos c23] at H
                                              have c23b0 : (a0 == 42) = true := beq_iff_eq.mpr c23
                                              have c23b1 : (a0 != 42) = false := bne_eq_false_iff_eq.mpr c23
                                              clear c23
                                              obtain rfl := Option.some.inj H
                                              go_wp2
                                              go_ret
                                              exact ⟨by first | rfl | (simp; done) | (simp [*]; done), by repeat (first | exact Drawn0.refl _ | apply Drawn0.step)⟩
                                            · rw [if_neg c23] at H
                                              have c23b0 : (a0 == 42) = false := beq_eq_false_iff_ne.mpr c23
                                              have c23b1 : (a0 != 42) = true := bne_iff_ne.mpr c23
                                              obtain rfl := Option.some.inj H
                                              go_wp2
                                              go_ret
                                              exact ⟨by first | rfl | (simp; done) | (simp [*]; done), by repeat (first | exact Drawn0.refl _ | apply Drawn0.step)⟩

/-! ### arith_Level: function 24 -/
def arith_Level.f (k : Nat) (a0 : Int) : Option (Int) := (arith_find.f k a0).bind fun bt137 => (some bt137.2.2)
theorem arith_Level.mono : ∀ a0 k, LeO (arith_Level.f k a0) (arith_Level.f (k + 1) a0) := by
  intro a0 k
  unfold arith_Level.f
  repeat' first
      | (with_reducible exact arith_find.mono _ _)
      | (with_reducible exact LeO.refl _)
      | (with_reducible exact LeO.none _)
      | (with_reducible refine LeO.ite ?_ ?_)
      | (with_reducible refine LeO.bind ?_ (fun _ => ?_))
      | exact arith_find.mono _ _
      | exact LeO.none _
      | refine LeO.ite ?_ ?_
      | refine LeO.bind ?_ (fun _ => ?_)
set_option maxHeartbeats 8000000 in
set_option maxRecDepth 100000 in
theorem arith_Level.calls (k : Nat) (a0 : Int) (r : Int) (w : World) (h : arith_Level.f k a0 = some r) :
    Calls Try.prog 24 #[.int .u8 a0] w fun e w' => e = .returned (.int .i64 r) ∧ Below w.heap.size w w' := by
  have HB := Aside0.mk (Below.refl w.heap.size w)
  have H : ((arith_find.f k a0).bind fun bt137 => (some bt137.2.2)) = some r := h
  clear h
  replace H := Option.bind_eq_some_iff.mp H
  obtain ⟨⟨t137, t138, t139⟩, A20, H⟩ := H
  replace H : (some t139) = some r := H
  have A2 := Aside0.mk A20
  clear A20
  obtain rfl := Option.some.inj H
  have hfld : ∀ W : World, (Instr.field 45 (.agg #[.int .u8 t137, .string t138, .int .i64 t139]) 2).run Try.prog W = .ok (.int .i64 t139) W := fun _ => by kernel_rfl
  go_enter Try.func24, Try.ntmps24
  go_wp2_with (first | ((with_reducible refine gate_callee (f := 31) rfl ?_); refine goesL_ (some 4) rfl rfl Try.func31 (by kernel_rfl) rfl #[.int .u8 a0] rfl (by (try simp only [List.map_toArray, List.map_cons, List.map_nil]); first | done | rfl | (simp only [List.length_drop, List.length_take]; rfl)) ?_; (with_reducible refine (arith_find.calls k a0 t137 t138 t139 _ A2.out).mono ?_); rintro e w3 ⟨rfl, hb⟩; refine ⟨_, rfl, ?_⟩; have n0_ := Aside0.mk (below_step (by repeat (first | (with_reducible first | exact HB.out | apply below_alloc | apply pw_below_drewN | apply below_drew1) | exact HB.out)) hb); clear HB; have HB := n0_; clear n0_; (try clear hb); (try clear hb2); (try clear hk); (try clear hi)))
  go_ret
  exact ⟨by first | rfl | (simp [errW_none, errW_some] <;> rfl) | (simp [*, errW_none, errW_some] <;> rfl), by repeat (first | (with_reducible first | exact HB.out | apply below_alloc | apply pw_below_drewN | apply below_drew1) | exact HB.out)⟩

end Go.Proofs.Ytnbkmmhomghlmaa.PArithSymbols
