/- Written by a program for this claim: functions of the program as plain functions, and their walks. -/
import Derived.Test.YtnbkmmhomghlmaaOpPx0
import Derived.Test.YtnbkmmhomghlmaaOpPx1
import Derived.Test.YtnbkmmhomghlmaaOpPx2
namespace Go.Proofs.Ytnbkmmhomghlmaa.OpP
open Go.RowKit Go.Proofs.YtnbkmmhomghlmaaW.PrintWords Go.Proofs.YtnbkmmhomghlmaaW.PrintLast Go.Proofs.YtnbkmmhomghlmaaW.PrintMore
attribute [local go_sem] max2_int min2_int max_two min_two max_three min_three max_four min_four   -- for this text's walks alone
set_option linter.unusedVariables false
set_option linter.unusedSimpArgs false

/-! ### backsteplaw01_ArithOperators: function 10 -/
mutual
def backsteplaw01_ArithOperators.l0 : Nat → Int → List Int → Int → Int → Option (Bool)
  | 0, _, _, _, _ => none
  | k + 1, x0, x3, x18, x19 => if x19 < x18 then (if 0 ≤ x19 then (if x19 < (x3.length : Int) then ((backstepref01_Apply.f k (rd x3 x19) 1 1).bind fun bt154 => (if bt154.2 = 0 then (if x19 > 0 then (if 0 ≤ (wrap64 (x19 - 1)) then (if (wrap64 (x19 - 1)) < (x3.length : Int) then (if (rd x3 (wrap64 (x19 - 1))) ≥ (rd x3 x19) then (some false) else (backsteplaw01_ArithOperators.l0 k x0 x3 x18 (wrap64 (x19 + 1)))) else (none)) else (none)) else (backsteplaw01_ArithOperators.l0 k x0 x3 x18 (wrap64 (x19 + 1)))) else (some false))) else (none)) else (none)) else ((backstepref01_Apply.f k x0 1 1).bind fun bt158 => (backsteplaw01_ArithOperators.l1 k x0 x3 bt158.2 false x3 (x3.length : Int) 0))
def backsteplaw01_ArithOperators.l1 : Nat → Int → List Int → Int → Bool → List Int → Int → Int → Option (Bool)
  | 0, _, _, _, _, _, _, _ => none
  | k + 1, x0, x3, x8, x9, x54, x55, x56 => if x56 < x55 then (if 0 ≤ x56 then (if x56 < (x54.length : Int) then (if x9 = true then (backsteplaw01_ArithOperators.l1 k x0 x3 x8 true x54 x55 (wrap64 (x56 + 1))) else (backsteplaw01_ArithOperators.l1 k x0 x3 x8 ((rd x54 x56) == x0) x54 x55 (wrap64 (x56 + 1)))) else (none)) else (none)) else (backsteplaw01_ArithOperators.l2 k x3 x8 x9 (x3.length : Int) 0)
def backsteplaw01_ArithOperators.l2 : Nat → List Int → Int → Bool → Int → Int → Option (Bool)
  | 0, _, _, _, _, _ => none
  | k + 1, x3, x8, x9, x68, x69 => if x69 < x68 then (if 0 ≤ x69 then (if x69 < (x3.length : Int) then (backsteplaw01_ArithOperators.l2 k (x3.set (x69 : Int).toNat 0) x8 x9 x68 (wrap64 (x69 + 1))) else (none)) else (none)) else ((arith_Operators.f k).bind fun t162 => (if (x9 == (x8 == 0)) = true then (if (t162.length : Int) = 16 then (if (x3.length : Int) = 16 then (if 0 < (t162.length : Int) then (some ((rd t162 0) == 8)) else (none)) else (some false)) else (some false)) else (some false)))
end
def backsteplaw01_ArithOperators.f (k : Nat) (a0 : Int) : Option (Bool) := (backsteplaw01_awake.f k).bind fun t149 => (if t149 = true then ((arith_Operators.f k).bind fun t150 => (backsteplaw01_ArithOperators.l0 k a0 t150 (t150.length : Int) 0)) else (some false))
theorem backsteplaw01_ArithOperators.mono_l : ∀ k, (∀ y0 y1 y2 y3, LeO (backsteplaw01_ArithOperators.l0 k y0 y1 y2 y3) (backsteplaw01_ArithOperators.l0 (k + 1) y0 y1 y2 y3)) ∧ (∀ y0 y1 y2 y3 y4 y5 y6, LeO (backsteplaw01_ArithOperators.l1 k y0 y1 y2 y3 y4 y5 y6) (backsteplaw01_ArithOperators.l1 (k + 1) y0 y1 y2 y3 y4 y5 y6)) ∧ (∀ y0 y1 y2 y3 y4, LeO (backsteplaw01_ArithOperators.l2 k y0 y1 y2 y3 y4) (backsteplaw01_ArithOperators.l2 (k + 1) y0 y1 y2 y3 y4))
  | 0 => ⟨fun _ _ _ _ r h => by simp [backsteplaw01_ArithOperators.l0] at h, fun _ _ _ _ _ _ _ r h => by simp [backsteplaw01_ArithOperators.l1] at h, fun _ _ _ _ _ r h => by simp [backsteplaw01_ArithOperators.l2] at h⟩
  | k + 1 => by
    obtain ⟨ih0, ih1, ih2⟩ := backsteplaw01_ArithOperators.mono_l k
    refine ⟨?_, ?_, ?_⟩
    · intro y0 y1 y2 y3
      unfold backsteplaw01_ArithOperators.l0
      repeat' first
      | (with_reducible exact ih0 _ _ _ _)
      | (with_reducible exact ih1 _ _ _ _ _ _ _)
      | (with_reducible exact ih2 _ _ _ _ _)
      | (with_reducible exact arith_Operators.mono _)
      | (with_reducible exact backsteplaw01_awake.mono _)
      | (with_reducible exact backstepref01_Apply.mono _ _ _ _)
      | (with_reducible exact LeO.refl _)
      | (with_reducible exact LeO.none _)
      | (with_reducible refine LeO.ite ?_ ?_)
      | (with_reducible refine LeO.bind ?_ (fun _ => ?_))
      | exact ih0 _ _ _ _
      | exact ih1 _ _ _ _ _ _ _
      | exact ih2 _ _ _ _ _
      | exact arith_Operators.mono _
      | exact backsteplaw01_awake.mono _
      | exact backstepref01_Apply.mono _ _ _ _
      | exact LeO.none _
      | refine LeO.ite ?_ ?_
      | refine LeO.bind ?_ (fun _ => ?_)
    · intro y0 y1 y2 y3 y4 y5 y6
      unfold backsteplaw01_ArithOperators.l1
      repeat' first
      | (with_reducible exact ih0 _ _ _ _)
      | (with_reducible exact ih1 _ _ _ _ _ _ _)
      | (with_reducible exact ih2 _ _ _ _ _)
      | (with_reducible exact arith_Operators.mono _)
      | (with_reducible exact backsteplaw01_awake.mono _)
      | (with_reducible exact backstepref01_Apply.mono _ _ _ _)
      | (with_reducible exact LeO.refl _)
      | (with_reducible exact LeO.none _)
      | (with_reducible refine LeO.ite ?_ ?_)
      | (with_reducible refine LeO.bind ?_ (fun _ => ?_))
      | exact ih0 _ _ _ _
      | exact ih1 _ _ _ _ _ _ _
      | exact ih2 _ _ _ _ _
      | exact arith_Operators.mono _
      | exact backsteplaw01_awake.mono _
      | exact backstepref01_Apply.mono _ _ _ _
      | exact LeO.none _
      | refine LeO.ite ?_ ?_
      | refine LeO.bind ?_ (fun _ => ?_)
    · intro y0 y1 y2 y3 y4
      unfold backsteplaw01_ArithOperators.l2
      repeat' first
      | (with_reducible exact ih0 _ _ _ _)
      | (with_reducible exact ih1 _ _ _ _ _ _ _)
      | (with_reducible exact ih2 _ _ _ _ _)
      | (with_reducible exact arith_Operators.mono _)
      | (with_reducible exact backsteplaw01_awake.mono _)
      | (with_reducible exact backstepref01_Apply.mono _ _ _ _)
      | (with_reducible exact LeO.refl _)
      | (with_reducible exact LeO.none _)
      | (with_reducible refine LeO.ite ?_ ?_)
      | (with_reducible refine LeO.bind ?_ (fun _ => ?_))
      | exact ih0 _ _ _ _
      | exact ih1 _ _ _ _ _ _ _
      | exact ih2 _ _ _ _ _
      | exact arith_Operators.mono _
      | exact backsteplaw01_awake.mono _
      | exact backstepref01_Apply.mono _ _ _ _
      | exact LeO.none _
      | refine LeO.ite ?_ ?_
      | refine LeO.bind ?_ (fun _ => ?_)
theorem backsteplaw01_ArithOperators.mono : ∀ a0 k, LeO (backsteplaw01_ArithOperators.f k a0) (backsteplaw01_ArithOperators.f (k + 1) a0) := by
  intro a0 k
  obtain ⟨ih0, ih1, ih2⟩ := backsteplaw01_ArithOperators.mono_l k
  unfold backsteplaw01_ArithOperators.f
  repeat' first
      | (with_reducible exact ih0 _ _ _ _)
      | (with_reducible exact ih1 _ _ _ _ _ _ _)
      | (with_reducible exact ih2 _ _ _ _ _)
      | (with_reducible exact arith_Operators.mono _)
      | (with_reducible exact backsteplaw01_awake.mono _)
      | (with_reducible exact backstepref01_Apply.mono _ _ _ _)
      | (with_reducible exact LeO.refl _)
      | (with_reducible exact LeO.none _)
      | (with_reducible refine LeO.ite ?_ ?_)
      | (with_reducible refine LeO.bind ?_ (fun _ => ?_))
      | exact ih0 _ _ _ _
      | exact ih1 _ _ _ _ _ _ _
      | exact ih2 _ _ _ _ _
      | exact arith_Operators.mono _
      | exact backsteplaw01_awake.mono _
      | exact backstepref01_Apply.mono _ _ _ _
      | exact LeO.none _
      | refine LeO.ite ?_ ?_
      | refine LeO.bind ?_ (fun _ => ?_)
set_option maxHeartbeats 8000000 in
set_option maxRecDepth 100000 in
theorem backsteplaw01_ArithOperators.calls (k : Nat) (a0 : Int) (r : Bool) (w : World) (h : backsteplaw01_ArithOperators.f k a0 = some r) :
    Calls Try.prog 10 #[.int .u8 a0] w fun e w' => e = .returned (.bool r) ∧ Below w.heap.size w w' := by
  have HB := Aside0.mk (Below.refl w.heap.size w)
  have H : ((backsteplaw01_awake.f k).bind fun t149 => (if t149 = true then ((arith_Operators.f k).bind fun t150 => (backsteplaw01_ArithOperators.l0 k a0 t150 (t150.length : Int) 0)) else (some false))) = some r := h
  clear h
  replace H := Option.bind_eq_some_iff.mp H
  obtain ⟨t149, A20, H⟩ := H
  replace H : (if t149 = true then ((arith_Operators.f k).bind fun t150 => (backsteplaw01_ArithOperators.l0 k a0 t150 (t150.length : Int) 0)) else (some false)) = some r := H
  have A2 := Aside0.mk A20
  clear A20
  by_cases c3 : t149 = true
  · subst c3
    have H1 : ((arith_Operators.f k).bind fun t150 => (backsteplaw01_ArithOperators.l0 k a0 t150 (t150.length : Int) 0)) = some r := by rw [if_pos rfl] at H; exact H
    clear H
    have H := H1
    clear H1
    replace H := Option.bind_eq_some_iff.mp H
    obtain ⟨t150, A40, H⟩ := H
    replace H : (backsteplaw01_ArithOperators.l0 k a0 t150 (t150.length : Int) 0) = some r := H
    have A4 := Aside0.mk A40
    clear A40
    have H' := Aside0.mk H
    clear H
    go_enter Try.func10, Try.ntmps10
    go_wp2_with (first | (go_at_call 11; (with_reducible refine (backsteplaw01_awake.calls k  true _ A2.out).mono ?_); rintro e w' ⟨rfl, ⟨nd, rfl⟩⟩; (try first | exact ⟨rfl, _, World.drewN_drewN _ _ _⟩ | exact ⟨rfl, _, Eq.trans (World.drewN_drewN _ _ _) (congrArg (World.drewN _) (Nat.add_assoc _ _ _))⟩)) | (go_at_call 27; (with_reducible refine (arith_Operators.calls k  t150 _ A4.out).mono ?_); rintro e w5 ⟨v151, rfl, ho0, hb⟩; have n0_ := Aside0.mk (Kd.R_lower ho0 (below_size (by repeat (first | (with_reducible first | exact HB.out | apply below_alloc | apply pw_below_drewN | apply below_drew1) | exact HB.out)))); have n1_ := Aside0.mk (below_step (by repeat (first | (with_reducible first | exact HB.out | apply below_alloc | apply pw_below_drewN | apply below_drew1) | exact HB.out)) hb); clear HB; have HO152 := n0_; have HB := n1_; clear n0_ n1_; (try clear hb); (try clear hb2); (try clear hk); (try clear hi); (try clear ho0); obtain ⟨Ao6, co6, eo6⟩ := Kd.R_slice HO152.out; subst eo6))
    repeat (go_quiet (first | (go_at_call 11; (with_reducible refine (backsteplaw01_awake.calls k  true _ A2.out).mono ?_); rintro e w' ⟨rfl, ⟨nd, rfl⟩⟩; (try first | exact ⟨rfl, _, World.drewN_drewN _ _ _⟩ | exact ⟨rfl, _, Eq.trans (World.drewN_drewN _ _ _) (congrArg (World.drewN _) (Nat.add_assoc _ _ _))⟩)) | (go_at_call 27; (with_reducible refine (arith_Operators.calls k  t150 _ A4.out).mono ?_); rintro e w5 ⟨v151, rfl, ho0, hb⟩; have n0_ := Aside0.mk (Kd.R_lower ho0 (below_size (by repeat (first | (with_reducible first | exact HB.out | apply below_alloc | apply pw_below_drewN | apply below_drew1) | exact HB.out)))); have n1_ := Aside0.mk (below_step (by repeat (first | (with_reducible first | exact HB.out | apply below_alloc | apply pw_below_drewN | apply below_drew1) | exact HB.out)) hb); clear HB; have HO152 := n0_; have HB := n1_; clear n0_ n1_; (try clear hb); (try clear hb2); (try clear hk); (try clear hi); (try clear ho0); obtain ⟨Ao6, co6, eo6⟩ := Kd.R_slice HO152.out; subst eo6)); try go_wp2_with (first | (go_at_call 11; (with_reducible refine (backsteplaw01_awake.calls k  true _ A2.out).mono ?_); rintro e w' ⟨rfl, ⟨nd, rfl⟩⟩; (try first | exact ⟨rfl, _, World.drewN_drewN _ _ _⟩ | exact ⟨rfl, _, Eq.trans (World.drewN_drewN _ _ _) (congrArg (World.drewN _) (Nat.add_assoc _ _ _))⟩)) | (go_at_call 27; (with_reducible refine (arith_Operators.calls k  t150 _ A4.out).mono ?_); rintro e w5 ⟨v151, rfl, ho0, hb⟩; have n0_ := Aside0.mk (Kd.R_lower ho0 (below_size (by repeat (first | (with_reducible first | exact HB.out | apply below_alloc | apply pw_below_drewN | apply below_drew1) | exact HB.out)))); have n1_ := Aside0.mk (below_step (by repeat (first | (with_reducible first | exact HB.out | apply below_alloc | apply pw_below_drewN | apply below_drew1) | exact HB.out)) hb); clear HB; have HO152 := n0_; have HB := n1_; clear n0_ n1_; (try clear hb); (try clear hb2); (try clear hk); (try clear hi); (try clear ho0); obtain ⟨Ao6, co6, eo6⟩ := Kd.R_slice HO152.out; subst eo6)))
    go_loopg [19] k (fun kq v19 w' => ∃ (x19_1 : Int), v19 = .int .i64 x19_1 ∧ Aside0 (backsteplaw01_ArithOperators.l0 kq a0 t150 (t150.length : Int) x19_1 = some r) ∧ Aside0 (kq ≤ k) ∧ Aside0 (Kd.R (Kd.int .u8) 5 w' w.heap.size (fun _ => True) (.slice Ao6 t150.length co6) t150) ∧ Aside0 (Below w.heap.size w w'))
    case atStart => exact ⟨(0), (by first | rfl | (simp; done) | (simp [*]; done)), H', ⟨Nat.le_refl _⟩, ⟨by (with_reducible repeat (first | apply Kd.R_alloc | apply Kd.R_drewN | apply Kd.R_drew)); exact HO152.out⟩, ⟨by repeat (first | (with_reducible first | exact HB.out | apply below_alloc | apply pw_below_drewN | apply below_drew1) | exact HB.out)⟩⟩
    case round =>
      clear H'
      try clear c1
      try clear p2
      try clear c3
      obtain ⟨x19_1, rfl, HA, HK1, HO_3, HB⟩ := hrel
      cases gk with
      | zero => exact absurd HA.out (by simp [backsteplaw01_ArithOperators.l0])
      | succ k1 =>
        have H := HA.out
        clear HA
        simp only [backsteplaw01_ArithOperators.l0] at H
        by_cases c7 : x19_1 < (t150.length : Int)
        · rw [if_pos c7] at H
          have c7b0 : decide (x19_1 < (t150.length : Int)) = true := decide_eq_true c7
          clear c7
          by_cases c8 : 0 ≤ x19_1
          · rw [if_pos c8] at H
            have c8b0 : decide (0 ≤ x19_1) = true := decide_eq_true c8
            clear c8
            by_cases c9 : x19_1 < (t150.length : Int)
            · rw [if_pos c9] at H
              have c9b0 : decide (x19_1 < (t150.length : Int)) = true := decide_eq_true c9
              clear c9
              replace H := Option.bind_eq_some_iff.mp H
              obtain ⟨⟨t154, t155⟩, A100, H⟩ := H
              replace H : (if t155 = 0 then (if x19_1 > 0 then (if 0 ≤ (wrap64 (x19_1 - 1)) then (if (wrap64 (x19_1 - 1)) < (t150.length : Int) then (if (rd t150 (wrap64 (x19_1 - 1))) ≥ (rd t150 x19_1) then (some false) else (backsteplaw01_ArithOperators.l0 k1 a0 t150 (t150.length : Int) (wrap64 (x19_1 + 1)))) else (none)) else (none)) else (backsteplaw01_ArithOperators.l0 k1 a0 t150 (t150.length : Int) (wrap64 (x19_1 + 1)))) else (some false)) = some r := H
              have A10 := Aside0.mk A100
              clear A100
              by_cases c11 : t155 = 0
              · rw [if_pos c11] at H
                have c11b0 : (t155 == 0) = true := beq_iff_eq.mpr c11
                have c11b1 : (t155 != 0) = false := bne_eq_false_iff_eq.mpr c11
                clear c11
                by_cases c12 : x19_1 > 0
                · rw [if_pos c12] at H
                  have c12b0 : decide (0 < x19_1) = true := decide_eq_true c12
                  clear c12
                  obtain ⟨ji13, hji13⟩ : ∃ j_ : Int, (wrap64 (x19_1 - 1)) = j_ := ⟨_, rfl⟩
                  replace H : (if 0 ≤ (ji13) then (if (ji13) < (t150.length : Int) then (if (rd t150 (ji13)) ≥ (rd t150 x19_1) then (some false) else (backsteplaw01_ArithOperators.l0 k1 a0 t150 (t150.length : Int) (wrap64 (x19_1 + 1)))) else (none)) else (none)) = some r := by first | (rw [hji13] at H; exact H) | (simp only [hji13] at H ⊢; exact H)
                  (try rw [hji13] at A10)
                  have hji13w : (IntKind.i64.wrap (x19_1 - 1)) = ji13 := (i64_w _).trans hji13
                  by_cases c14 : 0 ≤ (ji13)
                  · rw [if_pos c14] at H
                    have c14b0 : decide (0 ≤ (ji13)) = true := decide_eq_true c14
                    clear c14
                    by_cases c15 : (ji13) < (t150.length : Int)
                    · rw [if_pos c15] at H
                      have c15b0 : decide ((ji13) < (t150.length : Int)) = true := decide_eq_true c15
                      clear c15
                      by_cases c16 : (rd t150 (ji13)) ≥ (rd t150 x19_1)
                      · rw [if_pos c16] at H
                        have c16b0 : decide ((rd t150 x19_1) ≤ (rd t150 (ji13))) = true := decide_eq_true c16
                        clear c16
                        obtain rfl := Option.some.inj H
                        have p153 : 0 ≤ (x19_1 : Int) := of_decide_eq_true (by first | (with_reducible assumption) | assumption)
                        have q153 : x19_1 < (t150.length : Int) := of_decide_eq_true (by first | (with_reducible assumption) | assumption)
                        obtain ⟨ad153, e153, hx153_0⟩ := Kd.at_int (Kd.R_reads' HO_3.out).2.2 x19_1 p153 q153
                        cases e153
                        replace p153 := eq_true p153
                        replace q153 := eq_true q153
                        go_wp2_with (first | (go_at_call 13; (with_reducible refine (backstepref01_Apply.calls k1 (rd t150 x19_1) 1 1 t154 t155 _ A10.out).mono ?_); rintro e w' ⟨rfl, ⟨nd, rfl⟩⟩; (try first | exact ⟨rfl, _, World.drewN_drewN _ _ _⟩ | exact ⟨rfl, _, Eq.trans (World.drewN_drewN _ _ _) (congrArg (World.drewN _) (Nat.add_assoc _ _ _))⟩); have p156 : 0 ≤ ((ji13) : Int) := of_decide_eq_true (by first | (with_reducible assumption) | assumption); have q156 : (ji13) < (t150.length : Int) := of_decide_eq_true (by first | (with_reducible assumption) | assumption); obtain ⟨ad156, e156, hx156_0⟩ := Kd.at_int (Kd.R_reads' HO_3.out).2.2 (ji13) p156 q156; obtain rfl : ad153 = ad156 := (by injection e156); replace p156 := eq_true p156; replace q156 := eq_true q156; have p157 : 0 ≤ (x19_1 : Int) := of_decide_eq_true (by first | (with_reducible assumption) | assumption); have q157 : x19_1 < (t150.length : Int) := of_decide_eq_true (by first | (with_reducible assumption) | assumption); obtain ⟨ad157, e157, hx157_0⟩ := Kd.at_int (Kd.R_reads' HO_3.out).2.2 x19_1 p157 q157; obtain rfl : ad153 = ad157 := (by injection e157); replace p157 := eq_true p157; replace q157 := eq_true q157))
                        repeat (go_quiet (first | (go_at_call 13; (with_reducible refine (backstepref01_Apply.calls k1 (rd t150 x19_1) 1 1 t154 t155 _ A10.out).mono ?_); rintro e w' ⟨rfl, ⟨nd, rfl⟩⟩; (try first | exact ⟨rfl, _, World.drewN_drewN _ _ _⟩ | exact ⟨rfl, _, Eq.trans (World.drewN_drewN _ _ _) (congrArg (World.drewN _) (Nat.add_assoc _ _ _))⟩); have p156 : 0 ≤ ((ji13) : Int) := of_decide_eq_true (by first | (with_reducible assumption) | assumption); have q156 : (ji13) < (t150.length : Int) := of_decide_eq_true (by first | (with_reducible assumption) | assumption); obtain ⟨ad156, e156, hx156_0⟩ := Kd.at_int (Kd.R_reads' HO_3.out).2.2 (ji13) p156 q156; obtain rfl : ad153 = ad156 := (by injection e156); replace p156 := eq_true p156; replace q156 := eq_true q156; have p157 : 0 ≤ (x19_1 : Int) := of_decide_eq_true (by first | (with_reducible assumption) | assumption); have q157 : x19_1 < (t150.length : Int) := of_decide_eq_true (by first | (with_reducible assumption) | assumption); obtain ⟨ad157, e157, hx157_0⟩ := Kd.at_int (Kd.R_reads' HO_3.out).2.2 x19_1 p157 q157; obtain rfl : ad153 = ad157 := (by injection e157); replace p157 := eq_true p157; replace q157 := eq_true q157)); try go_wp2_with (first | (go_at_call 13; (with_reducible refine (backstepref01_Apply.calls k1 (rd t150 x19_1) 1 1 t154 t155 _ A10.out).mono ?_); rintro e w' ⟨rfl, ⟨nd, rfl⟩⟩; (try first | exact ⟨rfl, _, World.drewN_drewN _ _ _⟩ | exact ⟨rfl, _, Eq.trans (World.drewN_drewN _ _ _) (congrArg (World.drewN _) (Nat.add_assoc _ _ _))⟩); have p156 : 0 ≤ ((ji13) : Int) := of_decide_eq_true (by first | (with_reducible assumption) | assumption); have q156 : (ji13) < (t150.length : Int) := of_decide_eq_true (by first | (with_reducible assumption) | assumption); obtain ⟨ad156, e156, hx156_0⟩ := Kd.at_int (Kd.R_reads' HO_3.out).2.2 (ji13) p156 q156; obtain rfl : ad153 = ad156 := (by injection e156); replace p156 := eq_true p156; replace q156 := eq_true q156; have p157 : 0 ≤ (x19_1 : Int) := of_decide_eq_true (by first | (with_reducible assumption) | assumption); have q157 : x19_1 < (t150.length : Int) := of_decide_eq_true (by first | (with_reducible assumption) | assumption); obtain ⟨ad157, e157, hx157_0⟩ := Kd.at_int (Kd.R_reads' HO_3.out).2.2 x19_1 p157 q157; obtain rfl : ad153 = ad157 := (by injection e157); replace p157 := eq_true p157; replace q157 := eq_true q157)))
                        go_ret
                        exact ⟨by first | rfl | (simp [errW_none, errW_some] <;> rfl) | (simp only [← hji13]; first | rfl | (simp [errW_none, errW_some] <;> rfl)) | (simp [*, errW_none, errW_some] <;> rfl), by repeat (first | (with_reducible first | exact HB.out | apply below_alloc | apply pw_below_drewN | apply below_drew1) | exact HB.out)⟩
                      · rw [if_neg c16] at H
                        have c16b0 : decide ((rd t150 x19_1) ≤ (rd t150 (ji13))) = false := decide_eq_false c16
                        clear c16
                        have H' := Aside0.mk H
                        clear H
                        have p153 : 0 ≤ (x19_1 : Int) := of_decide_eq_true (by first | (with_reducible assumption) | assumption)
                        have q153 : x19_1 < (t150.length : Int) := of_decide_eq_true (by first | (with_reducible assumption) | assumption)
                        obtain ⟨ad153, e153, hx153_0⟩ := Kd.at_int (Kd.R_reads' HO_3.out).2.2 x19_1 p153 q153
                        cases e153
                        replace p153 := eq_true p153
                        replace q153 := eq_true q153
                        go_wp2_with (first | (go_at_call 13; (with_reducible refine (backstepref01_Apply.calls k1 (rd t150 x19_1) 1 1 t154 t155 _ A10.out).mono ?_); rintro e w' ⟨rfl, ⟨nd, rfl⟩⟩; (try first | exact ⟨rfl, _, World.drewN_drewN _ _ _⟩ | exact ⟨rfl, _, Eq.trans (World.drewN_drewN _ _ _) (congrArg (World.drewN _) (Nat.add_assoc _ _ _))⟩); have p156 : 0 ≤ ((ji13) : Int) := of_decide_eq_true (by first | (with_reducible assumption) | assumption); have q156 : (ji13) < (t150.length : Int) := of_decide_eq_true (by first | (with_reducible assumption) | assumption); obtain ⟨ad156, e156, hx156_0⟩ := Kd.at_int (Kd.R_reads' HO_3.out).2.2 (ji13) p156 q156; obtain rfl : ad153 = ad156 := (by injection e156); replace p156 := eq_true p156; replace q156 := eq_true q156; have p157 : 0 ≤ (x19_1 : Int) := of_decide_eq_true (by first | (with_reducible assumption) | assumption); have q157 : x19_1 < (t150.length : Int) := of_decide_eq_true (by first | (with_reducible assumption) | assumption); obtain ⟨ad157, e157, hx157_0⟩ := Kd.at_int (Kd.R_reads' HO_3.out).2.2 x19_1 p157 q157; obtain rfl : ad153 = ad157 := (by injection e157); replace p157 := eq_true p157; replace q157 := eq_true q157))
                        repeat (go_quiet (first | (go_at_call 13; (with_reducible refine (backstepref01_Apply.calls k1 (rd t150 x19_1) 1 1 t154 t155 _ A10.out).mono ?_); rintro e w' ⟨rfl, ⟨nd, rfl⟩⟩; (try first | exact ⟨rfl, _, World.drewN_drewN _ _ _⟩ | exact ⟨rfl, _, Eq.trans (World.drewN_drewN _ _ _) (congrArg (World.drewN _) (Nat.add_assoc _ _ _))⟩); have p156 : 0 ≤ ((ji13) : Int) := of_decide_eq_true (by first | (with_reducible assumption) | assumption); have q156 : (ji13) < (t150.length : Int) := of_decide_eq_true (by first | (with_reducible assumption) | assumption); obtain ⟨ad156, e156, hx156_0⟩ := Kd.at_int (Kd.R_reads' HO_3.out).2.2 (ji13) p156 q156; obtain rfl : ad153 = ad156 := (by injection e156); replace p156 := eq_true p156; replace q156 := eq_true q156; have p157 : 0 ≤ (x19_1 : Int) := of_decide_eq_true (by first | (with_reducible assumption) | assumption); have q157 : x19_1 < (t150.length : Int) := of_decide_eq_true (by first | (with_reducible assumption) | assumption); obtain ⟨ad157, e157, hx157_0⟩ := Kd.at_int (Kd.R_reads' HO_3.out).2.2 x19_1 p157 q157; obtain rfl : ad153 = ad157 := (by injection e157); replace p157 := eq_true p157; replace q157 := eq_true q157)); try go_wp2_with (first | (go_at_call 13; (with_reducible refine (backstepref01_Apply.calls k1 (rd t150 x19_1) 1 1 t154 t155 _ A10.out).mono ?_); rintro e w' ⟨rfl, ⟨nd, rfl⟩⟩; (try first | exact ⟨rfl, _, World.drewN_drewN _ _ _⟩ | exact ⟨rfl, _, Eq.trans (World.drewN_drewN _ _ _) (congrArg (World.drewN _) (Nat.add_assoc _ _ _))⟩); have p156 : 0 ≤ ((ji13) : Int) := of_decide_eq_true (by first | (with_reducible assumption) | assumption); have q156 : (ji13) < (t150.length : Int) := of_decide_eq_true (by first | (with_reducible assumption) | assumption); obtain ⟨ad156, e156, hx156_0⟩ := Kd.at_int (Kd.R_reads' HO_3.out).2.2 (ji13) p156 q156; obtain rfl : ad153 = ad156 := (by injection e156); replace p156 := eq_true p156; replace q156 := eq_true q156; have p157 : 0 ≤ (x19_1 : Int) := of_decide_eq_true (by first | (with_reducible assumption) | assumption); have q157 : x19_1 < (t150.length : Int) := of_decide_eq_true (by first | (with_reducible assumption) | assumption); obtain ⟨ad157, e157, hx157_0⟩ := Kd.at_int (Kd.R_reads' HO_3.out).2.2 x19_1 p157 q157; obtain rfl : ad153 = ad157 := (by injection e157); replace p157 := eq_true p157; replace q157 := eq_true q157)))
                        go_roundg k1
                        case measure => have := HK1.out; omega
                        case rel => exact ⟨(wrap64 (x19_1 + 1)), (by first | rfl | (simp; done) | (simp [*]; done)), H', ⟨by have := HK1.out; omega⟩, ⟨by (with_reducible repeat (first | apply Kd.R_alloc | apply Kd.R_drewN | apply Kd.R_drew)); exact HO_3.out⟩, ⟨by repeat (first | (with_reducible first | exact HB.out | apply below_alloc | apply pw_below_drewN | apply below_drew1) | exact HB.out)⟩⟩
                    · rw [if_neg c15] at H
                      exact absurd H (by simp)
                  · rw [if_neg c14] at H
                    exact absurd H (by simp)
                · rw [if_neg c12] at H
                  have c12b0 : decide (0 < x19_1) = false := decide_eq_false c12
                  clear c12
                  have H' := Aside0.mk H
                  clear H
                  have p153 : 0 ≤ (x19_1 : Int) := of_decide_eq_true (by first | (with_reducible assumption) | assumption)
                  have q153 : x19_1 < (t150.length : Int) := of_decide_eq_true (by first | (with_reducible assumption) | assumption)
                  obtain ⟨ad153, e153, hx153_0⟩ := Kd.at_int (Kd.R_reads' HO_3.out).2.2 x19_1 p153 q153
                  cases e153
                  replace p153 := eq_true p153
                  replace q153 := eq_true q153
                  go_wp2_with (first | (go_at_call 13; (with_reducible refine (backstepref01_Apply.calls k1 (rd t150 x19_1) 1 1 t154 t155 _ A10.out).mono ?_); rintro e w' ⟨rfl, ⟨nd, rfl⟩⟩; (try first | exact ⟨rfl, _, World.drewN_drewN _ _ _⟩ | exact ⟨rfl, _, Eq.trans (World.drewN_drewN _ _ _) (congrArg (World.drewN _) (Nat.add_assoc _ _ _))⟩)))
                  repeat (go_quiet (first | (go_at_call 13; (with_reducible refine (backstepref01_Apply.calls k1 (rd t150 x19_1) 1 1 t154 t155 _ A10.out).mono ?_); rintro e w' ⟨rfl, ⟨nd, rfl⟩⟩; (try first | exact ⟨rfl, _, World.drewN_drewN _ _ _⟩ | exact ⟨rfl, _, Eq.trans (World.drewN_drewN _ _ _) (congrArg (World.drewN _) (Nat.add_assoc _ _ _))⟩))); try go_wp2_with (first | (go_at_call 13; (with_reducible refine (backstepref01_Apply.calls k1 (rd t150 x19_1) 1 1 t154 t155 _ A10.out).mono ?_); rintro e w' ⟨rfl, ⟨nd, rfl⟩⟩; (try first | exact ⟨rfl, _, World.drewN_drewN _ _ _⟩ | exact ⟨rfl, _, Eq.trans (World.drewN_drewN _ _ _) (congrArg (World.drewN _) (Nat.add_assoc _ _ _))⟩))))
                  go_roundg k1
                  case measure => have := HK1.out; omega
                  case rel => exact ⟨(wrap64 (x19_1 + 1)), (by first | rfl | (simp; done) | (simp [*]; done)), H', ⟨by have := HK1.out; omega⟩, ⟨by (with_reducible repeat (first | apply Kd.R_alloc | apply Kd.R_drewN | apply Kd.R_drew)); exact HO_3.out⟩, ⟨by repeat (first | (with_reducible first | exact HB.out | apply below_alloc | apply pw_below_drewN | apply below_drew1) | exact HB.out)⟩⟩
              · rw [if_neg c11] at H
                have c11b0 : (t155 == 0) = false := beq_eq_false_iff_ne.mpr c11
                have c11b1 : (t155 != 0) = true := bne_iff_ne.mpr c11
                obtain rfl := Option.some.inj H
                have p153 : 0 ≤ (x19_1 : Int) := of_decide_eq_true (by first | (with_reducible assumption) | assumption)
                have q153 : x19_1 < (t150.length : Int) := of_decide_eq_true (by first | (with_reducible assumption) | assumption)
                obtain ⟨ad153, e153, hx153_0⟩ := Kd.at_int (Kd.R_reads' HO_3.out).2.2 x19_1 p153 q153
                cases e153
                replace p153 := eq_true p153
                replace q153 := eq_true q153
                go_wp2_with (first | (go_at_call 13; (with_reducible refine (backstepref01_Apply.calls k1 (rd t150 x19_1) 1 1 t154 t155 _ A10.out).mono ?_); rintro e w' ⟨rfl, ⟨nd, rfl⟩⟩; (try first | exact ⟨rfl, _, World.drewN_drewN _ _ _⟩ | exact ⟨rfl, _, Eq.trans (World.drewN_drewN _ _ _) (congrArg (World.drewN _) (Nat.add_assoc _ _ _))⟩)))
                repeat (go_quiet (first | (go_at_call 13; (with_reducible refine (backstepref01_Apply.calls k1 (rd t150 x19_1) 1 1 t154 t155 _ A10.out).mono ?_); rintro e w' ⟨rfl, ⟨nd, rfl⟩⟩; (try first | exact ⟨rfl, _, World.drewN_drewN _ _ _⟩ | exact ⟨rfl, _, Eq.trans (World.drewN_drewN _ _ _) (congrArg (World.drewN _) (Nat.add_assoc _ _ _))⟩))); try go_wp2_with (first | (go_at_call 13; (with_reducible refine (backstepref01_Apply.calls k1 (rd t150 x19_1) 1 1 t154 t155 _ A10.out).mono ?_); rintro e w' ⟨rfl, ⟨nd, rfl⟩⟩; (try first | exact ⟨rfl, _, World.drewN_drewN _ _ _⟩ | exact ⟨rfl, _, Eq.trans (World.drewN_drewN _ _ _) (congrArg (World.drewN _) (Nat.add_assoc _ _ _))⟩))))
                go_ret
                exact ⟨by first | rfl | (simp [errW_none, errW_some] <;> rfl) | (simp [*, errW_none, errW_some] <;> rfl), by repeat (first | (with_reducible first | exact HB.out | apply below_alloc | apply pw_below_drewN | apply below_drew1) | exact HB.out)⟩
            · rw [if_neg c9] at H
              exact absurd H (by simp)
          · rw [if_neg c8] at H
            exact absurd H (by simp)
        · rw [if_neg c7] at H
          have c7b0 : decide (x19_1 < (t150.length : Int)) = false := decide_eq_false c7
          clear c7
          replace H := Option.bind_eq_some_iff.mp H
          obtain ⟨⟨t158, t159⟩, A170, H⟩ := H
          replace H : (backsteplaw01_ArithOperators.l1 k1 a0 t150 t159 false t150 (t150.length : Int) 0) = some r := H
          have A17 := Aside0.mk A170
          clear A170
          have H' := Aside0.mk H
          clear H
          go_wp2_with (first | (go_at_call 13; (with_reducible refine (backstepref01_Apply.calls k1 a0 1 1 t158 t159 _ A17.out).mono ?_); rintro e w' ⟨rfl, ⟨nd, rfl⟩⟩; (try first | exact ⟨rfl, _, World.drewN_drewN _ _ _⟩ | exact ⟨rfl, _, Eq.trans (World.drewN_drewN _ _ _) (congrArg (World.drewN _) (Nat.add_assoc _ _ _))⟩)))
          repeat (go_quiet (first | (go_at_call 13; (with_reducible refine (backstepref01_Apply.calls k1 a0 1 1 t158 t159 _ A17.out).mono ?_); rintro e w' ⟨rfl, ⟨nd, rfl⟩⟩; (try first | exact ⟨rfl, _, World.drewN_drewN _ _ _⟩ | exact ⟨rfl, _, Eq.trans (World.drewN_drewN _ _ _) (congrArg (World.drewN _) (Nat.add_assoc _ _ _))⟩))); try go_wp2_with (first | (go_at_call 13; (with_reducible refine (backstepref01_Apply.calls k1 a0 1 1 t158 t159 _ A17.out).mono ?_); rintro e w' ⟨rfl, ⟨nd, rfl⟩⟩; (try first | exact ⟨rfl, _, World.drewN_drewN _ _ _⟩ | exact ⟨rfl, _, Eq.trans (World.drewN_drewN _ _ _) (congrArg (World.drewN _) (Nat.add_assoc _ _ _))⟩))))
          go_loopg [9, 56] k1 (fun kq v9 v56 w' => ∃ (x9_2 : Bool) (x56_2 : Int), v9 = .bool x9_2 ∧ v56 = .int .i64 x56_2 ∧ Aside0 (backsteplaw01_ArithOperators.l1 kq a0 t150 t159 x9_2 t150 (t150.length : Int) x56_2 = some r) ∧ Aside0 (kq ≤ k1) ∧ Aside0 (Kd.R (Kd.int .u8) 5 w' w.heap.size (fun _ => True) (.slice Ao6 t150.length co6) t150) ∧ Aside0 (Kd.R (Kd.int .u8) 5 w' w.heap.size (fun _ => True) (.slice Ao6 t150.length co6) t150) ∧ Aside0 (Below w.heap.size w w'))
          case atStart => exact ⟨(false), (0), (by first | rfl | (simp; done) | (simp [*]; done)), (by first | rfl | (simp; done) | (simp [*]; done)), H', ⟨Nat.le_refl _⟩, ⟨by (with_reducible repeat (first | apply Kd.R_alloc | apply Kd.R_drewN | apply Kd.R_drew)); exact HO_3.out⟩, ⟨by (with_reducible repeat (first | apply Kd.R_alloc | apply Kd.R_drewN | apply Kd.R_drew)); exact HO_3.out⟩, ⟨by repeat (first | (with_reducible first | exact HB.out | apply below_alloc | apply pw_below_drewN | apply below_drew1) | exact HB.out)⟩⟩
          case round =>
            clear H'
            try clear c1
            try clear p1
            try clear q1
            try clear hx1
            try clear p2
            try clear c3
            try clear p6
            try clear c7
            try clear c7b0
            try clear c8
            try clear c8b0
            try clear c9
            try clear c9b0
            try clear c10
            try clear c11
            try clear c11b0
            try clear c11b1
            try clear c12
            try clear c12b0
            try clear c14
            try clear c14b0
            try clear c15
            try clear c15b0
            try clear p15
            try clear q15
            try clear hx15
            try clear c16
            try clear c16b0
            try clear hx153_0
            try clear hx156_0
            try clear hx157_0
            try clear p153
            try clear p156
            try clear p157
            try clear p2
            try clear q153
            try clear q156
            try clear q157
            obtain ⟨x9_2, x56_2, rfl, rfl, HA, HK2, HO_3, HO_54, HB⟩ := hrel
            cases gk with
            | zero => exact absurd HA.out (by simp [backsteplaw01_ArithOperators.l1])
            | succ k2 =>
              have H := HA.out
              clear HA
              simp only [backsteplaw01_ArithOperators.l1] at H
              by_cases c18 : x56_2 < (t150.length : Int)
              · rw [if_pos c18] at H
                have c18b0 : decide (x56_2 < (t150.length : Int)) = true := decide_eq_true c18
                clear c18
                by_cases c19 : 0 ≤ x56_2
                · rw [if_pos c19] at H
                  have c19b0 : decide (0 ≤ x56_2) = true := decide_eq_true c19
                  clear c19
                  by_cases c20 : x56_2 < (t150.length : Int)
                  · rw [if_pos c20] at H
                    have c20b0 : decide (x56_2 < (t150.length : Int)) = true := decide_eq_true c20
                    clear c20
                    by_cases c21 : x9_2 = true
                    · subst c21
                      have H1 : (backsteplaw01_ArithOperators.l1 k2 a0 t150 t159 true t150 (t150.length : Int) (wrap64 (x56_2 + 1))) = some r := by rw [if_pos rfl] at H; exact H
                      clear H
                      have H := H1
                      clear H1
                      have H' := Aside0.mk H
                      clear H
                      have p160 : 0 ≤ (x56_2 : Int) := of_decide_eq_true (by first | (with_reducible assumption) | assumption)
                      have q160 : x56_2 < (t150.length : Int) := of_decide_eq_true (by first | (with_reducible assumption) | assumption)
                      obtain ⟨ad160, e160, hx160_0⟩ := Kd.at_int (Kd.R_reads' HO_54.out).2.2 x56_2 p160 q160
                      cases e160
                      replace p160 := eq_true p160
                      replace q160 := eq_true q160
                      go_wp2
                      repeat (go_quiet (fail); try go_wp2)
                      go_roundg k2
                      case measure => have := HK1.out; have := HK2.out; omega
                      case rel => exact ⟨(true), (wrap64 (x56_2 + 1)), (by first | rfl | (simp; done) | (simp [*]; done)), (by first | rfl | (simp; done) | (simp [*]; done)), H', ⟨by have := HK1.out; have := HK2.out; omega⟩, ⟨by (with_reducible repeat (first | apply Kd.R_alloc | apply Kd.R_drewN | apply Kd.R_drew)); exact HO_3.out⟩, ⟨by (with_reducible repeat (first | apply Kd.R_alloc | apply Kd.R_drewN | apply Kd.R_drew)); exact HO_54.out⟩, ⟨by repeat (first | (with_reducible first | exact HB.out | apply below_alloc | apply pw_below_drewN | apply below_drew1) | exact HB.out)⟩⟩
                    · replace c21 := Bool.eq_false_iff.mpr c21
                      subst c21
                      have H1 : (backsteplaw01_ArithOperators.l1 k2 a0 t150 t159 ((rd t150 x56_2) == a0) t150 (t150.length : Int) (wrap64 (x56_2 + 1))) = some r := by rw [if_neg (show ¬ (false = true) by decide)] at H; exact H
                      clear H
                      have H := H1
                      clear H1
                      have H' := Aside0.mk H
                      clear H
                      have p160 : 0 ≤ (x56_2 : Int) := of_decide_eq_true (by first | (with_reducible assumption) | assumption)
                      have q160 : x56_2 < (t150.length : Int) := of_decide_eq_true (by first | (with_reducible assumption) | assumption)
                      obtain ⟨ad160, e160, hx160_0⟩ := Kd.at_int (Kd.R_reads' HO_54.out).2.2 x56_2 p160 q160
                      cases e160
                      replace p160 := eq_true p160
                      replace q160 := eq_true q160
                      go_wp2
                      repeat (go_quiet (fail); try go_wp2)
                      go_roundg k2
                      case measure => have := HK1.out; have := HK2.out; omega
                      case rel => exact ⟨(((rd t150 x56_2) == a0)), (wrap64 (x56_2 + 1)), (by first | rfl | (simp; done) | (simp [*]; done)), (by first | rfl | (simp; done) | (simp [*]; done)), H', ⟨by have := HK1.out; have := HK2.out; omega⟩, ⟨by (with_reducible repeat (first | apply Kd.R_alloc | apply Kd.R_drewN | apply Kd.R_drew)); exact HO_3.out⟩, ⟨by (with_reducible repeat (first | apply Kd.R_alloc | apply Kd.R_drewN | apply Kd.R_drew)); exact HO_54.out⟩, ⟨by repeat (first | (with_reducible first | exact HB.out | apply below_alloc | apply pw_below_drewN | apply below_drew1) | exact HB.out)⟩⟩
                  · rw [if_neg c20] at H
                    exact absurd H (by simp)
                · rw [if_neg c19] at H
                  exact absurd H (by simp)
              · rw [if_neg c18] at H
                have c18b0 : decide (x56_2 < (t150.length : Int)) = false := decide_eq_false c18
                clear c18
                have H' := Aside0.mk H
                clear H
                go_wp2
                repeat (go_quiet (fail); try go_wp2)
                go_loopg [69] k2 (fun kq v69 w' => ∃ (x3_3 : List Int) (x69_3 : Int), v69 = .int .i64 x69_3 ∧ Aside0 (backsteplaw01_ArithOperators.l2 kq x3_3 t159 x9_2 (t150.length : Int) x69_3 = some r) ∧ Aside0 (kq ≤ k2) ∧ Aside0 (Kd.R (Kd.int .u8) 5 w' w.heap.size (fun _ => True) (.slice Ao6 t150.length co6) x3_3) ∧ Aside0 (Below w.heap.size w w'))
                case atStart => exact ⟨(t150), (0), (by first | rfl | (simp; done) | (simp [*]; done)), H', ⟨Nat.le_refl _⟩, ⟨by (with_reducible repeat (first | apply Kd.R_alloc | apply Kd.R_drewN | apply Kd.R_drew)); exact HO_3.out⟩, ⟨by repeat (first | (with_reducible first | exact HB.out | apply below_alloc | apply pw_below_drewN | apply below_drew1) | exact HB.out)⟩⟩
                case round =>
                  clear H'
                  try clear c1
                  try clear p1
                  try clear q1
                  try clear hx1
                  try clear c2
                  try clear p2
                  try clear c3
                  try clear p6
                  try clear c7
                  try clear c7b0
                  try clear c8
                  try clear c8b0
                  try clear c9
                  try clear c9b0
                  try clear c10
                  try clear c11
                  try clear c11b0
                  try clear c11b1
                  try clear c12
                  try clear c12b0
                  try clear c14
                  try clear c14b0
                  try clear c15
                  try clear c15b0
                  try clear p15
                  try clear q15
                  try clear hx15
                  try clear c16
                  try clear c16b0
                  try clear p16
                  try clear q16
                  try clear hx16
                  try clear c18
                  try clear c18b0
                  try clear c19
                  try clear c19b0
                  try clear c20
                  try clear c20b0
                  try clear c21
                  try clear hx153_0
                  try clear hx156_0
                  try clear hx157_0
                  try clear hx160_0
                  try clear p1
                  try clear p15
                  try clear p153
                  try clear p156
                  try clear p157
                  try clear p160
                  try clear p2
                  try clear p6
                  try clear q1
                  try clear q15
                  try clear q153
                  try clear q156
                  try clear q157
                  try clear q160
                  obtain ⟨x3_3, x69_3, rfl, HA, HK3, HO_3, HB⟩ := hrel
                  have hl3_3 := (Kd.R_reads' HO_3.out).1
                  rw [hl3_3] at HO_3
                  (try simp only [hl3_3])
                  cases gk with
                  | zero => exact absurd HA.out (by simp [backsteplaw01_ArithOperators.l2])
                  | succ k3 =>
                    have H := HA.out
                    clear HA
                    simp only [backsteplaw01_ArithOperators.l2] at H
                    by_cases c22 : x69_3 < (t150.length : Int)
                    · rw [if_pos c22] at H
                      have c22b0 : decide (x69_3 < (t150.length : Int)) = true := decide_eq_true c22
                      clear c22
                      by_cases c23 : 0 ≤ x69_3
                      · rw [if_pos c23] at H
                        have c23b0 : decide (0 ≤ x69_3) = true := decide_eq_true c23
                        clear c23
                        by_cases c24 : x69_3 < (x3_3.length : Int)
                        · rw [if_pos c24] at H
                          have c24b0 : decide (x69_3 < (x3_3.length : Int)) = true := decide_eq_true c24
                          clear c24
                          obtain ⟨y161, hy161⟩ : ∃ y_ : List Int, y_ = (x3_3.set (x69_3 : Int).toNat 0) := ⟨_, rfl⟩
                          replace H : (backsteplaw01_ArithOperators.l2 k3 y161 t159 x9_2 (t150.length : Int) (wrap64 (x69_3 + 1))) = some r := by first | (rw [hy161]; with_reducible exact H) | (have H2_ := (Option.bind_some _ _).symm.trans H; rw [hy161]; with_reducible exact H2_) | (have H2_ := (Option.bind_some _ _).symm.trans H; with_reducible exact H2_) | with_reducible exact H | (rw [hy161]; exact H) | exact H
                          have Ny161 := Aside0.mk hy161
                          clear hy161
                          have H' := Aside0.mk H
                          clear H
                          have p25 : 0 ≤ (x69_3 : Int) := of_decide_eq_true (by first | (with_reducible assumption) | assumption)
                          have q25 : (x69_3 : Int) < ((x3_3.length : Int) : Int) := of_decide_eq_true (by first | (with_reducible assumption) | assumption)
                          obtain ⟨go25, co25, eo25, gb25, gl25, cl25, HG25⟩ := Kd.R_form HO_3.out (by omega)
                          (first | cases eo25 | (injection eo25 with ea_ en_ ec_; (first | subst ea_ | (injection ea_ with ea_; subst ea_)); subst ec_; clear en_))
                          have GB25 := Aside0.mk gb25
                          have GG25 := Aside0.mk HG25
                          clear gb25 gl25 HG25
                          obtain ⟨hx25_0, hf25_0⟩ := Kd.R_celln 0 HO_3.out (x69_3 : Int) p25 q25
                          replace p25 := eq_true p25
                          replace q25 := eq_true q25
                          have HP26 := Kd.R_putg HO_3.out (x69_3 : Int) 0
                          go_wp2_with (first | ((with_reducible refine gate_store (t := 5) (p := 74) rfl ?_); (try (rw [drewN_self wr]; generalize hq_ : World.drewN wr _ = wr; have n0_ := Aside0.mk (Kd.R_at hq_ HO_3.out); have n1_ := Aside0.mk (below_at hq_ HB.out); clear hq_ HO_3 HB; have HO_3 := n0_; have HB := n1_; clear n0_ n1_; (try (have HP26 := Kd.R_putg HO_3.out (x69_3 : Int) 0)))); refine store_event (t := 5) (p := 74) (v := ?vo_w27) (w1 := (wr.setCell ⟨go25, (x69_3 : Int).toNat, none⟩ (.int .u8 0))) ?hg ?ho ?hn ?hr ?_; (case ho => rfl); (case hg => rfl); (case hn => rfl); (case hr => first | (go_simp; done) | (go_simp; rfl)); intro w27 hw; have hg : wr.grownBy w27 (some go25) := (by rw [hw]; exact HP26.2); have hp_ : Kd.R (Kd.int .u8) 5 w27 w.heap.size (fun _ => True) (.slice (some ⟨go25, 0, none⟩) x3_3.length co6) y161 := (by rw [hw, Ny161.out]; exact HP26.1); clear HP26; have n0_ := Aside0.mk (hp_); have n1_ := Aside0.mk ((by rw [hw]; exact below_set (HB.out) GB25.out : Below w.heap.size w w27)); clear HO_3; clear HB; have HO_3 := n0_; have HB := n1_; clear n0_ n1_; clear hg hw hp_))
                          repeat (go_quiet (first | ((with_reducible refine gate_store (t := 5) (p := 74) rfl ?_); (try (rw [drewN_self wr]; generalize hq_ : World.drewN wr _ = wr; have n0_ := Aside0.mk (Kd.R_at hq_ HO_3.out); have n1_ := Aside0.mk (below_at hq_ HB.out); clear hq_ HO_3 HB; have HO_3 := n0_; have HB := n1_; clear n0_ n1_; (try (have HP26 := Kd.R_putg HO_3.out (x69_3 : Int) 0)))); refine store_event (t := 5) (p := 74) (v := ?vo_w27) (w1 := (wr.setCell ⟨go25, (x69_3 : Int).toNat, none⟩ (.int .u8 0))) ?hg ?ho ?hn ?hr ?_; (case ho => rfl); (case hg => rfl); (case hn => rfl); (case hr => first | (go_simp; done) | (go_simp; rfl)); intro w27 hw; have hg : wr.grownBy w27 (some go25) := (by rw [hw]; exact HP26.2); have hp_ : Kd.R (Kd.int .u8) 5 w27 w.heap.size (fun _ => True) (.slice (some ⟨go25, 0, none⟩) x3_3.length co6) y161 := (by rw [hw, Ny161.out]; exact HP26.1); clear HP26; have n0_ := Aside0.mk (hp_); have n1_ := Aside0.mk ((by rw [hw]; exact below_set (HB.out) GB25.out : Below w.heap.size w w27)); clear HO_3; clear HB; have HO_3 := n0_; have HB := n1_; clear n0_ n1_; clear hg hw hp_)); try go_wp2_with (first | ((with_reducible refine gate_store (t := 5) (p := 74) rfl ?_); (try (rw [drewN_self wr]; generalize hq_ : World.drewN wr _ = wr; have n0_ := Aside0.mk (Kd.R_at hq_ HO_3.out); have n1_ := Aside0.mk (below_at hq_ HB.out); clear hq_ HO_3 HB; have HO_3 := n0_; have HB := n1_; clear n0_ n1_; (try (have HP26 := Kd.R_putg HO_3.out (x69_3 : Int) 0)))); refine store_event (t := 5) (p := 74) (v := ?vo_w27) (w1 := (wr.setCell ⟨go25, (x69_3 : Int).toNat, none⟩ (.int .u8 0))) ?hg ?ho ?hn ?hr ?_; (case ho => rfl); (case hg => rfl); (case hn => rfl); (case hr => first | (go_simp; done) | (go_simp; rfl)); intro w27 hw; have hg : wr.grownBy w27 (some go25) := (by rw [hw]; exact HP26.2); have hp_ : Kd.R (Kd.int .u8) 5 w27 w.heap.size (fun _ => True) (.slice (some ⟨go25, 0, none⟩) x3_3.length co6) y161 := (by rw [hw, Ny161.out]; exact HP26.1); clear HP26; have n0_ := Aside0.mk (hp_); have n1_ := Aside0.mk ((by rw [hw]; exact below_set (HB.out) GB25.out : Below w.heap.size w w27)); clear HO_3; clear HB; have HO_3 := n0_; have HB := n1_; clear n0_ n1_; clear hg hw hp_)))
                          (try simp only [← hl3_3])
                          go_roundg k3
                          case measure => have := HK1.out; have := HK2.out; have := HK3.out; omega
                          case rel => exact ⟨(y161), (wrap64 (x69_3 + 1)), (by first | rfl | (simp; done) | (simp [*]; done)), H', ⟨by have := HK1.out; have := HK2.out; have := HK3.out; omega⟩, ⟨by (try simp only [hl3_3]); (with_reducible repeat (first | apply Kd.R_alloc | apply Kd.R_drewN | apply Kd.R_drew)); exact HO_3.out⟩, ⟨by repeat (first | (with_reducible first | exact HB.out | apply below_alloc | apply pw_below_drewN | apply below_drew1) | exact HB.out)⟩⟩
                        · rw [if_neg c24] at H
                          exact absurd H (by simp)
                      · rw [if_neg c23] at H
                        exact absurd H (by simp)
                    · rw [if_neg c22] at H
                      have c22b0 : decide (x69_3 < (t150.length : Int)) = false := decide_eq_false c22
                      have c22b9 : decide (x69_3 < (x3_3.length : Int)) = false := by rw [← hl3_3]; exact c22b0
                      clear c22
                      replace H := Option.bind_eq_some_iff.mp H
                      obtain ⟨t162, A280, H⟩ := H
                      replace H : (if (x9_2 == (t159 == 0)) = true then (if (t162.length : Int) = 16 then (if (x3_3.length : Int) = 16 then (if 0 < (t162.length : Int) then (some ((rd t162 0) == 8)) else (none)) else (some false)) else (some false)) else (some false)) = some r := H
                      have A28 := Aside0.mk A280
                      clear A280
                      by_cases c29 : (x9_2 == (t159 == 0)) = true
                      · rw [if_pos c29] at H
                        have c29b0 : (x9_2 == (t159 == 0)) = true := c29
                        (try (have c29b1 : decide (x9_2 = (t159 == 0)) = true := by simpa using c29))
                        (try (have c29b2 : (x9_2 == (t159 == 0)) = true := by simpa using c29))
                        clear c29
                        by_cases c30 : (t162.length : Int) = 16
                        · rw [if_pos c30] at H
                          have c30b0 : ((t162.length : Int) == 16) = true := beq_iff_eq.mpr c30
                          have c30b1 : ((t162.length : Int) != 16) = false := bne_eq_false_iff_eq.mpr c30
                          clear c30
                          by_cases c31 : (x3_3.length : Int) = 16
                          · rw [if_pos c31] at H
                            have c31b0 : ((x3_3.length : Int) == 16) = true := beq_iff_eq.mpr c31
                            have c31b1 : ((x3_3.length : Int) != 16) = false := bne_eq_false_iff_eq.mpr c31
                            clear c31
                            by_cases c32 : 0 < (t162.length : Int)
                            · rw [if_pos c32] at H
                              have c32b0 : decide (0 < (t162.length : Int)) = true := decide_eq_true c32
                              have c32b1 : decide (0 < t162.length) = true := decide_eq_true (by omega)
                              clear c32
                              obtain rfl := Option.some.inj H
                              go_wp2_with (first | (go_at_call 27; (with_reducible refine (arith_Operators.calls k3  t162 _ A28.out).mono ?_); rintro e w33 ⟨v163, rfl, ho0, hb⟩; have n0_ := Aside0.mk (Kd.R_elder' (by (with_reducible repeat (first | apply Kd.R_alloc | apply Kd.R_drewN | apply Kd.R_drew)); exact HO_3.out) (Kd.R_base ho0) hb); have n1_ := Aside0.mk (Kd.R_lower (Kd.R_new' ho0 (Kd.R_lt (by (with_reducible repeat (first | apply Kd.R_alloc | apply Kd.R_drewN | apply Kd.R_drew)); exact HO_3.out))) (below_size (by repeat (first | (with_reducible first | exact HB.out | apply below_alloc | apply pw_below_drewN | apply below_drew1) | exact HB.out)))); have n2_ := Aside0.mk (below_step (by repeat (first | (with_reducible first | exact HB.out | apply below_alloc | apply pw_below_drewN | apply below_drew1) | exact HB.out)) hb); clear HO_3; clear HB; have HO_3 := n0_; have HO164 := n1_; have HB := n2_; clear n0_ n1_ n2_; (try clear hb); (try clear hb2); (try clear hk); (try clear hi); (try clear ho0); obtain ⟨Ao34, co34, eo34⟩ := Kd.R_slice HO164.out; subst eo34; have p165 : 0 ≤ (0 : Int) := (by omega); have q165 : 0 < (t162.length : Int) := of_decide_eq_true (by first | (with_reducible assumption) | assumption); obtain ⟨ad165, e165, hx165_0⟩ := Kd.at_int (Kd.R_reads' HO164.out).2.2 0 p165 q165; cases e165; have qi165 : (0 < t162.length) = True := eq_true (by omega); (try rw [show ((0 : Int)).toNat = 0 from rfl] at hx165_0); (try rw [Addr.add_zero'] at hx165_0); replace p165 := eq_true p165; replace q165 := eq_true q165))
                              repeat (go_quiet (first | (go_at_call 27; (with_reducible refine (arith_Operators.calls k3  t162 _ A28.out).mono ?_); rintro e w33 ⟨v163, rfl, ho0, hb⟩; have n0_ := Aside0.mk (Kd.R_elder' (by (with_reducible repeat (first | apply Kd.R_alloc | apply Kd.R_drewN | apply Kd.R_drew)); exact HO_3.out) (Kd.R_base ho0) hb); have n1_ := Aside0.mk (Kd.R_lower (Kd.R_new' ho0 (Kd.R_lt (by (with_reducible repeat (first | apply Kd.R_alloc | apply Kd.R_drewN | apply Kd.R_drew)); exact HO_3.out))) (below_size (by repeat (first | (with_reducible first | exact HB.out | apply below_alloc | apply pw_below_drewN | apply below_drew1) | exact HB.out)))); have n2_ := Aside0.mk (below_step (by repeat (first | (with_reducible first | exact HB.out | apply below_alloc | apply pw_below_drewN | apply below_drew1) | exact HB.out)) hb); clear HO_3; clear HB; have HO_3 := n0_; have HO164 := n1_; have HB := n2_; clear n0_ n1_ n2_; (try clear hb); (try clear hb2); (try clear hk); (try clear hi); (try clear ho0); obtain ⟨Ao34, co34, eo34⟩ := Kd.R_slice HO164.out; subst eo34; have p165 : 0 ≤ (0 : Int) := (by omega); have q165 : 0 < (t162.length : Int) := of_decide_eq_true (by first | (with_reducible assumption) | assumption); obtain ⟨ad165, e165, hx165_0⟩ := Kd.at_int (Kd.R_reads' HO164.out).2.2 0 p165 q165; cases e165; have qi165 : (0 < t162.length) = True := eq_true (by omega); (try rw [show ((0 : Int)).toNat = 0 from rfl] at hx165_0); (try rw [Addr.add_zero'] at hx165_0); replace p165 := eq_true p165; replace q165 := eq_true q165)); try go_wp2_with (first | (go_at_call 27; (with_reducible refine (arith_Operators.calls k3  t162 _ A28.out).mono ?_); rintro e w33 ⟨v163, rfl, ho0, hb⟩; have n0_ := Aside0.mk (Kd.R_elder' (by (with_reducible repeat (first | apply Kd.R_alloc | apply Kd.R_drewN | apply Kd.R_drew)); exact HO_3.out) (Kd.R_base ho0) hb); have n1_ := Aside0.mk (Kd.R_lower (Kd.R_new' ho0 (Kd.R_lt (by (with_reducible repeat (first | apply Kd.R_alloc | apply Kd.R_drewN | apply Kd.R_drew)); exact HO_3.out))) (below_size (by repeat (first | (with_reducible first | exact HB.out | apply below_alloc | apply pw_below_drewN | apply below_drew1) | exact HB.out)))); have n2_ := Aside0.mk (below_step (by repeat (first | (with_reducible first | exact HB.out | apply below_alloc | apply pw_below_drewN | apply below_drew1) | exact HB.out)) hb); clear HO_3; clear HB; have HO_3 := n0_; have HO164 := n1_; have HB := n2_; clear n0_ n1_ n2_; (try clear hb); (try clear hb2); (try clear hk); (try clear hi); (try clear ho0); obtain ⟨Ao34, co34, eo34⟩ := Kd.R_slice HO164.out; subst eo34; have p165 : 0 ≤ (0 : Int) := (by omega); have q165 : 0 < (t162.length : Int) := of_decide_eq_true (by first | (with_reducible assumption) | assumption); obtain ⟨ad165, e165, hx165_0⟩ := Kd.at_int (Kd.R_reads' HO164.out).2.2 0 p165 q165; cases e165; have qi165 : (0 < t162.length) = True := eq_true (by omega); (try rw [show ((0 : Int)).toNat = 0 from rfl] at hx165_0); (try rw [Addr.add_zero'] at hx165_0); replace p165 := eq_true p165; replace q165 := eq_true q165)))
                              trace_state; go_ret
                              exact ⟨by first | rfl | (simp [errW_none, errW_some] <;> rfl) | (simp [*, errW_none, errW_some] <;> rfl), by repeat (first | (with_reducible first | exact HB.out | apply below_alloc | apply pw_below_drewN | apply below_drew1) | exact HB.out)⟩
                            · rw [if_neg c32] at H
                              exact absurd H (by simp)
                          · rw [if_neg c31] at H
                            have c31b0 : ((x3_3.length : Int) == 16) = false := beq_eq_false_iff_ne.mpr c31
                            have c31b1 : ((x3_3.length : Int) != 16) = true := bne_iff_ne.mpr c31
                            obtain rfl := Option.some.inj H
                            go_wp2_with (first | (go_at_call 27; (with_reducible refine (arith_Operators.calls k3  t162 _ A28.out).mono ?_); rintro e w35 ⟨v163, rfl, ho0, hb⟩; have n0_ := Aside0.mk (Kd.R_elder' (by (with_reducible repeat (first | apply Kd.R_alloc | apply Kd.R_drewN | apply Kd.R_drew)); exact HO_3.out) (Kd.R_base ho0) hb); have n1_ := Aside0.mk (Kd.R_lower (Kd.R_new' ho0 (Kd.R_lt (by (with_reducible repeat (first | apply Kd.R_alloc | apply Kd.R_drewN | apply Kd.R_drew)); exact HO_3.out))) (below_size (by repeat (first | (with_reducible first | exact HB.out | apply below_alloc | apply pw_below_drewN | apply below_drew1) | exact HB.out)))); have n2_ := Aside0.mk (below_step (by repeat (first | (with_reducible first | exact HB.out | apply below_alloc | apply pw_below_drewN | apply below_drew1) | exact HB.out)) hb); clear HO_3; clear HB; have HO_3 := n0_; have HO164 := n1_; have HB := n2_; clear n0_ n1_ n2_; (try clear hb); (try clear hb2); (try clear hk); (try clear hi); (try clear ho0); obtain ⟨Ao36, co36, eo36⟩ := Kd.R_slice HO164.out; subst eo36))
                            repeat (go_quiet (first | (go_at_call 27; (with_reducible refine (arith_Operators.calls k3  t162 _ A28.out).mono ?_); rintro e w35 ⟨v163, rfl, ho0, hb⟩; have n0_ := Aside0.mk (Kd.R_elder' (by (with_reducible repeat (first | apply Kd.R_alloc | apply Kd.R_drewN | apply Kd.R_drew)); exact HO_3.out) (Kd.R_base ho0) hb); have n1_ := Aside0.mk (Kd.R_lower (Kd.R_new' ho0 (Kd.R_lt (by (with_reducible repeat (first | apply Kd.R_alloc | apply Kd.R_drewN | apply Kd.R_drew)); exact HO_3.out))) (below_size (by repeat (first | (with_reducible first | exact HB.out | apply below_alloc | apply pw_below_drewN | apply below_drew1) | exact HB.out)))); have n2_ := Aside0.mk (below_step (by repeat (first | (with_reducible first | exact HB.out | apply below_alloc | apply pw_below_drewN | apply below_drew1) | exact HB.out)) hb); clear HO_3; clear HB; have HO_3 := n0_; have HO164 := n1_; have HB := n2_; clear n0_ n1_ n2_; (try clear hb); (try clear hb2); (try clear hk); (try clear hi); (try clear ho0); obtain ⟨Ao36, co36, eo36⟩ := Kd.R_slice HO164.out; subst eo36)); try go_wp2_with (first | (go_at_call 27; (with_reducible refine (arith_Operators.calls k3  t162 _ A28.out).mono ?_); rintro e w35 ⟨v163, rfl, ho0, hb⟩; have n0_ := Aside0.mk (Kd.R_elder' (by (with_reducible repeat (first | apply Kd.R_alloc | apply Kd.R_drewN | apply Kd.R_drew)); exact HO_3.out) (Kd.R_base ho0) hb); have n1_ := Aside0.mk (Kd.R_lower (Kd.R_new' ho0 (Kd.R_lt (by (with_reducible repeat (first | apply Kd.R_alloc | apply Kd.R_drewN | apply Kd.R_drew)); exact HO_3.out))) (below_size (by repeat (first | (with_reducible first | exact HB.out | apply below_alloc | apply pw_below_drewN | apply below_drew1) | exact HB.out)))); have n2_ := Aside0.mk (below_step (by repeat (first | (with_reducible first | exact HB.out | apply below_alloc | apply pw_below_drewN | apply below_drew1) | exact HB.out)) hb); clear HO_3; clear HB; have HO_3 := n0_; have HO164 := n1_; have HB := n2_; clear n0_ n1_ n2_; (try clear hb); (try clear hb2); (try clear hk); (try clear hi); (try clear ho0); obtain ⟨Ao36, co36, eo36⟩ := Kd.R_slice HO164.out; subst eo36)))
                            go_ret
                            exact ⟨by first | rfl | (simp [errW_none, errW_some] <;> rfl) | (simp [*, errW_none, errW_some] <;> rfl), by repeat (first | (with_reducible first | exact HB.out | apply below_alloc | apply pw_below_drewN | apply below_drew1) | exact HB.out)⟩
                        · rw [if_neg c30] at H
                          have c30b0 : ((t162.length : Int) == 16) = false := beq_eq_false_iff_ne.mpr c30
                          have c30b1 : ((t162.length : Int) != 16) = true := bne_iff_ne.mpr c30
                          obtain rfl := Option.some.inj H
                          go_wp2_with (first | (go_at_call 27; (with_reducible refine (arith_Operators.calls k3  t162 _ A28.out).mono ?_); rintro e w37 ⟨v163, rfl, ho0, hb⟩; have n0_ := Aside0.mk (Kd.R_elder' (by (with_reducible repeat (first | apply Kd.R_alloc | apply Kd.R_drewN | apply Kd.R_drew)); exact HO_3.out) (Kd.R_base ho0) hb); have n1_ := Aside0.mk (Kd.R_lower (Kd.R_new' ho0 (Kd.R_lt (by (with_reducible repeat (first | apply Kd.R_alloc | apply Kd.R_drewN | apply Kd.R_drew)); exact HO_3.out))) (below_size (by repeat (first | (with_reducible first | exact HB.out | apply below_alloc | apply pw_below_drewN | apply below_drew1) | exact HB.out)))); have n2_ := Aside0.mk (below_step (by repeat (first | (with_reducible first | exact HB.out | apply below_alloc | apply pw_below_drewN | apply below_drew1) | exact HB.out)) hb); clear HO_3; clear HB; have HO_3 := n0_; have HO164 := n1_; have HB := n2_; clear n0_ n1_ n2_; (try clear hb); (try clear hb2); (try clear hk); (try clear hi); (try clear ho0); obtain ⟨Ao38, co38, eo38⟩ := Kd.R_slice HO164.out; subst eo38))
                          repeat (go_quiet (first | (go_at_call 27; (with_reducible refine (arith_Operators.calls k3  t162 _ A28.out).mono ?_); rintro e w37 ⟨v163, rfl, ho0, hb⟩; have n0_ := Aside0.mk (Kd.R_elder' (by (with_reducible repeat (first | apply Kd.R_alloc | apply Kd.R_drewN | apply Kd.R_drew)); exact HO_3.out) (Kd.R_base ho0) hb); have n1_ := Aside0.mk (Kd.R_lower (Kd.R_new' ho0 (Kd.R_lt (by (with_reducible repeat (first | apply Kd.R_alloc | apply Kd.R_drewN | apply Kd.R_drew)); exact HO_3.out))) (below_size (by repeat (first | (with_reducible first | exact HB.out | apply below_alloc | apply pw_below_drewN | apply below_drew1) | exact HB.out)))); have n2_ := Aside0.mk (below_step (by repeat (first | (with_reducible first | exact HB.out | apply below_alloc | apply pw_below_drewN | apply below_drew1) | exact HB.out)) hb); clear HO_3; clear HB; have HO_3 := n0_; have HO164 := n1_; have HB := n2_; clear n0_ n1_ n2_; (try clear hb); (try clear hb2); (try clear hk); (try clear hi); (try clear ho0); obtain ⟨Ao38, co38, eo38⟩ := Kd.R_slice HO164.out; subst eo38)); try go_wp2_with (first | (go_at_call 27; (with_reducible refine (arith_Operators.calls k3  t162 _ A28.out).mono ?_); rintro e w37 ⟨v163, rfl, ho0, hb⟩; have n0_ := Aside0.mk (Kd.R_elder' (by (with_reducible repeat (first | apply Kd.R_alloc | apply Kd.R_drewN | apply Kd.R_drew)); exact HO_3.out) (Kd.R_base ho0) hb); have n1_ := Aside0.mk (Kd.R_lower (Kd.R_new' ho0 (Kd.R_lt (by (with_reducible repeat (first | apply Kd.R_alloc | apply Kd.R_drewN | apply Kd.R_drew)); exact HO_3.out))) (below_size (by repeat (first | (with_reducible first | exact HB.out | apply below_alloc | apply pw_below_drewN | apply below_drew1) | exact HB.out)))); have n2_ := Aside0.mk (below_step (by repeat (first | (with_reducible first | exact HB.out | apply below_alloc | apply pw_below_drewN | apply below_drew1) | exact HB.out)) hb); clear HO_3; clear HB; have HO_3 := n0_; have HO164 := n1_; have HB := n2_; clear n0_ n1_ n2_; (try clear hb); (try clear hb2); (try clear hk); (try clear hi); (try clear ho0); obtain ⟨Ao38, co38, eo38⟩ := Kd.R_slice HO164.out; subst eo38)))
                          go_ret
                          exact ⟨by first | rfl | (simp [errW_none, errW_some] <;> rfl) | (simp [*, errW_none, errW_some] <;> rfl), by repeat (first | (with_reducible first | exact HB.out | apply below_alloc | apply pw_below_drewN | apply below_drew1) | exact HB.out)⟩
                      · rw [if_neg c29] at H
                        have c29b0 : (x9_2 == (t159 == 0)) = false := by simpa using c29
                        (try (have c29b1 : decide (x9_2 = (t159 == 0)) = false := by simpa using c29))
                        (try (have c29b2 : (x9_2 == (t159 == 0)) = false := by simpa using c29))
                        (try (have c29b3 : ¬ (x9_2 = (t159 == 0)) := by simpa using c29))
                        clear c29
                        obtain rfl := Option.some.inj H
                        go_wp2_with (first | (go_at_call 27; (with_reducible refine (arith_Operators.calls k3  t162 _ A28.out).mono ?_); rintro e w39 ⟨v163, rfl, ho0, hb⟩; have n0_ := Aside0.mk (Kd.R_elder' (by (with_reducible repeat (first | apply Kd.R_alloc | apply Kd.R_drewN | apply Kd.R_drew)); exact HO_3.out) (Kd.R_base ho0) hb); have n1_ := Aside0.mk (Kd.R_lower (Kd.R_new' ho0 (Kd.R_lt (by (with_reducible repeat (first | apply Kd.R_alloc | apply Kd.R_drewN | apply Kd.R_drew)); exact HO_3.out))) (below_size (by repeat (first | (with_reducible first | exact HB.out | apply below_alloc | apply pw_below_drewN | apply below_drew1) | exact HB.out)))); have n2_ := Aside0.mk (below_step (by repeat (first | (with_reducible first | exact HB.out | apply below_alloc | apply pw_below_drewN | apply below_drew1) | exact HB.out)) hb); clear HO_3; clear HB; have HO_3 := n0_; have HO164 := n1_; have HB := n2_; clear n0_ n1_ n2_; (try clear hb); (try clear hb2); (try clear hk); (try clear hi); (try clear ho0)))
                        repeat (go_quiet (first | (go_at_call 27; (with_reducible refine (arith_Operators.calls k3  t162 _ A28.out).mono ?_); rintro e w39 ⟨v163, rfl, ho0, hb⟩; have n0_ := Aside0.mk (Kd.R_elder' (by (with_reducible repeat (first | apply Kd.R_alloc | apply Kd.R_drewN | apply Kd.R_drew)); exact HO_3.out) (Kd.R_base ho0) hb); have n1_ := Aside0.mk (Kd.R_lower (Kd.R_new' ho0 (Kd.R_lt (by (with_reducible repeat (first | apply Kd.R_alloc | apply Kd.R_drewN | apply Kd.R_drew)); exact HO_3.out))) (below_size (by repeat (first | (with_reducible first | exact HB.out | apply below_alloc | apply pw_below_drewN | apply below_drew1) | exact HB.out)))); have n2_ := Aside0.mk (below_step (by repeat (first | (with_reducible first | exact HB.out | apply below_alloc | apply pw_below_drewN | apply below_drew1) | exact HB.out)) hb); clear HO_3; clear HB; have HO_3 := n0_; have HO164 := n1_; have HB := n2_; clear n0_ n1_ n2_; (try clear hb); (try clear hb2); (try clear hk); (try clear hi); (try clear ho0))); try go_wp2_with (first | (go_at_call 27; (with_reducible refine (arith_Operators.calls k3  t162 _ A28.out).mono ?_); rintro e w39 ⟨v163, rfl, ho0, hb⟩; have n0_ := Aside0.mk (Kd.R_elder' (by (with_reducible repeat (first | apply Kd.R_alloc | apply Kd.R_drewN | apply Kd.R_drew)); exact HO_3.out) (Kd.R_base ho0) hb); have n1_ := Aside0.mk (Kd.R_lower (Kd.R_new' ho0 (Kd.R_lt (by (with_reducible repeat (first | apply Kd.R_alloc | apply Kd.R_drewN | apply Kd.R_drew)); exact HO_3.out))) (below_size (by repeat (first | (with_reducible first | exact HB.out | apply below_alloc | apply pw_below_drewN | apply below_drew1) | exact HB.out)))); have n2_ := Aside0.mk (below_step (by repeat (first | (with_reducible first | exact HB.out | apply below_alloc | apply pw_below_drewN | apply below_drew1) | exact HB.out)) hb); clear HO_3; clear HB; have HO_3 := n0_; have HO164 := n1_; have HB := n2_; clear n0_ n1_ n2_; (try clear hb); (try clear hb2); (try clear hk); (try clear hi); (try clear ho0))))
                        go_ret
                        exact ⟨by first | rfl | (simp [errW_none, errW_some] <;> rfl) | (simp [*, errW_none, errW_some] <;> rfl), by repeat (first | (with_reducible first | exact HB.out | apply below_alloc | apply pw_below_drewN | apply below_drew1) | exact HB.out)⟩
  · replace c3 := Bool.eq_false_iff.mpr c3
    subst c3
    have H1 : (some false) = some r := by rw [if_neg (show ¬ (false = true) by decide)] at H; exact H
    clear H
    have H := H1
    clear H1
    obtain rfl := Option.some.inj H
    go_enter Try.func10, Try.ntmps10
    go_wp2_with (first | (go_at_call 11; (with_reducible refine (backsteplaw01_awake.calls k  false _ A2.out).mono ?_); rintro e w' ⟨rfl, ⟨nd, rfl⟩⟩; (try first | exact ⟨rfl, _, World.drewN_drewN _ _ _⟩ | exact ⟨rfl, _, Eq.trans (World.drewN_drewN _ _ _) (congrArg (World.drewN _) (Nat.add_assoc _ _ _))⟩)))
    repeat (go_quiet (first | (go_at_call 11; (with_reducible refine (backsteplaw01_awake.calls k  false _ A2.out).mono ?_); rintro e w' ⟨rfl, ⟨nd, rfl⟩⟩; (try first | exact ⟨rfl, _, World.drewN_drewN _ _ _⟩ | exact ⟨rfl, _, Eq.trans (World.drewN_drewN _ _ _) (congrArg (World.drewN _) (Nat.add_assoc _ _ _))⟩))); try go_wp2_with (first | (go_at_call 11; (with_reducible refine (backsteplaw01_awake.calls k  false _ A2.out).mono ?_); rintro e w' ⟨rfl, ⟨nd, rfl⟩⟩; (try first | exact ⟨rfl, _, World.drewN_drewN _ _ _⟩ | exact ⟨rfl, _, Eq.trans (World.drewN_drewN _ _ _) (congrArg (World.drewN _) (Nat.add_assoc _ _ _))⟩))))
    go_ret
    exact ⟨by first | rfl | (simp [errW_none, errW_some] <;> rfl) | (simp [*, errW_none, errW_some] <;> rfl), by repeat (first | (with_reducible first | exact HB.out | apply below_alloc | apply pw_below_drewN | apply below_drew1) | exact HB.out)⟩

/-- THE ONE PURE STATEMENT of backsteplaw01_ArithOperators: yours. -/
def backsteplaw01_ArithOperators.Pure : Prop := ∀ (a0 : Int), (Lit.int .u8 a0).wf = true → ∃ k, backsteplaw01_ArithOperators.f k a0 = some true
theorem backsteplaw01_ArithOperators.walk (P : backsteplaw01_ArithOperators.Pure) (a0 : Int) (w : World) (w0 : (Lit.int .u8 a0).wf = true) :
    Calls Try.prog 10 #[.int .u8 a0] w fun e w' => e = .returned (.bool true) ∧ Below w.heap.size w w' := by
  obtain ⟨k, h⟩ := P a0 w0
  refine (backsteplaw01_ArithOperators.calls k a0 true w h).mono ?_
  rintro e w' ⟨rfl, hd⟩
  exact ⟨rfl, hd⟩

end Go.Proofs.Ytnbkmmhomghlmaa.OpP
