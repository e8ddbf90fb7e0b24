-- PRINTED BY print.sh 35421559b90ae4d0a3588c463048766b98c2df88dd9212a6774a882060cdf62d: not written by this session
import Derived.Test.YtnbkmmhomghlmaaPArithDividesx0
import Derived.Test.YtnbkmmhomghlmaaPArithDividesx1
namespace Go.Proofs.Ytnbkmmhomghlmaa.PArithDivides
open Go.RowKit Go.Proofs.YtnbkmmhomghlmaaW.PrintWords Go.Proofs.YtnbkmmhomghlmaaW.PrintLast Go.Proofs.YtnbkmmhomghlmaaW.PrintMore
attribute [local go_sem] max2_int min2_int max_two min_two max_three min_three max_four min_four   -- for this text's walks alone
set_option linter.unusedVariables false
set_option linter.unusedSimpArgs false

/-! ### backsteplaw01_ArithDivides: function 5 -/
def backsteplaw01_ArithDivides.f (k : Nat) (a0 : Int) (a1 : Int) : Option (Bool) := (backsteplaw01_awake.f k).bind fun t125 => (if t125 = true then ((arith_Apply.f k 11 a0 a1).bind fun bt126 => ((arith_Apply.f k 12 a0 a1).bind fun bt128 => (if a1 = 0 then (if bt126.2 = 11 then (if bt128.2 = 11 then (if bt126.1 = 0 then (some (bt128.1 == 0)) else (some false)) else (some false)) else (some false)) else (if bt126.2 = 0 then (if bt128.2 = 0 then (if (wrap64 ((wrap64 (bt126.1 * a1)) + bt128.1)) = a0 then (if a0 ≥ 0 then (if bt128.1 < 0 then (some false) else (if a0 ≤ 0 then (if bt128.1 > 0 then (some false) else (if (wrap64 (-(mx bt128.1 (wrap64 (-bt128.1))))) > (wrap64 (-(mx a1 (wrap64 (-a1))))) then (some true) else (some (a1 == (wrap64 (-a1)))))) else (if (wrap64 (-(mx bt128.1 (wrap64 (-bt128.1))))) > (wrap64 (-(mx a1 (wrap64 (-a1))))) then (some true) else (some (a1 == (wrap64 (-a1))))))) else (if a0 ≤ 0 then (if bt128.1 > 0 then (some false) else (if (wrap64 (-(mx bt128.1 (wrap64 (-bt128.1))))) > (wrap64 (-(mx a1 (wrap64 (-a1))))) then (some true) else (some (a1 == (wrap64 (-a1)))))) else (if (wrap64 (-(mx bt128.1 (wrap64 (-bt128.1))))) > (wrap64 (-(mx a1 (wrap64 (-a1))))) then (some true) else (some (a1 == (wrap64 (-a1))))))) else (some false)) else (some false)) else (some false))))) else (some false))
theorem backsteplaw01_ArithDivides.mono : ∀ a0 a1 k, LeO (backsteplaw01_ArithDivides.f k a0 a1) (backsteplaw01_ArithDivides.f (k + 1) a0 a1) := by
  intro a0 a1 k
  unfold backsteplaw01_ArithDivides.f
  repeat' first
      | (with_reducible exact arith_Apply.mono _ _ _ _)
      | (with_reducible exact backsteplaw01_awake.mono _)
      | (with_reducible exact LeO.refl _)
      | (with_reducible exact LeO.none _)
      | (with_reducible refine LeO.ite ?_ ?_)
      | (with_reducible refine LeO.bind ?_ (fun _ => ?_))
      | exact arith_Apply.mono _ _ _ _
      | exact backsteplaw01_awake.mono _
      | exact LeO.none _
      | refine LeO.ite ?_ ?_
      | refine LeO.bind ?_ (fun _ => ?_)
set_option maxHeartbeats 8000000 in
set_option maxRecDepth 100000 in
theorem backsteplaw01_ArithDivides.calls (k : Nat) (a0 : Int) (a1 : Int) (r : Bool) (w : World) (h : backsteplaw01_ArithDivides.f k a0 a1 = some r) :
    Calls Try.prog 5 #[.int .i64 a0, .int .i64 a1] w fun e w' => e = .returned (.bool r) ∧ Below w.heap.size w w' := by
  have HB := Aside0.mk (Below.refl w.heap.size w)
  have H : ((backsteplaw01_awake.f k).bind fun t125 => (if t125 = true then ((arith_Apply.f k 11 a0 a1).bind fun bt126 => ((arith_Apply.f k 12 a0 a1).bind fun bt128 => (if a1 = 0 then (if bt126.2 = 11 then (if bt128.2 = 11 then (if bt126.1 = 0 then (some (bt128.1 == 0)) else (some false)) else (some false)) else (some false)) else (if bt126.2 = 0 then (if bt128.2 = 0 then (if (wrap64 ((wrap64 (bt126.1 * a1)) + bt128.1)) = a0 then (if a0 ≥ 0 then (if bt128.1 < 0 then (some false) else (if a0 ≤ 0 then (if bt128.1 > 0 then (some false) else (if (wrap64 (-(mx bt128.1 (wrap64 (-bt128.1))))) > (wrap64 (-(mx a1 (wrap64 (-a1))))) then (some true) else (some (a1 == (wrap64 (-a1)))))) else (if (wrap64 (-(mx bt128.1 (wrap64 (-bt128.1))))) > (wrap64 (-(mx a1 (wrap64 (-a1))))) then (some true) else (some (a1 == (wrap64 (-a1))))))) else (if a0 ≤ 0 then (if bt128.1 > 0 then (some false) else (if (wrap64 (-(mx bt128.1 (wrap64 (-bt128.1))))) > (wrap64 (-(mx a1 (wrap64 (-a1))))) then (some true) else (some (a1 == (wrap64 (-a1)))))) else (if (wrap64 (-(mx bt128.1 (wrap64 (-bt128.1))))) > (wrap64 (-(mx a1 (wrap64 (-a1))))) then (some true) else (some (a1 == (wrap64 (-a1))))))) else (some false)) else (some false)) else (some false))))) else (some false))) = some r := h
  clear h
  replace H := Option.bind_eq_some_iff.mp H
  obtain ⟨t125, A30, H⟩ := H
  replace H : (if t125 = true then ((arith_Apply.f k 11 a0 a1).bind fun bt126 => ((arith_Apply.f k 12 a0 a1).bind fun bt128 => (if a1 = 0 then (if bt126.2 = 11 then (if bt128.2 = 11 then (if bt126.1 = 0 then (some (bt128.1 == 0)) else (some false)) else (some false)) else (some false)) else (if bt126.2 = 0 then (if bt128.2 = 0 then (if (wrap64 ((wrap64 (bt126.1 * a1)) + bt128.1)) = a0 then (if a0 ≥ 0 then (if bt128.1 < 0 then (some false) else (if a0 ≤ 0 then (if bt128.1 > 0 then (some false) else (if (wrap64 (-(mx bt128.1 (wrap64 (-bt128.1))))) > (wrap64 (-(mx a1 (wrap64 (-a1))))) then (some true) else (some (a1 == (wrap64 (-a1)))))) else (if (wrap64 (-(mx bt128.1 (wrap64 (-bt128.1))))) > (wrap64 (-(mx a1 (wrap64 (-a1))))) then (some true) else (some (a1 == (wrap64 (-a1))))))) else (if a0 ≤ 0 then (if bt128.1 > 0 then (some false) else (if (wrap64 (-(mx bt128.1 (wrap64 (-bt128.1))))) > (wrap64 (-(mx a1 (wrap64 (-a1))))) then (some true) else (some (a1 == (wrap64 (-a1)))))) else (if (wrap64 (-(mx bt128.1 (wrap64 (-bt128.1))))) > (wrap64 (-(mx a1 (wrap64 (-a1))))) then (some true) else (some (a1 == (wrap64 (-a1))))))) else (some false)) else (some false)) else (some false))))) else (some false)) = some r := H
  have A3 := Aside0.mk A30
  clear A30
  by_cases c4 : t125 = true
  · subst c4
    have H1 : ((arith_Apply.f k 11 a0 a1).bind fun bt126 => ((arith_Apply.f k 12 a0 a1).bind fun bt128 => (if a1 = 0 then (if bt126.2 = 11 then (if bt128.2 = 11 then (if bt126.1 = 0 then (some (bt128.1 == 0)) else (some false)) else (some false)) else (some false)) else (if bt126.2 = 0 then (if bt128.2 = 0 then (if (wrap64 ((wrap64 (bt126.1 * a1)) + bt128.1)) = a0 then (if a0 ≥ 0 then (if bt128.1 < 0 then (some false) else (if a0 ≤ 0 then (if bt128.1 > 0 then (some false) else (if (wrap64 (-(mx bt128.1 (wrap64 (-bt128.1))))) > (wrap64 (-(mx a1 (wrap64 (-a1))))) then (some true) else (some (a1 == (wrap64 (-a1)))))) else (if (wrap64 (-(mx bt128.1 (wrap64 (-bt128.1))))) > (wrap64 (-(mx a1 (wrap64 (-a1))))) then (some true) else (some (a1 == (wrap64 (-a1))))))) else (if a0 ≤ 0 then (if bt128.1 > 0 then (some false) else (if (wrap64 (-(mx bt128.1 (wrap64 (-bt128.1))))) > (wrap64 (-(mx a1 (wrap64 (-a1))))) then (some true) else (some (a1 == (wrap64 (-a1)))))) else (if (wrap64 (-(mx bt128.1 (wrap64 (-bt128.1))))) > (wrap64 (-(mx a1 (wrap64 (-a1))))) then (some true) else (some (a1 == (wrap64 (-a1))))))) else (some false)) else (some false)) else (some false))))) = some r := by rw [if_pos rfl] at H; exact H
    clear H
    have H := H1
    clear H1
    replace H := Option.bind_eq_some_iff.mp H
    obtain ⟨⟨t126, t127⟩, A50, H⟩ := H
    replace H : ((arith_Apply.f k 12 a0 a1).bind fun bt128 => (if a1 = 0 then (if t127 = 11 then (if bt128.2 = 11 then (if t126 = 0 then (some (bt128.1 == 0)) else (some false)) else (some false)) else (some false)) else (if t127 = 0 then (if bt128.2 = 0 then (if (wrap64 ((wrap64 (t126 * a1)) + bt128.1)) = a0 then (if a0 ≥ 0 then (if bt128.1 < 0 then (some false) else (if a0 ≤ 0 then (if bt128.1 > 0 then (some false) else (if (wrap64 (-(mx bt128.1 (wrap64 (-bt128.1))))) > (wrap64 (-(mx a1 (wrap64 (-a1))))) then (some true) else (some (a1 == (wrap64 (-a1)))))) else (if (wrap64 (-(mx bt128.1 (wrap64 (-bt128.1))))) > (wrap64 (-(mx a1 (wrap64 (-a1))))) then (some true) else (some (a1 == (wrap64 (-a1))))))) else (if a0 ≤ 0 then (if bt128.1 > 0 then (some false) else (if (wrap64 (-(mx bt128.1 (wrap64 (-bt128.1))))) > (wrap64 (-(mx a1 (wrap64 (-a1))))) then (some true) else (some (a1 == (wrap64 (-a1)))))) else (if (wrap64 (-(mx bt128.1 (wrap64 (-bt128.1))))) > (wrap64 (-(mx a1 (wrap64 (-a1))))) then (some true) else (some (a1 == (wrap64 (-a1))))))) else (some false)) else (some false)) else (some false)))) = some r := H
    have A5 := Aside0.mk A50
    clear A50
    replace H := Option.bind_eq_some_iff.mp H
    obtain ⟨⟨t128, t129⟩, A60, H⟩ := H
    replace H : (if a1 = 0 then (if t127 = 11 then (if t129 = 11 then (if t126 = 0 then (some (t128 == 0)) else (some false)) else (some false)) else (some false)) else (if t127 = 0 then (if t129 = 0 then (if (wrap64 ((wrap64 (t126 * a1)) + t128)) = a0 then (if a0 ≥ 0 then (if t128 < 0 then (some false) else (if a0 ≤ 0 then (if t128 > 0 then (some false) else (if (wrap64 (-(mx t128 (wrap64 (-t128))))) > (wrap64 (-(mx a1 (wrap64 (-a1))))) then (some true) else (some (a1 == (wrap64 (-a1)))))) else (if (wrap64 (-(mx t128 (wrap64 (-t128))))) > (wrap64 (-(mx a1 (wrap64 (-a1))))) then (some true) else (some (a1 == (wrap64 (-a1))))))) else (if a0 ≤ 0 then (if t128 > 0 then (some false) else (if (wrap64 (-(mx t128 (wrap64 (-t128))))) > (wrap64 (-(mx a1 (wrap64 (-a1))))) then (some true) else (some (a1 == (wrap64 (-a1)))))) else (if (wrap64 (-(mx t128 (wrap64 (-t128))))) > (wrap64 (-(mx a1 (wrap64 (-a1))))) then (some true) else (some (a1 == (wrap64 (-a1))))))) else (some false)) else (some false)) else (some false))) = some r := H
    have A6 := Aside0.mk A60
    clear A60
    by_cases c7 : a1 = 0
    · rw [if_pos c7] at H
      have c7b0 : (a1 == 0) = true := beq_iff_eq.mpr c7
      have c7b1 : (a1 != 0) = false := bne_eq_false_iff_eq.mpr c7
      clear c7
      by_cases c8 : t127 = 11
      · rw [if_pos c8] at H
        have c8b0 : (t127 == 11) = true := beq_iff_eq.mpr c8
        have c8b1 : (t127 != 11) = false := bne_eq_false_iff_eq.mpr c8
        clear c8
        by_cases c9 : t129 = 11
        · rw [if_pos c9] at H
          have c9b0 : (t129 == 11) = true := beq_iff_eq.mpr c9
          have c9b1 : (t129 != 11) = false := bne_eq_false_iff_eq.mpr c9
          clear c9
          by_cases c10 : t126 = 0
          · rw [if_pos c10] at H
            have c10b0 : (t126 == 0) = true := beq_iff_eq.mpr c10
            have c10b1 : (t126 != 0) = false := bne_eq_false_iff_eq.mpr c10
            clear c10
            obtain rfl := Option.some.inj H
            go_enter Try.func5, Try.ntmps5
            go_wp2_with (first | ((with_reducible refine gate_callee (f := 11) rfl ?_); refine goesL_ (some 9) rfl rfl Try.func11 (by kernel_rfl) rfl #[] rfl (by (try simp only [List.map_toArray, List.map_cons, List.map_nil]); first | done | rfl | (simp only [List.length_drop, List.length_take]; rfl)) ?_; (with_reducible refine (backsteplaw01_awake.calls k  true _ A3.out).mono ?_); rintro e w' ⟨rfl, ⟨nd, rfl⟩⟩; refine ⟨_, rfl, ?_⟩) | ((with_reducible refine gate_callee (f := 12) rfl ?_); refine goesL_ (some 14) rfl rfl Try.func12 (by kernel_rfl) rfl #[.int .u8 11, .int .i64 a0, .int .i64 a1] rfl (by (try simp only [List.map_toArray, List.map_cons, List.map_nil]); first | done | rfl | (simp only [List.length_drop, List.length_take]; rfl)) ?_; (with_reducible refine (arith_Apply.calls k 11 a0 a1 t126 t127 _ A5.out).mono ?_); rintro e w' ⟨rfl, ⟨nd, rfl⟩⟩; refine ⟨_, rfl, ?_⟩) | ((with_reducible refine gate_callee (f := 12) rfl ?_); refine goesL_ (some 20) rfl rfl Try.func12 (by kernel_rfl) rfl #[.int .u8 12, .int .i64 a0, .int .i64 a1] rfl (by (try simp only [List.map_toArray, List.map_cons, List.map_nil]); first | done | rfl | (simp only [List.length_drop, List.length_take]; rfl)) ?_; (with_reducible refine (arith_Apply.calls k 12 a0 a1 t128 t129 _ A6.out).mono ?_); rintro e w' ⟨rfl, ⟨nd, rfl⟩⟩; refine ⟨_, rfl, ?_⟩))
            go_ret
            exact ⟨by first | rfl | (simp [errW_none, errW_some] <;> rfl) | (simp [*, errW_none, errW_some] <;> rfl), by repeat (first | (with_reducible first | exact HB.out | apply below_alloc | apply pw_below_drewN | apply below_drew1) | exact HB.out)⟩
          · rw [if_neg c10] at H
            have c10b0 : (t126 == 0) = false := beq_eq_false_iff_ne.mpr c10
            have c10b1 : (t126 != 0) = true := bne_iff_ne.mpr c10
            obtain rfl := Option.some.inj H
            go_enter Try.func5, Try.ntmps5
            go_wp2_with (first | ((with_reducible refine gate_callee (f := 11) rfl ?_); refine goesL_ (some 9) rfl rfl Try.func11 (by kernel_rfl) rfl #[] rfl (by (try simp only [List.map_toArray, List.map_cons, List.map_nil]); first | done | rfl | (simp only [List.length_drop, List.length_take]; rfl)) ?_; (with_reducible refine (backsteplaw01_awake.calls k  true _ A3.out).mono ?_); rintro e w' ⟨rfl, ⟨nd, rfl⟩⟩; refine ⟨_, rfl, ?_⟩) | ((with_reducible refine gate_callee (f := 12) rfl ?_); refine goesL_ (some 14) rfl rfl Try.func12 (by kernel_rfl) rfl #[.int .u8 11, .int .i64 a0, .int .i64 a1] rfl (by (try simp only [List.map_toArray, List.map_cons, List.map_nil]); first | done | rfl | (simp only [List.length_drop, List.length_take]; rfl)) ?_; (with_reducible refine (arith_Apply.calls k 11 a0 a1 t126 t127 _ A5.out).mono ?_); rintro e w' ⟨rfl, ⟨nd, rfl⟩⟩; refine ⟨_, rfl, ?_⟩) | ((with_reducible refine gate_callee (f := 12) rfl ?_); refine goesL_ (some 20) rfl rfl Try.func12 (by kernel_rfl) rfl #[.int .u8 12, .int .i64 a0, .int .i64 a1] rfl (by (try simp only [List.map_toArray, List.map_cons, List.map_nil]); first | done | rfl | (simp only [List.length_drop, List.length_take]; rfl)) ?_; (with_reducible refine (arith_Apply.calls k 12 a0 a1 t128 t129 _ A6.out).mono ?_); rintro e w' ⟨rfl, ⟨nd, rfl⟩⟩; refine ⟨_, rfl, ?_⟩))
            go_ret
            exact ⟨by first | rfl | (simp [errW_none, errW_some] <;> rfl) | (simp [*, errW_none, errW_some] <;> rfl), by repeat (first | (with_reducible first | exact HB.out | apply below_alloc | apply pw_below_drewN | apply below_drew1) | exact HB.out)⟩
        · rw [if_neg c9] at H
          have c9b0 : (t129 == 11) = false := beq_eq_false_iff_ne.mpr c9
          have c9b1 : (t129 != 11) = true := bne_iff_ne.mpr c9
          obtain rfl := Option.some.inj H
          go_enter Try.func5, Try.ntmps5
          go_wp2_with (first | ((with_reducible refine gate_callee (f := 11) rfl ?_); refine goesL_ (some 9) rfl rfl Try.func11 (by kernel_rfl) rfl #[] rfl (by (try simp only [List.map_toArray, List.map_cons, List.map_nil]); first | done | rfl | (simp only [List.length_drop, List.length_take]; rfl)) ?_; (with_reducible refine (backsteplaw01_awake.calls k  true _ A3.out).mono ?_); rintro e w' ⟨rfl, ⟨nd, rfl⟩⟩; refine ⟨_, rfl, ?_⟩) | ((with_reducible refine gate_callee (f := 12) rfl ?_); refine goesL_ (some 14) rfl rfl Try.func12 (by kernel_rfl) rfl #[.int .u8 11, .int .i64 a0, .int .i64 a1] rfl (by (try simp only [List.map_toArray, List.map_cons, List.map_nil]); first | done | rfl | (simp only [List.length_drop, List.length_take]; rfl)) ?_; (with_reducible refine (arith_Apply.calls k 11 a0 a1 t126 t127 _ A5.out).mono ?_); rintro e w' ⟨rfl, ⟨nd, rfl⟩⟩; refine ⟨_, rfl, ?_⟩) | ((with_reducible refine gate_callee (f := 12) rfl ?_); refine goesL_ (some 20) rfl rfl Try.func12 (by kernel_rfl) rfl #[.int .u8 12, .int .i64 a0, .int .i64 a1] rfl (by (try simp only [List.map_toArray, List.map_cons, List.map_nil]); first | done | rfl | (simp only [List.length_drop, List.length_take]; rfl)) ?_; (with_reducible refine (arith_Apply.calls k 12 a0 a1 t128 t129 _ A6.out).mono ?_); rintro e w' ⟨rfl, ⟨nd, rfl⟩⟩; refine ⟨_, rfl, ?_⟩))
          go_ret
          exact ⟨by first | rfl | (simp [errW_none, errW_some] <;> rfl) | (simp [*, errW_none, errW_some] <;> rfl), by repeat (first | (with_reducible first | exact HB.out | apply below_alloc | apply pw_below_drewN | apply below_drew1) | exact HB.out)⟩
      · rw [if_neg c8] at H
        have c8b0 : (t127 == 11) = false := beq_eq_false_iff_ne.mpr c8
        have c8b1 : (t127 != 11) = true := bne_iff_ne.mpr c8
        obtain rfl := Option.some.inj H
        go_enter Try.func5, Try.ntmps5
        go_wp2_with (first | ((with_reducible refine gate_callee (f := 11) rfl ?_); refine goesL_ (some 9) rfl rfl Try.func11 (by kernel_rfl) rfl #[] rfl (by (try simp only [List.map_toArray, List.map_cons, List.map_nil]); first | done | rfl | (simp only [List.length_drop, List.length_take]; rfl)) ?_; (with_reducible refine (backsteplaw01_awake.calls k  true _ A3.out).mono ?_); rintro e w' ⟨rfl, ⟨nd, rfl⟩⟩; refine ⟨_, rfl, ?_⟩) | ((with_reducible refine gate_callee (f := 12) rfl ?_); refine goesL_ (some 14) rfl rfl Try.func12 (by kernel_rfl) rfl #[.int .u8 11, .int .i64 a0, .int .i64 a1] rfl (by (try simp only [List.map_toArray, List.map_cons, List.map_nil]); first | done | rfl | (simp only [List.length_drop, List.length_take]; rfl)) ?_; (with_reducible refine (arith_Apply.calls k 11 a0 a1 t126 t127 _ A5.out).mono ?_); rintro e w' ⟨rfl, ⟨nd, rfl⟩⟩; refine ⟨_, rfl, ?_⟩) | ((with_reducible refine gate_callee (f := 12) rfl ?_); refine goesL_ (some 20) rfl rfl Try.func12 (by kernel_rfl) rfl #[.int .u8 12, .int .i64 a0, .int .i64 a1] rfl (by (try simp only [List.map_toArray, List.map_cons, List.map_nil]); first | done | rfl | (simp only [List.length_drop, List.length_take]; rfl)) ?_; (with_reducible refine (arith_Apply.calls k 12 a0 a1 t128 t129 _ A6.out).mono ?_); rintro e w' ⟨rfl, ⟨nd, rfl⟩⟩; refine ⟨_, rfl, ?_⟩))
        go_ret
        exact ⟨by first | rfl | (simp [errW_none, errW_some] <;> rfl) | (simp [*, errW_none, errW_some] <;> rfl), by repeat (first | (with_reducible first | exact HB.out | apply below_alloc | apply pw_below_drewN | apply below_drew1) | exact HB.out)⟩
    · rw [if_neg c7] at H
      have c7b0 : (a1 == 0) = false := beq_eq_false_iff_ne.mpr c7
      have c7b1 : (a1 != 0) = true := bne_iff_ne.mpr c7
      by_cases c11 : t127 = 0
      · rw [if_pos c11] at H
        have c11b0 : (t127 == 0) = true := beq_iff_eq.mpr c11
        have c11b1 : (t127 != 0) = false := bne_eq_false_iff_eq.mpr c11
        clear c11
        by_cases c12 : t129 = 0
        · rw [if_pos c12] at H
          have c12b0 : (t129 == 0) = true := beq_iff_eq.mpr c12
          have c12b1 : (t129 != 0) = false := bne_eq_false_iff_eq.mpr c12
          clear c12
          by_cases c13 : (wrap64 ((wrap64 (t126 * a1)) + t128)) = a0
          · rw [if_pos c13] at H
            have c13b0 : ((wrap64 ((wrap64 (t126 * a1)) + t128)) == a0) = true := beq_iff_eq.mpr c13
            have c13b1 : ((wrap64 ((wrap64 (t126 * a1)) + t128)) != a0) = false := bne_eq_false_iff_eq.mpr c13
            clear c13
            by_cases c14 : a0 ≥ 0
            · rw [if_pos c14] at H
              have c14b0 : decide (0 ≤ a0) = true := decide_eq_true c14
              clear c14
              by_cases c15 : t128 < 0
              · rw [if_pos c15] at H
                have c15b0 : decide (t128 < 0) = true := decide_eq_true c15
                clear c15
                obtain rfl := Option.some.inj H
                go_enter Try.func5, Try.ntmps5
                go_wp2_with (first | ((with_reducible refine gate_callee (f := 11) rfl ?_); refine goesL_ (some 9) rfl rfl Try.func11 (by kernel_rfl) rfl #[] rfl (by (try simp only [List.map_toArray, List.map_cons, List.map_nil]); first | done | rfl | (simp only [List.length_drop, List.length_take]; rfl)) ?_; (with_reducible refine (backsteplaw01_awake.calls k  true _ A3.out).mono ?_); rintro e w' ⟨rfl, ⟨nd, rfl⟩⟩; refine ⟨_, rfl, ?_⟩) | ((with_reducible refine gate_callee (f := 12) rfl ?_); refine goesL_ (some 14) rfl rfl Try.func12 (by kernel_rfl) rfl #[.int .u8 11, .int .i64 a0, .int .i64 a1] rfl (by (try simp only [List.map_toArray, List.map_cons, List.map_nil]); first | done | rfl | (simp only [List.length_drop, List.length_take]; rfl)) ?_; (with_reducible refine (arith_Apply.calls k 11 a0 a1 t126 t127 _ A5.out).mono ?_); rintro e w' ⟨rfl, ⟨nd, rfl⟩⟩; refine ⟨_, rfl, ?_⟩) | ((with_reducible refine gate_callee (f := 12) rfl ?_); refine goesL_ (some 20) rfl rfl Try.func12 (by kernel_rfl) rfl #[.int .u8 12, .int .i64 a0, .int .i64 a1] rfl (by (try simp only [List.map_toArray, List.map_cons, List.map_nil]); first | done | rfl | (simp only [List.length_drop, List.length_take]; rfl)) ?_; (with_reducible refine (arith_Apply.calls k 12 a0 a1 t128 t129 _ A6.out).mono ?_); rintro e w' ⟨rfl, ⟨nd, rfl⟩⟩; refine ⟨_, rfl, ?_⟩))
                go_ret
                exact ⟨by first | rfl | (simp [errW_none, errW_some] <;> rfl) | (simp [*, errW_none, errW_some] <;> rfl), by repeat (first | (with_reducible first | exact HB.out | apply below_alloc | apply pw_below_drewN | apply below_drew1) | exact HB.out)⟩
              · rw [if_neg c15] at H
                have c15b0 : decide (t128 < 0) = false := decide_eq_false c15
                clear c15
                by_cases c16 : a0 ≤ 0
                · rw [if_pos c16] at H
                  have c16b0 : decide (a0 ≤ 0) = true := decide_eq_true c16
                  clear c16
                  by_cases c17 : t128 > 0
                  · rw [if_pos c17] at H
                    have c17b0 : decide (0 < t128) = true := decide_eq_true c17
                    clear c17
                    obtain rfl := Option.some.inj H
                    go_enter Try.func5, Try.ntmps5
                    go_wp2_with (first | ((with_reducible refine gate_callee (f := 11) rfl ?_); refine goesL_ (some 9) rfl rfl Try.func11 (by kernel_rfl) rfl #[] rfl (by (try simp only [List.map_toArray, List.map_cons, List.map_nil]); first | done | rfl | (simp only [List.length_drop, List.length_take]; rfl)) ?_; (with_reducible refine (backsteplaw01_awake.calls k  true _ A3.out).mono ?_); rintro e w' ⟨rfl, ⟨nd, rfl⟩⟩; refine ⟨_, rfl, ?_⟩) | ((with_reducible refine gate_callee (f := 12) rfl ?_); refine goesL_ (some 14) rfl rfl Try.func12 (by kernel_rfl) rfl #[.int .u8 11, .int .i64 a0, .int .i64 a1] rfl (by (try simp only [List.map_toArray, List.map_cons, List.map_nil]); first | done | rfl | (simp only [List.length_drop, List.length_take]; rfl)) ?_; (with_reducible refine (arith_Apply.calls k 11 a0 a1 t126 t127 _ A5.out).mono ?_); rintro e w' ⟨rfl, ⟨nd, rfl⟩⟩; refine ⟨_, rfl, ?_⟩) | ((with_reducible refine gate_callee (f := 12) rfl ?_); refine goesL_ (some 20) rfl rfl Try.func12 (by kernel_rfl) rfl #[.int .u8 12, .int .i64 a0, .int .i64 a1] rfl (by (try simp only [List.map_toArray, List.map_cons, List.map_nil]); first | done | rfl | (simp only [List.length_drop, List.length_take]; rfl)) ?_; (with_reducible refine (arith_Apply.calls k 12 a0 a1 t128 t129 _ A6.out).mono ?_); rintro e w' ⟨rfl, ⟨nd, rfl⟩⟩; refine ⟨_, rfl, ?_⟩))
                    go_ret
                    exact ⟨by first | rfl | (simp [errW_none, errW_some] <;> rfl) | (simp [*, errW_none, errW_some] <;> rfl), by repeat (first | (with_reducible first | exact HB.out | apply below_alloc | apply pw_below_drewN | apply below_drew1) | exact HB.out)⟩
                  · rw [if_neg c17] at H
                    have c17b0 : decide (0 < t128) = false := decide_eq_false c17
                    clear c17
                    obtain ⟨ji18, hji18⟩ : ∃ j_ : Int, (mx t128 (wrap64 (-t128))) = j_ := ⟨_, rfl⟩
                    replace H : (if (wrap64 (-(ji18))) > (wrap64 (-(mx a1 (wrap64 (-a1))))) then (some true) else (some (a1 == (wrap64 (-a1))))) = some r := by first | (rw [hji18] at H; exact H) | (simp only [hji18] at H ⊢; exact H)
                    (try rw [hji18] at A3)
                    (try rw [hji18] at A5)
                    (try rw [hji18] at A6)
                    have hji18_ : (if t128 < (wrap64 (-t128)) then (wrap64 (-t128)) else t128) = ji18 := hji18
                    obtain ⟨ji19, hji19⟩ : ∃ j_ : Int, (mx a1 (wrap64 (-a1))) = j_ := ⟨_, rfl⟩
                    replace H : (if (wrap64 (-(ji18))) > (wrap64 (-(ji19))) then (some true) else (some (a1 == (wrap64 (-a1))))) = some r := by first | (rw [hji19] at H; exact H) | (simp only [hji19] at H ⊢; exact H)
                    (try rw [hji19] at A3)
                    (try rw [hji19] at A5)
                    (try rw [hji19] at A6)
                    have hji19_ : (if a1 < (wrap64 (-a1)) then (wrap64 (-a1)) else a1) = ji19 := hji19
                    by_cases c20 : (wrap64 (-(ji18))) > (wrap64 (-(ji19)))
                    · rw [if_pos c20] at H
                      have c20b0 : decide ((wrap64 (-(ji19))) < (wrap64 (-(ji18)))) = true := decide_eq_true c20
                      clear c20
                      obtain rfl := Option.some.inj H
                      go_enter Try.func5, Try.ntmps5
                      go_wp2_with (first | ((with_reducible refine gate_callee (f := 11) rfl ?_); refine goesL_ (some 9) rfl rfl Try.func11 (by kernel_rfl) rfl #[] rfl (by (try simp only [List.map_toArray, List.map_cons, List.map_nil]); first | done | rfl | (simp only [List.length_drop, List.length_take]; rfl)) ?_; (with_reducible refine (backsteplaw01_awake.calls k  true _ A3.out).mono ?_); rintro e w' ⟨rfl, ⟨nd, rfl⟩⟩; refine ⟨_, rfl, ?_⟩) | ((with_reducible refine gate_callee (f := 12) rfl ?_); refine goesL_ (some 14) rfl rfl Try.func12 (by kernel_rfl) rfl #[.int .u8 11, .int .i64 a0, .int .i64 a1] rfl (by (try simp only [List.map_toArray, List.map_cons, List.map_nil]); first | done | rfl | (simp only [List.length_drop, List.length_take]; rfl)) ?_; (with_reducible refine (arith_Apply.calls k 11 a0 a1 t126 t127 _ A5.out).mono ?_); rintro e w' ⟨rfl, ⟨nd, rfl⟩⟩; refine ⟨_, rfl, ?_⟩) | ((with_reducible refine gate_callee (f := 12) rfl ?_); refine goesL_ (some 20) rfl rfl Try.func12 (by kernel_rfl) rfl #[.int .u8 12, .int .i64 a0, .int .i64 a1] rfl (by (try simp only [List.map_toArray, List.map_cons, List.map_nil]); first | done | rfl | (simp only [List.length_drop, List.length_take]; rfl)) ?_; (with_reducible refine (arith_Apply.calls k 12 a0 a1 t128 t129 _ A6.out).mono ?_); rintro e w' ⟨rfl, ⟨nd, rfl⟩⟩; refine ⟨_, rfl, ?_⟩))
                      go_ret
                      exact ⟨by first | rfl | (simp [errW_none, errW_some] <;> rfl) | (simp only [← hji18, ← hji19]; first | rfl | (simp [errW_none, errW_some] <;> rfl)) | (simp [*, errW_none, errW_some] <;> rfl), by repeat (first | (with_reducible first | exact HB.out | apply below_alloc | apply pw_below_drewN | apply below_drew1) | exact HB.out)⟩
                    · rw [if_neg c20] at H
                      have c20b0 : decide ((wrap64 (-(ji19))) < (wrap64 (-(ji18)))) = false := decide_eq_false c20
                      clear c20
                      obtain rfl := Option.some.inj H
                      go_enter Try.func5, Try.ntmps5
                      go_wp2_with (first | ((with_reducible refine gate_callee (f := 11) rfl ?_); refine goesL_ (some 9) rfl rfl Try.func11 (by kernel_rfl) rfl #[] rfl (by (try simp only [List.map_toArray, List.map_cons, List.map_nil]); first | done | rfl | (simp only [List.length_drop, List.length_take]; rfl)) ?_; (with_reducible refine (backsteplaw01_awake.calls k  true _ A3.out).mono ?_); rintro e w' ⟨rfl, ⟨nd, rfl⟩⟩; refine ⟨_, rfl, ?_⟩) | ((with_reducible refine gate_callee (f := 12) rfl ?_); refine goesL_ (some 14) rfl rfl Try.func12 (by kernel_rfl) rfl #[.int .u8 11, .int .i64 a0, .int .i64 a1] rfl (by (try simp only [List.map_toArray, List.map_cons, List.map_nil]); first | done | rfl | (simp only [List.length_drop, List.length_take]; rfl)) ?_; (with_reducible refine (arith_Apply.calls k 11 a0 a1 t126 t127 _ A5.out).mono ?_); rintro e w' ⟨rfl, ⟨nd, rfl⟩⟩; refine ⟨_, rfl, ?_⟩) | ((with_reducible refine gate_callee (f := 12) rfl ?_); refine goesL_ (some 20) rfl rfl Try.func12 (by kernel_rfl) rfl #[.int .u8 12, .int .i64 a0, .int .i64 a1] rfl (by (try simp only [List.map_toArray, List.map_cons, List.map_nil]); first | done | rfl | (simp only [List.length_drop, List.length_take]; rfl)) ?_; (with_reducible refine (arith_Apply.calls k 12 a0 a1 t128 t129 _ A6.out).mono ?_); rintro e w' ⟨rfl, ⟨nd, rfl⟩⟩; refine ⟨_, rfl, ?_⟩))
                      go_ret
                      exact ⟨by first | rfl | (simp [errW_none, errW_some] <;> rfl) | (simp only [← hji18, ← hji19]; first | rfl | (simp [errW_none, errW_some] <;> rfl)) | (simp [*, errW_none, errW_some] <;> rfl), by repeat (first | (with_reducible first | exact HB.out | apply below_alloc | apply pw_below_drewN | apply below_drew1) | exact HB.out)⟩
                · rw [if_neg c16] at H
                  have c16b0 : decide (a0 ≤ 0) = false := decide_eq_false c16
                  clear c16
                  obtain ⟨ji21, hji21⟩ : ∃ j_ : Int, (mx t128 (wrap64 (-t128))) = j_ := ⟨_, rfl⟩
                  replace H : (if (wrap64 (-(ji21))) > (wrap64 (-(mx a1 (wrap64 (-a1))))) then (some true) else (some (a1 == (wrap64 (-a1))))) = some r := by first | (rw [hji21] at H; exact H) | (simp only [hji21] at H ⊢; exact H)
                  (try rw [hji21] at A3)
                  (try rw [hji21] at A5)
                  (try rw [hji21] at A6)
                  have hji21_ : (if t128 < (wrap64 (-t128)) then (wrap64 (-t128)) else t128) = ji21 := hji21
                  obtain ⟨ji22, hji22⟩ : ∃ j_ : Int, (mx a1 (wrap64 (-a1))) = j_ := ⟨_, rfl⟩
                  replace H : (if (wrap64 (-(ji21))) > (wrap64 (-(ji22))) then (some true) else (some (a1 == (wrap64 (-a1))))) = some r := by first | (rw [hji22] at H; exact H) | (simp only [hji22] at H ⊢; exact H)
                  (try rw [hji22] at A3)
                  (try rw [hji22] at A5)
                  (try rw [hji22] at A6)
                  have hji22_ : (if a1 < (wrap64 (-a1)) then (wrap64 (-a1)) else a1) = ji22 := hji22
                  by_cases c23 : (wrap64 (-(ji21))) > (wrap64 (-(ji22)))
                  · rw [if_pos c23] at H
                    have c23b0 : decide ((wrap64 (-(ji22))) < (wrap64 (-(ji21)))) = true := decide_eq_true c23
                    clear c23
                    obtain rfl := Option.some.inj H
                    go_enter Try.func5, Try.ntmps5
                    go_wp2_with (first | ((with_reducible refine gate_callee (f := 11) rfl ?_); refine goesL_ (some 9) rfl rfl Try.func11 (by kernel_rfl) rfl #[] rfl (by (try simp only [List.map_toArray, List.map_cons, List.map_nil]); first | done | rfl | (simp only [List.length_drop, List.length_take]; rfl)) ?_; (with_reducible refine (backsteplaw01_awake.calls k  true _ A3.out).mono ?_); rintro e w' ⟨rfl, ⟨nd, rfl⟩⟩; refine ⟨_, rfl, ?_⟩) | ((with_reducible refine gate_callee (f := 12) rfl ?_); refine goesL_ (some 14) rfl rfl Try.func12 (by kernel_rfl) rfl #[.int .u8 11, .int .i64 a0, .int .i64 a1] rfl (by (try simp only [List.map_toArray, List.map_cons, List.map_nil]); first | done | rfl | (simp only [List.length_drop, List.length_take]; rfl)) ?_; (with_reducible refine (arith_Apply.calls k 11 a0 a1 t126 t127 _ A5.out).mono ?_); rintro e w' ⟨rfl, ⟨nd, rfl⟩⟩; refine ⟨_, rfl, ?_⟩) | ((with_reducible refine gate_callee (f := 12) rfl ?_); refine goesL_ (some 20) rfl rfl Try.func12 (by kernel_rfl) rfl #[.int .u8 12, .int .i64 a0, .int .i64 a1] rfl (by (try simp only [List.map_toArray, List.map_cons, List.map_nil]); first | done | rfl | (simp only [List.length_drop, List.length_take]; rfl)) ?_; (with_reducible refine (arith_Apply.calls k 12 a0 a1 t128 t129 _ A6.out).mono ?_); rintro e w' ⟨rfl, ⟨nd, rfl⟩⟩; refine ⟨_, rfl, ?_⟩))
                    go_ret
                    exact ⟨by first | rfl | (simp [errW_none, errW_some] <;> rfl) | (simp only [← hji21, ← hji22]; first | rfl | (simp [errW_none, errW_some] <;> rfl)) | (simp [*, errW_none, errW_some] <;> rfl), by repeat (first | (with_reducible first | exact HB.out | apply below_alloc | apply pw_below_drewN | apply below_drew1) | exact HB.out)⟩
                  · rw [if_neg c23] at H
                    have c23b0 : decide ((wrap64 (-(ji22))) < (wrap64 (-(ji21)))) = false := decide_eq_false c23
                    clear c23
                    obtain rfl := Option.some.inj H
                    go_enter Try.func5, Try.ntmps5
                    go_wp2_with (first | ((with_reducible refine gate_callee (f := 11) rfl ?_); refine goesL_ (some 9) rfl rfl Try.func11 (by kernel_rfl) rfl #[] rfl (by (try simp only [List.map_toArray, List.map_cons, List.map_nil]); first | done | rfl | (simp only [List.length_drop, List.length_take]; rfl)) ?_; (with_reducible refine (backsteplaw01_awake.calls k  true _ A3.out).mono ?_); rintro e w' ⟨rfl, ⟨nd, rfl⟩⟩; refine ⟨_, rfl, ?_⟩) | ((with_reducible refine gate_callee (f := 12) rfl ?_); refine goesL_ (some 14) rfl rfl Try.func12 (by kernel_rfl) rfl #[.int .u8 11, .int .i64 a0, .int .i64 a1] rfl (by (try simp only [List.map_toArray, List.map_cons, List.map_nil]); first | done | rfl | (simp only [List.length_drop, List.length_take]; rfl)) ?_; (with_reducible refine (arith_Apply.calls k 11 a0 a1 t126 t127 _ A5.out).mono ?_); rintro e w' ⟨rfl, ⟨nd, rfl⟩⟩; refine ⟨_, rfl, ?_⟩) | ((with_reducible refine gate_callee (f := 12) rfl ?_); refine goesL_ (some 20) rfl rfl Try.func12 (by kernel_rfl) rfl #[.int .u8 12, .int .i64 a0, .int .i64 a1] rfl (by (try simp only [List.map_toArray, List.map_cons, List.map_nil]); first | done | rfl | (simp only [List.length_drop, List.length_take]; rfl)) ?_; (with_reducible refine (arith_Apply.calls k 12 a0 a1 t128 t129 _ A6.out).mono ?_); rintro e w' ⟨rfl, ⟨nd, rfl⟩⟩; refine ⟨_, rfl, ?_⟩))
                    go_ret
                    exact ⟨by first | rfl | (simp [errW_none, errW_some] <;> rfl) | (simp only [← hji21, ← hji22]; first | rfl | (simp [errW_none, errW_some] <;> rfl)) | (simp [*, errW_none, errW_some] <;> rfl), by repeat (first | (with_reducible first | exact HB.out | apply below_alloc | apply pw_below_drewN | apply below_drew1) | exact HB.out)⟩
            · rw [if_neg c14] at H
              have c14b0 : decide (0 ≤ a0) = false := decide_eq_false c14
              clear c14
              by_cases c24 : a0 ≤ 0
              · rw [if_pos c24] at H
                have c24b0 : decide (a0 ≤ 0) = true := decide_eq_true c24
                clear c24
                by_cases c25 : t128 > 0
                · rw [if_pos c25] at H
                  have c25b0 : decide (0 < t128) = true := decide_eq_true c25
                  clear c25
                  obtain rfl := Option.some.inj H
                  go_enter Try.func5, Try.ntmps5
                  go_wp2_with (first | ((with_reducible refine gate_callee (f := 11) rfl ?_); refine goesL_ (some 9) rfl rfl Try.func11 (by kernel_rfl) rfl #[] rfl (by (try simp only [List.map_toArray, List.map_cons, List.map_nil]); first | done | rfl | (simp only [List.length_drop, List.length_take]; rfl)) ?_; (with_reducible refine (backsteplaw01_awake.calls k  true _ A3.out).mono ?_); rintro e w' ⟨rfl, ⟨nd, rfl⟩⟩; refine ⟨_, rfl, ?_⟩) | ((with_reducible refine gate_callee (f := 12) rfl ?_); refine goesL_ (some 14) rfl rfl Try.func12 (by kernel_rfl) rfl #[.int .u8 11, .int .i64 a0, .int .i64 a1] rfl (by (try simp only [List.map_toArray, List.map_cons, List.map_nil]); first | done | rfl | (simp only [List.length_drop, List.length_take]; rfl)) ?_; (with_reducible refine (arith_Apply.calls k 11 a0 a1 t126 t127 _ A5.out).mono ?_); rintro e w' ⟨rfl, ⟨nd, rfl⟩⟩; refine ⟨_, rfl, ?_⟩) | ((with_reducible refine gate_callee (f := 12) rfl ?_); refine goesL_ (some 20) rfl rfl Try.func12 (by kernel_rfl) rfl #[.int .u8 12, .int .i64 a0, .int .i64 a1] rfl (by (try simp only [List.map_toArray, List.map_cons, List.map_nil]); first | done | rfl | (simp only [List.length_drop, List.length_take]; rfl)) ?_; (with_reducible refine (arith_Apply.calls k 12 a0 a1 t128 t129 _ A6.out).mono ?_); rintro e w' ⟨rfl, ⟨nd, rfl⟩⟩; refine ⟨_, rfl, ?_⟩))
                  go_ret
                  exact ⟨by first | rfl | (simp [errW_none, errW_some] <;> rfl) | (simp [*, errW_none, errW_some] <;> rfl), by repeat (first | (with_reducible first | exact HB.out | apply below_alloc | apply pw_below_drewN | apply below_drew1) | exact HB.out)⟩
                · rw [if_neg c25] at H
                  have c25b0 : decide (0 < t128) = false := decide_eq_false c25
                  clear c25
                  obtain ⟨ji26, hji26⟩ : ∃ j_ : Int, (mx t128 (wrap64 (-t128))) = j_ := ⟨_, rfl⟩
                  replace H : (if (wrap64 (-(ji26))) > (wrap64 (-(mx a1 (wrap64 (-a1))))) then (some true) else (some (a1 == (wrap64 (-a1))))) = some r := by first | (rw [hji26] at H; exact H) | (simp only [hji26] at H ⊢; exact H)
                  (try rw [hji26] at A3)
                  (try rw [hji26] at A5)
                  (try rw [hji26] at A6)
                  have hji26_ : (if t128 < (wrap64 (-t128)) then (wrap64 (-t128)) else t128) = ji26 := hji26
                  obtain ⟨ji27, hji27⟩ : ∃ j_ : Int, (mx a1 (wrap64 (-a1))) = j_ := ⟨_, rfl⟩
                  replace H : (if (wrap64 (-(ji26))) > (wrap64 (-(ji27))) then (some true) else (some (a1 == (wrap64 (-a1))))) = some r := by first | (rw [hji27] at H; exact H) | (simp only [hji27] at H ⊢; exact H)
                  (try rw [hji27] at A3)
                  (try rw [hji27] at A5)
                  (try rw [hji27] at A6)
                  have hji27_ : (if a1 < (wrap64 (-a1)) then (wrap64 (-a1)) else a1) = ji27 := hji27
                  by_cases c28 : (wrap64 (-(ji26))) > (wrap64 (-(ji27)))
                  · rw [if_pos c28] at H
                    have c28b0 : decide ((wrap64 (-(ji27))) < (wrap64 (-(ji26)))) = true := decide_eq_true c28
                    clear c28
                    obtain rfl := Option.some.inj H
                    go_enter Try.func5, Try.ntmps5
                    go_wp2_with (first | ((with_reducible refine gate_callee (f := 11) rfl ?_); refine goesL_ (some 9) rfl rfl Try.func11 (by kernel_rfl) rfl #[] rfl (by (try simp only [List.map_toArray, List.map_cons, List.map_nil]); first | done | rfl | (simp only [List.length_drop, List.length_take]; rfl)) ?_; (with_reducible refine (backsteplaw01_awake.calls k  true _ A3.out).mono ?_); rintro e w' ⟨rfl, ⟨nd, rfl⟩⟩; refine ⟨_, rfl, ?_⟩) | ((with_reducible refine gate_callee (f := 12) rfl ?_); refine goesL_ (some 14) rfl rfl Try.func12 (by kernel_rfl) rfl #[.int .u8 11, .int .i64 a0, .int .i64 a1] rfl (by (try simp only [List.map_toArray, List.map_cons, List.map_nil]); first | done | rfl | (simp only [List.length_drop, List.length_take]; rfl)) ?_; (with_reducible refine (arith_Apply.calls k 11 a0 a1 t126 t127 _ A5.out).mono ?_); rintro e w' ⟨rfl, ⟨nd, rfl⟩⟩; refine ⟨_, rfl, ?_⟩) | ((with_reducible refine gate_callee (f := 12) rfl ?_); refine goesL_ (some 20) rfl rfl Try.func12 (by kernel_rfl) rfl #[.int .u8 12, .int .i64 a0, .int .i64 a1] rfl (by (try simp only [List.map_toArray, List.map_cons, List.map_nil]); first | done | rfl | (simp only [List.length_drop, List.length_take]; rfl)) ?_; (with_reducible refine (arith_Apply.calls k 12 a0 a1 t128 t129 _ A6.out).mono ?_); rintro e w' ⟨rfl, ⟨nd, rfl⟩⟩; refine ⟨_, rfl, ?_⟩))
                    go_ret
                    exact ⟨by first | rfl | (simp [errW_none, errW_some] <;> rfl) | (simp only [← hji26, ← hji27]; first | rfl | (simp [errW_none, errW_some] <;> rfl)) | (simp [*, errW_none, errW_some] <;> rfl), by repeat (first | (with_reducible first | exact HB.out | apply below_alloc | apply pw_below_drewN | apply below_drew1) | exact HB.out)⟩
                  · rw [if_neg c28] at H
                    have c28b0 : decide ((wrap64 (-(ji27))) < (wrap64 (-(ji26)))) = false := decide_eq_false c28
                    clear c28
                    obtain rfl := Option.some.inj H
                    go_enter Try.func5, Try.ntmps5
                    go_wp2_with (first | ((with_reducible refine gate_callee (f := 11) rfl ?_); refine goesL_ (some 9) rfl rfl Try.func11 (by kernel_rfl) rfl #[] rfl (by (try simp only [List.map_toArray, List.map_cons, List.map_nil]); first | done | rfl | (simp only [List.length_drop, List.length_take]; rfl)) ?_; (with_reducible refine (backsteplaw01_awake.calls k  true _ A3.out).mono ?_); rintro e w' ⟨rfl, ⟨nd, rfl⟩⟩; refine ⟨_, rfl, ?_⟩) | ((with_reducible refine gate_callee (f := 12) rfl ?_); refine goesL_ (some 14) rfl rfl Try.func12 (by kernel_rfl) rfl #[.int .u8 11, .int .i64 a0, .int .i64 a1] rfl (by (try simp only [List.map_toArray, List.map_cons, List.map_nil]); first | done | rfl | (simp only [List.length_drop, List.length_take]; rfl)) ?_; (with_reducible refine (arith_Apply.calls k 11 a0 a1 t126 t127 _ A5.out).mono ?_); rintro e w' ⟨rfl, ⟨nd, rfl⟩⟩; refine ⟨_, rfl, ?_⟩) | ((with_reducible refine gate_callee (f := 12) rfl ?_); refine goesL_ (some 20) rfl rfl Try.func12 (by kernel_rfl) rfl #[.int .u8 12, .int .i64 a0, .int .i64 a1] rfl (by (try simp only [List.map_toArray, List.map_cons, List.map_nil]); first | done | rfl | (simp only [List.length_drop, List.length_take]; rfl)) ?_; (with_reducible refine (arith_Apply.calls k 12 a0 a1 t128 t129 _ A6.out).mono ?_); rintro e w' ⟨rfl, ⟨nd, rfl⟩⟩; refine ⟨_, rfl, ?_⟩))
                    go_ret
                    exact ⟨by first | rfl | (simp [errW_none, errW_some] <;> rfl) | (simp only [← hji26, ← hji27]; first | rfl | (simp [errW_none, errW_some] <;> rfl)) | (simp [*, errW_none, errW_some] <;> rfl), by repeat (first | (with_reducible first | exact HB.out | apply below_alloc | apply pw_below_drewN | apply below_drew1) | exact HB.out)⟩
              · rw [if_neg c24] at H
                have c24b0 : decide (a0 ≤ 0) = false := decide_eq_false c24
                clear c24
                obtain ⟨ji29, hji29⟩ : ∃ j_ : Int, (mx t128 (wrap64 (-t128))) = j_ := ⟨_, rfl⟩
                replace H : (if (wrap64 (-(ji29))) > (wrap64 (-(mx a1 (wrap64 (-a1))))) then (some true) else (some (a1 == (wrap64 (-a1))))) = some r := by first | (rw [hji29] at H; exact H) | (simp only [hji29] at H ⊢; exact H)
                (try rw [hji29] at A3)
                (try rw [hji29] at A5)
                (try rw [hji29] at A6)
                have hji29_ : (if t128 < (wrap64 (-t128)) then (wrap64 (-t128)) else t128) = ji29 := hji29
                obtain ⟨ji30, hji30⟩ : ∃ j_ : Int, (mx a1 (wrap64 (-a1))) = j_ := ⟨_, rfl⟩
                replace H : (if (wrap64 (-(ji29))) > (wrap64 (-(ji30))) then (some true) else (some (a1 == (wrap64 (-a1))))) = some r := by first | (rw [hji30] at H; exact H) | (simp only [hji30] at H ⊢; exact H)
                (try rw [hji30] at A3)
                (try rw [hji30] at A5)
                (try rw [hji30] at A6)
                have hji30_ : (if a1 < (wrap64 (-a1)) then (wrap64 (-a1)) else a1) = ji30 := hji30
                by_cases c31 : (wrap64 (-(ji29))) > (wrap64 (-(ji30)))
                · rw [if_pos c31] at H
                  have c31b0 : decide ((wrap64 (-(ji30))) < (wrap64 (-(ji29)))) = true := decide_eq_true c31
                  clear c31
                  obtain rfl := Option.some.inj H
                  go_enter Try.func5, Try.ntmps5
                  go_wp2_with (first | ((with_reducible refine gate_callee (f := 11) rfl ?_); refine goesL_ (some 9) rfl rfl Try.func11 (by kernel_rfl) rfl #[] rfl (by (try simp only [List.map_toArray, List.map_cons, List.map_nil]); first | done | rfl | (simp only [List.length_drop, List.length_take]; rfl)) ?_; (with_reducible refine (backsteplaw01_awake.calls k  true _ A3.out).mono ?_); rintro e w' ⟨rfl, ⟨nd, rfl⟩⟩; refine ⟨_, rfl, ?_⟩) | ((with_reducible refine gate_callee (f := 12) rfl ?_); refine goesL_ (some 14) rfl rfl Try.func12 (by kernel_rfl) rfl #[.int .u8 11, .int .i64 a0, .int .i64 a1] rfl (by (try simp only [List.map_toArray, List.map_cons, List.map_nil]); first | done | rfl | (simp only [List.length_drop, List.length_take]; rfl)) ?_; (with_reducible refine (arith_Apply.calls k 11 a0 a1 t126 t127 _ A5.out).mono ?_); rintro e w' ⟨rfl, ⟨nd, rfl⟩⟩; refine ⟨_, rfl, ?_⟩) | ((with_reducible refine gate_callee (f := 12) rfl ?_); refine goesL_ (some 20) rfl rfl Try.func12 (by kernel_rfl) rfl #[.int .u8 12, .int .i64 a0, .int .i64 a1] rfl (by (try simp only [List.map_toArray, List.map_cons, List.map_nil]); first | done | rfl | (simp only [List.length_drop, List.length_take]; rfl)) ?_; (with_reducible refine (arith_Apply.calls k 12 a0 a1 t128 t129 _ A6.out).mono ?_); rintro e w' ⟨rfl, ⟨nd, rfl⟩⟩; refine ⟨_, rfl, ?_⟩))
                  go_ret
                  exact ⟨by first | rfl | (simp [errW_none, errW_some] <;> rfl) | (simp only [← hji29, ← hji30]; first | rfl | (simp [errW_none, errW_some] <;> rfl)) | (simp [*, errW_none, errW_some] <;> rfl), by repeat (first | (with_reducible first | exact HB.out | apply below_alloc | apply pw_below_drewN | apply below_drew1) | exact HB.out)⟩
                · rw [if_neg c31] at H
                  have c31b0 : decide ((wrap64 (-(ji30))) < (wrap64 (-(ji29)))) = false := decide_eq_false c31
                  clear c31
                  obtain rfl := Option.some.inj H
                  go_enter Try.func5, Try.ntmps5
                  go_wp2_with (first | ((with_reducible refine gate_callee (f := 11) rfl ?_); refine goesL_ (some 9) rfl rfl Try.func11 (by kernel_rfl) rfl #[] rfl (by (try simp only [List.map_toArray, List.map_cons, List.map_nil]); first | done | rfl | (simp only [List.length_drop, List.length_take]; rfl)) ?_; (with_reducible refine (backsteplaw01_awake.calls k  true _ A3.out).mono ?_); rintro e w' ⟨rfl, ⟨nd, rfl⟩⟩; refine ⟨_, rfl, ?_⟩) | ((with_reducible refine gate_callee (f := 12) rfl ?_); refine goesL_ (some 14) rfl rfl Try.func12 (by kernel_rfl) rfl #[.int .u8 11, .int .i64 a0, .int .i64 a1] rfl (by (try simp only [List.map_toArray, List.map_cons, List.map_nil]); first | done | rfl | (simp only [List.length_drop, List.length_take]; rfl)) ?_; (with_reducible refine (arith_Apply.calls k 11 a0 a1 t126 t127 _ A5.out).mono ?_); rintro e w' ⟨rfl, ⟨nd, rfl⟩⟩; refine ⟨_, rfl, ?_⟩) | ((with_reducible refine gate_callee (f := 12) rfl ?_); refine goesL_ (some 20) rfl rfl Try.func12 (by kernel_rfl) rfl #[.int .u8 12, .int .i64 a0, .int .i64 a1] rfl (by (try simp only [List.map_toArray, List.map_cons, List.map_nil]); first | done | rfl | (simp only [List.length_drop, List.length_take]; rfl)) ?_; (with_reducible refine (arith_Apply.calls k 12 a0 a1 t128 t129 _ A6.out).mono ?_); rintro e w' ⟨rfl, ⟨nd, rfl⟩⟩; refine ⟨_, rfl, ?_⟩))
                  go_ret
                  exact ⟨by first | rfl | (simp [errW_none, errW_some] <;> rfl) | (simp only [← hji29, ← hji30]; first | rfl | (simp [errW_none, errW_some] <;> rfl)) | (simp [*, errW_none, errW_some] <;> rfl), by repeat (first | (with_reducible first | exact HB.out | apply below_alloc | apply pw_below_drewN | apply below_drew1) | exact HB.out)⟩
          · rw [if_neg c13] at H
            have c13b0 : ((wrap64 ((wrap64 (t126 * a1)) + t128)) == a0) = false := beq_eq_false_iff_ne.mpr c13
            have c13b1 : ((wrap64 ((wrap64 (t126 * a1)) + t128)) != a0) = true := bne_iff_ne.mpr c13
            obtain rfl := Option.some.inj H
            go_enter Try.func5, Try.ntmps5
            go_wp2_with (first | ((with_reducible refine gate_callee (f := 11) rfl ?_); refine goesL_ (some 9) rfl rfl Try.func11 (by kernel_rfl) rfl #[] rfl (by (try simp only [List.map_toArray, List.map_cons, List.map_nil]); first | done | rfl | (simp only [List.length_drop, List.length_take]; rfl)) ?_; (with_reducible refine (backsteplaw01_awake.calls k  true _ A3.out).mono ?_); rintro e w' ⟨rfl, ⟨nd, rfl⟩⟩; refine ⟨_, rfl, ?_⟩) | ((with_reducible refine gate_callee (f := 12) rfl ?_); refine goesL_ (some 14) rfl rfl Try.func12 (by kernel_rfl) rfl #[.int .u8 11, .int .i64 a0, .int .i64 a1] rfl (by (try simp only [List.map_toArray, List.map_cons, List.map_nil]); first | done | rfl | (simp only [List.length_drop, List.length_take]; rfl)) ?_; (with_reducible refine (arith_Apply.calls k 11 a0 a1 t126 t127 _ A5.out).mono ?_); rintro e w' ⟨rfl, ⟨nd, rfl⟩⟩; refine ⟨_, rfl, ?_⟩) | ((with_reducible refine gate_callee (f := 12) rfl ?_); refine goesL_ (some 20) rfl rfl Try.func12 (by kernel_rfl) rfl #[.int .u8 12, .int .i64 a0, .int .i64 a1] rfl (by (try simp only [List.map_toArray, List.map_cons, List.map_nil]); first | done | rfl | (simp only [List.length_drop, List.length_take]; rfl)) ?_; (with_reducible refine (arith_Apply.calls k 12 a0 a1 t128 t129 _ A6.out).mono ?_); rintro e w' ⟨rfl, ⟨nd, rfl⟩⟩; refine ⟨_, rfl, ?_⟩))
            go_ret
            exact ⟨by first | rfl | (simp [errW_none, errW_some] <;> rfl) | (simp [*, errW_none, errW_some] <;> rfl), by repeat (first | (with_reducible first | exact HB.out | apply below_alloc | apply pw_below_drewN | apply below_drew1) | exact HB.out)⟩
        · rw [if_neg c12] at H
          have c12b0 : (t129 == 0) = false := beq_eq_false_iff_ne.mpr c12
          have c12b1 : (t129 != 0) = true := bne_iff_ne.mpr c12
          obtain rfl := Option.some.inj H
          go_enter Try.func5, Try.ntmps5
          go_wp2_with (first | ((with_reducible refine gate_callee (f := 11) rfl ?_); refine goesL_ (some 9) rfl rfl Try.func11 (by kernel_rfl) rfl #[] rfl (by (try simp only [List.map_toArray, List.map_cons, List.map_nil]); first | done | rfl | (simp only [List.length_drop, List.length_take]; rfl)) ?_; (with_reducible refine (backsteplaw01_awake.calls k  true _ A3.out).mono ?_); rintro e w' ⟨rfl, ⟨nd, rfl⟩⟩; refine ⟨_, rfl, ?_⟩) | ((with_reducible refine gate_callee (f := 12) rfl ?_); refine goesL_ (some 14) rfl rfl Try.func12 (by kernel_rfl) rfl #[.int .u8 11, .int .i64 a0, .int .i64 a1] rfl (by (try simp only [List.map_toArray, List.map_cons, List.map_nil]); first | done | rfl | (simp only [List.length_drop, List.length_take]; rfl)) ?_; (with_reducible refine (arith_Apply.calls k 11 a0 a1 t126 t127 _ A5.out).mono ?_); rintro e w' ⟨rfl, ⟨nd, rfl⟩⟩; refine ⟨_, rfl, ?_⟩) | ((with_reducible refine gate_callee (f := 12) rfl ?_); refine goesL_ (some 20) rfl rfl Try.func12 (by kernel_rfl) rfl #[.int .u8 12, .int .i64 a0, .int .i64 a1] rfl (by (try simp only [List.map_toArray, List.map_cons, List.map_nil]); first | done | rfl | (simp only [List.length_drop, List.length_take]; rfl)) ?_; (with_reducible refine (arith_Apply.calls k 12 a0 a1 t128 t129 _ A6.out).mono ?_); rintro e w' ⟨rfl, ⟨nd, rfl⟩⟩; refine ⟨_, rfl, ?_⟩))
          go_ret
          exact ⟨by first | rfl | (simp [errW_none, errW_some] <;> rfl) | (simp [*, errW_none, errW_some] <;> rfl), by repeat (first | (with_reducible first | exact HB.out | apply below_alloc | apply pw_below_drewN | apply below_drew1) | exact HB.out)⟩
      · rw [if_neg c11] at H
        have c11b0 : (t127 == 0) = false := beq_eq_false_iff_ne.mpr c11
        have c11b1 : (t127 != 0) = true := bne_iff_ne.mpr c11
        obtain rfl := Option.some.inj H
        go_enter Try.func5, Try.ntmps5
        go_wp2_with (first | ((with_reducible refine gate_callee (f := 11) rfl ?_); refine goesL_ (some 9) rfl rfl Try.func11 (by kernel_rfl) rfl #[] rfl (by (try simp only [List.map_toArray, List.map_cons, List.map_nil]); first | done | rfl | (simp only [List.length_drop, List.length_take]; rfl)) ?_; (with_reducible refine (backsteplaw01_awake.calls k  true _ A3.out).mono ?_); rintro e w' ⟨rfl, ⟨nd, rfl⟩⟩; refine ⟨_, rfl, ?_⟩) | ((with_reducible refine gate_callee (f := 12) rfl ?_); refine goesL_ (some 14) rfl rfl Try.func12 (by kernel_rfl) rfl #[.int .u8 11, .int .i64 a0, .int .i64 a1] rfl (by (try simp only [List.map_toArray, List.map_cons, List.map_nil]); first | done | rfl | (simp only [List.length_drop, List.length_take]; rfl)) ?_; (with_reducible refine (arith_Apply.calls k 11 a0 a1 t126 t127 _ A5.out).mono ?_); rintro e w' ⟨rfl, ⟨nd, rfl⟩⟩; refine ⟨_, rfl, ?_⟩) | ((with_reducible refine gate_callee (f := 12) rfl ?_); refine goesL_ (some 20) rfl rfl Try.func12 (by kernel_rfl) rfl #[.int .u8 12, .int .i64 a0, .int .i64 a1] rfl (by (try simp only [List.map_toArray, List.map_cons, List.map_nil]); first | done | rfl | (simp only [List.length_drop, List.length_take]; rfl)) ?_; (with_reducible refine (arith_Apply.calls k 12 a0 a1 t128 t129 _ A6.out).mono ?_); rintro e w' ⟨rfl, ⟨nd, rfl⟩⟩; refine ⟨_, rfl, ?_⟩))
        go_ret
        exact ⟨by first | rfl | (simp [errW_none, errW_some] <;> rfl) | (simp [*, errW_none, errW_some] <;> rfl), by repeat (first | (with_reducible first | exact HB.out | apply below_alloc | apply pw_below_drewN | apply below_drew1) | exact HB.out)⟩
  · replace c4 := Bool.eq_false_iff.mpr c4
    subst c4
    have H1 : (some false) = some r := by rw [if_neg (show ¬ (false = true) by decide)] at H; exact H
    clear H
    have H := H1
    clear H1
    obtain rfl := Option.some.inj H
    go_enter Try.func5, Try.ntmps5
    go_wp2_with (first | ((with_reducible refine gate_callee (f := 11) rfl ?_); refine goesL_ (some 9) rfl rfl Try.func11 (by kernel_rfl) rfl #[] rfl (by (try simp only [List.map_toArray, List.map_cons, List.map_nil]); first | done | rfl | (simp only [List.length_drop, List.length_take]; rfl)) ?_; (with_reducible refine (backsteplaw01_awake.calls k  false _ A3.out).mono ?_); rintro e w' ⟨rfl, ⟨nd, rfl⟩⟩; refine ⟨_, rfl, ?_⟩))
    go_ret
    exact ⟨by first | rfl | (simp [errW_none, errW_some] <;> rfl) | (simp [*, errW_none, errW_some] <;> rfl), by repeat (first | (with_reducible first | exact HB.out | apply below_alloc | apply pw_below_drewN | apply below_drew1) | exact HB.out)⟩

/-- THE ONE PURE STATEMENT of backsteplaw01_ArithDivides: yours. -/
def backsteplaw01_ArithDivides.Pure : Prop := ∀ (a0 : Int) (a1 : Int), (Lit.int .i64 a0).wf = true → (Lit.int .i64 a1).wf = true → ∃ k, backsteplaw01_ArithDivides.f k a0 a1 = some true
theorem backsteplaw01_ArithDivides.walk (P : backsteplaw01_ArithDivides.Pure) (a0 : Int) (a1 : Int) (w : World) (w0 : (Lit.int .i64 a0).wf = true) (w1 : (Lit.int .i64 a1).wf = true) :
    Calls Try.prog 5 #[.int .i64 a0, .int .i64 a1] w fun e w' => e = .returned (.bool true) ∧ Below w.heap.size w w' := by
  obtain ⟨k, h⟩ := P a0 a1 w0 w1
  refine (backsteplaw01_ArithDivides.calls k a0 a1 true w h).mono ?_
  rintro e w' ⟨rfl, hd⟩
  exact ⟨rfl, hd⟩

end Go.Proofs.Ytnbkmmhomghlmaa.PArithDivides
