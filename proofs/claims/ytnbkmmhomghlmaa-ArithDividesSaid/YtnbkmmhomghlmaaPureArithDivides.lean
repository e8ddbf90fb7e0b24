/- The pure statement of ArithDivides: quotient and remainder belong together. -/
import Derived.Test.YtnbkmmhomghlmaaPArithDividesx2
import Derived.OpenShut
namespace Go.Proofs.Ytnbkmmhomghlmaa.Pure
open Go.RowKit Go.Proofs.Ytnbkmmhomghlmaa.PArithDivides Go.Proofs.YtnbkmmhomghlmaaW.PrintWords Go.Proofs.YtnbkmmhomghlmaaW.PrintLast

theorem awake1 : backsteplaw01_awake.f 1 = some true := by decide +kernel

theorem mx_abs (r : Int) (h : -9223372036854775807 ≤ r ∧ r ≤ 9223372036854775807) : wrap64 (-(mx r (wrap64 (-r)))) = -(r.natAbs : Int) := by
  have e : wrap64 (-r) = -r := by unfold wrap64; omega
  rw [e]
  unfold mx
  split
  · unfold wrap64; omega
  · unfold wrap64; omega

theorem mx_least : wrap64 (-(mx (-9223372036854775808) (wrap64 (-(-9223372036854775808))))) = -9223372036854775808 := by decide +kernel

theorem core (x y : Int) (hx : -9223372036854775808 ≤ x ∧ x ≤ 9223372036854775807) (hy : -9223372036854775808 ≤ y ∧ y ≤ 9223372036854775807) (h0 : y ≠ 0) :
    ∃ q r, arith_Apply.f 1 11 x y = some (q, 0) ∧ arith_Apply.f 1 12 x y = some (r, 0) ∧ wrap64 ((wrap64 (q * y)) + r) = x ∧ (0 ≤ x → 0 ≤ r) ∧ (x ≤ 0 → r ≤ 0) ∧
      wrap64 (-(mx r (wrap64 (-r)))) > wrap64 (-(mx y (wrap64 (-y)))) := by
  by_cases h1 : y = -1
  · subst h1
    refine ⟨wrap64 (-x), 0, ?_, ?_, ?_, fun _ => by omega, fun _ => by omega, by decide +kernel⟩
    · simp [arith_Apply.f, arith_Apply.j0, arith_divide.f]
    · simp [arith_Apply.f, arith_Apply.j0, arith_divide.f]
    · unfold wrap64; omega
  · have hq : (Int.tdiv x y).natAbs = x.natAbs / y.natAbs := Int.natAbs_tdiv x y
    have hr : (Int.tmod x y).natAbs = x.natAbs % y.natAbs := Int.natAbs_tmod x y
    have hs : y * Int.tdiv x y + Int.tmod x y = x := Int.mul_tdiv_add_tmod x y
    have hlt : x.natAbs % y.natAbs < y.natAbs := Nat.mod_lt _ (by omega)
    have hle : x.natAbs % y.natAbs ≤ x.natAbs := Nat.mod_le _ _
    have hp : 0 ≤ x → 0 ≤ Int.tmod x y := fun h => Int.tmod_nonneg y h
    have hn : x ≤ 0 → Int.tmod x y ≤ 0 := fun h => by
      have := Int.tmod_nonneg y (show 0 ≤ -x by omega)
      rw [Int.neg_tmod] at this
      omega
    have hd : wrap64 (Int.tdiv x y) = Int.tdiv x y := by
      by_cases h2 : y = 1
      · subst h2
        rw [Int.tdiv_one]
        unfold wrap64; omega
      · have : x.natAbs / y.natAbs ≤ x.natAbs / 2 := Nat.div_le_div_left (by omega) (by omega)
        unfold wrap64; omega
    refine ⟨wrap64 (Int.tdiv x y), Int.tmod x y, ?_, ?_, ?_, hp, hn, ?_⟩
    · simp [arith_Apply.f, arith_Apply.j0, arith_divide.f, h0, h1]
    · simp [arith_Apply.f, arith_Apply.j0, arith_divide.f, h0, h1]
    · rw [hd, Int.mul_comm (Int.tdiv x y) y]
      generalize y * Int.tdiv x y = p at hs
      generalize Int.tmod x y = r at *
      have e : wrap64 p = p := by unfold wrap64; omega
      rw [e, hs]
      unfold wrap64; omega
    · rw [mx_abs _ (by omega)]
      by_cases h2 : y = -9223372036854775808
      · subst h2
        rw [mx_least]; omega
      · rw [mx_abs _ (by omega)]; omega

theorem ArithDivides : backsteplaw01_ArithDivides.Pure := by
  intro x y w0 w1
  have hx := bounds_i64 w0
  have hy := bounds_i64 w1
  refine ⟨1, ?_⟩
  unfold backsteplaw01_ArithDivides.f
  rw [awake1]
  by_cases h0 : y = 0
  · subst h0
    simp [arith_Apply.f, arith_Apply.j0]
  · obtain ⟨q, r, e1, e2, h1, h2, h3, h4⟩ := core x y hx hy h0
    rw [e1, e2]
    simp only [Option.bind_some, if_true]
    rw [if_neg h0, if_pos h1]
    have hfin : (if (wrap64 (-(mx r (wrap64 (-r))))) > (wrap64 (-(mx y (wrap64 (-y))))) then (some true) else (some (y == (wrap64 (-y))))) = some true := if_pos h4
    rw [hfin]
    by_cases a : x ≥ 0
    · have := h2 a
      rw [if_pos a, if_neg (by omega)]
      by_cases b : x ≤ 0
      · have := h3 b
        rw [if_pos b, if_neg (by omega)]
      · rw [if_neg b]
    · have := h3 (by omega)
      rw [if_neg a, if_pos (by omega), if_neg (by omega)]

end Go.Proofs.Ytnbkmmhomghlmaa.Pure
