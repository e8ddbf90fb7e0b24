/- The pure statement of ArithApplies: the program's operator and the reference's agree case by case. -/
import Derived.Test.YtnbkmmhomghlmaaPArithAppliesx2
import Derived.OpenShut
namespace Go.Proofs.Ytnbkmmhomghlmaa.Pure
open Go.RowKit Go.Proofs.Ytnbkmmhomghlmaa.PArithApplies Go.Proofs.YtnbkmmhomghlmaaW.PrintWords Go.Proofs.YtnbkmmhomghlmaaW.PrintLast

theorem awake1 : backsteplaw01_awake.f 1 = some true := by decide +kernel

theorem apply_some (a0 a1 a2 : Int) : ∃ p, arith_Apply.f 1 a0 a1 a2 = some p ∧ backstepref01_Apply.f 1 a0 a1 a2 = some p := by
  by_cases h : 8 ≤ a0 ∧ a0 ≤ 23
  · have hc : a0 = 8 ∨ a0 = 9 ∨ a0 = 10 ∨ a0 = 11 ∨ a0 = 12 ∨ a0 = 13 ∨ a0 = 14 ∨ a0 = 15 ∨ a0 = 16 ∨ a0 = 17 ∨ a0 = 18 ∨ a0 = 19 ∨ a0 = 20 ∨ a0 = 21 ∨ a0 = 22 ∨ a0 = 23 := by omega
    by_cases h2 : a2 = 0
    · subst h2
      rcases hc with rfl | rfl | rfl | rfl | rfl | rfl | rfl | rfl | rfl | rfl | rfl | rfl | rfl | rfl | rfl | rfl <;>
        simp [arith_Apply.f, arith_Apply.j0, backstepref01_Apply.f, backstepref01_Apply.j0, arith_flag.f, backstepref01_truth.f]
      all_goals (repeat' split) <;> simp_all
    · by_cases h3 : a2 = -1
      · subst h3
        rcases hc with rfl | rfl | rfl | rfl | rfl | rfl | rfl | rfl | rfl | rfl | rfl | rfl | rfl | rfl | rfl | rfl <;>
          simp [arith_Apply.f, arith_Apply.j0, backstepref01_Apply.f, backstepref01_Apply.j0, arith_flag.f, backstepref01_truth.f, arith_divide.f]
        all_goals (repeat' split) <;> simp_all
      · rcases hc with rfl | rfl | rfl | rfl | rfl | rfl | rfl | rfl | rfl | rfl | rfl | rfl | rfl | rfl | rfl | rfl <;>
          simp [arith_Apply.f, arith_Apply.j0, backstepref01_Apply.f, backstepref01_Apply.j0, arith_flag.f, backstepref01_truth.f, arith_divide.f, h2, h3]
        all_goals (repeat' split) <;> simp_all
  · have hn : ∀ n : Int, 8 ≤ n → n ≤ 23 → ¬ a0 = n := by intro n h1 h2 h3; omega
    refine ⟨(0, 7), ?_, ?_⟩
    · unfold arith_Apply.f arith_Apply.j0
      rw [if_neg (hn 11 (by omega) (by omega)), if_neg (hn 12 (by omega) (by omega))]
      simp [hn 8 (by omega) (by omega), hn 9 (by omega) (by omega), hn 10 (by omega) (by omega), hn 11 (by omega) (by omega), hn 12 (by omega) (by omega), hn 13 (by omega) (by omega), hn 14 (by omega) (by omega), hn 15 (by omega) (by omega), hn 16 (by omega) (by omega), hn 17 (by omega) (by omega), hn 18 (by omega) (by omega), hn 19 (by omega) (by omega), hn 20 (by omega) (by omega), hn 21 (by omega) (by omega), hn 22 (by omega) (by omega), hn 23 (by omega) (by omega)]
    · unfold backstepref01_Apply.f backstepref01_Apply.j0
      simp [hn 8 (by omega) (by omega), hn 9 (by omega) (by omega), hn 10 (by omega) (by omega), hn 11 (by omega) (by omega), hn 12 (by omega) (by omega), hn 13 (by omega) (by omega), hn 14 (by omega) (by omega), hn 15 (by omega) (by omega), hn 16 (by omega) (by omega), hn 17 (by omega) (by omega), hn 18 (by omega) (by omega), hn 19 (by omega) (by omega), hn 20 (by omega) (by omega), hn 21 (by omega) (by omega), hn 22 (by omega) (by omega), hn 23 (by omega) (by omega)]

theorem ArithApplies : backsteplaw01_ArithApplies.Pure := by
  intro a0 a1 a2 w0 w1 w2
  refine ⟨1, ?_⟩
  unfold backsteplaw01_ArithApplies.f
  rw [awake1]
  obtain ⟨p, h1, h2⟩ := apply_some a0 a1 a2
  rw [h1, h2]
  simp

end Go.Proofs.Ytnbkmmhomghlmaa.Pure
