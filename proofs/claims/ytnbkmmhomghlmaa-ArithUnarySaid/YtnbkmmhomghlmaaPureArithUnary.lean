/- The pure statement of ArithUnary: both sides are the same case by case. -/
import Derived.Test.YtnbkmmhomghlmaaPArithUnaryx2
import Derived.OpenShut
namespace Go.Proofs.Ytnbkmmhomghlmaa.Pure
open Go.RowKit Go.Proofs.Ytnbkmmhomghlmaa.PArithUnary Go.Proofs.YtnbkmmhomghlmaaW.PrintWords Go.Proofs.YtnbkmmhomghlmaaW.PrintLast

theorem awake1 : backsteplaw01_awake.f 1 = some true := by decide +kernel

theorem ArithUnary : backsteplaw01_ArithUnary.Pure := by
  intro a0 a1 a2 w0 w1 w2
  refine ⟨1, ?_⟩
  unfold backsteplaw01_ArithUnary.f
  rw [awake1]
  have hu : backstepref01_Unary.f a0 a1 = arith_Unary.f a0 a1 := rfl
  have hv : backstepref01_Update.f a0 a1 a2 = arith_Update.f a0 a1 a2 := rfl
  have eu : ∃ p, arith_Unary.f a0 a1 = some p := by
    unfold arith_Unary.f arith_flag.f
    repeat' (first | exact ⟨_, rfl⟩ | split)
  have ev : ∃ p, arith_Update.f a0 a1 a2 = some p := by
    unfold arith_Update.f
    repeat' (first | exact ⟨_, rfl⟩ | split)
  obtain ⟨p, hp⟩ := eu
  obtain ⟨q, hq⟩ := ev
  rw [hu, hv, hp, hq]
  by_cases h : a1 = 0
  · subst h
    simp [arith_Truth.f, arith_flag.f]
  · have hb : (a1 != 0) = true := by simp [h]
    simp [arith_Truth.f, arith_flag.f, h, hb]

end Go.Proofs.Ytnbkmmhomghlmaa.Pure
