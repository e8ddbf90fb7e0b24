/- ArithCompares: the cases, and the row. -/
import Derived.Test.YtnbkmmhomghlmaaCmpB
import Derived.Test.YtnbkmmhomghlmaaRows
import Derived.WalkKit
import Derived.ProofKit
import Derived.ShutString
import Derived.ChangeOld
import Derived.Below
import Derived.SizedLaws
namespace Go.Proofs.Ytnbkmmhomghlmaa.Cmp
set_option linter.unusedSimpArgs false
set_option linter.unusedVariables false
open Go.RowKit Go.Proofs.Ytnbkmmhomghlmaa.PArithUnary Go.Proofs.YtnbkmmhomghlmaaW.PrintWords Go.Proofs.YtnbkmmhomghlmaaW.PrintLast

theorem W0 : IntKind.i64.wrap 0 = 0 := by decide
theorem W1 : IntKind.i64.wrap 1 = 1 := by decide

theorem law_any (x y : Int) (w : World) : Calls Try.prog 6 #[.int .i64 x, .int .i64 y] w fun e w' => e = .returned (.bool true) ∧ Below w.heap.size w w' := by
  rcases Int.lt_trichotomy x y with t | t | t
  · have t1 : decide (x < y) = true := by simp; omega
    have t2 : decide (x ≤ y) = true := by simp; omega
    have t3 : decide (y < x) = false := by simp; omega
    have t4 : decide (y ≤ x) = false := by simp; omega
    have t5 : (x == y) = false := by simp; omega
    have t6 : (x != y) = true := by simp; omega
    by_cases zx : x = 0
    · have u1 : (x == 0) = true := by simp; omega
      have u2 : (x != 0) = false := by simp; omega
      by_cases zy : y = 0
      · have v1 : (y == 0) = true := by simp; omega
        have v2 : (y != 0) = false := by simp; omega
        omega
      · have v1 : (y == 0) = false := by simp; omega
        have v2 : (y != 0) = true := by simp; omega
        refine law_case x y w 1 0 0 0 1 1 0 1 1 0 0 1 ?_ ?_ ?_ ?_ ?_ ?_ ?_ ?_ ?_ ?_ ?_ ?_ ?_ ?_ ?_ ?_ (by decide) (by decide) (by decide) (by decide) (by decide) <;> first | (simp [arith_Apply.f, arith_Apply.j0, arith_Unary.f, arith_flag.f, t1, t2, t3, t4, t5, t6, u1, u2, v1, v2, W0, W1]; done) | (simp [arith_Apply.f, arith_Apply.j0, arith_Unary.f, arith_flag.f, u1, u2, v1, v2, zx, zy, W0, W1]; done)
    · have u1 : (x == 0) = false := by simp; omega
      have u2 : (x != 0) = true := by simp; omega
      by_cases zy : y = 0
      · have v1 : (y == 0) = true := by simp; omega
        have v2 : (y != 0) = false := by simp; omega
        refine law_case x y w 1 0 0 0 1 1 0 1 0 1 1 0 ?_ ?_ ?_ ?_ ?_ ?_ ?_ ?_ ?_ ?_ ?_ ?_ ?_ ?_ ?_ ?_ (by decide) (by decide) (by decide) (by decide) (by decide) <;> first | (simp [arith_Apply.f, arith_Apply.j0, arith_Unary.f, arith_flag.f, t1, t2, t3, t4, t5, t6, u1, u2, v1, v2, W0, W1]; done) | (simp [arith_Apply.f, arith_Apply.j0, arith_Unary.f, arith_flag.f, u1, u2, v1, v2, zx, zy, W0, W1]; done)
      · have v1 : (y == 0) = false := by simp; omega
        have v2 : (y != 0) = true := by simp; omega
        refine law_case x y w 1 0 0 0 1 1 1 1 0 0 1 1 ?_ ?_ ?_ ?_ ?_ ?_ ?_ ?_ ?_ ?_ ?_ ?_ ?_ ?_ ?_ ?_ (by decide) (by decide) (by decide) (by decide) (by decide) <;> first | (simp [arith_Apply.f, arith_Apply.j0, arith_Unary.f, arith_flag.f, t1, t2, t3, t4, t5, t6, u1, u2, v1, v2, W0, W1]; done) | (simp [arith_Apply.f, arith_Apply.j0, arith_Unary.f, arith_flag.f, u1, u2, v1, v2, zx, zy, W0, W1]; done)
  · have t1 : decide (x < y) = false := by simp; omega
    have t2 : decide (x ≤ y) = true := by simp; omega
    have t3 : decide (y < x) = false := by simp; omega
    have t4 : decide (y ≤ x) = true := by simp; omega
    have t5 : (x == y) = true := by simp; omega
    have t6 : (x != y) = false := by simp; omega
    by_cases zx : x = 0
    · have u1 : (x == 0) = true := by simp; omega
      have u2 : (x != 0) = false := by simp; omega
      by_cases zy : y = 0
      · have v1 : (y == 0) = true := by simp; omega
        have v2 : (y != 0) = false := by simp; omega
        refine law_case x y w 0 1 0 1 1 0 0 0 1 1 0 0 ?_ ?_ ?_ ?_ ?_ ?_ ?_ ?_ ?_ ?_ ?_ ?_ ?_ ?_ ?_ ?_ (by decide) (by decide) (by decide) (by decide) (by decide) <;> first | (simp [arith_Apply.f, arith_Apply.j0, arith_Unary.f, arith_flag.f, t1, t2, t3, t4, t5, t6, u1, u2, v1, v2, W0, W1]; done) | (simp [arith_Apply.f, arith_Apply.j0, arith_Unary.f, arith_flag.f, u1, u2, v1, v2, zx, zy, W0, W1]; done)
      · have v1 : (y == 0) = false := by simp; omega
        have v2 : (y != 0) = true := by simp; omega
        omega
    · have u1 : (x == 0) = false := by simp; omega
      have u2 : (x != 0) = true := by simp; omega
      by_cases zy : y = 0
      · have v1 : (y == 0) = true := by simp; omega
        have v2 : (y != 0) = false := by simp; omega
        omega
      · have v1 : (y == 0) = false := by simp; omega
        have v2 : (y != 0) = true := by simp; omega
        refine law_case x y w 0 1 0 1 1 0 1 1 0 0 1 1 ?_ ?_ ?_ ?_ ?_ ?_ ?_ ?_ ?_ ?_ ?_ ?_ ?_ ?_ ?_ ?_ (by decide) (by decide) (by decide) (by decide) (by decide) <;> first | (simp [arith_Apply.f, arith_Apply.j0, arith_Unary.f, arith_flag.f, t1, t2, t3, t4, t5, t6, u1, u2, v1, v2, W0, W1]; done) | (simp [arith_Apply.f, arith_Apply.j0, arith_Unary.f, arith_flag.f, u1, u2, v1, v2, zx, zy, W0, W1]; done)
  · have t1 : decide (x < y) = false := by simp; omega
    have t2 : decide (x ≤ y) = false := by simp; omega
    have t3 : decide (y < x) = true := by simp; omega
    have t4 : decide (y ≤ x) = true := by simp; omega
    have t5 : (x == y) = false := by simp; omega
    have t6 : (x != y) = true := by simp; omega
    by_cases zx : x = 0
    · have u1 : (x == 0) = true := by simp; omega
      have u2 : (x != 0) = false := by simp; omega
      by_cases zy : y = 0
      · have v1 : (y == 0) = true := by simp; omega
        have v2 : (y != 0) = false := by simp; omega
        omega
      · have v1 : (y == 0) = false := by simp; omega
        have v2 : (y != 0) = true := by simp; omega
        refine law_case x y w 0 0 1 1 0 1 0 1 1 0 0 1 ?_ ?_ ?_ ?_ ?_ ?_ ?_ ?_ ?_ ?_ ?_ ?_ ?_ ?_ ?_ ?_ (by decide) (by decide) (by decide) (by decide) (by decide) <;> first | (simp [arith_Apply.f, arith_Apply.j0, arith_Unary.f, arith_flag.f, t1, t2, t3, t4, t5, t6, u1, u2, v1, v2, W0, W1]; done) | (simp [arith_Apply.f, arith_Apply.j0, arith_Unary.f, arith_flag.f, u1, u2, v1, v2, zx, zy, W0, W1]; done)
    · have u1 : (x == 0) = false := by simp; omega
      have u2 : (x != 0) = true := by simp; omega
      by_cases zy : y = 0
      · have v1 : (y == 0) = true := by simp; omega
        have v2 : (y != 0) = false := by simp; omega
        refine law_case x y w 0 0 1 1 0 1 0 1 0 1 1 0 ?_ ?_ ?_ ?_ ?_ ?_ ?_ ?_ ?_ ?_ ?_ ?_ ?_ ?_ ?_ ?_ (by decide) (by decide) (by decide) (by decide) (by decide) <;> first | (simp [arith_Apply.f, arith_Apply.j0, arith_Unary.f, arith_flag.f, t1, t2, t3, t4, t5, t6, u1, u2, v1, v2, W0, W1]; done) | (simp [arith_Apply.f, arith_Apply.j0, arith_Unary.f, arith_flag.f, u1, u2, v1, v2, zx, zy, W0, W1]; done)
      · have v1 : (y == 0) = false := by simp; omega
        have v2 : (y != 0) = true := by simp; omega
        refine law_case x y w 0 0 1 1 0 1 1 1 0 0 1 1 ?_ ?_ ?_ ?_ ?_ ?_ ?_ ?_ ?_ ?_ ?_ ?_ ?_ ?_ ?_ ?_ (by decide) (by decide) (by decide) (by decide) (by decide) <;> first | (simp [arith_Apply.f, arith_Apply.j0, arith_Unary.f, arith_flag.f, t1, t2, t3, t4, t5, t6, u1, u2, v1, v2, W0, W1]; done) | (simp [arith_Apply.f, arith_Apply.j0, arith_Unary.f, arith_flag.f, u1, u2, v1, v2, zx, zy, W0, W1]; done)
end Go.Proofs.Ytnbkmmhomghlmaa.Cmp
namespace Go.Proofs.Ytnbkmmhomghlmaa.arithCompares
open Go.ChangeShapes Go.WideShapes Go.ChangeAt Go.RowKit
open Go.ChangeMaps (open_string shut_string)
set_option linter.unusedVariables false
theorem own : ownKnob Try.prog.godebug = none := by kernel_rfl
set_option maxRecDepth 100000 in
theorem lifted (os : Os) (started : os.Started) (H : Type) (enc : TypeId × Value → H) :
    ReturnsInHanded {} Try.checked os 6 .any (Rows.arithComparesSpec.pre6 enc Try.prog Try.f6 Rows.arithComparesRow.domain false) (Rows.arithComparesSpec.post enc Try.prog Try.f6 false true false false) := by
  refine returnsInHanded_of_change_sized (C := Try.checked) own started (by kernel_rfl) Try.func6
    (ChangeSpec.witness6 (enc := enc) (C := Try.checked) false ⟨#[], #[.int .i64 0, .int .i64 0], []⟩ 8 (by kernel_rfl) (by kernel_rfl) (by kernel_rfl) (by kernel_rfl)) ?_
  intro W base args ds gs before hval0 hW hcnd hsz0 _
  have hsz : (DataW.weightsEach Try.prog (Try.f6.params.toList ++ Rows.arithComparesSpec.plain.varTypes Try.prog) (ds ++ gs)).all (· ≤ reachBytes) = true := hsz0
  have hval : ∀ (j : Nat) t v, Try.f6.params[j]? = some t → args[j]? = some v → Value.okWide Try.prog W .any base t v := hval0
  have hW' := hW
  obtain ⟨p, q, hA0, hV, rfl, hfz, hnd⟩ := hW
  have hA : DataW.TrodAll enc Try.prog W 0 (fun _ => true) true Try.f6.params.toList args.toList ds p := hA0
  rw [Try.params6] at hA hval hsz
  obtain ⟨v0, vs0, d0, ds0, p0, q0, hargs, rfl, rfl, h0, r0⟩ := trodAll_cons hA
  obtain ⟨v1, vs1, d1, ds1, p1, q1, rfl, rfl, rfl, h1, r1⟩ := trodAll_cons r0
  obtain ⟨rfl, rfl, rfl⟩ := trodAll_nil r1
  obtain rfl : args = #[v0, v1] := by cases args; simp_all
  obtain ⟨rfl, rfl⟩ := trodVars_none hV
  obtain ⟨a0, rfl, rfl, rfl, w0⟩ := open_int Try.underlying3 (hval 0 3 v0 rfl rfl) h0
  obtain ⟨a1, rfl, rfl, rfl, w1⟩ := open_int Try.underlying3 (hval 1 3 v1 rfl rfl) h1
  clear hA0 hval0 hsz0 hsz
  refine (Cmp.law_any a0 a1 W).mono fun e W' ⟨he, bel⟩ => ?_
  subst he
  exact ⟨_, rfl, _, _, _, [], _, [], hW', trodAll_mk1 (shut_bool Try.underlying4 _), (trodAll_cons_mk (shut_int Try.underlying3 w0) (trodAll_cons_mk (shut_int Try.underlying3 w1) trodAll_mk0)), rfl, bel.frame _, fun h => by cases h⟩
theorem over : Rows.arithComparesRow.holds Try.pinned (OpenSpec.ofChange Rows.arithComparesSpec) :=
  OpenClaim.holds_of_wide 6 Try.f6 rfl rfl rfl rfl rfl rfl rfl ⟨rfl, rfl, rfl, rfl, rfl⟩ rfl rfl rfl rfl rfl (by kernel_rfl) Try.func6 (by kernel_rfl)
    (of_decide_eq_true (by kernel_rfl)) (by unfold Func.isWrapper; first | (rw [if_pos (by decide +kernel)]; kernel_rfl) | (rw [if_neg (by decide +kernel)]; exact ⟨rfl, rfl⟩))
    (fun os started H enc _ => lifted os started H enc)
theorem proved : Rows.ArithComparesSaid := over
#print axioms proved
end Go.Proofs.Ytnbkmmhomghlmaa.arithCompares
namespace Go.Proofs.Ytnbkmmhomghlmaa
/-- The row, under a short name, for the claim. -/
theorem arithCompares_holds : Rows.ArithComparesSaid := arithCompares.proved
end Go.Proofs.Ytnbkmmhomghlmaa
