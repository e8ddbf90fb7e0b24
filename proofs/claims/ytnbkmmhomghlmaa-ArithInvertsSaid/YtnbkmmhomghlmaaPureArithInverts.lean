/- The pure statement of ArithInverts: an update and its inverse update cancel. -/
import Derived.Test.YtnbkmmhomghlmaaPArithInvertsx2
import Derived.OpenShut
namespace Go.Proofs.Ytnbkmmhomghlmaa.Pure
open Go.RowKit Go.Proofs.Ytnbkmmhomghlmaa.PArithInverts Go.Proofs.YtnbkmmhomghlmaaW.PrintWords Go.Proofs.YtnbkmmhomghlmaaW.PrintLast

theorem wrap_toNat (v : BitVec 64) : IntKind.i64.wrap (v.toNat : Int) = v.toInt := by
  rw [IntKind.wrap_i64, BitVec.toInt_eq_toNat_cond]
  have := v.isLt
  split <;> omega

theorem xor_back (x y : Int) (h : -9223372036854775808 ≤ x ∧ x ≤ 9223372036854775807) : Go.bits .xor .i64 (Go.bits .xor .i64 x y) y = x := by
  have e : ∀ a b : Int, Go.bits .xor .i64 a b = (BitVec.ofInt 64 a ^^^ BitVec.ofInt 64 b).toInt := fun a b => wrap_toNat _
  rw [e, e, BitVec.ofInt_toInt, BitVec.xor_assoc, BitVec.xor_self, BitVec.xor_zero, BitVec.toInt_ofInt]
  unfold Int.bmod
  simp only [Nat.reducePow]
  split <;> omega

theorem xor_inj (x z y : Int) (hx : -9223372036854775808 ≤ x ∧ x ≤ 9223372036854775807) (hz : -9223372036854775808 ≤ z ∧ z ≤ 9223372036854775807)
    (h : Go.bits .xor .i64 x y = Go.bits .xor .i64 z y) : x = z := by
  rw [← xor_back x y hx, h, xor_back z y hz]

theorem awake1 : backsteplaw01_awake.f 1 = some true := by decide +kernel

theorem add_back (x y : Int) (hx : -9223372036854775808 ≤ x ∧ x ≤ 9223372036854775807) : wrap64 (wrap64 (x + y) - y) = x := by
  unfold wrap64; omega
theorem sub_back (x y : Int) (hx : -9223372036854775808 ≤ x ∧ x ≤ 9223372036854775807) : wrap64 (wrap64 (x - y) + y) = x := by
  unfold wrap64; omega

theorem ArithInverts : backsteplaw01_ArithInverts.Pure := by
  intro a0 a1 a2 w0 w1 w2
  have hx := bounds_i64 w1
  refine ⟨1, ?_⟩
  unfold backsteplaw01_ArithInverts.f
  rw [awake1]
  by_cases h40 : a0 = 40
  · subst h40; simp [arith_Inverse.f, arith_Update.f, add_back a1 a2 hx]
  · by_cases h41 : a0 = 41
    · subst h41; simp [arith_Inverse.f, arith_Update.f, sub_back a1 a2 hx]
    · by_cases h42 : a0 = 42
      · subst h42; simp [arith_Inverse.f, arith_Update.f, xor_back a1 a2 hx]
      · simp [arith_Inverse.f, arith_Update.f, h40, h41, h42]

end Go.Proofs.Ytnbkmmhomghlmaa.Pure
