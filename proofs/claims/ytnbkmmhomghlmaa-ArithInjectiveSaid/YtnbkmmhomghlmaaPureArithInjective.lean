/- The pure statement of ArithInjective: an update by the same amount is injective. -/
import Derived.Test.YtnbkmmhomghlmaaPArithInjectivex1
import Derived.OpenShut
namespace Go.Proofs.Ytnbkmmhomghlmaa.Pure
open Go.RowKit Go.Proofs.Ytnbkmmhomghlmaa.PArithInjective Go.Proofs.YtnbkmmhomghlmaaW.PrintWords Go.Proofs.YtnbkmmhomghlmaaW.PrintLast

theorem wrap_toNat (v : BitVec 64) : IntKind.i64.wrap (v.toNat : Int) = v.toInt := by
  rw [IntKind.wrap_i64, BitVec.toInt_eq_toNat_cond]
  have := v.isLt
  split <;> omega

theorem xor_back (x y : Int) (h : -9223372036854775808 ≤ x ∧ x ≤ 9223372036854775807) : Go.bits .xor .i64 (Go.bits .xor .i64 x y) y = x := by
  have e : ∀ a b : Int, Go.bits .xor .i64 a b = (BitVec.ofInt 64 a ^^^ BitVec.ofInt 64 b).toInt := fun a b => wrap_toNat _
  rw [e, e, BitVec.ofInt_toInt, BitVec.xor_assoc, BitVec.xor_self, BitVec.xor_zero, BitVec.toInt_ofInt]
  unfold Int.bmod
  simp only [Nat.reducePow]
  split <;> omega

theorem xor_inj (x z y : Int) (hx : -9223372036854775808 ≤ x ∧ x ≤ 9223372036854775807) (hz : -9223372036854775808 ≤ z ∧ z ≤ 9223372036854775807)
    (h : Go.bits .xor .i64 x y = Go.bits .xor .i64 z y) : x = z := by
  rw [← xor_back x y hx, h, xor_back z y hz]

theorem awake1 : backsteplaw01_awake.f 1 = some true := by decide +kernel

theorem same_iff {a b x z : Int} (h : a = b ↔ x = z) : ((a == b) == (x == z)) = true := by
  by_cases e : x = z
  · have := h.2 e
    simp [e, this]
  · have h1 : (a == b) = false := beq_eq_false_iff_ne.mpr fun k => e (h.1 k)
    have h2 : (x == z) = false := beq_eq_false_iff_ne.mpr e
    rw [h1, h2]
    rfl

theorem ArithInjective : backsteplaw01_ArithInjective.Pure := by
  intro a0 a1 a2 a3 w0 w1 w2 w3
  have hx := bounds_i64 w1
  have hz := bounds_i64 w2
  have hy := bounds_i64 w3
  refine ⟨1, ?_⟩
  unfold backsteplaw01_ArithInjective.f
  rw [awake1]
  by_cases h40 : a0 = 40
  · subst h40
    have e : wrap64 (a1 + a3) = wrap64 (a2 + a3) ↔ a1 = a2 := by unfold wrap64; omega
    have := same_iff e
    simpa [arith_Update.f] using this
  · by_cases h41 : a0 = 41
    · subst h41
      have e : wrap64 (a1 - a3) = wrap64 (a2 - a3) ↔ a1 = a2 := by unfold wrap64; omega
      have := same_iff e
      simpa [arith_Update.f] using this
    · by_cases h42 : a0 = 42
      · subst h42
        have e : Go.bits .xor .i64 a1 a3 = Go.bits .xor .i64 a2 a3 ↔ a1 = a2 := ⟨xor_inj a1 a2 a3 hx hz, fun h => by rw [h]⟩
        have := same_iff e
        simpa [arith_Update.f] using this
      · simp [arith_Update.f, h40, h41, h42]

end Go.Proofs.Ytnbkmmhomghlmaa.Pure
