/- The pure statement of ArithOperators: at each of the 256 bytes it is reckoned. -/
import Derived.Test.YtnbkmmhomghlmaaOpPx3
namespace Go.Proofs.Ytnbkmmhomghlmaa.Pure
open Go.RowKit Go.Proofs.Ytnbkmmhomghlmaa.OpP Go.Proofs.YtnbkmmhomghlmaaW.PrintWords Go.Proofs.YtnbkmmhomghlmaaW.PrintLast

theorem operators_all : ∀ n : Fin 256, backsteplaw01_ArithOperators.f 200 (n.val : Int) = some true := by decide +kernel

theorem ArithOperators : backsteplaw01_ArithOperators.Pure := by
  intro a0 w0
  refine ⟨200, ?_⟩
  have h : 0 ≤ a0 ∧ a0 < 256 := by simp [Lit.wf, IntKind.min, IntKind.max, IntKind.bits, IntKind.signed] at w0; omega
  have := operators_all ⟨a0.toNat, by omega⟩
  simpa [Int.toNat_of_nonneg h.1] using this

end Go.Proofs.Ytnbkmmhomghlmaa.Pure
