/- ArithOperators: how many binary digits sixteen has. -/
import Derived.Test.YtnbkmmhomghlmaaPArithOperatorsx2
import Derived.Lib.SmallJoins
import Derived.Outline
namespace Go.Proofs.Ytnbkmmhomghlmaa.Ops
open Go.RowKit Go.Proofs.Ytnbkmmhomghlmaa.PArithOperators Go.Proofs.YtnbkmmhomghlmaaW.PrintWords Go.Proofs.YtnbkmmhomghlmaaW.PrintLast

set_option maxHeartbeats 4000000 in
set_option maxRecDepth 100000 in
theorem len64_any (w : World) : Calls Try.prog 46 #[.int .u64 16] w fun e w' => e = .returned (.int .i64 5) ∧ w' = w := by
  go_enter Try.func46, Try.ntmps46
  go_wp2
  go_ret
  exact ⟨by kernel_rfl, rfl⟩
theorem len_any (w : World) : Calls Try.prog 35 #[.int .u64 16] w fun e w' => e = .returned (.int .i64 5) ∧ w' = w := by
  have H := Aside0.mk (len64_any w)
  go_enter Try.func35, Try.ntmps35
  go_wp2_with fail
  refine H.out.mono ?_
  rintro e w' ⟨rfl, rfl⟩
  go_wp2
  go_ret
  exact ⟨rfl, rfl⟩
end Go.Proofs.Ytnbkmmhomghlmaa.Ops
