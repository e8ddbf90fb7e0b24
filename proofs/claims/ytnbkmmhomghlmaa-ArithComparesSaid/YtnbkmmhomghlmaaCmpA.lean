/- ArithCompares: what the two closures hand back. -/
import Derived.Test.YtnbkmmhomghlmaaPArithUnaryx1
import Derived.Lib.SmallJoins
import Derived.Outline
namespace Go.Proofs.Ytnbkmmhomghlmaa.Cmp
open Go.RowKit Go.Proofs.Ytnbkmmhomghlmaa.PArithUnary Go.Proofs.YtnbkmmhomghlmaaW.PrintWords Go.Proofs.YtnbkmmhomghlmaaW.PrintLast

theorem value_any (op x y r : Int) (w : World) (bx by' : Nat) (hx : w.cell? ⟨bx, 0, none⟩ = some (.int .i64 x)) (hy : w.cell? ⟨by', 0, none⟩ = some (.int .i64 y)) (h : arith_Apply.f 1 op x y = some (r, 0)) :
    Calls Try.prog 15 #[.int .u8 op, .pointer (some ⟨bx, 0, none⟩), .pointer (some ⟨by', 0, none⟩)] w fun e w' => e = .returned (.int .i64 r) ∧ Drawn0 w w' := by
  have HK := Aside0.mk (arith_Apply.calls 1 op x y r 0 w h)
  clear h
  go_enter Try.func15, Try.ntmps15
  go_wp2_with (go_at_call 12; refine HK.out.mono ?_; rintro e w' ⟨rfl, ⟨nd, rfl⟩⟩)
  go_ret
  exact ⟨rfl, _, rfl⟩

theorem not_any (x r : Int) (w : World) (h : arith_Unary.f 7 x = some (r, 0)) :
    Calls Try.prog 16 #[.int .i64 x] w fun e w' => e = .returned (.int .i64 r) ∧ Drawn0 w w' := by
  have HK := Aside0.mk (arith_Unary.calls 7 x r 0 w h)
  clear h
  go_enter Try.func16, Try.ntmps16
  go_wp2_with (go_at_call 17; refine HK.out.mono ?_; rintro e w' ⟨rfl, ⟨nd, rfl⟩⟩)
  go_ret
  exact ⟨rfl, _, rfl⟩
end Go.Proofs.Ytnbkmmhomghlmaa.Cmp
