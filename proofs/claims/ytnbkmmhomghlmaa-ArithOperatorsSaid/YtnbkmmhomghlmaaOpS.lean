/- ArithOperators: slices.Sort at the sixteen bytes in order: it hands nothing back, and only looks. -/
import Derived.Test.YtnbkmmhomghlmaaOpA
import Derived.Test.YtnbkmmhomghlmaaOpL
namespace Go.Proofs.Ytnbkmmhomghlmaa.Ops
open Go.RowKit Go.Proofs.YtnbkmmhomghlmaaW.PrintWords Go.Proofs.YtnbkmmhomghlmaaW.PrintLast

def sixteen : List Int := [8, 9, 10, 11, 12, 13, 14, 15, 16, 17, 18, 19, 20, 21, 22, 23]
theorem sixteen_rd (j : Nat) (hj : j < 16) : rd sixteen (j : Int) = 8 + j := by
  have : ∀ j : Fin 16, rd sixteen ((j.val : Nat) : Int) = 8 + ((j.val : Nat) : Int) := by decide
  exact this ⟨j, hj⟩
theorem asc_of (w : World) (A : Option Addr) (h : Kd.C (Kd.int .u8) w A 16 sixteen) : ∃ ad, A = some ad ∧ Asc w ad := by
  obtain ⟨ad, rfl, _⟩ := Kd.at_int h 0 (by omega) (by decide)
  refine ⟨ad, rfl, fun j hj => ?_⟩
  obtain ⟨ad', e, hc⟩ := Kd.at_int h (j : Int) (by omega) (by omega)
  cases e
  rw [sixteen_rd j hj] at hc
  simpa using hc

set_option maxHeartbeats 2000000 in
theorem sort_any (ad : Addr) (c : Nat) (w : World) (h : Asc w ad) :
    Calls Try.prog 33 #[.slice (some ad) 16 c] w fun e w' => e = .returned (.tuple #[]) ∧ Below w.heap.size w w' := by
  have HL := Aside0.mk (len_any w)
  have HP := Aside0.mk (pdq_any ad c w h)
  clear h
  go_enter Try.func33, Try.ntmps33
  go_wp2_with fail
  refine HL.out.mono ?_
  rintro e w' ⟨rfl, rfl⟩
  go_wp2_with fail
  refine HP.out.mono ?_
  rintro e w' ⟨rfl, hb⟩
  go_wp2
  first | go_end0 | ((try simp only [Exit.inBlock, Exit.then]); refine bodyPost_ret (results_none rfl _ _ _) rfl ?_)
  exact ⟨rfl, hb⟩
end Go.Proofs.Ytnbkmmhomghlmaa.Ops
namespace Go.Proofs.Ytnbkmmhomghlmaa.OpP
open Go.RowKit Go.Proofs.YtnbkmmhomghlmaaW.PrintWords Go.Proofs.YtnbkmmhomghlmaaW.PrintLast
def slices_Sort_byte_byte.f (l0 : List Int) : Option (Unit) := if l0 = Ops.sixteen then some () else none
theorem slices_Sort_byte_byte.calls (A0 : Option Addr) (c0 : Nat) (l0 : List Int) (w : World) (hr0 : Kd.C (Kd.int .u8) w A0 l0.length l0) (_hc0 : l0.length ≤ c0) (h : slices_Sort_byte_byte.f l0 = some ()) :
    Calls Try.prog 33 #[.slice A0 l0.length c0] w fun e w' => e = .returned (.tuple #[]) ∧ Below w.heap.size w w' := by
  by_cases e : l0 = Ops.sixteen
  · subst e
    obtain ⟨ad, rfl, ha⟩ := Ops.asc_of w A0 hr0
    exact Ops.sort_any ad c0 w ha
  · simp [slices_Sort_byte_byte.f, e] at h
end Go.Proofs.Ytnbkmmhomghlmaa.OpP
