/- The pure statement of ArithSymbols, by trying every byte. -/
import Derived.Test.YtnbkmmhomghlmaaSymB
import Derived.OpenShut
namespace Go.Proofs.Ytnbkmmhomghlmaa.Pure
open Go.RowKit Go.Proofs.Ytnbkmmhomghlmaa.PArithSymbols Go.Proofs.YtnbkmmhomghlmaaW.PrintWords Go.Proofs.YtnbkmmhomghlmaaW.PrintLast

theorem all_bytes : ∀ n : Nat, n < 256 → backsteplaw01_ArithSymbols.f 30 (n : Int) = some true := by
  decide +kernel

theorem ArithSymbols : backsteplaw01_ArithSymbols.Pure := by
  intro a0 w0
  obtain ⟨h0, h1⟩ := bounds_u8 w0
  obtain ⟨n, rfl⟩ := Int.eq_ofNat_of_zero_le h0
  exact ⟨30, all_bytes n (by omega)⟩

end Go.Proofs.Ytnbkmmhomghlmaa.Pure
