/-
  No cell of these rows narrows 'for every input' (looked for: loops, veiled, ifaces, maps, wideKeys, modest, calm, conditions, laid).
  DERIVED. THE GIVEN ROWS OF THIS SEAT. 8 by the template 'for every input the law returns true; each argument reads behind the call as it read before'; 0 by the template 'total and deterministic' (their statements: YtnbkmmhomghlmaaTotals.lean).
  GIVEN WITH THE SEED: the statements are not yours to turn. If you find one false, say at which input.
  Laid BY PROGRAM, IN A SANDBOX (cutbox-rows.mjs): the forced cells as the released guide's own fill.sh prints them over the translation 5affc830531cca39… (all of the seat's roots in one cut). By AI agents, Wed Nov 11 2026. No macro, syntax, notation, axiom, sorry.
-/
import Derived.Test.YtnbkmmhomghlmaaChecked
import GoSem.Claim
import GoSem.ClaimJoined
import GoSem.ClaimMapViews
import Derived.JoinedTies
import Derived.KernelRfl
namespace Go.Proofs.Ytnbkmmhomghlmaa
/- THE CELL 'sum', in the pinned program and in every row, IS THE sha256 OF THE DUMP (.gsa) THAT YtnbkmmhomghlmaaProg.lean LOADS. Nothing in Lean hashes anything: it is a label: what it is worth is what the hold of that sum in a sandbox is worth. -/
noncomputable def Try.pinned : Pinned := { name := "ytnbkmmhomghlmaa", sum := "5affc830531cca39be8eadbf3b5d4b3e0d1e0be2d5aa4061dc966adb09a268bb", checked := Try.checked }
namespace Rows
def none {H : Type} : Left H := { results := [], args := [] }

/-- 'backsteplaw01.ArithApplies': WHATEVER THE INPUT: true; the input reads as it did. -/
def arithAppliesSpec : ChangeSpec := { name := "arithApplies", fn := fun _ => fun
  | [d1, d2, d3] => { results := [.lit (.bool true)], args := [d1, d2, d3] }
  | _ => none }
def arithAppliesRow : OpenClaim := { program := "ytnbkmmhomghlmaa", sum := "5affc830531cca39be8eadbf3b5d4b3e0d1e0be2d5aa4061dc966adb09a268bb", func := "backstep/backsteplaw01.ArithApplies", spec := "arithApplies", apart := false }
def ArithAppliesSaid : Prop := arithAppliesRow.holds Try.pinned (OpenSpec.ofChange arithAppliesSpec)

/-- ITS FALSE NEIGHBOUR: 'it returns false'. Refute it at one input. -/
def arithAppliesWrong : ChangeSpec := { name := "arithApplies", fn := fun _ => fun
  | [d1, d2, d3] => { results := [.lit (.bool false)], args := [d1, d2, d3] }
  | _ => none }
def ArithAppliesWrongFalsely : Prop := arithAppliesRow.holds Try.pinned (OpenSpec.ofChange arithAppliesWrong)

/-- 'backsteplaw01.ArithInjective': WHATEVER THE INPUT: true; the input reads as it did. -/
def arithInjectiveSpec : ChangeSpec := { name := "arithInjective", fn := fun _ => fun
  | [d1, d2, d3, d4] => { results := [.lit (.bool true)], args := [d1, d2, d3, d4] }
  | _ => none }
def arithInjectiveRow : OpenClaim := { program := "ytnbkmmhomghlmaa", sum := "5affc830531cca39be8eadbf3b5d4b3e0d1e0be2d5aa4061dc966adb09a268bb", func := "backstep/backsteplaw01.ArithInjective", spec := "arithInjective", apart := false }
def ArithInjectiveSaid : Prop := arithInjectiveRow.holds Try.pinned (OpenSpec.ofChange arithInjectiveSpec)

/-- ITS FALSE NEIGHBOUR: 'it returns false'. Refute it at one input. -/
def arithInjectiveWrong : ChangeSpec := { name := "arithInjective", fn := fun _ => fun
  | [d1, d2, d3, d4] => { results := [.lit (.bool false)], args := [d1, d2, d3, d4] }
  | _ => none }
def ArithInjectiveWrongFalsely : Prop := arithInjectiveRow.holds Try.pinned (OpenSpec.ofChange arithInjectiveWrong)

/-- 'backsteplaw01.ArithDivides': WHATEVER THE INPUT: true; the input reads as it did. -/
def arithDividesSpec : ChangeSpec := { name := "arithDivides", fn := fun _ => fun
  | [d1, d2] => { results := [.lit (.bool true)], args := [d1, d2] }
  | _ => none }
def arithDividesRow : OpenClaim := { program := "ytnbkmmhomghlmaa", sum := "5affc830531cca39be8eadbf3b5d4b3e0d1e0be2d5aa4061dc966adb09a268bb", func := "backstep/backsteplaw01.ArithDivides", spec := "arithDivides", apart := false }
def ArithDividesSaid : Prop := arithDividesRow.holds Try.pinned (OpenSpec.ofChange arithDividesSpec)

/-- ITS FALSE NEIGHBOUR: 'it returns false'. Refute it at one input. -/
def arithDividesWrong : ChangeSpec := { name := "arithDivides", fn := fun _ => fun
  | [d1, d2] => { results := [.lit (.bool false)], args := [d1, d2] }
  | _ => none }
def ArithDividesWrongFalsely : Prop := arithDividesRow.holds Try.pinned (OpenSpec.ofChange arithDividesWrong)

/-- 'backsteplaw01.ArithCompares': WHATEVER THE INPUT: true; the input reads as it did. -/
def arithComparesSpec : ChangeSpec := { name := "arithCompares", fn := fun _ => fun
  | [d1, d2] => { results := [.lit (.bool true)], args := [d1, d2] }
  | _ => none }
def arithComparesRow : OpenClaim := { program := "ytnbkmmhomghlmaa", sum := "5affc830531cca39be8eadbf3b5d4b3e0d1e0be2d5aa4061dc966adb09a268bb", func := "backstep/backsteplaw01.ArithCompares", spec := "arithCompares", unfollowed := true, recurses := true, apart := false }
def ArithComparesSaid : Prop := arithComparesRow.holds Try.pinned (OpenSpec.ofChange arithComparesSpec)

/-- ITS FALSE NEIGHBOUR: 'it returns false'. Refute it at one input. -/
def arithComparesWrong : ChangeSpec := { name := "arithCompares", fn := fun _ => fun
  | [d1, d2] => { results := [.lit (.bool false)], args := [d1, d2] }
  | _ => none }
def ArithComparesWrongFalsely : Prop := arithComparesRow.holds Try.pinned (OpenSpec.ofChange arithComparesWrong)

/-- 'backsteplaw01.ArithUnary': WHATEVER THE INPUT: true; the input reads as it did. -/
def arithUnarySpec : ChangeSpec := { name := "arithUnary", fn := fun _ => fun
  | [d1, d2, d3] => { results := [.lit (.bool true)], args := [d1, d2, d3] }
  | _ => none }
def arithUnaryRow : OpenClaim := { program := "ytnbkmmhomghlmaa", sum := "5affc830531cca39be8eadbf3b5d4b3e0d1e0be2d5aa4061dc966adb09a268bb", func := "backstep/backsteplaw01.ArithUnary", spec := "arithUnary", apart := false }
def ArithUnarySaid : Prop := arithUnaryRow.holds Try.pinned (OpenSpec.ofChange arithUnarySpec)

/-- ITS FALSE NEIGHBOUR: 'it returns false'. Refute it at one input. -/
def arithUnaryWrong : ChangeSpec := { name := "arithUnary", fn := fun _ => fun
  | [d1, d2, d3] => { results := [.lit (.bool false)], args := [d1, d2, d3] }
  | _ => none }
def ArithUnaryWrongFalsely : Prop := arithUnaryRow.holds Try.pinned (OpenSpec.ofChange arithUnaryWrong)

/-- 'backsteplaw01.ArithInverts': WHATEVER THE INPUT: true; the input reads as it did. -/
def arithInvertsSpec : ChangeSpec := { name := "arithInverts", fn := fun _ => fun
  | [d1, d2, d3] => { results := [.lit (.bool true)], args := [d1, d2, d3] }
  | _ => none }
def arithInvertsRow : OpenClaim := { program := "ytnbkmmhomghlmaa", sum := "5affc830531cca39be8eadbf3b5d4b3e0d1e0be2d5aa4061dc966adb09a268bb", func := "backstep/backsteplaw01.ArithInverts", spec := "arithInverts", apart := false }
def ArithInvertsSaid : Prop := arithInvertsRow.holds Try.pinned (OpenSpec.ofChange arithInvertsSpec)

/-- ITS FALSE NEIGHBOUR: 'it returns false'. Refute it at one input. -/
def arithInvertsWrong : ChangeSpec := { name := "arithInverts", fn := fun _ => fun
  | [d1, d2, d3] => { results := [.lit (.bool false)], args := [d1, d2, d3] }
  | _ => none }
def ArithInvertsWrongFalsely : Prop := arithInvertsRow.holds Try.pinned (OpenSpec.ofChange arithInvertsWrong)

/-- 'backsteplaw01.ArithSymbols': WHATEVER THE INPUT: true; the input reads as it did. -/
def arithSymbolsSpec : ChangeSpec := { name := "arithSymbols", fn := fun _ => fun
  | [d] => { results := [.lit (.bool true)], args := [d] }
  | _ => none }
def arithSymbolsRow : OpenClaim := { program := "ytnbkmmhomghlmaa", sum := "5affc830531cca39be8eadbf3b5d4b3e0d1e0be2d5aa4061dc966adb09a268bb", func := "backstep/backsteplaw01.ArithSymbols", spec := "arithSymbols", apart := false }
def ArithSymbolsSaid : Prop := arithSymbolsRow.holds Try.pinned (OpenSpec.ofChange arithSymbolsSpec)

/-- ITS FALSE NEIGHBOUR: 'it returns false'. Refute it at one input. -/
def arithSymbolsWrong : ChangeSpec := { name := "arithSymbols", fn := fun _ => fun
  | [d] => { results := [.lit (.bool false)], args := [d] }
  | _ => none }
def ArithSymbolsWrongFalsely : Prop := arithSymbolsRow.holds Try.pinned (OpenSpec.ofChange arithSymbolsWrong)

/-- 'backsteplaw01.ArithOperators': WHATEVER THE INPUT: true; the input reads as it did. -/
def arithOperatorsSpec : ChangeSpec := { name := "arithOperators", fn := fun _ => fun
  | [d] => { results := [.lit (.bool true)], args := [d] }
  | _ => none }
def arithOperatorsRow : OpenClaim := { program := "ytnbkmmhomghlmaa", sum := "5affc830531cca39be8eadbf3b5d4b3e0d1e0be2d5aa4061dc966adb09a268bb", func := "backstep/backsteplaw01.ArithOperators", spec := "arithOperators", recurses := true, apart := false }
def ArithOperatorsSaid : Prop := arithOperatorsRow.holds Try.pinned (OpenSpec.ofChange arithOperatorsSpec)

/-- ITS FALSE NEIGHBOUR: 'it returns false'. Refute it at one input. -/
def arithOperatorsWrong : ChangeSpec := { name := "arithOperators", fn := fun _ => fun
  | [d] => { results := [.lit (.bool false)], args := [d] }
  | _ => none }
def ArithOperatorsWrongFalsely : Prop := arithOperatorsRow.holds Try.pinned (OpenSpec.ofChange arithOperatorsWrong)

/- THE SECOND FORM. 'bulk': how many values and letters a reading holds, each counted each time it is reached (what is shared counts as often as it is met; a slice's spare places count too). A statement '..UptoSaid' is the law's where the arguments, and the package variables that the reading takes, are together of bulk at most 1048576: NARROWER than '..Said'. Prove '..Said' where nothing that the law and all that it calls make is longer than what came in: it says more and counts as full. Else prove '..UptoSaid'. A law counts once. -/
mutual
def uptoBulk {H : Type} : DataW H → Nat
  | .lit (.string bytes) => bytes.length + 1
  | .lit _ => 1
  | .nil => 1
  | .ptr d => uptoBulk d + 1
  | .slice elems spare => uptoBulkAll elems + uptoBulkAll spare + 1
  | .agg parts => uptoBulkAll parts + 1
  | .iface _ d => uptoBulk d + 1
  | .map entries => uptoBulkEntries entries + 1
  | .held _ => 1
def uptoBulkAll {H : Type} : List (DataW H) → Nat
  | [] => 0
  | d :: r => uptoBulk d + uptoBulkAll r
def uptoBulkEntries {H : Type} : List (Lit × DataW H) → Nat
  | [] => 0
  | x :: r => uptoBulkEntry x + uptoBulkEntries r
def uptoBulkEntry {H : Type} : Lit × DataW H → Nat
  | (.string bytes, d) => bytes.length + uptoBulk d + 1
  | (_, d) => uptoBulk d + 1
 end
def uptoSmall : (H : Type) → List (DataW H) → Bool := fun _ ds => decide (uptoBulkAll ds ≤ 1048576)
def OpenSpec.upto (s : _root_.Go.ChangeSpec) : _root_.Go.OpenSpec := { _root_.Go.OpenSpec.ofChange s with cond := some uptoSmall }

/-- 'backsteplaw01.ArithApplies', WHERE WHAT IT READS IS OF BULK AT MOST 1048576: true; the input reads as it did. -/
def arithAppliesUptoRow : OpenClaim := { program := "ytnbkmmhomghlmaa", sum := "5affc830531cca39be8eadbf3b5d4b3e0d1e0be2d5aa4061dc966adb09a268bb", func := "backstep/backsteplaw01.ArithApplies", spec := "arithApplies", apart := false, narrowed := true }
def ArithAppliesUptoSaid : Prop := arithAppliesUptoRow.holds Try.pinned (OpenSpec.upto arithAppliesSpec)

/-- 'backsteplaw01.ArithInjective', WHERE WHAT IT READS IS OF BULK AT MOST 1048576: true; the input reads as it did. -/
def arithInjectiveUptoRow : OpenClaim := { program := "ytnbkmmhomghlmaa", sum := "5affc830531cca39be8eadbf3b5d4b3e0d1e0be2d5aa4061dc966adb09a268bb", func := "backstep/backsteplaw01.ArithInjective", spec := "arithInjective", apart := false, narrowed := true }
def ArithInjectiveUptoSaid : Prop := arithInjectiveUptoRow.holds Try.pinned (OpenSpec.upto arithInjectiveSpec)

/-- 'backsteplaw01.ArithDivides', WHERE WHAT IT READS IS OF BULK AT MOST 1048576: true; the input reads as it did. -/
def arithDividesUptoRow : OpenClaim := { program := "ytnbkmmhomghlmaa", sum := "5affc830531cca39be8eadbf3b5d4b3e0d1e0be2d5aa4061dc966adb09a268bb", func := "backstep/backsteplaw01.ArithDivides", spec := "arithDivides", apart := false, narrowed := true }
def ArithDividesUptoSaid : Prop := arithDividesUptoRow.holds Try.pinned (OpenSpec.upto arithDividesSpec)

/-- 'backsteplaw01.ArithCompares', WHERE WHAT IT READS IS OF BULK AT MOST 1048576: true; the input reads as it did. -/
def arithComparesUptoRow : OpenClaim := { program := "ytnbkmmhomghlmaa", sum := "5affc830531cca39be8eadbf3b5d4b3e0d1e0be2d5aa4061dc966adb09a268bb", func := "backstep/backsteplaw01.ArithCompares", spec := "arithCompares", unfollowed := true, recurses := true, apart := false, narrowed := true }
def ArithComparesUptoSaid : Prop := arithComparesUptoRow.holds Try.pinned (OpenSpec.upto arithComparesSpec)

/-- 'backsteplaw01.ArithUnary', WHERE WHAT IT READS IS OF BULK AT MOST 1048576: true; the input reads as it did. -/
def arithUnaryUptoRow : OpenClaim := { program := "ytnbkmmhomghlmaa", sum := "5affc830531cca39be8eadbf3b5d4b3e0d1e0be2d5aa4061dc966adb09a268bb", func := "backstep/backsteplaw01.ArithUnary", spec := "arithUnary", apart := false, narrowed := true }
def ArithUnaryUptoSaid : Prop := arithUnaryUptoRow.holds Try.pinned (OpenSpec.upto arithUnarySpec)

/-- 'backsteplaw01.ArithInverts', WHERE WHAT IT READS IS OF BULK AT MOST 1048576: true; the input reads as it did. -/
def arithInvertsUptoRow : OpenClaim := { program := "ytnbkmmhomghlmaa", sum := "5affc830531cca39be8eadbf3b5d4b3e0d1e0be2d5aa4061dc966adb09a268bb", func := "backstep/backsteplaw01.ArithInverts", spec := "arithInverts", apart := false, narrowed := true }
def ArithInvertsUptoSaid : Prop := arithInvertsUptoRow.holds Try.pinned (OpenSpec.upto arithInvertsSpec)

/-- 'backsteplaw01.ArithSymbols', WHERE WHAT IT READS IS OF BULK AT MOST 1048576: true; the input reads as it did. -/
def arithSymbolsUptoRow : OpenClaim := { program := "ytnbkmmhomghlmaa", sum := "5affc830531cca39be8eadbf3b5d4b3e0d1e0be2d5aa4061dc966adb09a268bb", func := "backstep/backsteplaw01.ArithSymbols", spec := "arithSymbols", apart := false, narrowed := true }
def ArithSymbolsUptoSaid : Prop := arithSymbolsUptoRow.holds Try.pinned (OpenSpec.upto arithSymbolsSpec)

/-- 'backsteplaw01.ArithOperators', WHERE WHAT IT READS IS OF BULK AT MOST 1048576: true; the input reads as it did. -/
def arithOperatorsUptoRow : OpenClaim := { program := "ytnbkmmhomghlmaa", sum := "5affc830531cca39be8eadbf3b5d4b3e0d1e0be2d5aa4061dc966adb09a268bb", func := "backstep/backsteplaw01.ArithOperators", spec := "arithOperators", recurses := true, apart := false, narrowed := true }
def ArithOperatorsUptoSaid : Prop := arithOperatorsUptoRow.holds Try.pinned (OpenSpec.upto arithOperatorsSpec)

end Rows
end Go.Proofs.Ytnbkmmhomghlmaa
