/- The facts on types that the reckoning asks. By program. -/
import Derived.Test.YtajknofacjiddaaDoorProg
import Derived.Test.YtajknofacjiddaaDoorAbs18
import Derived.Lib.LaidTab
import Derived.Lib.Space
namespace Go.Proofs.YtajknofacjiddaaDoor.Abs
open Go Go.RowKit
set_option maxRecDepth 100000
set_option linter.unusedSimpArgs false
set_option linter.unusedVariables false
theorem sd_mixed : Tryd.prog.follows .mixedOrders = true := by kernel_rfl
noncomputable def gl0 : Nat → Option (List AV) := fun _ => none
/-- The library's table of white space is as it was laid. -/
def base0 (w : World) : Prop := Go.Lib.TabIs Tryd.prog w "strings.asciiSpace" .u8 Go.Lib.asciiSpaceTab

noncomputable def sd : Seat := ⟨Tryd.prog, gl0, base0, sd_mixed⟩
theorem sdP : sd.P = Tryd.prog := rfl
theorem c3 : Tryd.prog.cellsOf 3 = 1 := by kernel_rfl
theorem i3 : (Tryd.prog.info? 3).isSome = true := by kernel_rfl
theorem rd_3 (v : AV) (cs : List AV) : areadT sd 3 (v :: cs) = some v := by simp [sdP, areadT, Tryd.underlying3, isAggT]
theorem c4 : Tryd.prog.cellsOf 4 = 1 := by kernel_rfl
theorem i4 : (Tryd.prog.info? 4).isSome = true := by kernel_rfl
theorem rd_4 (v : AV) (cs : List AV) : areadT sd 4 (v :: cs) = some v := by simp [sdP, areadT, Tryd.underlying4, isAggT]
theorem c5 : Tryd.prog.cellsOf 5 = 1 := by kernel_rfl
theorem i5 : (Tryd.prog.info? 5).isSome = true := by kernel_rfl
theorem rd_5 (v : AV) (cs : List AV) : areadT sd 5 (v :: cs) = some v := by simp [sdP, areadT, Tryd.underlying5, isAggT]
theorem c9 : Tryd.prog.cellsOf 9 = 1 := by kernel_rfl
theorem i9 : (Tryd.prog.info? 9).isSome = true := by kernel_rfl
theorem rd_9 (v : AV) (cs : List AV) : areadT sd 9 (v :: cs) = some v := by simp [sdP, areadT, Tryd.underlying9, isAggT]
theorem c22 : Tryd.prog.cellsOf 22 = 1 := by kernel_rfl
theorem i22 : (Tryd.prog.info? 22).isSome = true := by kernel_rfl
theorem rd_22 (v : AV) (cs : List AV) : areadT sd 22 (v :: cs) = some v := by simp [sdP, areadT, Tryd.underlying22, isAggT]
theorem c30 : Tryd.prog.cellsOf 30 = 1 := by kernel_rfl
theorem i30 : (Tryd.prog.info? 30).isSome = true := by kernel_rfl
theorem rd_30 (v : AV) (cs : List AV) : areadT sd 30 (v :: cs) = some v := by simp [sdP, areadT, Tryd.underlying30, isAggT]
theorem c32 : Tryd.prog.cellsOf 32 = 4 := by kernel_rfl
theorem i32 : (Tryd.prog.info? 32).isSome = true := by kernel_rfl
theorem rd_32 (v0 v1 v2 v3 : AV) (cs : List AV) : areadT sd 32 (v0 :: v1 :: v2 :: v3 :: cs) = some (.agg [v0, v1, v2, v3]) := by simp [sdP, areadT, Tryd.underlying32, c32, isAggT]
theorem c39 : Tryd.prog.cellsOf 39 = 1 := by kernel_rfl
theorem i39 : (Tryd.prog.info? 39).isSome = true := by kernel_rfl
theorem rd_39 (v : AV) (cs : List AV) : areadT sd 39 (v :: cs) = some v := by simp [sdP, areadT, Tryd.underlying39, isAggT]
theorem c41 : Tryd.prog.cellsOf 41 = 7 := by kernel_rfl
theorem i41 : (Tryd.prog.info? 41).isSome = true := by kernel_rfl
theorem rd_41 (v0 v1 v2 v3 v4 v5 v6 : AV) (cs : List AV) : areadT sd 41 (v0 :: v1 :: v2 :: v3 :: v4 :: v5 :: v6 :: cs) = some (.agg [v0, v1, v2, v3, v4, v5, v6]) := by simp [sdP, areadT, Tryd.underlying41, c41, isAggT]
theorem c43 : Tryd.prog.cellsOf 43 = 1 := by kernel_rfl
theorem i43 : (Tryd.prog.info? 43).isSome = true := by kernel_rfl
theorem rd_43 (v : AV) (cs : List AV) : areadT sd 43 (v :: cs) = some v := by simp [sdP, areadT, Tryd.underlying43, isAggT]
theorem c49 : Tryd.prog.cellsOf 49 = 6 := by kernel_rfl
theorem i49 : (Tryd.prog.info? 49).isSome = true := by kernel_rfl
theorem rd_49 (v0 v1 v2 v3 v4 v5 : AV) (cs : List AV) : areadT sd 49 (v0 :: v1 :: v2 :: v3 :: v4 :: v5 :: cs) = some (.agg [v0, v1, v2, v3, v4, v5]) := by simp [sdP, areadT, Tryd.underlying49, c49, isAggT]
theorem c54 : Tryd.prog.cellsOf 54 = 3 := by kernel_rfl
theorem i54 : (Tryd.prog.info? 54).isSome = true := by kernel_rfl
theorem rd_54 (v0 v1 v2 : AV) (cs : List AV) : areadT sd 54 (v0 :: v1 :: v2 :: cs) = some (.agg [v0, v1, v2]) := by simp [sdP, areadT, Tryd.underlying54, c54, isAggT]
theorem c65 : Tryd.prog.cellsOf 65 = 2 := by kernel_rfl
theorem i65 : (Tryd.prog.info? 65).isSome = true := by kernel_rfl
theorem rd_65 (v0 v1 : AV) (cs : List AV) : areadT sd 65 (v0 :: v1 :: cs) = some (.agg [v0, v1]) := by simp [sdP, areadT, Tryd.underlying65, c65, isAggT]
theorem c67 : Tryd.prog.cellsOf 67 = 1 := by kernel_rfl
theorem i67 : (Tryd.prog.info? 67).isSome = true := by kernel_rfl
theorem rd_67 (v : AV) (cs : List AV) : areadT sd 67 (v :: cs) = some v := by simp [sdP, areadT, Tryd.underlying67, isAggT]
theorem c73 : Tryd.prog.cellsOf 73 = 1 := by kernel_rfl
theorem i73 : (Tryd.prog.info? 73).isSome = true := by kernel_rfl
theorem rd_73 (v : AV) (cs : List AV) : areadT sd 73 (v :: cs) = some v := by simp [sdP, areadT, Tryd.underlying73, isAggT]
theorem c97 : Tryd.prog.cellsOf 97 = 2 := by kernel_rfl
theorem i97 : (Tryd.prog.info? 97).isSome = true := by kernel_rfl
theorem rd_97 (v0 v1 : AV) (cs : List AV) : areadT sd 97 (v0 :: v1 :: cs) = some (.agg [v0, v1]) := by simp [sdP, areadT, Tryd.underlying97, c97, isAggT]
theorem c98 : Tryd.prog.cellsOf 98 = 1 := by kernel_rfl
theorem i98 : (Tryd.prog.info? 98).isSome = true := by kernel_rfl
theorem rd_98 (v : AV) (cs : List AV) : areadT sd 98 (v :: cs) = some v := by simp [sdP, areadT, Tryd.underlying98, isAggT]
theorem c100 : Tryd.prog.cellsOf 100 = 1 := by kernel_rfl
theorem i100 : (Tryd.prog.info? 100).isSome = true := by kernel_rfl
theorem rd_100 (v : AV) (cs : List AV) : areadT sd 100 (v :: cs) = some v := by simp [sdP, areadT, Tryd.underlying100, isAggT]
theorem c101 : Tryd.prog.cellsOf 101 = 1 := by kernel_rfl
theorem i101 : (Tryd.prog.info? 101).isSome = true := by kernel_rfl
theorem rd_101 (v : AV) (cs : List AV) : areadT sd 101 (v :: cs) = some v := by simp [sdP, areadT, Tryd.underlying101, isAggT]
theorem c102 : Tryd.prog.cellsOf 102 = 1 := by kernel_rfl
theorem i102 : (Tryd.prog.info? 102).isSome = true := by kernel_rfl
theorem rd_102 (v : AV) (cs : List AV) : areadT sd 102 (v :: cs) = some v := by simp [sdP, areadT, Tryd.underlying102, isAggT]
theorem c105 : Tryd.prog.cellsOf 105 = 1 := by kernel_rfl
theorem i105 : (Tryd.prog.info? 105).isSome = true := by kernel_rfl
theorem rd_105 (v : AV) (cs : List AV) : areadT sd 105 (v :: cs) = some v := by simp [sdP, areadT, Tryd.underlying105, isAggT]
theorem c110 : Tryd.prog.cellsOf 110 = 3 := by kernel_rfl
theorem i110 : (Tryd.prog.info? 110).isSome = true := by kernel_rfl
theorem rd_110 (v0 v1 v2 : AV) (cs : List AV) : areadT sd 110 (v0 :: v1 :: v2 :: cs) = some (.agg [v0, v1, v2]) := by simp [sdP, areadT, Tryd.underlying110, c110, isAggT]
theorem fa_32_0p (id off : Nat) : afieldAddr sd 32 (.ptr id off) 0 = some (.ptr id (off + 0)) := by simp [sdP, afieldAddr, Tryd.underlying32, c5, Tryd.underlying5]
theorem fa_32_0c (cs : List AV) : afieldAddr sd 32 (.cptr cs) 0 = some (.cptr (cs.drop 0)) := by simp [sdP, afieldAddr, Tryd.underlying32, c5, Tryd.underlying5]
theorem fa_32_1p (id off : Nat) : afieldAddr sd 32 (.ptr id off) 1 = some (.ptr id (off + 1)) := by simp [sdP, afieldAddr, Tryd.underlying32, c3, Tryd.underlying3]
theorem fa_32_1c (cs : List AV) : afieldAddr sd 32 (.cptr cs) 1 = some (.cptr (cs.drop 1)) := by simp [sdP, afieldAddr, Tryd.underlying32, c3, Tryd.underlying3]
theorem fa_32_2p (id off : Nat) : afieldAddr sd 32 (.ptr id off) 2 = some (.ptr id (off + 2)) := by simp [sdP, afieldAddr, Tryd.underlying32, c9, Tryd.underlying9]
theorem fa_32_2c (cs : List AV) : afieldAddr sd 32 (.cptr cs) 2 = some (.cptr (cs.drop 2)) := by simp [sdP, afieldAddr, Tryd.underlying32, c9, Tryd.underlying9]
theorem fa_32_3p (id off : Nat) : afieldAddr sd 32 (.ptr id off) 3 = some (.ptr id (off + 3)) := by simp [sdP, afieldAddr, Tryd.underlying32, c30, Tryd.underlying30]
theorem fa_32_3c (cs : List AV) : afieldAddr sd 32 (.cptr cs) 3 = some (.cptr (cs.drop 3)) := by simp [sdP, afieldAddr, Tryd.underlying32, c30, Tryd.underlying30]
theorem fa_41_0p (id off : Nat) : afieldAddr sd 41 (.ptr id off) 0 = some (.ptr id (off + 0)) := by simp [sdP, afieldAddr, Tryd.underlying41, c9, Tryd.underlying9]
theorem fa_41_0c (cs : List AV) : afieldAddr sd 41 (.cptr cs) 0 = some (.cptr (cs.drop 0)) := by simp [sdP, afieldAddr, Tryd.underlying41, c9, Tryd.underlying9]
theorem fa_41_1p (id off : Nat) : afieldAddr sd 41 (.ptr id off) 1 = some (.ptr id (off + 1)) := by simp [sdP, afieldAddr, Tryd.underlying41, c39, Tryd.underlying39]
theorem fa_41_1c (cs : List AV) : afieldAddr sd 41 (.cptr cs) 1 = some (.cptr (cs.drop 1)) := by simp [sdP, afieldAddr, Tryd.underlying41, c39, Tryd.underlying39]
theorem fa_41_2p (id off : Nat) : afieldAddr sd 41 (.ptr id off) 2 = some (.ptr id (off + 2)) := by simp [sdP, afieldAddr, Tryd.underlying41, c4, Tryd.underlying4]
theorem fa_41_2c (cs : List AV) : afieldAddr sd 41 (.cptr cs) 2 = some (.cptr (cs.drop 2)) := by simp [sdP, afieldAddr, Tryd.underlying41, c4, Tryd.underlying4]
theorem fa_41_3p (id off : Nat) : afieldAddr sd 41 (.ptr id off) 3 = some (.ptr id (off + 3)) := by simp [sdP, afieldAddr, Tryd.underlying41, c32, Tryd.underlying32]
theorem fa_41_3c (cs : List AV) : afieldAddr sd 41 (.cptr cs) 3 = some (.cptr (cs.drop 3)) := by simp [sdP, afieldAddr, Tryd.underlying41, c32, Tryd.underlying32]
theorem fa_49_0p (id off : Nat) : afieldAddr sd 49 (.ptr id off) 0 = some (.ptr id (off + 0)) := by simp [sdP, afieldAddr, Tryd.underlying49, c32, Tryd.underlying32]
theorem fa_49_0c (cs : List AV) : afieldAddr sd 49 (.cptr cs) 0 = some (.cptr (cs.drop 0)) := by simp [sdP, afieldAddr, Tryd.underlying49, c32, Tryd.underlying32]
theorem fa_49_1p (id off : Nat) : afieldAddr sd 49 (.ptr id off) 1 = some (.ptr id (off + 4)) := by simp [sdP, afieldAddr, Tryd.underlying49, c4, Tryd.underlying4]
theorem fa_49_1c (cs : List AV) : afieldAddr sd 49 (.cptr cs) 1 = some (.cptr (cs.drop 4)) := by simp [sdP, afieldAddr, Tryd.underlying49, c4, Tryd.underlying4]
theorem fa_49_2p (id off : Nat) : afieldAddr sd 49 (.ptr id off) 2 = some (.ptr id (off + 5)) := by simp [sdP, afieldAddr, Tryd.underlying49, c4, Tryd.underlying4]
theorem fa_49_2c (cs : List AV) : afieldAddr sd 49 (.cptr cs) 2 = some (.cptr (cs.drop 5)) := by simp [sdP, afieldAddr, Tryd.underlying49, c4, Tryd.underlying4]
theorem fa_54_0p (id off : Nat) : afieldAddr sd 54 (.ptr id off) 0 = some (.ptr id (off + 0)) := by simp [sdP, afieldAddr, Tryd.underlying54, c4, Tryd.underlying4]
theorem fa_54_0c (cs : List AV) : afieldAddr sd 54 (.cptr cs) 0 = some (.cptr (cs.drop 0)) := by simp [sdP, afieldAddr, Tryd.underlying54, c4, Tryd.underlying4]
theorem fa_54_1p (id off : Nat) : afieldAddr sd 54 (.ptr id off) 1 = some (.ptr id (off + 1)) := by simp [sdP, afieldAddr, Tryd.underlying54, c3, Tryd.underlying3]
theorem fa_54_1c (cs : List AV) : afieldAddr sd 54 (.cptr cs) 1 = some (.cptr (cs.drop 1)) := by simp [sdP, afieldAddr, Tryd.underlying54, c3, Tryd.underlying3]
theorem fa_54_2p (id off : Nat) : afieldAddr sd 54 (.ptr id off) 2 = some (.ptr id (off + 2)) := by simp [sdP, afieldAddr, Tryd.underlying54, c43, Tryd.underlying43]
theorem fa_54_2c (cs : List AV) : afieldAddr sd 54 (.cptr cs) 2 = some (.cptr (cs.drop 2)) := by simp [sdP, afieldAddr, Tryd.underlying54, c43, Tryd.underlying43]
theorem fa_65_0p (id off : Nat) : afieldAddr sd 65 (.ptr id off) 0 = some (.ptr id (off + 0)) := by simp [sdP, afieldAddr, Tryd.underlying65, c9, Tryd.underlying9]
theorem fa_65_0c (cs : List AV) : afieldAddr sd 65 (.cptr cs) 0 = some (.cptr (cs.drop 0)) := by simp [sdP, afieldAddr, Tryd.underlying65, c9, Tryd.underlying9]
theorem fa_65_1p (id off : Nat) : afieldAddr sd 65 (.ptr id off) 1 = some (.ptr id (off + 1)) := by simp [sdP, afieldAddr, Tryd.underlying65, c4, Tryd.underlying4]
theorem fa_65_1c (cs : List AV) : afieldAddr sd 65 (.cptr cs) 1 = some (.cptr (cs.drop 1)) := by simp [sdP, afieldAddr, Tryd.underlying65, c4, Tryd.underlying4]
theorem c79 : Tryd.prog.cellsOf 79 = 2 := by kernel_rfl
theorem i79 : (Tryd.prog.info? 79).isSome = true := by kernel_rfl
theorem fa_79_0p (id off : Nat) : afieldAddr sd 79 (.ptr id off) 0 = some (.ptr id (off + 0)) := by simp [sdP, afieldAddr, Tryd.underlying79, c22, Tryd.underlying22]
theorem fa_79_0c (cs : List AV) : afieldAddr sd 79 (.cptr cs) 0 = some (.cptr (cs.drop 0)) := by simp [sdP, afieldAddr, Tryd.underlying79, c22, Tryd.underlying22]
theorem fa_79_1p (id off : Nat) : afieldAddr sd 79 (.ptr id off) 1 = some (.ptr id (off + 1)) := by simp [sdP, afieldAddr, Tryd.underlying79, c73, Tryd.underlying73]
theorem fa_79_1c (cs : List AV) : afieldAddr sd 79 (.cptr cs) 1 = some (.cptr (cs.drop 1)) := by simp [sdP, afieldAddr, Tryd.underlying79, c73, Tryd.underlying73]
theorem fa_97_0p (id off : Nat) : afieldAddr sd 97 (.ptr id off) 0 = some (.ptr id (off + 0)) := by simp [sdP, afieldAddr, Tryd.underlying97, c3, Tryd.underlying3]
theorem fa_97_0c (cs : List AV) : afieldAddr sd 97 (.cptr cs) 0 = some (.cptr (cs.drop 0)) := by simp [sdP, afieldAddr, Tryd.underlying97, c3, Tryd.underlying3]
theorem fa_97_1p (id off : Nat) : afieldAddr sd 97 (.ptr id off) 1 = some (.ptr id (off + 1)) := by simp [sdP, afieldAddr, Tryd.underlying97, c3, Tryd.underlying3]
theorem fa_97_1c (cs : List AV) : afieldAddr sd 97 (.cptr cs) 1 = some (.cptr (cs.drop 1)) := by simp [sdP, afieldAddr, Tryd.underlying97, c3, Tryd.underlying3]
theorem c104 : Tryd.prog.cellsOf 104 = 3 := by kernel_rfl
theorem i104 : (Tryd.prog.info? 104).isSome = true := by kernel_rfl
theorem fa_104_0p (id off : Nat) : afieldAddr sd 104 (.ptr id off) 0 = some (.ptr id (off + 0)) := by simp [sdP, afieldAddr, Tryd.underlying104, c101, Tryd.underlying101]
theorem fa_104_0c (cs : List AV) : afieldAddr sd 104 (.cptr cs) 0 = some (.cptr (cs.drop 0)) := by simp [sdP, afieldAddr, Tryd.underlying104, c101, Tryd.underlying101]
theorem fa_104_1p (id off : Nat) : afieldAddr sd 104 (.ptr id off) 1 = some (.ptr id (off + 1)) := by simp [sdP, afieldAddr, Tryd.underlying104, c102, Tryd.underlying102]
theorem fa_104_1c (cs : List AV) : afieldAddr sd 104 (.cptr cs) 1 = some (.cptr (cs.drop 1)) := by simp [sdP, afieldAddr, Tryd.underlying104, c102, Tryd.underlying102]
theorem fa_104_2p (id off : Nat) : afieldAddr sd 104 (.ptr id off) 2 = some (.ptr id (off + 2)) := by simp [sdP, afieldAddr, Tryd.underlying104, c3, Tryd.underlying3]
theorem fa_104_2c (cs : List AV) : afieldAddr sd 104 (.cptr cs) 2 = some (.cptr (cs.drop 2)) := by simp [sdP, afieldAddr, Tryd.underlying104, c3, Tryd.underlying3]
theorem c107 : Tryd.prog.cellsOf 107 = 3 := by kernel_rfl
theorem i107 : (Tryd.prog.info? 107).isSome = true := by kernel_rfl
theorem fa_107_0p (id off : Nat) : afieldAddr sd 107 (.ptr id off) 0 = some (.ptr id (off + 0)) := by simp [sdP, afieldAddr, Tryd.underlying107, c105, Tryd.underlying105]
theorem fa_107_0c (cs : List AV) : afieldAddr sd 107 (.cptr cs) 0 = some (.cptr (cs.drop 0)) := by simp [sdP, afieldAddr, Tryd.underlying107, c105, Tryd.underlying105]
theorem fa_107_1p (id off : Nat) : afieldAddr sd 107 (.ptr id off) 1 = some (.ptr id (off + 1)) := by simp [sdP, afieldAddr, Tryd.underlying107, c105, Tryd.underlying105]
theorem fa_107_1c (cs : List AV) : afieldAddr sd 107 (.cptr cs) 1 = some (.cptr (cs.drop 1)) := by simp [sdP, afieldAddr, Tryd.underlying107, c105, Tryd.underlying105]
theorem fa_107_2p (id off : Nat) : afieldAddr sd 107 (.ptr id off) 2 = some (.ptr id (off + 2)) := by simp [sdP, afieldAddr, Tryd.underlying107, c105, Tryd.underlying105]
theorem fa_107_2c (cs : List AV) : afieldAddr sd 107 (.cptr cs) 2 = some (.cptr (cs.drop 2)) := by simp [sdP, afieldAddr, Tryd.underlying107, c105, Tryd.underlying105]
theorem fa_110_0p (id off : Nat) : afieldAddr sd 110 (.ptr id off) 0 = some (.ptr id (off + 0)) := by simp [sdP, afieldAddr, Tryd.underlying110, c98, Tryd.underlying98]
theorem fa_110_0c (cs : List AV) : afieldAddr sd 110 (.cptr cs) 0 = some (.cptr (cs.drop 0)) := by simp [sdP, afieldAddr, Tryd.underlying110, c98, Tryd.underlying98]
theorem fa_110_1p (id off : Nat) : afieldAddr sd 110 (.ptr id off) 1 = some (.ptr id (off + 1)) := by simp [sdP, afieldAddr, Tryd.underlying110, c98, Tryd.underlying98]
theorem fa_110_1c (cs : List AV) : afieldAddr sd 110 (.cptr cs) 1 = some (.cptr (cs.drop 1)) := by simp [sdP, afieldAddr, Tryd.underlying110, c98, Tryd.underlying98]
theorem fa_110_2p (id off : Nat) : afieldAddr sd 110 (.ptr id off) 2 = some (.ptr id (off + 2)) := by simp [sdP, afieldAddr, Tryd.underlying110, c98, Tryd.underlying98]
theorem fa_110_2c (cs : List AV) : afieldAddr sd 110 (.cptr cs) 2 = some (.cptr (cs.drop 2)) := by simp [sdP, afieldAddr, Tryd.underlying110, c98, Tryd.underlying98]
theorem ia_22 (els : List (List AV)) (tok : Tok) (k : IntKind) (i : Int) : aindexAddr sd 22 (.slice 7 els tok) (.int k i) = if 0 ≤ i ∧ i < els.length then some (.cptr (els.getD i.toNat [])) else none := by simp [sdP, aindexAddr, Tryd.underlying22, Tryd.underlying41, c41]
theorem ia_22k (els : List (List AV)) (k : IntKind) (i : Int) : aindexAddr sd 22 (kslice 7 els) (.int k i) = if 0 ≤ i ∧ i < els.length then some (.cptr (els.getD i.toNat [])) else none := by
  cases els with
  | nil =>
    have : ¬ (0 ≤ i ∧ i < 0) := by omega
    simp [sdP, kslice, sdP, aindexAddr, Tryd.underlying22, Tryd.underlying41, c41, this]
  | cons e es => exact ia_22 (e :: es) .unk k i
theorem ia_22r (id off len cap : Nat) (k : IntKind) (i : Int) : aindexAddr sd 22 (.row id off len cap 7) (.int k i) = if 0 ≤ i ∧ i < len then some (.ptr id (off + i.toNat * 7)) else none := by simp [sdP, aindexAddr, Tryd.underlying22, Tryd.underlying41, c41]
theorem ia_30 (els : List (List AV)) (tok : Tok) (k : IntKind) (i : Int) : aindexAddr sd 30 (.slice 4 els tok) (.int k i) = if 0 ≤ i ∧ i < els.length then some (.cptr (els.getD i.toNat [])) else none := by simp [sdP, aindexAddr, Tryd.underlying30, Tryd.underlying32, c32]
theorem ia_30k (els : List (List AV)) (k : IntKind) (i : Int) : aindexAddr sd 30 (kslice 4 els) (.int k i) = if 0 ≤ i ∧ i < els.length then some (.cptr (els.getD i.toNat [])) else none := by
  cases els with
  | nil =>
    have : ¬ (0 ≤ i ∧ i < 0) := by omega
    simp [sdP, kslice, sdP, aindexAddr, Tryd.underlying30, Tryd.underlying32, c32, this]
  | cons e es => exact ia_30 (e :: es) .unk k i
theorem ia_30r (id off len cap : Nat) (k : IntKind) (i : Int) : aindexAddr sd 30 (.row id off len cap 4) (.int k i) = if 0 ≤ i ∧ i < len then some (.ptr id (off + i.toNat * 4)) else none := by simp [sdP, aindexAddr, Tryd.underlying30, Tryd.underlying32, c32]
theorem ia_39 (els : List (List AV)) (tok : Tok) (k : IntKind) (i : Int) : aindexAddr sd 39 (.slice 2 els tok) (.int k i) = if 0 ≤ i ∧ i < els.length then some (.cptr (els.getD i.toNat [])) else none := by simp [sdP, aindexAddr, Tryd.underlying39, Tryd.underlying65, c65]
theorem ia_39k (els : List (List AV)) (k : IntKind) (i : Int) : aindexAddr sd 39 (kslice 2 els) (.int k i) = if 0 ≤ i ∧ i < els.length then some (.cptr (els.getD i.toNat [])) else none := by
  cases els with
  | nil =>
    have : ¬ (0 ≤ i ∧ i < 0) := by omega
    simp [sdP, kslice, sdP, aindexAddr, Tryd.underlying39, Tryd.underlying65, c65, this]
  | cons e es => exact ia_39 (e :: es) .unk k i
theorem ia_39r (id off len cap : Nat) (k : IntKind) (i : Int) : aindexAddr sd 39 (.row id off len cap 2) (.int k i) = if 0 ≤ i ∧ i < len then some (.ptr id (off + i.toNat * 2)) else none := by simp [sdP, aindexAddr, Tryd.underlying39, Tryd.underlying65, c65]
theorem ia_43 (els : List (List AV)) (tok : Tok) (k : IntKind) (i : Int) : aindexAddr sd 43 (.slice 1 els tok) (.int k i) = if 0 ≤ i ∧ i < els.length then some (.cptr (els.getD i.toNat [])) else none := by simp [sdP, aindexAddr, Tryd.underlying43, Tryd.underlying3, c3]
theorem ia_43k (els : List (List AV)) (k : IntKind) (i : Int) : aindexAddr sd 43 (kslice 1 els) (.int k i) = if 0 ≤ i ∧ i < els.length then some (.cptr (els.getD i.toNat [])) else none := by
  cases els with
  | nil =>
    have : ¬ (0 ≤ i ∧ i < 0) := by omega
    simp [sdP, kslice, sdP, aindexAddr, Tryd.underlying43, Tryd.underlying3, c3, this]
  | cons e es => exact ia_43 (e :: es) .unk k i
theorem ia_43r (id off len cap : Nat) (k : IntKind) (i : Int) : aindexAddr sd 43 (.row id off len cap 1) (.int k i) = if 0 ≤ i ∧ i < len then some (.ptr id (off + i.toNat * 1)) else none := by simp [sdP, aindexAddr, Tryd.underlying43, Tryd.underlying3, c3]
theorem c50 : Tryd.prog.cellsOf 50 = 1 := by kernel_rfl
theorem i50 : (Tryd.prog.info? 50).isSome = true := by kernel_rfl
theorem ia_50 (els : List (List AV)) (tok : Tok) (k : IntKind) (i : Int) : aindexAddr sd 50 (.slice 6 els tok) (.int k i) = if 0 ≤ i ∧ i < els.length then some (.cptr (els.getD i.toNat [])) else none := by simp [sdP, aindexAddr, Tryd.underlying50, Tryd.underlying49, c49]
theorem ia_50k (els : List (List AV)) (k : IntKind) (i : Int) : aindexAddr sd 50 (kslice 6 els) (.int k i) = if 0 ≤ i ∧ i < els.length then some (.cptr (els.getD i.toNat [])) else none := by
  cases els with
  | nil =>
    have : ¬ (0 ≤ i ∧ i < 0) := by omega
    simp [sdP, kslice, sdP, aindexAddr, Tryd.underlying50, Tryd.underlying49, c49, this]
  | cons e es => exact ia_50 (e :: es) .unk k i
theorem ia_50r (id off len cap : Nat) (k : IntKind) (i : Int) : aindexAddr sd 50 (.row id off len cap 6) (.int k i) = if 0 ≤ i ∧ i < len then some (.ptr id (off + i.toNat * 6)) else none := by simp [sdP, aindexAddr, Tryd.underlying50, Tryd.underlying49, c49]
theorem c63 : Tryd.prog.cellsOf 63 = 1 := by kernel_rfl
theorem i63 : (Tryd.prog.info? 63).isSome = true := by kernel_rfl
theorem ia_63 (els : List (List AV)) (tok : Tok) (k : IntKind) (i : Int) : aindexAddr sd 63 (.slice 1 els tok) (.int k i) = if 0 ≤ i ∧ i < els.length then some (.cptr (els.getD i.toNat [])) else none := by simp [sdP, aindexAddr, Tryd.underlying63, Tryd.underlying4, c4]
theorem ia_63k (els : List (List AV)) (k : IntKind) (i : Int) : aindexAddr sd 63 (kslice 1 els) (.int k i) = if 0 ≤ i ∧ i < els.length then some (.cptr (els.getD i.toNat [])) else none := by
  cases els with
  | nil =>
    have : ¬ (0 ≤ i ∧ i < 0) := by omega
    simp [sdP, kslice, sdP, aindexAddr, Tryd.underlying63, Tryd.underlying4, c4, this]
  | cons e es => exact ia_63 (e :: es) .unk k i
theorem ia_63r (id off len cap : Nat) (k : IntKind) (i : Int) : aindexAddr sd 63 (.row id off len cap 1) (.int k i) = if 0 ≤ i ∧ i < len then some (.ptr id (off + i.toNat * 1)) else none := by simp [sdP, aindexAddr, Tryd.underlying63, Tryd.underlying4, c4]
theorem c70 : Tryd.prog.cellsOf 70 = 1 := by kernel_rfl
theorem i70 : (Tryd.prog.info? 70).isSome = true := by kernel_rfl
theorem ia_70 (els : List (List AV)) (tok : Tok) (k : IntKind) (i : Int) : aindexAddr sd 70 (.slice 1 els tok) (.int k i) = if 0 ≤ i ∧ i < els.length then some (.cptr (els.getD i.toNat [])) else none := by simp [sdP, aindexAddr, Tryd.underlying70, Tryd.underlying9, c9]
theorem ia_70k (els : List (List AV)) (k : IntKind) (i : Int) : aindexAddr sd 70 (kslice 1 els) (.int k i) = if 0 ≤ i ∧ i < els.length then some (.cptr (els.getD i.toNat [])) else none := by
  cases els with
  | nil =>
    have : ¬ (0 ≤ i ∧ i < 0) := by omega
    simp [sdP, kslice, sdP, aindexAddr, Tryd.underlying70, Tryd.underlying9, c9, this]
  | cons e es => exact ia_70 (e :: es) .unk k i
theorem ia_70r (id off len cap : Nat) (k : IntKind) (i : Int) : aindexAddr sd 70 (.row id off len cap 1) (.int k i) = if 0 ≤ i ∧ i < len then some (.ptr id (off + i.toNat * 1)) else none := by simp [sdP, aindexAddr, Tryd.underlying70, Tryd.underlying9, c9]
theorem c82 : Tryd.prog.cellsOf 82 = 1 := by kernel_rfl
theorem i82 : (Tryd.prog.info? 82).isSome = true := by kernel_rfl
theorem ia_82 (els : List (List AV)) (tok : Tok) (k : IntKind) (i : Int) : aindexAddr sd 82 (.slice 1 els tok) (.int k i) = if 0 ≤ i ∧ i < els.length then some (.cptr (els.getD i.toNat [])) else none := by simp [sdP, aindexAddr, Tryd.underlying82, Tryd.underlying5, c5]
theorem ia_82k (els : List (List AV)) (k : IntKind) (i : Int) : aindexAddr sd 82 (kslice 1 els) (.int k i) = if 0 ≤ i ∧ i < els.length then some (.cptr (els.getD i.toNat [])) else none := by
  cases els with
  | nil =>
    have : ¬ (0 ≤ i ∧ i < 0) := by omega
    simp [sdP, kslice, sdP, aindexAddr, Tryd.underlying82, Tryd.underlying5, c5, this]
  | cons e es => exact ia_82 (e :: es) .unk k i
theorem ia_82r (id off len cap : Nat) (k : IntKind) (i : Int) : aindexAddr sd 82 (.row id off len cap 1) (.int k i) = if 0 ≤ i ∧ i < len then some (.ptr id (off + i.toNat * 1)) else none := by simp [sdP, aindexAddr, Tryd.underlying82, Tryd.underlying5, c5]
theorem c90 : Tryd.prog.cellsOf 90 = 3 := by kernel_rfl
theorem i90 : (Tryd.prog.info? 90).isSome = true := by kernel_rfl
theorem ia_90p (id off : Nat) (k : IntKind) (i : Int) : aindexAddr sd 90 (.ptr id off) (.int k i) = if 0 ≤ i ∧ i < (3 : Nat) then some (.ptr id (off + i.toNat * 1)) else none := by simp [sdP, aindexAddr, Tryd.underlying90, Tryd.underlying4, c4]
theorem ia_90c (cs : List AV) (k : IntKind) (i : Int) : aindexAddr sd 90 (.cptr cs) (.int k i) = if 0 ≤ i ∧ i < (3 : Nat) then some (.cptr (cs.drop (i.toNat * 1))) else none := by simp [sdP, aindexAddr, Tryd.underlying90, Tryd.underlying4, c4]
theorem c92 : Tryd.prog.cellsOf 92 = 256 := by kernel_rfl
theorem i92 : (Tryd.prog.info? 92).isSome = true := by kernel_rfl
theorem ia_92p (id off : Nat) (k : IntKind) (i : Int) : aindexAddr sd 92 (.ptr id off) (.int k i) = if 0 ≤ i ∧ i < (256 : Nat) then some (.ptr id (off + i.toNat * 1)) else none := by simp [sdP, aindexAddr, Tryd.underlying92, Tryd.underlying5, c5]
theorem ia_92c (cs : List AV) (k : IntKind) (i : Int) : aindexAddr sd 92 (.cptr cs) (.int k i) = if 0 ≤ i ∧ i < (256 : Nat) then some (.cptr (cs.drop (i.toNat * 1))) else none := by simp [sdP, aindexAddr, Tryd.underlying92, Tryd.underlying5, c5]
theorem c95 : Tryd.prog.cellsOf 95 = 1 := by kernel_rfl
theorem i95 : (Tryd.prog.info? 95).isSome = true := by kernel_rfl
theorem ia_95 (els : List (List AV)) (tok : Tok) (k : IntKind) (i : Int) : aindexAddr sd 95 (.slice 2 els tok) (.int k i) = if 0 ≤ i ∧ i < els.length then some (.cptr (els.getD i.toNat [])) else none := by simp [sdP, aindexAddr, Tryd.underlying95, Tryd.underlying97, c97]
theorem ia_95k (els : List (List AV)) (k : IntKind) (i : Int) : aindexAddr sd 95 (kslice 2 els) (.int k i) = if 0 ≤ i ∧ i < els.length then some (.cptr (els.getD i.toNat [])) else none := by
  cases els with
  | nil =>
    have : ¬ (0 ≤ i ∧ i < 0) := by omega
    simp [sdP, kslice, sdP, aindexAddr, Tryd.underlying95, Tryd.underlying97, c97, this]
  | cons e es => exact ia_95 (e :: es) .unk k i
theorem ia_95r (id off len cap : Nat) (k : IntKind) (i : Int) : aindexAddr sd 95 (.row id off len cap 2) (.int k i) = if 0 ≤ i ∧ i < len then some (.ptr id (off + i.toNat * 2)) else none := by simp [sdP, aindexAddr, Tryd.underlying95, Tryd.underlying97, c97]
theorem ia_101 (els : List (List AV)) (tok : Tok) (k : IntKind) (i : Int) : aindexAddr sd 101 (.slice 3 els tok) (.int k i) = if 0 ≤ i ∧ i < els.length then some (.cptr (els.getD i.toNat [])) else none := by simp [sdP, aindexAddr, Tryd.underlying101, Tryd.underlying107, c107]
theorem ia_101k (els : List (List AV)) (k : IntKind) (i : Int) : aindexAddr sd 101 (kslice 3 els) (.int k i) = if 0 ≤ i ∧ i < els.length then some (.cptr (els.getD i.toNat [])) else none := by
  cases els with
  | nil =>
    have : ¬ (0 ≤ i ∧ i < 0) := by omega
    simp [sdP, kslice, sdP, aindexAddr, Tryd.underlying101, Tryd.underlying107, c107, this]
  | cons e es => exact ia_101 (e :: es) .unk k i
theorem ia_101r (id off len cap : Nat) (k : IntKind) (i : Int) : aindexAddr sd 101 (.row id off len cap 3) (.int k i) = if 0 ≤ i ∧ i < len then some (.ptr id (off + i.toNat * 3)) else none := by simp [sdP, aindexAddr, Tryd.underlying101, Tryd.underlying107, c107]
theorem ia_102 (els : List (List AV)) (tok : Tok) (k : IntKind) (i : Int) : aindexAddr sd 102 (.slice 3 els tok) (.int k i) = if 0 ≤ i ∧ i < els.length then some (.cptr (els.getD i.toNat [])) else none := by simp [sdP, aindexAddr, Tryd.underlying102, Tryd.underlying110, c110]
theorem ia_102k (els : List (List AV)) (k : IntKind) (i : Int) : aindexAddr sd 102 (kslice 3 els) (.int k i) = if 0 ≤ i ∧ i < els.length then some (.cptr (els.getD i.toNat [])) else none := by
  cases els with
  | nil =>
    have : ¬ (0 ≤ i ∧ i < 0) := by omega
    simp [sdP, kslice, sdP, aindexAddr, Tryd.underlying102, Tryd.underlying110, c110, this]
  | cons e es => exact ia_102 (e :: es) .unk k i
theorem ia_102r (id off len cap : Nat) (k : IntKind) (i : Int) : aindexAddr sd 102 (.row id off len cap 3) (.int k i) = if 0 ≤ i ∧ i < len then some (.ptr id (off + i.toNat * 3)) else none := by simp [sdP, aindexAddr, Tryd.underlying102, Tryd.underlying110, c110]
theorem ix_9 (s : ByteArray) (k : IntKind) (i : Int) : aindex sd 9 (.str s) (.int k i) = if 0 ≤ i ∧ i < s.size then some (.int .u8 ((s.data.toList.getD i.toNat 0).toNat)) else none := by simp [sdP, aindex, Tryd.underlying9]
theorem z4 : azero sd 4 = some (.bool false) := by kernel_rfl
theorem b4 : Tryd.prog.bytesOf 4 = 1 := by kernel_rfl
theorem lk_73 (id : Nat) (s : ByteArray) (ok : Bool) (h : AHeap) : alookup sd 73 (.map id) (.str s) ok h = lookM (h.get id) (.str s) ok (.bool false) := alookup_map Tryd.underlying73 z4 id _ (by simp [sdP, keyOk, Tryd.underlying9]) ok h
theorem mu_73 (id : Nat) (s : ByteArray) (x : AV) (h : AHeap) : amapUpdate sd 73 (.map id) (.str s) x h = putM (h.get id) id (.str s) x h := amapUpdate_map Tryd.underlying73 id _ x (by simp [sdP, keyOk, Tryd.underlying9]) h
theorem dl_73 (id : Nat) (s : ByteArray) (h : AHeap) : adelete sd (some 73) (.map id) (.str s) h = delM (h.get id) id (.str s) h := adelete_map Tryd.underlying73 id _ (by simp [sdP, keyOk, Tryd.underlying9]) h
theorem c75 : Tryd.prog.cellsOf 75 = 1 := by kernel_rfl
theorem i75 : (Tryd.prog.info? 75).isSome = true := by kernel_rfl
theorem z3 : azero sd 3 = some (.int .i64 0) := by kernel_rfl
theorem b3 : Tryd.prog.bytesOf 3 = 8 := by kernel_rfl
theorem lk_75 (id : Nat) (q : Int) (ok : Bool) (h : AHeap) : alookup sd 75 (.map id) (.int .u8 q) ok h = lookM (h.get id) (.int .u8 q) ok (.int .i64 0) := alookup_map Tryd.underlying75 z3 id _ (by simp [sdP, keyOk, Tryd.underlying5]) ok h
theorem mu_75 (id : Nat) (q : Int) (x : AV) (h : AHeap) : amapUpdate sd 75 (.map id) (.int .u8 q) x h = putM (h.get id) id (.int .u8 q) x h := amapUpdate_map Tryd.underlying75 id _ x (by simp [sdP, keyOk, Tryd.underlying5]) h
theorem ln_9 (s : ByteArray) (h : AHeap) : abuiltin sd .len ⟨[9]⟩ [.str s] h = some (.int .i64 s.size) := by simp [sdP, abuiltin, alen, Tryd.underlying9]
theorem ln_22 (sz : Nat) (els : List (List AV)) (tok : Tok) (h : AHeap) : abuiltin sd .len ⟨[22]⟩ [.slice sz els tok] h = some (.int .i64 els.length) := by simp [sdP, abuiltin, alen, Tryd.underlying22]
theorem ln_22k (sz : Nat) (els : List (List AV)) (h : AHeap) : abuiltin sd .len ⟨[22]⟩ [kslice sz els] h = some (.int .i64 els.length) := by cases els <;> exact ln_22 _ _ _ h
theorem ln_22r (id off len cap sz : Nat) (h : AHeap) : abuiltin sd .len ⟨[22]⟩ [.row id off len cap sz] h = some (.int .i64 len) := by simp [sdP, abuiltin, alen, Tryd.underlying22]
theorem ln_30 (sz : Nat) (els : List (List AV)) (tok : Tok) (h : AHeap) : abuiltin sd .len ⟨[30]⟩ [.slice sz els tok] h = some (.int .i64 els.length) := by simp [sdP, abuiltin, alen, Tryd.underlying30]
theorem ln_30k (sz : Nat) (els : List (List AV)) (h : AHeap) : abuiltin sd .len ⟨[30]⟩ [kslice sz els] h = some (.int .i64 els.length) := by cases els <;> exact ln_30 _ _ _ h
theorem ln_30r (id off len cap sz : Nat) (h : AHeap) : abuiltin sd .len ⟨[30]⟩ [.row id off len cap sz] h = some (.int .i64 len) := by simp [sdP, abuiltin, alen, Tryd.underlying30]
theorem ln_39 (sz : Nat) (els : List (List AV)) (tok : Tok) (h : AHeap) : abuiltin sd .len ⟨[39]⟩ [.slice sz els tok] h = some (.int .i64 els.length) := by simp [sdP, abuiltin, alen, Tryd.underlying39]
theorem ln_39k (sz : Nat) (els : List (List AV)) (h : AHeap) : abuiltin sd .len ⟨[39]⟩ [kslice sz els] h = some (.int .i64 els.length) := by cases els <;> exact ln_39 _ _ _ h
theorem ln_39r (id off len cap sz : Nat) (h : AHeap) : abuiltin sd .len ⟨[39]⟩ [.row id off len cap sz] h = some (.int .i64 len) := by simp [sdP, abuiltin, alen, Tryd.underlying39]
theorem ln_43 (sz : Nat) (els : List (List AV)) (tok : Tok) (h : AHeap) : abuiltin sd .len ⟨[43]⟩ [.slice sz els tok] h = some (.int .i64 els.length) := by simp [sdP, abuiltin, alen, Tryd.underlying43]
theorem ln_43k (sz : Nat) (els : List (List AV)) (h : AHeap) : abuiltin sd .len ⟨[43]⟩ [kslice sz els] h = some (.int .i64 els.length) := by cases els <;> exact ln_43 _ _ _ h
theorem ln_43r (id off len cap sz : Nat) (h : AHeap) : abuiltin sd .len ⟨[43]⟩ [.row id off len cap sz] h = some (.int .i64 len) := by simp [sdP, abuiltin, alen, Tryd.underlying43]
theorem ln_50 (sz : Nat) (els : List (List AV)) (tok : Tok) (h : AHeap) : abuiltin sd .len ⟨[50]⟩ [.slice sz els tok] h = some (.int .i64 els.length) := by simp [sdP, abuiltin, alen, Tryd.underlying50]
theorem ln_50k (sz : Nat) (els : List (List AV)) (h : AHeap) : abuiltin sd .len ⟨[50]⟩ [kslice sz els] h = some (.int .i64 els.length) := by cases els <;> exact ln_50 _ _ _ h
theorem ln_50r (id off len cap sz : Nat) (h : AHeap) : abuiltin sd .len ⟨[50]⟩ [.row id off len cap sz] h = some (.int .i64 len) := by simp [sdP, abuiltin, alen, Tryd.underlying50]
theorem ln_63 (sz : Nat) (els : List (List AV)) (tok : Tok) (h : AHeap) : abuiltin sd .len ⟨[63]⟩ [.slice sz els tok] h = some (.int .i64 els.length) := by simp [sdP, abuiltin, alen, Tryd.underlying63]
theorem ln_63k (sz : Nat) (els : List (List AV)) (h : AHeap) : abuiltin sd .len ⟨[63]⟩ [kslice sz els] h = some (.int .i64 els.length) := by cases els <;> exact ln_63 _ _ _ h
theorem ln_63r (id off len cap sz : Nat) (h : AHeap) : abuiltin sd .len ⟨[63]⟩ [.row id off len cap sz] h = some (.int .i64 len) := by simp [sdP, abuiltin, alen, Tryd.underlying63]
theorem ln_70 (sz : Nat) (els : List (List AV)) (tok : Tok) (h : AHeap) : abuiltin sd .len ⟨[70]⟩ [.slice sz els tok] h = some (.int .i64 els.length) := by simp [sdP, abuiltin, alen, Tryd.underlying70]
theorem ln_70k (sz : Nat) (els : List (List AV)) (h : AHeap) : abuiltin sd .len ⟨[70]⟩ [kslice sz els] h = some (.int .i64 els.length) := by cases els <;> exact ln_70 _ _ _ h
theorem ln_70r (id off len cap sz : Nat) (h : AHeap) : abuiltin sd .len ⟨[70]⟩ [.row id off len cap sz] h = some (.int .i64 len) := by simp [sdP, abuiltin, alen, Tryd.underlying70]
theorem ln_82 (sz : Nat) (els : List (List AV)) (tok : Tok) (h : AHeap) : abuiltin sd .len ⟨[82]⟩ [.slice sz els tok] h = some (.int .i64 els.length) := by simp [sdP, abuiltin, alen, Tryd.underlying82]
theorem ln_82k (sz : Nat) (els : List (List AV)) (h : AHeap) : abuiltin sd .len ⟨[82]⟩ [kslice sz els] h = some (.int .i64 els.length) := by cases els <;> exact ln_82 _ _ _ h
theorem ln_82r (id off len cap sz : Nat) (h : AHeap) : abuiltin sd .len ⟨[82]⟩ [.row id off len cap sz] h = some (.int .i64 len) := by simp [sdP, abuiltin, alen, Tryd.underlying82]
theorem ln_95 (sz : Nat) (els : List (List AV)) (tok : Tok) (h : AHeap) : abuiltin sd .len ⟨[95]⟩ [.slice sz els tok] h = some (.int .i64 els.length) := by simp [sdP, abuiltin, alen, Tryd.underlying95]
theorem ln_95k (sz : Nat) (els : List (List AV)) (h : AHeap) : abuiltin sd .len ⟨[95]⟩ [kslice sz els] h = some (.int .i64 els.length) := by cases els <;> exact ln_95 _ _ _ h
theorem ln_95r (id off len cap sz : Nat) (h : AHeap) : abuiltin sd .len ⟨[95]⟩ [.row id off len cap sz] h = some (.int .i64 len) := by simp [sdP, abuiltin, alen, Tryd.underlying95]
theorem ln_101 (sz : Nat) (els : List (List AV)) (tok : Tok) (h : AHeap) : abuiltin sd .len ⟨[101]⟩ [.slice sz els tok] h = some (.int .i64 els.length) := by simp [sdP, abuiltin, alen, Tryd.underlying101]
theorem ln_101k (sz : Nat) (els : List (List AV)) (h : AHeap) : abuiltin sd .len ⟨[101]⟩ [kslice sz els] h = some (.int .i64 els.length) := by cases els <;> exact ln_101 _ _ _ h
theorem ln_101r (id off len cap sz : Nat) (h : AHeap) : abuiltin sd .len ⟨[101]⟩ [.row id off len cap sz] h = some (.int .i64 len) := by simp [sdP, abuiltin, alen, Tryd.underlying101]
theorem ln_102 (sz : Nat) (els : List (List AV)) (tok : Tok) (h : AHeap) : abuiltin sd .len ⟨[102]⟩ [.slice sz els tok] h = some (.int .i64 els.length) := by simp [sdP, abuiltin, alen, Tryd.underlying102]
theorem ln_102k (sz : Nat) (els : List (List AV)) (h : AHeap) : abuiltin sd .len ⟨[102]⟩ [kslice sz els] h = some (.int .i64 els.length) := by cases els <;> exact ln_102 _ _ _ h
theorem ln_102r (id off len cap sz : Nat) (h : AHeap) : abuiltin sd .len ⟨[102]⟩ [.row id off len cap sz] h = some (.int .i64 len) := by simp [sdP, abuiltin, alen, Tryd.underlying102]
theorem z32 : azero sd 32 = some (.agg [.int .u8 0, .int .i64 0, .str .empty, .slice 0 [] .fixed]) := by kernel_rfl
theorem b32 : Tryd.prog.bytesOf 32 = 56 := by kernel_rfl
theorem bd_32 (ps : List (Nat × AV)) : abuild sd 32 ps = (afill (plOf [(0, 1), (1, 1), (2, 1), (3, 1)]) [.int .u8 0, .int .i64 0, .str .empty, .slice 0 [] .fixed] ps).map .agg := by
  have hp : aplaces sd (match sd.P.underlying 32 with | some (.struct fs) => fs | _ => #[]) = plOf [(0, 1), (1, 1), (2, 1), (3, 1)] := by
    funext q
    rw [sdP, Tryd.underlying32]
    simp only [aplaces, plOf, List.getElem?_toArray]
    match q with
    | 0 => simp [sdP, c5]
    | 1 => simp [sdP, c3]
    | 2 => simp [sdP, c9]
    | 3 => simp [sdP, c30]
    | n + 4 => rfl
  have hk : fieldsKnown sd (match sd.P.underlying 32 with | some (.struct fs) => fs | _ => #[]) = true := by rw [sdP, Tryd.underlying32]; simp [sdP, fieldsKnown, i3, i5, i9, i30]
  rw [sdP, Tryd.underlying32] at hp hk
  simp only at hp hk
  simp only [sdP, abuild, z32, Tryd.underlying32, hk, hp, if_true]
theorem z41 : azero sd 41 = some (.agg [.str .empty, .slice 0 [] .fixed, .bool false, .int .u8 0, .int .i64 0, .str .empty, .slice 0 [] .fixed]) := by kernel_rfl
theorem b41 : Tryd.prog.bytesOf 41 = 104 := by kernel_rfl
theorem bd_41 (ps : List (Nat × AV)) : abuild sd 41 ps = (afill (plOf [(0, 1), (1, 1), (2, 1), (3, 4)]) [.str .empty, .slice 0 [] .fixed, .bool false, .int .u8 0, .int .i64 0, .str .empty, .slice 0 [] .fixed] ps).map .agg := by
  have hp : aplaces sd (match sd.P.underlying 41 with | some (.struct fs) => fs | _ => #[]) = plOf [(0, 1), (1, 1), (2, 1), (3, 4)] := by
    funext q
    rw [sdP, Tryd.underlying41]
    simp only [aplaces, plOf, List.getElem?_toArray]
    match q with
    | 0 => simp [sdP, c9]
    | 1 => simp [sdP, c39]
    | 2 => simp [sdP, c4]
    | 3 => simp [sdP, c32]
    | n + 4 => rfl
  have hk : fieldsKnown sd (match sd.P.underlying 41 with | some (.struct fs) => fs | _ => #[]) = true := by rw [sdP, Tryd.underlying41]; simp [sdP, fieldsKnown, i4, i9, i32, i39]
  rw [sdP, Tryd.underlying41] at hp hk
  simp only at hp hk
  simp only [sdP, abuild, z41, Tryd.underlying41, hk, hp, if_true]
theorem z49 : azero sd 49 = some (.agg [.int .u8 0, .int .i64 0, .str .empty, .slice 0 [] .fixed, .bool false, .bool false]) := by kernel_rfl
theorem b49 : Tryd.prog.bytesOf 49 = 64 := by kernel_rfl
theorem bd_49 (ps : List (Nat × AV)) : abuild sd 49 ps = (afill (plOf [(0, 4), (4, 1), (5, 1)]) [.int .u8 0, .int .i64 0, .str .empty, .slice 0 [] .fixed, .bool false, .bool false] ps).map .agg := by
  have hp : aplaces sd (match sd.P.underlying 49 with | some (.struct fs) => fs | _ => #[]) = plOf [(0, 4), (4, 1), (5, 1)] := by
    funext q
    rw [sdP, Tryd.underlying49]
    simp only [aplaces, plOf, List.getElem?_toArray]
    match q with
    | 0 => simp [sdP, c32]
    | 1 => simp [sdP, c4]
    | 2 => simp [sdP, c4]
    | n + 3 => rfl
  have hk : fieldsKnown sd (match sd.P.underlying 49 with | some (.struct fs) => fs | _ => #[]) = true := by rw [sdP, Tryd.underlying49]; simp [sdP, fieldsKnown, i4, i4, i32]
  rw [sdP, Tryd.underlying49] at hp hk
  simp only at hp hk
  simp only [sdP, abuild, z49, Tryd.underlying49, hk, hp, if_true]
theorem z65 : azero sd 65 = some (.agg [.str .empty, .bool false]) := by kernel_rfl
theorem b65 : Tryd.prog.bytesOf 65 = 24 := by kernel_rfl
theorem bd_65 (ps : List (Nat × AV)) : abuild sd 65 ps = (afill (plOf [(0, 1), (1, 1)]) [.str .empty, .bool false] ps).map .agg := by
  have hp : aplaces sd (match sd.P.underlying 65 with | some (.struct fs) => fs | _ => #[]) = plOf [(0, 1), (1, 1)] := by
    funext q
    rw [sdP, Tryd.underlying65]
    simp only [aplaces, plOf, List.getElem?_toArray]
    match q with
    | 0 => simp [sdP, c9]
    | 1 => simp [sdP, c4]
    | n + 2 => rfl
  have hk : fieldsKnown sd (match sd.P.underlying 65 with | some (.struct fs) => fs | _ => #[]) = true := by rw [sdP, Tryd.underlying65]; simp [sdP, fieldsKnown, i4, i9]
  rw [sdP, Tryd.underlying65] at hp hk
  simp only at hp hk
  simp only [sdP, abuild, z65, Tryd.underlying65, hk, hp, if_true]
theorem z79 : azero sd 79 = some (.agg [.slice 0 [] .fixed, .nilmap]) := by kernel_rfl
theorem b79 : Tryd.prog.bytesOf 79 = 32 := by kernel_rfl
theorem bd_79 (ps : List (Nat × AV)) : abuild sd 79 ps = (afill (plOf [(0, 1), (1, 1)]) [.slice 0 [] .fixed, .nilmap] ps).map .agg := by
  have hp : aplaces sd (match sd.P.underlying 79 with | some (.struct fs) => fs | _ => #[]) = plOf [(0, 1), (1, 1)] := by
    funext q
    rw [sdP, Tryd.underlying79]
    simp only [aplaces, plOf, List.getElem?_toArray]
    match q with
    | 0 => simp [sdP, c22]
    | 1 => simp [sdP, c73]
    | n + 2 => rfl
  have hk : fieldsKnown sd (match sd.P.underlying 79 with | some (.struct fs) => fs | _ => #[]) = true := by rw [sdP, Tryd.underlying79]; simp [sdP, fieldsKnown, i22, i73]
  rw [sdP, Tryd.underlying79] at hp hk
  simp only at hp hk
  simp only [sdP, abuild, z79, Tryd.underlying79, hk, hp, if_true]
theorem z97 : azero sd 97 = some (.agg [.int .i64 0, .int .i64 0]) := by kernel_rfl
theorem b97 : Tryd.prog.bytesOf 97 = 16 := by kernel_rfl
theorem bd_97 (ps : List (Nat × AV)) : abuild sd 97 ps = (afill (plOf [(0, 1), (1, 1)]) [.int .i64 0, .int .i64 0] ps).map .agg := by
  have hp : aplaces sd (match sd.P.underlying 97 with | some (.struct fs) => fs | _ => #[]) = plOf [(0, 1), (1, 1)] := by
    funext q
    rw [sdP, Tryd.underlying97]
    simp only [aplaces, plOf, List.getElem?_toArray]
    match q with
    | 0 => simp [sdP, c3]
    | 1 => simp [sdP, c3]
    | n + 2 => rfl
  have hk : fieldsKnown sd (match sd.P.underlying 97 with | some (.struct fs) => fs | _ => #[]) = true := by rw [sdP, Tryd.underlying97]; simp [sdP, fieldsKnown, i3, i3]
  rw [sdP, Tryd.underlying97] at hp hk
  simp only at hp hk
  simp only [sdP, abuild, z97, Tryd.underlying97, hk, hp, if_true]
theorem bs_22 (len : Nat) (ps : List (Nat × AV)) : abuildSlice sd 22 len ps = if len * 7 ≤ 16777216 then bsM 7 len (afill (fun i => some (i * 7, 7)) (azeros [.str .empty, .slice 0 [] .fixed, .bool false, .int .u8 0, .int .i64 0, .str .empty, .slice 0 [] .fixed] len) ps) else none := by
  simp only [sdP, abuildSlice, Tryd.underlying22, z41, Option.bind_some, acs, c41, List.length_cons, List.length_nil, Nat.reduceAdd, true_and, Nat.zero_lt_succ]
  by_cases q : len * 7 ≤ 16777216
  · simp only [q, and_self, if_true, bsM]
  · simp only [q, and_false, if_false]
theorem bs_30 (len : Nat) (ps : List (Nat × AV)) : abuildSlice sd 30 len ps = if len * 4 ≤ 16777216 then bsM 4 len (afill (fun i => some (i * 4, 4)) (azeros [.int .u8 0, .int .i64 0, .str .empty, .slice 0 [] .fixed] len) ps) else none := by
  simp only [sdP, abuildSlice, Tryd.underlying30, z32, Option.bind_some, acs, c32, List.length_cons, List.length_nil, Nat.reduceAdd, true_and, Nat.zero_lt_succ]
  by_cases q : len * 4 ≤ 16777216
  · simp only [q, and_self, if_true, bsM]
  · simp only [q, and_false, if_false]
theorem bs_39 (len : Nat) (ps : List (Nat × AV)) : abuildSlice sd 39 len ps = if len * 2 ≤ 16777216 then bsM 2 len (afill (fun i => some (i * 2, 2)) (azeros [.str .empty, .bool false] len) ps) else none := by
  simp only [sdP, abuildSlice, Tryd.underlying39, z65, Option.bind_some, acs, c65, List.length_cons, List.length_nil, Nat.reduceAdd, true_and, Nat.zero_lt_succ]
  by_cases q : len * 2 ≤ 16777216
  · simp only [q, and_self, if_true, bsM]
  · simp only [q, and_false, if_false]
theorem bs_43 (len : Nat) (ps : List (Nat × AV)) : abuildSlice sd 43 len ps = if len * 1 ≤ 16777216 then bsM 1 len (afill (fun i => some (i * 1, 1)) (azeros [.int .i64 0] len) ps) else none := by
  simp only [sdP, abuildSlice, Tryd.underlying43, z3, Option.bind_some, acs, c3, List.length_cons, List.length_nil, Nat.reduceAdd, true_and, Nat.zero_lt_succ]
  by_cases q : len * 1 ≤ 16777216
  · simp only [q, and_self, if_true, bsM]
  · simp only [q, and_false, if_false]
theorem bs_50 (len : Nat) (ps : List (Nat × AV)) : abuildSlice sd 50 len ps = if len * 6 ≤ 16777216 then bsM 6 len (afill (fun i => some (i * 6, 6)) (azeros [.int .u8 0, .int .i64 0, .str .empty, .slice 0 [] .fixed, .bool false, .bool false] len) ps) else none := by
  simp only [sdP, abuildSlice, Tryd.underlying50, z49, Option.bind_some, acs, c49, List.length_cons, List.length_nil, Nat.reduceAdd, true_and, Nat.zero_lt_succ]
  by_cases q : len * 6 ≤ 16777216
  · simp only [q, and_self, if_true, bsM]
  · simp only [q, and_false, if_false]
theorem bs_63 (len : Nat) (ps : List (Nat × AV)) : abuildSlice sd 63 len ps = if len * 1 ≤ 16777216 then bsM 1 len (afill (fun i => some (i * 1, 1)) (azeros [.bool false] len) ps) else none := by
  simp only [sdP, abuildSlice, Tryd.underlying63, z4, Option.bind_some, acs, c4, List.length_cons, List.length_nil, Nat.reduceAdd, true_and, Nat.zero_lt_succ]
  by_cases q : len * 1 ≤ 16777216
  · simp only [q, and_self, if_true, bsM]
  · simp only [q, and_false, if_false]
theorem z9 : azero sd 9 = some (.str .empty) := by kernel_rfl
theorem b9 : Tryd.prog.bytesOf 9 = 16 := by kernel_rfl
theorem bs_70 (len : Nat) (ps : List (Nat × AV)) : abuildSlice sd 70 len ps = if len * 1 ≤ 16777216 then bsM 1 len (afill (fun i => some (i * 1, 1)) (azeros [.str .empty] len) ps) else none := by
  simp only [sdP, abuildSlice, Tryd.underlying70, z9, Option.bind_some, acs, c9, List.length_cons, List.length_nil, Nat.reduceAdd, true_and, Nat.zero_lt_succ]
  by_cases q : len * 1 ≤ 16777216
  · simp only [q, and_self, if_true, bsM]
  · simp only [q, and_false, if_false]
theorem bs_95 (len : Nat) (ps : List (Nat × AV)) : abuildSlice sd 95 len ps = if len * 2 ≤ 16777216 then bsM 2 len (afill (fun i => some (i * 2, 2)) (azeros [.int .i64 0, .int .i64 0] len) ps) else none := by
  simp only [sdP, abuildSlice, Tryd.underlying95, z97, Option.bind_some, acs, c97, List.length_cons, List.length_nil, Nat.reduceAdd, true_and, Nat.zero_lt_succ]
  by_cases q : len * 2 ≤ 16777216
  · simp only [q, and_self, if_true, bsM]
  · simp only [q, and_false, if_false]
theorem al_32 (h : AHeap) : aalloc sd 32 h = some (.ptr h.next 0, h.alloc (.cells [.int .u8 0, .int .i64 0, .str .empty, .slice 0 [] .fixed])) := by simp [sdP, aalloc, z32, acs]
theorem al_41 (h : AHeap) : aalloc sd 41 h = some (.ptr h.next 0, h.alloc (.cells [.str .empty, .slice 0 [] .fixed, .bool false, .int .u8 0, .int .i64 0, .str .empty, .slice 0 [] .fixed])) := by simp [sdP, aalloc, z41, acs]
theorem z43 : azero sd 43 = some (.slice 0 [] .fixed) := by kernel_rfl
theorem b43 : Tryd.prog.bytesOf 43 = 24 := by kernel_rfl
theorem al_43 (h : AHeap) : aalloc sd 43 h = some (.ptr h.next 0, h.alloc (.cells [.slice 0 [] .fixed])) := by simp [sdP, aalloc, z43, acs]
theorem al_49 (h : AHeap) : aalloc sd 49 h = some (.ptr h.next 0, h.alloc (.cells [.int .u8 0, .int .i64 0, .str .empty, .slice 0 [] .fixed, .bool false, .bool false])) := by simp [sdP, aalloc, z49, acs]
theorem al_65 (h : AHeap) : aalloc sd 65 h = some (.ptr h.next 0, h.alloc (.cells [.str .empty, .bool false])) := by simp [sdP, aalloc, z65, acs]
theorem z67 : azero sd 67 = some (.nilfunc) := by kernel_rfl
theorem b67 : Tryd.prog.bytesOf 67 = 8 := by kernel_rfl
theorem al_67 (h : AHeap) : aalloc sd 67 h = some (.ptr h.next 0, h.alloc (.cells [.nilfunc])) := by simp [sdP, aalloc, z67, acs]
theorem al_79 (h : AHeap) : aalloc sd 79 h = some (.ptr h.next 0, h.alloc (.cells [.slice 0 [] .fixed, .nilmap])) := by simp [sdP, aalloc, z79, acs]
theorem z90 : azero sd 90 = some (.agg [.bool false, .bool false, .bool false]) := by kernel_rfl
theorem b90 : Tryd.prog.bytesOf 90 = 3 := by kernel_rfl
theorem al_90 (h : AHeap) : aalloc sd 90 h = some (.ptr h.next 0, h.alloc (.cells [.bool false, .bool false, .bool false])) := by simp [sdP, aalloc, z90, acs]
theorem al_97 (h : AHeap) : aalloc sd 97 h = some (.ptr h.next 0, h.alloc (.cells [.int .i64 0, .int .i64 0])) := by simp [sdP, aalloc, z97, acs]
theorem z110 : azero sd 110 = some (.agg [.int .u32 0, .int .u32 0, .int .u32 0]) := by kernel_rfl
theorem b110 : Tryd.prog.bytesOf 110 = 12 := by kernel_rfl
theorem al_110 (h : AHeap) : aalloc sd 110 h = some (.ptr h.next 0, h.alloc (.cells [.int .u32 0, .int .u32 0, .int .u32 0])) := by simp [sdP, aalloc, z110, acs]
theorem st_4 (id off : Nat) (x : AV) (h : AHeap) : astore sd 4 (.ptr id off) x h = storeM (h.get id) id off (acs x) 1 h := astore_ptr i4 c4 id off x h
theorem st_9 (id off : Nat) (x : AV) (h : AHeap) : astore sd 9 (.ptr id off) x h = storeM (h.get id) id off (acs x) 1 h := astore_ptr i9 c9 id off x h
theorem st_32 (id off : Nat) (x : AV) (h : AHeap) : astore sd 32 (.ptr id off) x h = storeM (h.get id) id off (acs x) 4 h := astore_ptr i32 c32 id off x h
theorem st_41 (id off : Nat) (x : AV) (h : AHeap) : astore sd 41 (.ptr id off) x h = storeM (h.get id) id off (acs x) 7 h := astore_ptr i41 c41 id off x h
theorem st_43 (id off : Nat) (x : AV) (h : AHeap) : astore sd 43 (.ptr id off) x h = storeM (h.get id) id off (acs x) 1 h := astore_ptr i43 c43 id off x h
theorem st_49 (id off : Nat) (x : AV) (h : AHeap) : astore sd 49 (.ptr id off) x h = storeM (h.get id) id off (acs x) 6 h := astore_ptr i49 c49 id off x h
theorem st_65 (id off : Nat) (x : AV) (h : AHeap) : astore sd 65 (.ptr id off) x h = storeM (h.get id) id off (acs x) 2 h := astore_ptr i65 c65 id off x h
theorem st_67 (id off : Nat) (x : AV) (h : AHeap) : astore sd 67 (.ptr id off) x h = storeM (h.get id) id off (acs x) 1 h := astore_ptr i67 c67 id off x h
theorem st_79 (id off : Nat) (x : AV) (h : AHeap) : astore sd 79 (.ptr id off) x h = storeM (h.get id) id off (acs x) 2 h := astore_ptr i79 c79 id off x h
theorem st_97 (id off : Nat) (x : AV) (h : AHeap) : astore sd 97 (.ptr id off) x h = storeM (h.get id) id off (acs x) 2 h := astore_ptr i97 c97 id off x h
theorem st_110 (id off : Nat) (x : AV) (h : AHeap) : astore sd 110 (.ptr id off) x h = storeM (h.get id) id off (acs x) 3 h := astore_ptr i110 c110 id off x h
theorem c113 : Tryd.prog.cellsOf 113 = 1 := by kernel_rfl
theorem i113 : (Tryd.prog.info? 113).isSome = true := by kernel_rfl
theorem cv_3_113 (k : IntKind) (n : Int) : aconvert sd 3 113 (.int k n) = some (.int .u64 (IntKind.wrap .u64 n)) := by simp [sdP, aconvert, Tryd.underlying3, Tryd.underlying113]
theorem cv_5_3 (k : IntKind) (n : Int) : aconvert sd 5 3 (.int k n) = some (.int .i64 (IntKind.wrap .i64 n)) := by simp [sdP, aconvert, Tryd.underlying5, Tryd.underlying3]
theorem cv_9_82 (s : ByteArray) : aconvert sd 9 82 (.str s) = if s.size ≤ 140737488355328 then some (bytesAV s) else none := by simp [sdP, aconvert, Tryd.underlying9, Tryd.underlying82, Tryd.underlying5]
theorem c21 : Tryd.prog.cellsOf 21 = 1 := by kernel_rfl
theorem i21 : (Tryd.prog.info? 21).isSome = true := by kernel_rfl
theorem cv_21_98 (k : IntKind) (n : Int) : aconvert sd 21 98 (.int k n) = some (.int .u32 (IntKind.wrap .u32 n)) := by simp [sdP, aconvert, Tryd.underlying21, Tryd.underlying98]
theorem cv_21_105 (k : IntKind) (n : Int) : aconvert sd 21 105 (.int k n) = some (.int .u16 (IntKind.wrap .u16 n)) := by simp [sdP, aconvert, Tryd.underlying21, Tryd.underlying105]
theorem cv_98_21 (k : IntKind) (n : Int) : aconvert sd 98 21 (.int k n) = some (.int .i32 (IntKind.wrap .i32 n)) := by simp [sdP, aconvert, Tryd.underlying98, Tryd.underlying21]
theorem cv_105_98 (k : IntKind) (n : Int) : aconvert sd 105 98 (.int k n) = some (.int .u32 (IntKind.wrap .u32 n)) := by simp [sdP, aconvert, Tryd.underlying105, Tryd.underlying98]
theorem cv_113_3 (k : IntKind) (n : Int) : aconvert sd 113 3 (.int k n) = some (.int .i64 (IntKind.wrap .i64 n)) := by simp [sdP, aconvert, Tryd.underlying113, Tryd.underlying3]
theorem ap_22_22f (s1 s2 : Nat) (xs ys : List (List AV)) (tok : Tok) (h : AHeap) : aappend sd ⟨[22, 22]⟩ (.slice s1 xs .fixed) (.slice s2 ys tok) h = if (s2 = 7 ∨ ys.length = 0) ∧ (xs.length + ys.length) * 104 ≤ 140737488355328 ∧ (s1 = 7 ∨ xs.length = 0) then some (.slice 7 (xs ++ ys) (.tip h.ntok), h.newTok (xs.length + ys.length)) else none := aappend_fixed (u := Tryd.underlying22) (v := Tryd.underlying22) (hz := z41) (ha := rfl) (hc := c41) (hb := b41) (h1 := by decide) (h2 := by decide) (h3 := by decide) s1 s2 xs ys tok h
theorem ap_22_22t (s2 q : Nat) (xs ys : List (List AV)) (tok : Tok) (h : AHeap) : aappend sd ⟨[22, 22]⟩ (.slice 7 xs (.tip q)) (.slice s2 ys tok) h = if (s2 = 7 ∨ ys.length = 0) ∧ (xs.length + ys.length) * 104 ≤ 140737488355328 ∧ h.tok q = xs.length ∧ q < h.ntok then some (.slice 7 (xs ++ ys) (.tip q), h.setTok q (xs.length + ys.length)) else none := aappend_tip (u := Tryd.underlying22) (v := Tryd.underlying22) (hz := z41) (ha := rfl) (hc := c41) (hb := b41) (h1 := by decide) (h2 := by decide) (h3 := by decide) s2 q xs ys tok h
theorem ap_22_22fk (s1 : Nat) (xs ys : List (List AV)) (h : AHeap) : aappend sd ⟨[22, 22]⟩ (.slice s1 xs .fixed) (kslice 7 ys) h = if (xs.length + ys.length) * 104 ≤ 140737488355328 ∧ (s1 = 7 ∨ xs.length = 0) then some (.slice 7 (xs ++ ys) (.tip h.ntok), h.newTok (xs.length + ys.length)) else none := by
  cases ys with
  | nil => exact (ap_22_22f s1 0 xs [] .unk h).trans (by simp)
  | cons e es => exact (ap_22_22f s1 7 xs (e :: es) .unk h).trans (by simp)
theorem ap_22_22tk (q : Nat) (xs ys : List (List AV)) (h : AHeap) : aappend sd ⟨[22, 22]⟩ (.slice 7 xs (.tip q)) (kslice 7 ys) h = if (xs.length + ys.length) * 104 ≤ 140737488355328 ∧ h.tok q = xs.length ∧ q < h.ntok then some (.slice 7 (xs ++ ys) (.tip q), h.setTok q (xs.length + ys.length)) else none := by
  cases ys with
  | nil => exact (ap_22_22t 0 q xs [] .unk h).trans (by simp)
  | cons e es => exact (ap_22_22t 7 q xs (e :: es) .unk h).trans (by simp)
theorem ap_39_39f (s1 s2 : Nat) (xs ys : List (List AV)) (tok : Tok) (h : AHeap) : aappend sd ⟨[39, 39]⟩ (.slice s1 xs .fixed) (.slice s2 ys tok) h = if (s2 = 2 ∨ ys.length = 0) ∧ (xs.length + ys.length) * 24 ≤ 140737488355328 ∧ (s1 = 2 ∨ xs.length = 0) then some (.slice 2 (xs ++ ys) (.tip h.ntok), h.newTok (xs.length + ys.length)) else none := aappend_fixed (u := Tryd.underlying39) (v := Tryd.underlying39) (hz := z65) (ha := rfl) (hc := c65) (hb := b65) (h1 := by decide) (h2 := by decide) (h3 := by decide) s1 s2 xs ys tok h
theorem ap_39_39t (s2 q : Nat) (xs ys : List (List AV)) (tok : Tok) (h : AHeap) : aappend sd ⟨[39, 39]⟩ (.slice 2 xs (.tip q)) (.slice s2 ys tok) h = if (s2 = 2 ∨ ys.length = 0) ∧ (xs.length + ys.length) * 24 ≤ 140737488355328 ∧ h.tok q = xs.length ∧ q < h.ntok then some (.slice 2 (xs ++ ys) (.tip q), h.setTok q (xs.length + ys.length)) else none := aappend_tip (u := Tryd.underlying39) (v := Tryd.underlying39) (hz := z65) (ha := rfl) (hc := c65) (hb := b65) (h1 := by decide) (h2 := by decide) (h3 := by decide) s2 q xs ys tok h
theorem ap_39_39fk (s1 : Nat) (xs ys : List (List AV)) (h : AHeap) : aappend sd ⟨[39, 39]⟩ (.slice s1 xs .fixed) (kslice 2 ys) h = if (xs.length + ys.length) * 24 ≤ 140737488355328 ∧ (s1 = 2 ∨ xs.length = 0) then some (.slice 2 (xs ++ ys) (.tip h.ntok), h.newTok (xs.length + ys.length)) else none := by
  cases ys with
  | nil => exact (ap_39_39f s1 0 xs [] .unk h).trans (by simp)
  | cons e es => exact (ap_39_39f s1 2 xs (e :: es) .unk h).trans (by simp)
theorem ap_39_39tk (q : Nat) (xs ys : List (List AV)) (h : AHeap) : aappend sd ⟨[39, 39]⟩ (.slice 2 xs (.tip q)) (kslice 2 ys) h = if (xs.length + ys.length) * 24 ≤ 140737488355328 ∧ h.tok q = xs.length ∧ q < h.ntok then some (.slice 2 (xs ++ ys) (.tip q), h.setTok q (xs.length + ys.length)) else none := by
  cases ys with
  | nil => exact (ap_39_39t 0 q xs [] .unk h).trans (by simp)
  | cons e es => exact (ap_39_39t 2 q xs (e :: es) .unk h).trans (by simp)
theorem ap_43_43f (s1 s2 : Nat) (xs ys : List (List AV)) (tok : Tok) (h : AHeap) : aappend sd ⟨[43, 43]⟩ (.slice s1 xs .fixed) (.slice s2 ys tok) h = if (s2 = 1 ∨ ys.length = 0) ∧ (xs.length + ys.length) * 8 ≤ 140737488355328 ∧ (s1 = 1 ∨ xs.length = 0) then some (.slice 1 (xs ++ ys) (.tip h.ntok), h.newTok (xs.length + ys.length)) else none := aappend_fixed (u := Tryd.underlying43) (v := Tryd.underlying43) (hz := z3) (ha := rfl) (hc := c3) (hb := b3) (h1 := by decide) (h2 := by decide) (h3 := by decide) s1 s2 xs ys tok h
theorem ap_43_43t (s2 q : Nat) (xs ys : List (List AV)) (tok : Tok) (h : AHeap) : aappend sd ⟨[43, 43]⟩ (.slice 1 xs (.tip q)) (.slice s2 ys tok) h = if (s2 = 1 ∨ ys.length = 0) ∧ (xs.length + ys.length) * 8 ≤ 140737488355328 ∧ h.tok q = xs.length ∧ q < h.ntok then some (.slice 1 (xs ++ ys) (.tip q), h.setTok q (xs.length + ys.length)) else none := aappend_tip (u := Tryd.underlying43) (v := Tryd.underlying43) (hz := z3) (ha := rfl) (hc := c3) (hb := b3) (h1 := by decide) (h2 := by decide) (h3 := by decide) s2 q xs ys tok h
theorem ap_43_43fk (s1 : Nat) (xs ys : List (List AV)) (h : AHeap) : aappend sd ⟨[43, 43]⟩ (.slice s1 xs .fixed) (kslice 1 ys) h = if (xs.length + ys.length) * 8 ≤ 140737488355328 ∧ (s1 = 1 ∨ xs.length = 0) then some (.slice 1 (xs ++ ys) (.tip h.ntok), h.newTok (xs.length + ys.length)) else none := by
  cases ys with
  | nil => exact (ap_43_43f s1 0 xs [] .unk h).trans (by simp)
  | cons e es => exact (ap_43_43f s1 1 xs (e :: es) .unk h).trans (by simp)
theorem ap_43_43tk (q : Nat) (xs ys : List (List AV)) (h : AHeap) : aappend sd ⟨[43, 43]⟩ (.slice 1 xs (.tip q)) (kslice 1 ys) h = if (xs.length + ys.length) * 8 ≤ 140737488355328 ∧ h.tok q = xs.length ∧ q < h.ntok then some (.slice 1 (xs ++ ys) (.tip q), h.setTok q (xs.length + ys.length)) else none := by
  cases ys with
  | nil => exact (ap_43_43t 0 q xs [] .unk h).trans (by simp)
  | cons e es => exact (ap_43_43t 1 q xs (e :: es) .unk h).trans (by simp)
theorem ap_63_63f (s1 s2 : Nat) (xs ys : List (List AV)) (tok : Tok) (h : AHeap) : aappend sd ⟨[63, 63]⟩ (.slice s1 xs .fixed) (.slice s2 ys tok) h = if (s2 = 1 ∨ ys.length = 0) ∧ (xs.length + ys.length) * 1 ≤ 140737488355328 ∧ (s1 = 1 ∨ xs.length = 0) then some (.slice 1 (xs ++ ys) (.tip h.ntok), h.newTok (xs.length + ys.length)) else none := aappend_fixed (u := Tryd.underlying63) (v := Tryd.underlying63) (hz := z4) (ha := rfl) (hc := c4) (hb := b4) (h1 := by decide) (h2 := by decide) (h3 := by decide) s1 s2 xs ys tok h
theorem ap_63_63t (s2 q : Nat) (xs ys : List (List AV)) (tok : Tok) (h : AHeap) : aappend sd ⟨[63, 63]⟩ (.slice 1 xs (.tip q)) (.slice s2 ys tok) h = if (s2 = 1 ∨ ys.length = 0) ∧ (xs.length + ys.length) * 1 ≤ 140737488355328 ∧ h.tok q = xs.length ∧ q < h.ntok then some (.slice 1 (xs ++ ys) (.tip q), h.setTok q (xs.length + ys.length)) else none := aappend_tip (u := Tryd.underlying63) (v := Tryd.underlying63) (hz := z4) (ha := rfl) (hc := c4) (hb := b4) (h1 := by decide) (h2 := by decide) (h3 := by decide) s2 q xs ys tok h
theorem ap_63_63fk (s1 : Nat) (xs ys : List (List AV)) (h : AHeap) : aappend sd ⟨[63, 63]⟩ (.slice s1 xs .fixed) (kslice 1 ys) h = if (xs.length + ys.length) * 1 ≤ 140737488355328 ∧ (s1 = 1 ∨ xs.length = 0) then some (.slice 1 (xs ++ ys) (.tip h.ntok), h.newTok (xs.length + ys.length)) else none := by
  cases ys with
  | nil => exact (ap_63_63f s1 0 xs [] .unk h).trans (by simp)
  | cons e es => exact (ap_63_63f s1 1 xs (e :: es) .unk h).trans (by simp)
theorem ap_63_63tk (q : Nat) (xs ys : List (List AV)) (h : AHeap) : aappend sd ⟨[63, 63]⟩ (.slice 1 xs (.tip q)) (kslice 1 ys) h = if (xs.length + ys.length) * 1 ≤ 140737488355328 ∧ h.tok q = xs.length ∧ q < h.ntok then some (.slice 1 (xs ++ ys) (.tip q), h.setTok q (xs.length + ys.length)) else none := by
  cases ys with
  | nil => exact (ap_63_63t 0 q xs [] .unk h).trans (by simp)
  | cons e es => exact (ap_63_63t 1 q xs (e :: es) .unk h).trans (by simp)
theorem ap_95_95f (s1 s2 : Nat) (xs ys : List (List AV)) (tok : Tok) (h : AHeap) : aappend sd ⟨[95, 95]⟩ (.slice s1 xs .fixed) (.slice s2 ys tok) h = if (s2 = 2 ∨ ys.length = 0) ∧ (xs.length + ys.length) * 16 ≤ 140737488355328 ∧ (s1 = 2 ∨ xs.length = 0) then some (.slice 2 (xs ++ ys) (.tip h.ntok), h.newTok (xs.length + ys.length)) else none := aappend_fixed (u := Tryd.underlying95) (v := Tryd.underlying95) (hz := z97) (ha := rfl) (hc := c97) (hb := b97) (h1 := by decide) (h2 := by decide) (h3 := by decide) s1 s2 xs ys tok h
theorem ap_95_95t (s2 q : Nat) (xs ys : List (List AV)) (tok : Tok) (h : AHeap) : aappend sd ⟨[95, 95]⟩ (.slice 2 xs (.tip q)) (.slice s2 ys tok) h = if (s2 = 2 ∨ ys.length = 0) ∧ (xs.length + ys.length) * 16 ≤ 140737488355328 ∧ h.tok q = xs.length ∧ q < h.ntok then some (.slice 2 (xs ++ ys) (.tip q), h.setTok q (xs.length + ys.length)) else none := aappend_tip (u := Tryd.underlying95) (v := Tryd.underlying95) (hz := z97) (ha := rfl) (hc := c97) (hb := b97) (h1 := by decide) (h2 := by decide) (h3 := by decide) s2 q xs ys tok h
theorem ap_95_95fk (s1 : Nat) (xs ys : List (List AV)) (h : AHeap) : aappend sd ⟨[95, 95]⟩ (.slice s1 xs .fixed) (kslice 2 ys) h = if (xs.length + ys.length) * 16 ≤ 140737488355328 ∧ (s1 = 2 ∨ xs.length = 0) then some (.slice 2 (xs ++ ys) (.tip h.ntok), h.newTok (xs.length + ys.length)) else none := by
  cases ys with
  | nil => exact (ap_95_95f s1 0 xs [] .unk h).trans (by simp)
  | cons e es => exact (ap_95_95f s1 2 xs (e :: es) .unk h).trans (by simp)
theorem ap_95_95tk (q : Nat) (xs ys : List (List AV)) (h : AHeap) : aappend sd ⟨[95, 95]⟩ (.slice 2 xs (.tip q)) (kslice 2 ys) h = if (xs.length + ys.length) * 16 ≤ 140737488355328 ∧ h.tok q = xs.length ∧ q < h.ntok then some (.slice 2 (xs ++ ys) (.tip q), h.setTok q (xs.length + ys.length)) else none := by
  cases ys with
  | nil => exact (ap_95_95t 0 q xs [] .unk h).trans (by simp)
  | cons e es => exact (ap_95_95t 2 q xs (e :: es) .unk h).trans (by simp)
theorem beql_4 (x y : Bool) : abin sd .eql 4 (.bool x) (.bool y) = some (.bool (x == y)) := abin_beql sd 4 Tryd.underlying4 x y
theorem bneq_4 (x y : Bool) : abin sd .neq 4 (.bool x) (.bool y) = some (.bool (!(x == y))) := abin_bneq sd 4 Tryd.underlying4 x y
theorem en_3 : Enters sd 3 := Enters.of Tryd.func3 (by kernel_rfl) (by kernel_rfl)
theorem en_4 : Enters sd 4 := Enters.of Tryd.func4 (by kernel_rfl) (by kernel_rfl)
theorem en_5 : Enters sd 5 := Enters.of Tryd.func5 (by kernel_rfl) (by kernel_rfl)
theorem en_6 : Enters sd 6 := Enters.of Tryd.func6 (by kernel_rfl) (by kernel_rfl)
theorem en_7 : Enters sd 7 := Enters.of Tryd.func7 (by kernel_rfl) (by kernel_rfl)
theorem en_8 : Enters sd 8 := Enters.of Tryd.func8 (by kernel_rfl) (by kernel_rfl)
theorem en_9 : Enters sd 9 := Enters.of Tryd.func9 (by kernel_rfl) (by kernel_rfl)
theorem en_10 : Enters sd 10 := Enters.of Tryd.func10 (by kernel_rfl) (by kernel_rfl)
theorem en_11 : Enters sd 11 := Enters.of Tryd.func11 (by kernel_rfl) (by kernel_rfl)
theorem en_12 : Enters sd 12 := Enters.of Tryd.func12 (by kernel_rfl) (by kernel_rfl)
theorem en_13 : Enters sd 13 := Enters.of Tryd.func13 (by kernel_rfl) (by kernel_rfl)
theorem en_14 : Enters sd 14 := Enters.of Tryd.func14 (by kernel_rfl) (by kernel_rfl)
theorem en_15 : Enters sd 15 := Enters.of Tryd.func15 (by kernel_rfl) (by kernel_rfl)
theorem en_16 : Enters sd 16 := Enters.of Tryd.func16 (by kernel_rfl) (by kernel_rfl)
theorem en_17 : Enters sd 17 := Enters.of Tryd.func17 (by kernel_rfl) (by kernel_rfl)
theorem en_18 : Enters sd 18 := Enters.of Tryd.func18 (by kernel_rfl) (by kernel_rfl)
theorem en_19 : Enters sd 19 := Enters.of Tryd.func19 (by kernel_rfl) (by kernel_rfl)
theorem en_20 : Enters sd 20 := Enters.of Tryd.func20 (by kernel_rfl) (by kernel_rfl)
theorem en_21 : Enters sd 21 := Enters.of Tryd.func21 (by kernel_rfl) (by kernel_rfl)
theorem en_22 : Enters sd 22 := Enters.of Tryd.func22 (by kernel_rfl) (by kernel_rfl)
theorem en_23 : Enters sd 23 := Enters.of Tryd.func23 (by kernel_rfl) (by kernel_rfl)
theorem en_24 : Enters sd 24 := Enters.of Tryd.func24 (by kernel_rfl) (by kernel_rfl)
theorem en_25 : Enters sd 25 := Enters.of Tryd.func25 (by kernel_rfl) (by kernel_rfl)
theorem en_26 : Enters sd 26 := Enters.of Tryd.func26 (by kernel_rfl) (by kernel_rfl)
theorem en_27 : Enters sd 27 := Enters.of Tryd.func27 (by kernel_rfl) (by kernel_rfl)
theorem en_28 : Enters sd 28 := Enters.of Tryd.func28 (by kernel_rfl) (by kernel_rfl)
theorem en_29 : Enters sd 29 := Enters.of Tryd.func29 (by kernel_rfl) (by kernel_rfl)
theorem en_30 : Enters sd 30 := Enters.of Tryd.func30 (by kernel_rfl) (by kernel_rfl)
theorem en_31 : Enters sd 31 := Enters.of Tryd.func31 (by kernel_rfl) (by kernel_rfl)
theorem en_32 : Enters sd 32 := Enters.of Tryd.func32 (by kernel_rfl) (by kernel_rfl)
theorem en_33 : Enters sd 33 := Enters.of Tryd.func33 (by kernel_rfl) (by kernel_rfl)
theorem en_34 : Enters sd 34 := Enters.of Tryd.func34 (by kernel_rfl) (by kernel_rfl)
theorem en_35 : Enters sd 35 := Enters.of Tryd.func35 (by kernel_rfl) (by kernel_rfl)
theorem en_36 : Enters sd 36 := Enters.of Tryd.func36 (by kernel_rfl) (by kernel_rfl)
theorem en_37 : Enters sd 37 := Enters.of Tryd.func37 (by kernel_rfl) (by kernel_rfl)
theorem en_38 : Enters sd 38 := Enters.of Tryd.func38 (by kernel_rfl) (by kernel_rfl)
theorem en_39 : Enters sd 39 := Enters.of Tryd.func39 (by kernel_rfl) (by kernel_rfl)
theorem en_40 : Enters sd 40 := Enters.of Tryd.func40 (by kernel_rfl) (by kernel_rfl)
theorem en_41 : Enters sd 41 := Enters.of Tryd.func41 (by kernel_rfl) (by kernel_rfl)
theorem en_42 : Enters sd 42 := Enters.of Tryd.func42 (by kernel_rfl) (by kernel_rfl)
theorem en_43 : Enters sd 43 := Enters.of Tryd.func43 (by kernel_rfl) (by kernel_rfl)
theorem en_44 : Enters sd 44 := Enters.of Tryd.func44 (by kernel_rfl) (by kernel_rfl)
theorem en_45 : Enters sd 45 := Enters.of Tryd.func45 (by kernel_rfl) (by kernel_rfl)
theorem en_46 : Enters sd 46 := Enters.of Tryd.func46 (by kernel_rfl) (by kernel_rfl)
theorem en_47 : Enters sd 47 := Enters.of Tryd.func47 (by kernel_rfl) (by kernel_rfl)
theorem en_48 : Enters sd 48 := Enters.of Tryd.func48 (by kernel_rfl) (by kernel_rfl)
theorem en_49 : Enters sd 49 := Enters.of Tryd.func49 (by kernel_rfl) (by kernel_rfl)
theorem en_50 : Enters sd 50 := Enters.of Tryd.func50 (by kernel_rfl) (by kernel_rfl)
theorem en_51 : Enters sd 51 := Enters.of Tryd.func51 (by kernel_rfl) (by kernel_rfl)
theorem en_52 : Enters sd 52 := Enters.of Tryd.func52 (by kernel_rfl) (by kernel_rfl)
theorem en_53 : Enters sd 53 := Enters.of Tryd.func53 (by kernel_rfl) (by kernel_rfl)
theorem en_54 : Enters sd 54 := Enters.of Tryd.func54 (by kernel_rfl) (by kernel_rfl)
theorem en_55 : Enters sd 55 := Enters.of Tryd.func55 (by kernel_rfl) (by kernel_rfl)
theorem en_56 : Enters sd 56 := Enters.of Tryd.func56 (by kernel_rfl) (by kernel_rfl)
theorem en_57 : Enters sd 57 := Enters.of Tryd.func57 (by kernel_rfl) (by kernel_rfl)
theorem en_58 : Enters sd 58 := Enters.of Tryd.func58 (by kernel_rfl) (by kernel_rfl)
theorem en_59 : Enters sd 59 := Enters.of Tryd.func59 (by kernel_rfl) (by kernel_rfl)
theorem en_60 : Enters sd 60 := Enters.of Tryd.func60 (by kernel_rfl) (by kernel_rfl)
theorem en_61 : Enters sd 61 := Enters.of Tryd.func61 (by kernel_rfl) (by kernel_rfl)
theorem en_62 : Enters sd 62 := Enters.of Tryd.func62 (by kernel_rfl) (by kernel_rfl)
theorem en_63 : Enters sd 63 := Enters.of Tryd.func63 (by kernel_rfl) (by kernel_rfl)
theorem en_64 : Enters sd 64 := Enters.of Tryd.func64 (by kernel_rfl) (by kernel_rfl)
theorem en_65 : Enters sd 65 := Enters.of Tryd.func65 (by kernel_rfl) (by kernel_rfl)
theorem en_66 : Enters sd 66 := Enters.of Tryd.func66 (by kernel_rfl) (by kernel_rfl)
theorem en_67 : Enters sd 67 := Enters.of Tryd.func67 (by kernel_rfl) (by kernel_rfl)
end Go.Proofs.YtajknofacjiddaaDoor.Abs
