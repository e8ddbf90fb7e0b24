/-
  DERIVED. GIVEN WITH THE SEED: THE CARDS: each row of YtajknofacjiddaaDoorRows.lean that lists a variable, with what it lists TIED to the program's text (the seventh form; the later family's looks); each row that meets fmt, with fmt's text TOLD by the authors' own Lean function (tested against real Go, not proved from fmt's source: count such statements apart). THE CARD IS WHAT COUNTS. Prove the row's statement (the work); the ties are given (YtajknofacjiddaaDoorTie.lean); close each card by the builder's one call (the guide's Derived/Test/ToyasCard.lean, 'card_holds'). Laid BY PROGRAM, IN A SANDBOX (cutbox-door.mjs). By AI agents, Wed Nov 11 2026. No macro, syntax, notation, axiom, sorry.
-/
import Derived.Test.YtajknofacjiddaaDoorRows
import GoSem.ClaimSeven
namespace Go.Proofs.YtajknofacjiddaaDoor
namespace Rows

/-- THE TIED CARD OF 'backsteplaw35.FunValid'. -/
def funValidCard : Claim7 := { stood := { row := funValidRow, standIns := [], harness := (true, "74d3799d5ea5f276d8c4370b5dc366cba634711a625563e26e4c080ce19c1383"), looks := false }, kinds := [], alts := [], laidByText := true, laidKinds := [.listed, .data], laidTests := true, laidLooks := .later }
def FunValidCardSaid : Prop := Claim7.holds Tryd.pinned (.plain (OpenSpec.ofChange funValidSpec)) funValidCard

/-- THE TIED CARD OF 'backsteplaw35.FunType'. -/
def funTypeCard : Claim7 := { stood := { row := funTypeRow, standIns := [], harness := (true, "74d3799d5ea5f276d8c4370b5dc366cba634711a625563e26e4c080ce19c1383"), looks := false }, kinds := [], alts := [], laidByText := true, laidKinds := [.listed, .data], laidTests := true, laidLooks := .later }
def FunTypeCardSaid : Prop := Claim7.holds Tryd.pinned (.plain (OpenSpec.ofChange funTypeSpec)) funTypeCard

/-- THE TIED CARD OF 'backsteplaw35.FunCalls'. -/
def funCallsCard : Claim7 := { stood := { row := funCallsRow, standIns := [], harness := (true, "74d3799d5ea5f276d8c4370b5dc366cba634711a625563e26e4c080ce19c1383"), looks := false }, kinds := [], alts := [], laidByText := true, laidKinds := [.listed, .data], laidTests := true, laidLooks := .later }
def FunCallsCardSaid : Prop := Claim7.holds Tryd.pinned (.plain (OpenSpec.ofChange funCallsSpec)) funCallsCard

/-- THE TIED CARD OF 'backsteplaw35.FunOrder'. -/
def funOrderCard : Claim7 := { stood := { row := funOrderRow, standIns := [], harness := (true, "74d3799d5ea5f276d8c4370b5dc366cba634711a625563e26e4c080ce19c1383"), looks := false }, kinds := [], alts := [], laidByText := true, laidKinds := [.listed, .data], laidTests := true, laidLooks := .later }
def FunOrderCardSaid : Prop := Claim7.holds Tryd.pinned (.plain (OpenSpec.ofChange funOrderSpec)) funOrderCard

/-- THE TIED CARD OF 'backsteplaw35.FunWraps'. -/
def funWrapsCard : Claim7 := { stood := { row := funWrapsRow, standIns := [], harness := (true, "74d3799d5ea5f276d8c4370b5dc366cba634711a625563e26e4c080ce19c1383"), looks := false }, kinds := [], alts := [], laidByText := true, laidKinds := [.listed, .data], laidTests := true, laidLooks := .later }
def FunWrapsCardSaid : Prop := Claim7.holds Tryd.pinned (.plain (OpenSpec.ofChange funWrapsSpec)) funWrapsCard

/-- THE TIED CARD OF 'backsteplaw35.FunPrefix'. -/
def funPrefixCard : Claim7 := { stood := { row := funPrefixRow, standIns := [], harness := (true, "74d3799d5ea5f276d8c4370b5dc366cba634711a625563e26e4c080ce19c1383"), looks := false }, kinds := [], alts := [], laidByText := true, laidKinds := [.listed, .data], laidTests := true, laidLooks := .later }
def FunPrefixCardSaid : Prop := Claim7.holds Tryd.pinned (.plain (OpenSpec.ofChange funPrefixSpec)) funPrefixCard

/-- THE TIED CARD OF 'backsteplaw35.FunDistinct'. -/
def funDistinctCard : Claim7 := { stood := { row := funDistinctRow, standIns := [], harness := (true, "74d3799d5ea5f276d8c4370b5dc366cba634711a625563e26e4c080ce19c1383"), looks := false }, kinds := [], alts := [], laidByText := true, laidKinds := [.listed, .data], laidTests := true, laidLooks := .later }
def FunDistinctCardSaid : Prop := Claim7.holds Tryd.pinned (.plain (OpenSpec.ofChange funDistinctSpec)) funDistinctCard

/-- THE TIED CARD OF 'backsteplaw35.FunEqual'. -/
def funEqualCard : Claim7 := { stood := { row := funEqualRow, standIns := [], harness := (true, "74d3799d5ea5f276d8c4370b5dc366cba634711a625563e26e4c080ce19c1383"), looks := false }, kinds := [], alts := [], laidByText := true, laidKinds := [.listed, .data], laidTests := true, laidLooks := .later }
def FunEqualCardSaid : Prop := Claim7.holds Tryd.pinned (.plain (OpenSpec.ofChange funEqualSpec)) funEqualCard

/-- THE SECOND FORM's CARD OF 'backsteplaw35.FunValid'. -/
def funValidUptoCard : Claim7 := { stood := { row := funValidUptoRow, standIns := [], harness := (true, "74d3799d5ea5f276d8c4370b5dc366cba634711a625563e26e4c080ce19c1383"), looks := false }, kinds := [], alts := [], laidByText := true, laidKinds := [.listed, .data], laidTests := true, laidLooks := .later }
def FunValidUptoCardSaid : Prop := Claim7.holds Tryd.pinned (.plain (OpenSpec.upto funValidSpec)) funValidUptoCard

/-- THE SECOND FORM's CARD OF 'backsteplaw35.FunType'. -/
def funTypeUptoCard : Claim7 := { stood := { row := funTypeUptoRow, standIns := [], harness := (true, "74d3799d5ea5f276d8c4370b5dc366cba634711a625563e26e4c080ce19c1383"), looks := false }, kinds := [], alts := [], laidByText := true, laidKinds := [.listed, .data], laidTests := true, laidLooks := .later }
def FunTypeUptoCardSaid : Prop := Claim7.holds Tryd.pinned (.plain (OpenSpec.upto funTypeSpec)) funTypeUptoCard

/-- THE SECOND FORM's CARD OF 'backsteplaw35.FunCalls'. -/
def funCallsUptoCard : Claim7 := { stood := { row := funCallsUptoRow, standIns := [], harness := (true, "74d3799d5ea5f276d8c4370b5dc366cba634711a625563e26e4c080ce19c1383"), looks := false }, kinds := [], alts := [], laidByText := true, laidKinds := [.listed, .data], laidTests := true, laidLooks := .later }
def FunCallsUptoCardSaid : Prop := Claim7.holds Tryd.pinned (.plain (OpenSpec.upto funCallsSpec)) funCallsUptoCard

/-- THE SECOND FORM's CARD OF 'backsteplaw35.FunOrder'. -/
def funOrderUptoCard : Claim7 := { stood := { row := funOrderUptoRow, standIns := [], harness := (true, "74d3799d5ea5f276d8c4370b5dc366cba634711a625563e26e4c080ce19c1383"), looks := false }, kinds := [], alts := [], laidByText := true, laidKinds := [.listed, .data], laidTests := true, laidLooks := .later }
def FunOrderUptoCardSaid : Prop := Claim7.holds Tryd.pinned (.plain (OpenSpec.upto funOrderSpec)) funOrderUptoCard

/-- THE SECOND FORM's CARD OF 'backsteplaw35.FunWraps'. -/
def funWrapsUptoCard : Claim7 := { stood := { row := funWrapsUptoRow, standIns := [], harness := (true, "74d3799d5ea5f276d8c4370b5dc366cba634711a625563e26e4c080ce19c1383"), looks := false }, kinds := [], alts := [], laidByText := true, laidKinds := [.listed, .data], laidTests := true, laidLooks := .later }
def FunWrapsUptoCardSaid : Prop := Claim7.holds Tryd.pinned (.plain (OpenSpec.upto funWrapsSpec)) funWrapsUptoCard

/-- THE SECOND FORM's CARD OF 'backsteplaw35.FunPrefix'. -/
def funPrefixUptoCard : Claim7 := { stood := { row := funPrefixUptoRow, standIns := [], harness := (true, "74d3799d5ea5f276d8c4370b5dc366cba634711a625563e26e4c080ce19c1383"), looks := false }, kinds := [], alts := [], laidByText := true, laidKinds := [.listed, .data], laidTests := true, laidLooks := .later }
def FunPrefixUptoCardSaid : Prop := Claim7.holds Tryd.pinned (.plain (OpenSpec.upto funPrefixSpec)) funPrefixUptoCard

/-- THE SECOND FORM's CARD OF 'backsteplaw35.FunDistinct'. -/
def funDistinctUptoCard : Claim7 := { stood := { row := funDistinctUptoRow, standIns := [], harness := (true, "74d3799d5ea5f276d8c4370b5dc366cba634711a625563e26e4c080ce19c1383"), looks := false }, kinds := [], alts := [], laidByText := true, laidKinds := [.listed, .data], laidTests := true, laidLooks := .later }
def FunDistinctUptoCardSaid : Prop := Claim7.holds Tryd.pinned (.plain (OpenSpec.upto funDistinctSpec)) funDistinctUptoCard

/-- THE SECOND FORM's CARD OF 'backsteplaw35.FunEqual'. -/
def funEqualUptoCard : Claim7 := { stood := { row := funEqualUptoRow, standIns := [], harness := (true, "74d3799d5ea5f276d8c4370b5dc366cba634711a625563e26e4c080ce19c1383"), looks := false }, kinds := [], alts := [], laidByText := true, laidKinds := [.listed, .data], laidTests := true, laidLooks := .later }
def FunEqualUptoCardSaid : Prop := Claim7.holds Tryd.pinned (.plain (OpenSpec.upto funEqualSpec)) funEqualUptoCard
end Rows
end Go.Proofs.YtajknofacjiddaaDoor
