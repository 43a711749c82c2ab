/-
  DERIVED. GIVEN WITH THE SEED: THE CARDS: each row of YteeopjgfiojoiaaDoorRows.lean that lists a variable, with what it lists TIED to the program's text (the seventh form; the later family's looks); each row that meets fmt, with fmt's text TOLD by the authors' own Lean function (tested against real Go, not proved from fmt's source: count such statements apart). THE CARD IS WHAT COUNTS. Prove the row's statement (the work); the ties are given (YteeopjgfiojoiaaDoorTie.lean); close each card by the builder's one call (the guide's Derived/Test/ToyasCard.lean, 'card_holds'). Laid BY PROGRAM, IN A SANDBOX (cutbox-door.mjs). By AI agents, Wed Nov 11 2026. No macro, syntax, notation, axiom, sorry.
-/
import Derived.Test.YteeopjgfiojoiaaDoorRows
import GoSem.ClaimSeven
namespace Go.Proofs.YteeopjgfiojoiaaDoor
namespace Rows

/-- THE TIED CARD OF 'pidginlaw5.SetClasses'. -/
def setClassesCard : Claim7 := { stood := { row := setClassesRow, standIns := [], harness := (true, "d1ee64035fab923c921e8f2a716aca8bfde16f0a29ecbc6ab6a95b23813656c7"), looks := true }, kinds := [], alts := [], laidByText := true, laidKinds := [.sentinel, .sentinel, .sentinel, .sentinel, .sentinel, .sentinel, .sentinel, .sentinel, .sentinel, .sentinel, .sentinel, .sentinel, .sentinel, .sentinel, .sentinel, .sentinel, .sentinel, .sentinel, .sentinel, .sentinel, .sentinel], laidTests := true, laidLooks := .later }
def SetClassesCardSaid : Prop := Claim7.holds Tryd.pinned (.plain (OpenSpec.ofChange setClassesSpec)) setClassesCard

/-- THE TIED CARD OF 'pidginlaw5.SetMakes'. -/
def setMakesCard : Claim7 := { stood := { row := setMakesRow, standIns := [], harness := (true, "d1ee64035fab923c921e8f2a716aca8bfde16f0a29ecbc6ab6a95b23813656c7"), looks := true }, kinds := [], alts := [], laidByText := true, laidKinds := [.sentinel, .sentinel, .sentinel, .sentinel, .sentinel, .sentinel, .sentinel, .sentinel, .sentinel, .sentinel, .sentinel, .sentinel, .sentinel, .sentinel, .sentinel, .sentinel, .sentinel, .sentinel, .sentinel, .sentinel, .sentinel], laidTests := true, laidLooks := .later }
def SetMakesCardSaid : Prop := Claim7.holds Tryd.pinned (.plain (OpenSpec.ofChange setMakesSpec)) setMakesCard

/-- THE TIED CARD OF 'pidginlaw5.SetMorgan'. -/
def setMorganCard : Claim7 := { stood := { row := setMorganRow, standIns := [], harness := (true, "d1ee64035fab923c921e8f2a716aca8bfde16f0a29ecbc6ab6a95b23813656c7"), looks := true }, kinds := [], alts := [], laidByText := true, laidKinds := [.sentinel, .sentinel, .sentinel, .sentinel, .sentinel, .sentinel, .sentinel, .sentinel, .sentinel, .sentinel, .sentinel, .sentinel, .sentinel, .sentinel, .sentinel, .sentinel, .sentinel, .sentinel, .sentinel, .sentinel, .sentinel], laidTests := true, laidLooks := .later }
def SetMorganCardSaid : Prop := Claim7.holds Tryd.pinned (.plain (OpenSpec.ofChange setMorganSpec)) setMorganCard

/-- THE TIED CARD OF 'pidginlaw5.SetTexts'. -/
def setTextsCard : Claim7 := { stood := { row := setTextsRow, standIns := [], harness := (true, "d1ee64035fab923c921e8f2a716aca8bfde16f0a29ecbc6ab6a95b23813656c7"), looks := true }, kinds := [], alts := [], laidByText := true, laidKinds := [.sentinel, .sentinel, .sentinel, .sentinel, .sentinel, .sentinel, .sentinel, .sentinel, .sentinel, .sentinel, .sentinel, .sentinel, .sentinel, .sentinel, .sentinel, .sentinel, .sentinel, .sentinel, .sentinel, .sentinel, .sentinel], laidTests := true, laidLooks := .later }
def SetTextsCardSaid : Prop := Claim7.holds Tryd.pinned (.plain (OpenSpec.ofChange setTextsSpec)) setTextsCard

/-- THE TIED CARD OF 'pidginlaw5.SetBack'. -/
def setBackCard : Claim7 := { stood := { row := setBackRow, standIns := [], harness := (true, "d1ee64035fab923c921e8f2a716aca8bfde16f0a29ecbc6ab6a95b23813656c7"), looks := true }, kinds := [], alts := [], laidByText := true, laidKinds := [.sentinel, .sentinel, .sentinel, .sentinel, .sentinel, .sentinel, .sentinel, .sentinel, .sentinel, .sentinel, .sentinel, .sentinel, .sentinel, .sentinel, .sentinel, .sentinel, .sentinel, .sentinel, .sentinel, .sentinel, .sentinel], laidTests := true, laidLooks := .later }
def SetBackCardSaid : Prop := Claim7.holds Tryd.pinned (.plain (OpenSpec.ofChange setBackSpec)) setBackCard

/-- THE TIED CARD OF 'pidginlaw5.SetRanges'. -/
def setRangesCard : Claim7 := { stood := { row := setRangesRow, standIns := [], harness := (true, "d1ee64035fab923c921e8f2a716aca8bfde16f0a29ecbc6ab6a95b23813656c7"), looks := true }, kinds := [], alts := [], laidByText := true, laidKinds := [.sentinel, .sentinel, .sentinel, .sentinel, .sentinel, .sentinel, .sentinel, .sentinel, .sentinel, .sentinel, .sentinel, .sentinel, .sentinel, .sentinel, .sentinel, .sentinel, .sentinel, .sentinel, .sentinel, .sentinel, .sentinel], laidTests := true, laidLooks := .later }
def SetRangesCardSaid : Prop := Claim7.holds Tryd.pinned (.plain (OpenSpec.ofChange setRangesSpec)) setRangesCard

/-- THE TIED CARD OF 'pidginlaw6.GlobJoins'. -/
def globJoinsCard : Claim7 := { stood := { row := globJoinsRow, standIns := [], harness := (true, "d1ee64035fab923c921e8f2a716aca8bfde16f0a29ecbc6ab6a95b23813656c7"), looks := true }, kinds := [], alts := [], laidByText := true, laidKinds := [.sentinel, .sentinel, .sentinel, .sentinel, .sentinel, .sentinel, .sentinel, .sentinel, .sentinel, .sentinel, .sentinel, .sentinel, .sentinel, .sentinel, .sentinel, .sentinel, .sentinel, .sentinel, .sentinel, .sentinel, .sentinel], laidTests := true, laidLooks := .later }
def GlobJoinsCardSaid : Prop := Claim7.holds Tryd.pinned (.plain (OpenSpec.ofChange globJoinsSpec)) globJoinsCard

/-- THE TIED CARD OF 'pidginlaw6.GlobBack'. -/
def globBackCard : Claim7 := { stood := { row := globBackRow, standIns := [], harness := (true, "d1ee64035fab923c921e8f2a716aca8bfde16f0a29ecbc6ab6a95b23813656c7"), looks := true }, kinds := [], alts := [], laidByText := true, laidKinds := [.sentinel, .sentinel, .sentinel, .sentinel, .sentinel, .sentinel, .sentinel, .sentinel, .sentinel, .sentinel, .sentinel, .sentinel, .sentinel, .sentinel, .sentinel, .sentinel, .sentinel, .sentinel, .sentinel, .sentinel, .sentinel], laidTests := true, laidLooks := .later }
def GlobBackCardSaid : Prop := Claim7.holds Tryd.pinned (.plain (OpenSpec.ofChange globBackSpec)) globBackCard

/-- THE TIED CARD OF 'pidginlaw5.SetBrackets'. -/
def setBracketsCard : Claim7 := { stood := { row := setBracketsRow, standIns := [], harness := (true, "d1ee64035fab923c921e8f2a716aca8bfde16f0a29ecbc6ab6a95b23813656c7"), looks := true }, kinds := [], alts := [], laidByText := true, laidKinds := [.handle, .sentinel, .sentinel, .sentinel, .sentinel, .sentinel, .sentinel, .sentinel, .sentinel, .sentinel, .sentinel, .sentinel, .sentinel, .sentinel, .sentinel, .sentinel, .sentinel, .sentinel, .sentinel, .sentinel, .sentinel, .sentinel], laidTests := true, laidLooks := .later }
def SetBracketsCardSaid : Prop := Claim7.holds Tryd.pinned (.plain (OpenSpec.ofChange setBracketsSpec)) setBracketsCard

/-- THE TIED CARD OF 'pidginlaw5.SetTurned'. -/
def setTurnedCard : Claim7 := { stood := { row := setTurnedRow, standIns := [], harness := (true, "d1ee64035fab923c921e8f2a716aca8bfde16f0a29ecbc6ab6a95b23813656c7"), looks := true }, kinds := [], alts := [], laidByText := true, laidKinds := [.handle, .sentinel, .sentinel, .sentinel, .sentinel, .sentinel, .sentinel, .sentinel, .sentinel, .sentinel, .sentinel, .sentinel, .sentinel, .sentinel, .sentinel, .sentinel, .sentinel, .sentinel, .sentinel, .sentinel, .sentinel, .sentinel], laidTests := true, laidLooks := .later }
def SetTurnedCardSaid : Prop := Claim7.holds Tryd.pinned (.plain (OpenSpec.ofChange setTurnedSpec)) setTurnedCard

/-- THE TIED CARD OF 'pidginlaw6.GlobNil'. -/
def globNilCard : Claim7 := { stood := { row := globNilRow, standIns := [], harness := (true, "d1ee64035fab923c921e8f2a716aca8bfde16f0a29ecbc6ab6a95b23813656c7"), looks := true }, kinds := [], alts := [], laidByText := true, laidKinds := [.sentinel, .sentinel, .sentinel, .sentinel, .sentinel, .sentinel, .sentinel, .sentinel, .sentinel, .sentinel, .sentinel, .sentinel, .sentinel, .sentinel, .sentinel, .sentinel, .sentinel, .sentinel, .sentinel, .sentinel, .sentinel], laidTests := true, laidLooks := .later }
def GlobNilCardSaid : Prop := Claim7.holds Tryd.pinned (.plain (OpenSpec.ofChange globNilSpec)) globNilCard

/-- THE TIED CARD OF 'pidginlaw6.GlobQuotes'. -/
def globQuotesCard : Claim7 := { stood := { row := globQuotesRow, standIns := [], harness := (true, "d1ee64035fab923c921e8f2a716aca8bfde16f0a29ecbc6ab6a95b23813656c7"), looks := true }, kinds := [], alts := [], laidByText := true, laidKinds := [.sentinel, .sentinel, .sentinel, .sentinel, .sentinel, .sentinel, .sentinel, .sentinel, .sentinel, .sentinel, .sentinel, .sentinel, .sentinel, .sentinel, .sentinel, .sentinel, .sentinel, .sentinel, .sentinel, .sentinel, .sentinel], laidTests := true, laidLooks := .later }
def GlobQuotesCardSaid : Prop := Claim7.holds Tryd.pinned (.plain (OpenSpec.ofChange globQuotesSpec)) globQuotesCard

/-- THE TIED CARD OF 'pidginlaw6.GlobParses'. -/
def globParsesCard : Claim7 := { stood := { row := globParsesRow, standIns := [], harness := (true, "d1ee64035fab923c921e8f2a716aca8bfde16f0a29ecbc6ab6a95b23813656c7"), looks := true }, kinds := [], alts := [], laidByText := true, laidKinds := [.handle, .sentinel, .sentinel, .sentinel, .sentinel, .sentinel, .sentinel, .sentinel, .sentinel, .sentinel, .sentinel, .sentinel, .sentinel, .sentinel, .sentinel, .sentinel, .sentinel, .sentinel, .sentinel, .sentinel, .sentinel, .sentinel], laidTests := true, laidLooks := .later }
def GlobParsesCardSaid : Prop := Claim7.holds Tryd.pinned (.plain (OpenSpec.ofChange globParsesSpec)) globParsesCard

/-- THE TIED CARD OF 'pidginlaw6.GlobPlain'. -/
def globPlainCard : Claim7 := { stood := { row := globPlainRow, standIns := [], harness := (true, "d1ee64035fab923c921e8f2a716aca8bfde16f0a29ecbc6ab6a95b23813656c7"), looks := true }, kinds := [], alts := [], laidByText := true, laidKinds := [.handle, .sentinel, .sentinel, .sentinel, .sentinel, .sentinel, .sentinel, .sentinel, .sentinel, .sentinel, .sentinel, .sentinel, .sentinel, .sentinel, .sentinel, .sentinel, .sentinel, .sentinel, .sentinel, .sentinel, .sentinel, .sentinel], laidTests := true, laidLooks := .later }
def GlobPlainCardSaid : Prop := Claim7.holds Tryd.pinned (.plain (OpenSpec.ofChange globPlainSpec)) globPlainCard

/-- THE SECOND FORM's CARD OF 'pidginlaw5.SetClasses'. -/
def setClassesUptoCard : Claim7 := { stood := { row := setClassesUptoRow, standIns := [], harness := (true, "d1ee64035fab923c921e8f2a716aca8bfde16f0a29ecbc6ab6a95b23813656c7"), looks := true }, kinds := [], alts := [], laidByText := true, laidKinds := [.sentinel, .sentinel, .sentinel, .sentinel, .sentinel, .sentinel, .sentinel, .sentinel, .sentinel, .sentinel, .sentinel, .sentinel, .sentinel, .sentinel, .sentinel, .sentinel, .sentinel, .sentinel, .sentinel, .sentinel, .sentinel], laidTests := true, laidLooks := .later }
def SetClassesUptoCardSaid : Prop := Claim7.holds Tryd.pinned (.plain (OpenSpec.upto setClassesSpec)) setClassesUptoCard

/-- THE SECOND FORM's CARD OF 'pidginlaw5.SetMakes'. -/
def setMakesUptoCard : Claim7 := { stood := { row := setMakesUptoRow, standIns := [], harness := (true, "d1ee64035fab923c921e8f2a716aca8bfde16f0a29ecbc6ab6a95b23813656c7"), looks := true }, kinds := [], alts := [], laidByText := true, laidKinds := [.sentinel, .sentinel, .sentinel, .sentinel, .sentinel, .sentinel, .sentinel, .sentinel, .sentinel, .sentinel, .sentinel, .sentinel, .sentinel, .sentinel, .sentinel, .sentinel, .sentinel, .sentinel, .sentinel, .sentinel, .sentinel], laidTests := true, laidLooks := .later }
def SetMakesUptoCardSaid : Prop := Claim7.holds Tryd.pinned (.plain (OpenSpec.upto setMakesSpec)) setMakesUptoCard

/-- THE SECOND FORM's CARD OF 'pidginlaw5.SetMorgan'. -/
def setMorganUptoCard : Claim7 := { stood := { row := setMorganUptoRow, standIns := [], harness := (true, "d1ee64035fab923c921e8f2a716aca8bfde16f0a29ecbc6ab6a95b23813656c7"), looks := true }, kinds := [], alts := [], laidByText := true, laidKinds := [.sentinel, .sentinel, .sentinel, .sentinel, .sentinel, .sentinel, .sentinel, .sentinel, .sentinel, .sentinel, .sentinel, .sentinel, .sentinel, .sentinel, .sentinel, .sentinel, .sentinel, .sentinel, .sentinel, .sentinel, .sentinel], laidTests := true, laidLooks := .later }
def SetMorganUptoCardSaid : Prop := Claim7.holds Tryd.pinned (.plain (OpenSpec.upto setMorganSpec)) setMorganUptoCard

/-- THE SECOND FORM's CARD OF 'pidginlaw5.SetTexts'. -/
def setTextsUptoCard : Claim7 := { stood := { row := setTextsUptoRow, standIns := [], harness := (true, "d1ee64035fab923c921e8f2a716aca8bfde16f0a29ecbc6ab6a95b23813656c7"), looks := true }, kinds := [], alts := [], laidByText := true, laidKinds := [.sentinel, .sentinel, .sentinel, .sentinel, .sentinel, .sentinel, .sentinel, .sentinel, .sentinel, .sentinel, .sentinel, .sentinel, .sentinel, .sentinel, .sentinel, .sentinel, .sentinel, .sentinel, .sentinel, .sentinel, .sentinel], laidTests := true, laidLooks := .later }
def SetTextsUptoCardSaid : Prop := Claim7.holds Tryd.pinned (.plain (OpenSpec.upto setTextsSpec)) setTextsUptoCard

/-- THE SECOND FORM's CARD OF 'pidginlaw5.SetBack'. -/
def setBackUptoCard : Claim7 := { stood := { row := setBackUptoRow, standIns := [], harness := (true, "d1ee64035fab923c921e8f2a716aca8bfde16f0a29ecbc6ab6a95b23813656c7"), looks := true }, kinds := [], alts := [], laidByText := true, laidKinds := [.sentinel, .sentinel, .sentinel, .sentinel, .sentinel, .sentinel, .sentinel, .sentinel, .sentinel, .sentinel, .sentinel, .sentinel, .sentinel, .sentinel, .sentinel, .sentinel, .sentinel, .sentinel, .sentinel, .sentinel, .sentinel], laidTests := true, laidLooks := .later }
def SetBackUptoCardSaid : Prop := Claim7.holds Tryd.pinned (.plain (OpenSpec.upto setBackSpec)) setBackUptoCard

/-- THE SECOND FORM's CARD OF 'pidginlaw5.SetRanges'. -/
def setRangesUptoCard : Claim7 := { stood := { row := setRangesUptoRow, standIns := [], harness := (true, "d1ee64035fab923c921e8f2a716aca8bfde16f0a29ecbc6ab6a95b23813656c7"), looks := true }, kinds := [], alts := [], laidByText := true, laidKinds := [.sentinel, .sentinel, .sentinel, .sentinel, .sentinel, .sentinel, .sentinel, .sentinel, .sentinel, .sentinel, .sentinel, .sentinel, .sentinel, .sentinel, .sentinel, .sentinel, .sentinel, .sentinel, .sentinel, .sentinel, .sentinel], laidTests := true, laidLooks := .later }
def SetRangesUptoCardSaid : Prop := Claim7.holds Tryd.pinned (.plain (OpenSpec.upto setRangesSpec)) setRangesUptoCard

/-- THE SECOND FORM's CARD OF 'pidginlaw6.GlobJoins'. -/
def globJoinsUptoCard : Claim7 := { stood := { row := globJoinsUptoRow, standIns := [], harness := (true, "d1ee64035fab923c921e8f2a716aca8bfde16f0a29ecbc6ab6a95b23813656c7"), looks := true }, kinds := [], alts := [], laidByText := true, laidKinds := [.sentinel, .sentinel, .sentinel, .sentinel, .sentinel, .sentinel, .sentinel, .sentinel, .sentinel, .sentinel, .sentinel, .sentinel, .sentinel, .sentinel, .sentinel, .sentinel, .sentinel, .sentinel, .sentinel, .sentinel, .sentinel], laidTests := true, laidLooks := .later }
def GlobJoinsUptoCardSaid : Prop := Claim7.holds Tryd.pinned (.plain (OpenSpec.upto globJoinsSpec)) globJoinsUptoCard

/-- THE SECOND FORM's CARD OF 'pidginlaw6.GlobBack'. -/
def globBackUptoCard : Claim7 := { stood := { row := globBackUptoRow, standIns := [], harness := (true, "d1ee64035fab923c921e8f2a716aca8bfde16f0a29ecbc6ab6a95b23813656c7"), looks := true }, kinds := [], alts := [], laidByText := true, laidKinds := [.sentinel, .sentinel, .sentinel, .sentinel, .sentinel, .sentinel, .sentinel, .sentinel, .sentinel, .sentinel, .sentinel, .sentinel, .sentinel, .sentinel, .sentinel, .sentinel, .sentinel, .sentinel, .sentinel, .sentinel, .sentinel], laidTests := true, laidLooks := .later }
def GlobBackUptoCardSaid : Prop := Claim7.holds Tryd.pinned (.plain (OpenSpec.upto globBackSpec)) globBackUptoCard

/-- THE SECOND FORM's CARD OF 'pidginlaw5.SetBrackets'. -/
def setBracketsUptoCard : Claim7 := { stood := { row := setBracketsUptoRow, standIns := [], harness := (true, "d1ee64035fab923c921e8f2a716aca8bfde16f0a29ecbc6ab6a95b23813656c7"), looks := true }, kinds := [], alts := [], laidByText := true, laidKinds := [.handle, .sentinel, .sentinel, .sentinel, .sentinel, .sentinel, .sentinel, .sentinel, .sentinel, .sentinel, .sentinel, .sentinel, .sentinel, .sentinel, .sentinel, .sentinel, .sentinel, .sentinel, .sentinel, .sentinel, .sentinel, .sentinel], laidTests := true, laidLooks := .later }
def SetBracketsUptoCardSaid : Prop := Claim7.holds Tryd.pinned (.plain (OpenSpec.upto setBracketsSpec)) setBracketsUptoCard

/-- THE SECOND FORM's CARD OF 'pidginlaw5.SetTurned'. -/
def setTurnedUptoCard : Claim7 := { stood := { row := setTurnedUptoRow, standIns := [], harness := (true, "d1ee64035fab923c921e8f2a716aca8bfde16f0a29ecbc6ab6a95b23813656c7"), looks := true }, kinds := [], alts := [], laidByText := true, laidKinds := [.handle, .sentinel, .sentinel, .sentinel, .sentinel, .sentinel, .sentinel, .sentinel, .sentinel, .sentinel, .sentinel, .sentinel, .sentinel, .sentinel, .sentinel, .sentinel, .sentinel, .sentinel, .sentinel, .sentinel, .sentinel, .sentinel], laidTests := true, laidLooks := .later }
def SetTurnedUptoCardSaid : Prop := Claim7.holds Tryd.pinned (.plain (OpenSpec.upto setTurnedSpec)) setTurnedUptoCard

/-- THE SECOND FORM's CARD OF 'pidginlaw6.GlobNil'. -/
def globNilUptoCard : Claim7 := { stood := { row := globNilUptoRow, standIns := [], harness := (true, "d1ee64035fab923c921e8f2a716aca8bfde16f0a29ecbc6ab6a95b23813656c7"), looks := true }, kinds := [], alts := [], laidByText := true, laidKinds := [.sentinel, .sentinel, .sentinel, .sentinel, .sentinel, .sentinel, .sentinel, .sentinel, .sentinel, .sentinel, .sentinel, .sentinel, .sentinel, .sentinel, .sentinel, .sentinel, .sentinel, .sentinel, .sentinel, .sentinel, .sentinel], laidTests := true, laidLooks := .later }
def GlobNilUptoCardSaid : Prop := Claim7.holds Tryd.pinned (.plain (OpenSpec.upto globNilSpec)) globNilUptoCard

/-- THE SECOND FORM's CARD OF 'pidginlaw6.GlobQuotes'. -/
def globQuotesUptoCard : Claim7 := { stood := { row := globQuotesUptoRow, standIns := [], harness := (true, "d1ee64035fab923c921e8f2a716aca8bfde16f0a29ecbc6ab6a95b23813656c7"), looks := true }, kinds := [], alts := [], laidByText := true, laidKinds := [.sentinel, .sentinel, .sentinel, .sentinel, .sentinel, .sentinel, .sentinel, .sentinel, .sentinel, .sentinel, .sentinel, .sentinel, .sentinel, .sentinel, .sentinel, .sentinel, .sentinel, .sentinel, .sentinel, .sentinel, .sentinel], laidTests := true, laidLooks := .later }
def GlobQuotesUptoCardSaid : Prop := Claim7.holds Tryd.pinned (.plain (OpenSpec.upto globQuotesSpec)) globQuotesUptoCard

/-- THE SECOND FORM's CARD OF 'pidginlaw6.GlobParses'. -/
def globParsesUptoCard : Claim7 := { stood := { row := globParsesUptoRow, standIns := [], harness := (true, "d1ee64035fab923c921e8f2a716aca8bfde16f0a29ecbc6ab6a95b23813656c7"), looks := true }, kinds := [], alts := [], laidByText := true, laidKinds := [.handle, .sentinel, .sentinel, .sentinel, .sentinel, .sentinel, .sentinel, .sentinel, .sentinel, .sentinel, .sentinel, .sentinel, .sentinel, .sentinel, .sentinel, .sentinel, .sentinel, .sentinel, .sentinel, .sentinel, .sentinel, .sentinel], laidTests := true, laidLooks := .later }
def GlobParsesUptoCardSaid : Prop := Claim7.holds Tryd.pinned (.plain (OpenSpec.upto globParsesSpec)) globParsesUptoCard

/-- THE SECOND FORM's CARD OF 'pidginlaw6.GlobPlain'. -/
def globPlainUptoCard : Claim7 := { stood := { row := globPlainUptoRow, standIns := [], harness := (true, "d1ee64035fab923c921e8f2a716aca8bfde16f0a29ecbc6ab6a95b23813656c7"), looks := true }, kinds := [], alts := [], laidByText := true, laidKinds := [.handle, .sentinel, .sentinel, .sentinel, .sentinel, .sentinel, .sentinel, .sentinel, .sentinel, .sentinel, .sentinel, .sentinel, .sentinel, .sentinel, .sentinel, .sentinel, .sentinel, .sentinel, .sentinel, .sentinel, .sentinel, .sentinel], laidTests := true, laidLooks := .later }
def GlobPlainUptoCardSaid : Prop := Claim7.holds Tryd.pinned (.plain (OpenSpec.upto globPlainSpec)) globPlainUptoCard
end Rows
end Go.Proofs.YteeopjgfiojoiaaDoor
