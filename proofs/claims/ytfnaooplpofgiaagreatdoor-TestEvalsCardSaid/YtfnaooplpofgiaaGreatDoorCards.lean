/-
  DERIVED. GIVEN WITH THE SEED: THE CARDS: each row of YtfnaooplpofgiaaGreatDoorRows.lean that lists a variable, with what it lists TIED to the program's text (the seventh form; the later family's looks); each row that meets fmt, with fmt's text TOLD by the authors' own Lean function (tested against real Go, not proved from fmt's source: count such statements apart). THE CARD IS WHAT COUNTS. Prove the row's statement (the work); the ties are given (YtfnaooplpofgiaaGreatDoorTie.lean); close each card by the builder's one call (the guide's Derived/Test/ToyasCard.lean, 'card_holds'). Laid BY PROGRAM, IN A SANDBOX (cutbox-door.mjs). By AI agents, Wed Nov 11 2026. No macro, syntax, notation, axiom, sorry.
-/
import Derived.Test.YtfnaooplpofgiaaGreatDoorRows
import GoSem.ClaimSeven
namespace Go.Proofs.YtfnaooplpofgiaaGreatDoor
namespace Rows

/-- THE TIED CARD OF 'pidginlaw18.TestNumbers'. -/
def testNumbersCard : Claim7 := { stood := { row := testNumbersRow, standIns := [], harness := (true, "140b0b9f87d4b89bc75cab15947e392c928726ffde013acb34a1e86c24c8fa69"), looks := true }, kinds := [], alts := [], laidByText := true, laidKinds := [.data, .handle, .sentinel, .sentinel, .sentinel, .sentinel, .sentinel, .sentinel, .sentinel, .sentinel, .sentinel, .sentinel, .sentinel, .sentinel, .sentinel, .sentinel, .sentinel, .sentinel, .sentinel, .sentinel, .sentinel, .sentinel, .sentinel, .pinned], laidTests := true, laidLooks := .later }
def TestNumbersCardSaid : Prop := Claim7.holds Tryz.pinned (.plain (OpenSpec.ofChange testNumbersSpec)) testNumbersCard

/-- THE TIED CARD OF 'pidginlaw18.TestNot'. -/
def testNotCard : Claim7 := { stood := { row := testNotRow, standIns := [], harness := (true, "140b0b9f87d4b89bc75cab15947e392c928726ffde013acb34a1e86c24c8fa69"), looks := true }, kinds := [], alts := [], laidByText := true, laidKinds := [.data, .handle, .sentinel, .sentinel, .sentinel, .sentinel, .sentinel, .sentinel, .sentinel, .sentinel, .sentinel, .sentinel, .sentinel, .sentinel, .sentinel, .sentinel, .sentinel, .sentinel, .sentinel, .sentinel, .sentinel, .sentinel, .sentinel, .pinned], laidTests := true, laidLooks := .later }
def TestNotCardSaid : Prop := Claim7.holds Tryz.pinned (.plain (OpenSpec.ofChange testNotSpec)) testNotCard

/-- THE TIED CARD OF 'pidginlaw18.TestFiles'. -/
def testFilesCard : Claim7 := { stood := { row := testFilesRow, standIns := [], harness := (true, "140b0b9f87d4b89bc75cab15947e392c928726ffde013acb34a1e86c24c8fa69"), looks := true }, kinds := [], alts := [], laidByText := true, laidKinds := [.data, .handle, .sentinel, .sentinel, .sentinel, .sentinel, .sentinel, .sentinel, .sentinel, .sentinel, .sentinel, .sentinel, .sentinel, .sentinel, .sentinel, .sentinel, .sentinel, .sentinel, .sentinel, .sentinel, .sentinel, .sentinel, .sentinel, .pinned], laidTests := true, laidLooks := .later }
def TestFilesCardSaid : Prop := Claim7.holds Tryz.pinned (.plain (OpenSpec.ofChange testFilesSpec)) testFilesCard

/-- THE TIED CARD OF 'pidginlaw18.TestEvals'. -/
def testEvalsCard : Claim7 := { stood := { row := testEvalsRow, standIns := [], harness := (true, "140b0b9f87d4b89bc75cab15947e392c928726ffde013acb34a1e86c24c8fa69"), looks := true }, kinds := [], alts := [], laidByText := true, laidKinds := [.data, .handle, .sentinel, .sentinel, .sentinel, .sentinel, .sentinel, .sentinel, .sentinel, .sentinel, .sentinel, .sentinel, .sentinel, .sentinel, .sentinel, .sentinel, .sentinel, .sentinel, .sentinel, .sentinel, .sentinel, .sentinel, .sentinel, .pinned], laidTests := true, laidLooks := .later }
def TestEvalsCardSaid : Prop := Claim7.holds Tryz.pinned (.plain (OpenSpec.ofChange testEvalsSpec)) testEvalsCard

/-- THE SECOND FORM's CARD OF 'pidginlaw18.TestNumbers'. -/
def testNumbersUptoCard : Claim7 := { stood := { row := testNumbersUptoRow, standIns := [], harness := (true, "140b0b9f87d4b89bc75cab15947e392c928726ffde013acb34a1e86c24c8fa69"), looks := true }, kinds := [], alts := [], laidByText := true, laidKinds := [.data, .handle, .sentinel, .sentinel, .sentinel, .sentinel, .sentinel, .sentinel, .sentinel, .sentinel, .sentinel, .sentinel, .sentinel, .sentinel, .sentinel, .sentinel, .sentinel, .sentinel, .sentinel, .sentinel, .sentinel, .sentinel, .sentinel, .pinned], laidTests := true, laidLooks := .later }
def TestNumbersUptoCardSaid : Prop := Claim7.holds Tryz.pinned (.plain (OpenSpec.upto testNumbersSpec)) testNumbersUptoCard

/-- THE SECOND FORM's CARD OF 'pidginlaw18.TestNot'. -/
def testNotUptoCard : Claim7 := { stood := { row := testNotUptoRow, standIns := [], harness := (true, "140b0b9f87d4b89bc75cab15947e392c928726ffde013acb34a1e86c24c8fa69"), looks := true }, kinds := [], alts := [], laidByText := true, laidKinds := [.data, .handle, .sentinel, .sentinel, .sentinel, .sentinel, .sentinel, .sentinel, .sentinel, .sentinel, .sentinel, .sentinel, .sentinel, .sentinel, .sentinel, .sentinel, .sentinel, .sentinel, .sentinel, .sentinel, .sentinel, .sentinel, .sentinel, .pinned], laidTests := true, laidLooks := .later }
def TestNotUptoCardSaid : Prop := Claim7.holds Tryz.pinned (.plain (OpenSpec.upto testNotSpec)) testNotUptoCard

/-- THE SECOND FORM's CARD OF 'pidginlaw18.TestFiles'. -/
def testFilesUptoCard : Claim7 := { stood := { row := testFilesUptoRow, standIns := [], harness := (true, "140b0b9f87d4b89bc75cab15947e392c928726ffde013acb34a1e86c24c8fa69"), looks := true }, kinds := [], alts := [], laidByText := true, laidKinds := [.data, .handle, .sentinel, .sentinel, .sentinel, .sentinel, .sentinel, .sentinel, .sentinel, .sentinel, .sentinel, .sentinel, .sentinel, .sentinel, .sentinel, .sentinel, .sentinel, .sentinel, .sentinel, .sentinel, .sentinel, .sentinel, .sentinel, .pinned], laidTests := true, laidLooks := .later }
def TestFilesUptoCardSaid : Prop := Claim7.holds Tryz.pinned (.plain (OpenSpec.upto testFilesSpec)) testFilesUptoCard

/-- THE SECOND FORM's CARD OF 'pidginlaw18.TestEvals'. -/
def testEvalsUptoCard : Claim7 := { stood := { row := testEvalsUptoRow, standIns := [], harness := (true, "140b0b9f87d4b89bc75cab15947e392c928726ffde013acb34a1e86c24c8fa69"), looks := true }, kinds := [], alts := [], laidByText := true, laidKinds := [.data, .handle, .sentinel, .sentinel, .sentinel, .sentinel, .sentinel, .sentinel, .sentinel, .sentinel, .sentinel, .sentinel, .sentinel, .sentinel, .sentinel, .sentinel, .sentinel, .sentinel, .sentinel, .sentinel, .sentinel, .sentinel, .sentinel, .pinned], laidTests := true, laidLooks := .later }
def TestEvalsUptoCardSaid : Prop := Claim7.holds Tryz.pinned (.plain (OpenSpec.upto testEvalsSpec)) testEvalsUptoCard
end Rows
end Go.Proofs.YtfnaooplpofgiaaGreatDoor
