/-
  DERIVED. GIVEN WITH THE SEED: THE CARDS: each row of YtfnaooplpofgiaaDoorRows.lean that lists a variable, with what it lists TIED to the program's text (the seventh form; the later family's looks); each row that meets fmt, with fmt's text TOLD by the authors' own Lean function (tested against real Go, not proved from fmt's source: count such statements apart). THE CARD IS WHAT COUNTS. Prove the row's statement (the work); the ties are given (YtfnaooplpofgiaaDoorTie.lean); close each card by the builder's one call (the guide's Derived/Test/ToyasCard.lean, 'card_holds'). Laid BY PROGRAM, IN A SANDBOX (cutbox-door.mjs). By AI agents, Wed Nov 11 2026. No macro, syntax, notation, axiom, sorry.
-/
import Derived.Test.YtfnaooplpofgiaaDoorRows
import GoSem.ClaimSeven
namespace Go.Proofs.YtfnaooplpofgiaaDoor
namespace Rows

/-- THE TIED CARD OF 'pidginlaw18.TestSame'. -/
def testSameCard : Claim7 := { stood := { row := testSameRow, standIns := [], harness := (true, "3b59848c46b13d7b9ffac48c8b26da4e13ae69bbb3a7d6084c9b3da7ec0f0a97"), looks := true }, kinds := [], alts := [], laidByText := true, laidKinds := [.data, .handle, .sentinel, .sentinel, .sentinel, .sentinel, .sentinel, .sentinel, .sentinel, .sentinel, .sentinel, .sentinel, .sentinel, .sentinel, .sentinel, .sentinel, .sentinel, .sentinel, .sentinel, .sentinel, .sentinel, .sentinel, .sentinel, .pinned], laidTests := true, laidLooks := .later }
def TestSameCardSaid : Prop := Claim7.holds Tryd.pinned (.plain (OpenSpec.ofChange testSameSpec)) testSameCard

/-- THE TIED CARD OF 'pidginlaw18.TestOrder'. -/
def testOrderCard : Claim7 := { stood := { row := testOrderRow, standIns := [], harness := (true, "3b59848c46b13d7b9ffac48c8b26da4e13ae69bbb3a7d6084c9b3da7ec0f0a97"), looks := true }, kinds := [], alts := [], laidByText := true, laidKinds := [.data, .handle, .sentinel, .sentinel, .sentinel, .sentinel, .sentinel, .sentinel, .sentinel, .sentinel, .sentinel, .sentinel, .sentinel, .sentinel, .sentinel, .sentinel, .sentinel, .sentinel, .sentinel, .sentinel, .sentinel, .sentinel, .sentinel, .pinned], laidTests := true, laidLooks := .later }
def TestOrderCardSaid : Prop := Claim7.holds Tryd.pinned (.plain (OpenSpec.ofChange testOrderSpec)) testOrderCard

/-- THE TIED CARD OF 'pidginlaw18.TestMade'. -/
def testMadeCard : Claim7 := { stood := { row := testMadeRow, standIns := [], harness := (true, "3b59848c46b13d7b9ffac48c8b26da4e13ae69bbb3a7d6084c9b3da7ec0f0a97"), looks := true }, kinds := [], alts := [], laidByText := true, laidKinds := [.data, .handle, .sentinel, .sentinel, .sentinel, .sentinel, .sentinel, .sentinel, .sentinel, .sentinel, .sentinel, .sentinel, .sentinel, .sentinel, .sentinel, .sentinel, .sentinel, .sentinel, .sentinel, .sentinel, .sentinel, .sentinel, .sentinel, .pinned], laidTests := true, laidLooks := .later }
def TestMadeCardSaid : Prop := Claim7.holds Tryd.pinned (.plain (OpenSpec.ofChange testMadeSpec)) testMadeCard

/-- THE SECOND FORM's CARD OF 'pidginlaw18.TestSame'. -/
def testSameUptoCard : Claim7 := { stood := { row := testSameUptoRow, standIns := [], harness := (true, "3b59848c46b13d7b9ffac48c8b26da4e13ae69bbb3a7d6084c9b3da7ec0f0a97"), looks := true }, kinds := [], alts := [], laidByText := true, laidKinds := [.data, .handle, .sentinel, .sentinel, .sentinel, .sentinel, .sentinel, .sentinel, .sentinel, .sentinel, .sentinel, .sentinel, .sentinel, .sentinel, .sentinel, .sentinel, .sentinel, .sentinel, .sentinel, .sentinel, .sentinel, .sentinel, .sentinel, .pinned], laidTests := true, laidLooks := .later }
def TestSameUptoCardSaid : Prop := Claim7.holds Tryd.pinned (.plain (OpenSpec.upto testSameSpec)) testSameUptoCard

/-- THE SECOND FORM's CARD OF 'pidginlaw18.TestOrder'. -/
def testOrderUptoCard : Claim7 := { stood := { row := testOrderUptoRow, standIns := [], harness := (true, "3b59848c46b13d7b9ffac48c8b26da4e13ae69bbb3a7d6084c9b3da7ec0f0a97"), looks := true }, kinds := [], alts := [], laidByText := true, laidKinds := [.data, .handle, .sentinel, .sentinel, .sentinel, .sentinel, .sentinel, .sentinel, .sentinel, .sentinel, .sentinel, .sentinel, .sentinel, .sentinel, .sentinel, .sentinel, .sentinel, .sentinel, .sentinel, .sentinel, .sentinel, .sentinel, .sentinel, .pinned], laidTests := true, laidLooks := .later }
def TestOrderUptoCardSaid : Prop := Claim7.holds Tryd.pinned (.plain (OpenSpec.upto testOrderSpec)) testOrderUptoCard

/-- THE SECOND FORM's CARD OF 'pidginlaw18.TestMade'. -/
def testMadeUptoCard : Claim7 := { stood := { row := testMadeUptoRow, standIns := [], harness := (true, "3b59848c46b13d7b9ffac48c8b26da4e13ae69bbb3a7d6084c9b3da7ec0f0a97"), looks := true }, kinds := [], alts := [], laidByText := true, laidKinds := [.data, .handle, .sentinel, .sentinel, .sentinel, .sentinel, .sentinel, .sentinel, .sentinel, .sentinel, .sentinel, .sentinel, .sentinel, .sentinel, .sentinel, .sentinel, .sentinel, .sentinel, .sentinel, .sentinel, .sentinel, .sentinel, .sentinel, .pinned], laidTests := true, laidLooks := .later }
def TestMadeUptoCardSaid : Prop := Claim7.holds Tryd.pinned (.plain (OpenSpec.upto testMadeSpec)) testMadeUptoCard
end Rows
end Go.Proofs.YtfnaooplpofgiaaDoor
