/-
  DERIVED. GIVEN WITH THE SEED: THE PROGRAM's TIES (one call each: nine closed facts by the kernel) AND EACH ROW's TIE, after the 31st guide's Derived/Test/Toyas{Tie, Card}.lean. No idea stands in it: it is a product of the set-up. Laid BY PROGRAM, IN A SANDBOX (cutbox-door.mjs). By AI agents, Wed Nov 11 2026. No macro, syntax, notation, axiom, sorry.
-/
import Derived.Test.YtfnaooplpofgiaaGreatDoorRows
import Derived.LaidByTextLater
import Derived.SevenTiedAt
import Derived.LaidSub
import Derived.LaidOnce
namespace Go.Proofs.YtfnaooplpofgiaaGreatDoor
open Go
set_option maxRecDepth 100000
theorem seatTie1 : Tryz.prog.laidByTextLater [("unicode/utf8.acceptRanges", Rows.laid_unicode_utf8_acceptRanges), ("errors.errorType", Rows.laid_errors_errorType), ("pidgin/fault.errArg", Rows.laid_pidgin_fault_errArg), ("pidgin/fault.errLong", Rows.laid_pidgin_fault_errLong), ("pidgin/fault.errSyntax", Rows.laid_pidgin_fault_errSyntax), ("pidgin/fault.errDeep", Rows.laid_pidgin_fault_errDeep), ("pidgin/fault.errMany", Rows.laid_pidgin_fault_errMany), ("pidgin/fault.errNumber", Rows.laid_pidgin_fault_errNumber), ("pidgin/fault.errRange", Rows.laid_pidgin_fault_errRange), ("pidgin/fault.errBracket", Rows.laid_pidgin_fault_errBracket), ("pidgin/fault.errGroup", Rows.laid_pidgin_fault_errGroup), ("pidgin/fault.errEscape", Rows.laid_pidgin_fault_errEscape), ("pidgin/fault.errStates", Rows.laid_pidgin_fault_errStates), ("pidgin/fault.errDivide", Rows.laid_pidgin_fault_errDivide), ("pidgin/fault.errValue", Rows.laid_pidgin_fault_errValue), ("pidgin/fault.errOperand", Rows.laid_pidgin_fault_errOperand), ("pidgin/fault.errName", Rows.laid_pidgin_fault_errName), ("pidgin/fault.errFile", Rows.laid_pidgin_fault_errFile), ("pidgin/fault.errDir", Rows.laid_pidgin_fault_errDir), ("pidgin/fault.errExists", Rows.laid_pidgin_fault_errExists), ("pidgin/fault.errFull", Rows.laid_pidgin_fault_errFull), ("pidgin/fault.errLabel", Rows.laid_pidgin_fault_errLabel), ("pidgin/fault.errFuel", Rows.laid_pidgin_fault_errFuel)] [.data, .handle, .sentinel, .sentinel, .sentinel, .sentinel, .sentinel, .sentinel, .sentinel, .sentinel, .sentinel, .sentinel, .sentinel, .sentinel, .sentinel, .sentinel, .sentinel, .sentinel, .sentinel, .sentinel, .sentinel, .sentinel, .sentinel] true :=
  Program.laidByTextLater_by_one 425 8 33 (by kernel_rfl) (by kernel_rfl) (by kernel_rfl) (by kernel_rfl) (by kernel_rfl) (by kernel_rfl) (fun _ _ => by kernel_rfl)
theorem pin_laid_unicode_utf8_first : Tryz.pinned.checked.prog.pinnedFits "unicode/utf8.first" = true := by kernel_rfl
theorem noOwnUnsafe : Tryz.pinned.checked.prog.headLifts.contains "ownunsafe" = false := by kernel_rfl
theorem fits1 : Tryz.pinned.checked.prog.listedFits [("unicode/utf8.acceptRanges", Rows.laid_unicode_utf8_acceptRanges), ("errors.errorType", Rows.laid_errors_errorType), ("pidgin/fault.errArg", Rows.laid_pidgin_fault_errArg), ("pidgin/fault.errLong", Rows.laid_pidgin_fault_errLong), ("pidgin/fault.errSyntax", Rows.laid_pidgin_fault_errSyntax), ("pidgin/fault.errDeep", Rows.laid_pidgin_fault_errDeep), ("pidgin/fault.errMany", Rows.laid_pidgin_fault_errMany), ("pidgin/fault.errNumber", Rows.laid_pidgin_fault_errNumber), ("pidgin/fault.errRange", Rows.laid_pidgin_fault_errRange), ("pidgin/fault.errBracket", Rows.laid_pidgin_fault_errBracket), ("pidgin/fault.errGroup", Rows.laid_pidgin_fault_errGroup), ("pidgin/fault.errEscape", Rows.laid_pidgin_fault_errEscape), ("pidgin/fault.errStates", Rows.laid_pidgin_fault_errStates), ("pidgin/fault.errDivide", Rows.laid_pidgin_fault_errDivide), ("pidgin/fault.errValue", Rows.laid_pidgin_fault_errValue), ("pidgin/fault.errOperand", Rows.laid_pidgin_fault_errOperand), ("pidgin/fault.errName", Rows.laid_pidgin_fault_errName), ("pidgin/fault.errFile", Rows.laid_pidgin_fault_errFile), ("pidgin/fault.errDir", Rows.laid_pidgin_fault_errDir), ("pidgin/fault.errExists", Rows.laid_pidgin_fault_errExists), ("pidgin/fault.errFull", Rows.laid_pidgin_fault_errFull), ("pidgin/fault.errLabel", Rows.laid_pidgin_fault_errLabel), ("pidgin/fault.errFuel", Rows.laid_pidgin_fault_errFuel), ("unicode/utf8.first", Rows.laid_unicode_utf8_first)] = true := by
  unfold Program.listedFits
  rw [noOwnUnsafe]
  kernel_rfl
theorem tie : Tryz.prog.laidByTextLater [("unicode/utf8.acceptRanges", Rows.laid_unicode_utf8_acceptRanges), ("errors.errorType", Rows.laid_errors_errorType), ("pidgin/fault.errArg", Rows.laid_pidgin_fault_errArg), ("pidgin/fault.errLong", Rows.laid_pidgin_fault_errLong), ("pidgin/fault.errSyntax", Rows.laid_pidgin_fault_errSyntax), ("pidgin/fault.errDeep", Rows.laid_pidgin_fault_errDeep), ("pidgin/fault.errMany", Rows.laid_pidgin_fault_errMany), ("pidgin/fault.errNumber", Rows.laid_pidgin_fault_errNumber), ("pidgin/fault.errRange", Rows.laid_pidgin_fault_errRange), ("pidgin/fault.errBracket", Rows.laid_pidgin_fault_errBracket), ("pidgin/fault.errGroup", Rows.laid_pidgin_fault_errGroup), ("pidgin/fault.errEscape", Rows.laid_pidgin_fault_errEscape), ("pidgin/fault.errStates", Rows.laid_pidgin_fault_errStates), ("pidgin/fault.errDivide", Rows.laid_pidgin_fault_errDivide), ("pidgin/fault.errValue", Rows.laid_pidgin_fault_errValue), ("pidgin/fault.errOperand", Rows.laid_pidgin_fault_errOperand), ("pidgin/fault.errName", Rows.laid_pidgin_fault_errName), ("pidgin/fault.errFile", Rows.laid_pidgin_fault_errFile), ("pidgin/fault.errDir", Rows.laid_pidgin_fault_errDir), ("pidgin/fault.errExists", Rows.laid_pidgin_fault_errExists), ("pidgin/fault.errFull", Rows.laid_pidgin_fault_errFull), ("pidgin/fault.errLabel", Rows.laid_pidgin_fault_errLabel), ("pidgin/fault.errFuel", Rows.laid_pidgin_fault_errFuel)] [.data, .handle, .sentinel, .sentinel, .sentinel, .sentinel, .sentinel, .sentinel, .sentinel, .sentinel, .sentinel, .sentinel, .sentinel, .sentinel, .sentinel, .sentinel, .sentinel, .sentinel, .sentinel, .sentinel, .sentinel, .sentinel, .sentinel] true :=
  Program.laidByTextLater.sub seatTie1 ["unicode/utf8.acceptRanges", "errors.errorType", "pidgin/fault.errArg", "pidgin/fault.errLong", "pidgin/fault.errSyntax", "pidgin/fault.errDeep", "pidgin/fault.errMany", "pidgin/fault.errNumber", "pidgin/fault.errRange", "pidgin/fault.errBracket", "pidgin/fault.errGroup", "pidgin/fault.errEscape", "pidgin/fault.errStates", "pidgin/fault.errDivide", "pidgin/fault.errValue", "pidgin/fault.errOperand", "pidgin/fault.errName", "pidgin/fault.errFile", "pidgin/fault.errDir", "pidgin/fault.errExists", "pidgin/fault.errFull", "pidgin/fault.errLabel", "pidgin/fault.errFuel"] (by kernel_rfl) (by kernel_rfl)
theorem testNumbers_row_tie : Rows.testNumbersRow.laidByTextAt .later Tryz.pinned [.data, .handle, .sentinel, .sentinel, .sentinel, .sentinel, .sentinel, .sentinel, .sentinel, .sentinel, .sentinel, .sentinel, .sentinel, .sentinel, .sentinel, .sentinel, .sentinel, .sentinel, .sentinel, .sentinel, .sentinel, .sentinel, .sentinel, .pinned] true :=
  OpenClaim.laidByTextAt_pinned rfl rfl tie rfl rfl rfl rfl (fun y hy _e => by
    simp only [Rows.testNumbersRow, List.zip_cons_cons, List.zip_nil_right, List.mem_cons, List.mem_nil_iff, or_false] at hy
    rcases hy with rfl | rfl | rfl | rfl | rfl | rfl | rfl | rfl | rfl | rfl | rfl | rfl | rfl | rfl | rfl | rfl | rfl | rfl | rfl | rfl | rfl | rfl | rfl | rfl
    · cases _e
    · cases _e
    · cases _e
    · cases _e
    · cases _e
    · cases _e
    · cases _e
    · cases _e
    · cases _e
    · cases _e
    · cases _e
    · cases _e
    · cases _e
    · cases _e
    · cases _e
    · cases _e
    · cases _e
    · cases _e
    · cases _e
    · cases _e
    · cases _e
    · cases _e
    · cases _e
    · exact ⟨pin_laid_unicode_utf8_first, by kernel_rfl⟩) fits1
theorem testNot_row_tie : Rows.testNotRow.laidByTextAt .later Tryz.pinned [.data, .handle, .sentinel, .sentinel, .sentinel, .sentinel, .sentinel, .sentinel, .sentinel, .sentinel, .sentinel, .sentinel, .sentinel, .sentinel, .sentinel, .sentinel, .sentinel, .sentinel, .sentinel, .sentinel, .sentinel, .sentinel, .sentinel, .pinned] true :=
  OpenClaim.laidByTextAt_pinned rfl rfl tie rfl rfl rfl rfl (fun y hy _e => by
    simp only [Rows.testNotRow, List.zip_cons_cons, List.zip_nil_right, List.mem_cons, List.mem_nil_iff, or_false] at hy
    rcases hy with rfl | rfl | rfl | rfl | rfl | rfl | rfl | rfl | rfl | rfl | rfl | rfl | rfl | rfl | rfl | rfl | rfl | rfl | rfl | rfl | rfl | rfl | rfl | rfl
    · cases _e
    · cases _e
    · cases _e
    · cases _e
    · cases _e
    · cases _e
    · cases _e
    · cases _e
    · cases _e
    · cases _e
    · cases _e
    · cases _e
    · cases _e
    · cases _e
    · cases _e
    · cases _e
    · cases _e
    · cases _e
    · cases _e
    · cases _e
    · cases _e
    · cases _e
    · cases _e
    · exact ⟨pin_laid_unicode_utf8_first, by kernel_rfl⟩) fits1
theorem testFiles_row_tie : Rows.testFilesRow.laidByTextAt .later Tryz.pinned [.data, .handle, .sentinel, .sentinel, .sentinel, .sentinel, .sentinel, .sentinel, .sentinel, .sentinel, .sentinel, .sentinel, .sentinel, .sentinel, .sentinel, .sentinel, .sentinel, .sentinel, .sentinel, .sentinel, .sentinel, .sentinel, .sentinel, .pinned] true :=
  OpenClaim.laidByTextAt_pinned rfl rfl tie rfl rfl rfl rfl (fun y hy _e => by
    simp only [Rows.testFilesRow, List.zip_cons_cons, List.zip_nil_right, List.mem_cons, List.mem_nil_iff, or_false] at hy
    rcases hy with rfl | rfl | rfl | rfl | rfl | rfl | rfl | rfl | rfl | rfl | rfl | rfl | rfl | rfl | rfl | rfl | rfl | rfl | rfl | rfl | rfl | rfl | rfl | rfl
    · cases _e
    · cases _e
    · cases _e
    · cases _e
    · cases _e
    · cases _e
    · cases _e
    · cases _e
    · cases _e
    · cases _e
    · cases _e
    · cases _e
    · cases _e
    · cases _e
    · cases _e
    · cases _e
    · cases _e
    · cases _e
    · cases _e
    · cases _e
    · cases _e
    · cases _e
    · cases _e
    · exact ⟨pin_laid_unicode_utf8_first, by kernel_rfl⟩) fits1
theorem testEvals_row_tie : Rows.testEvalsRow.laidByTextAt .later Tryz.pinned [.data, .handle, .sentinel, .sentinel, .sentinel, .sentinel, .sentinel, .sentinel, .sentinel, .sentinel, .sentinel, .sentinel, .sentinel, .sentinel, .sentinel, .sentinel, .sentinel, .sentinel, .sentinel, .sentinel, .sentinel, .sentinel, .sentinel, .pinned] true :=
  OpenClaim.laidByTextAt_pinned rfl rfl tie rfl rfl rfl rfl (fun y hy _e => by
    simp only [Rows.testEvalsRow, List.zip_cons_cons, List.zip_nil_right, List.mem_cons, List.mem_nil_iff, or_false] at hy
    rcases hy with rfl | rfl | rfl | rfl | rfl | rfl | rfl | rfl | rfl | rfl | rfl | rfl | rfl | rfl | rfl | rfl | rfl | rfl | rfl | rfl | rfl | rfl | rfl | rfl
    · cases _e
    · cases _e
    · cases _e
    · cases _e
    · cases _e
    · cases _e
    · cases _e
    · cases _e
    · cases _e
    · cases _e
    · cases _e
    · cases _e
    · cases _e
    · cases _e
    · cases _e
    · cases _e
    · cases _e
    · cases _e
    · cases _e
    · cases _e
    · cases _e
    · cases _e
    · cases _e
    · exact ⟨pin_laid_unicode_utf8_first, by kernel_rfl⟩) fits1
theorem testNumbersUpto_row_tie : Rows.testNumbersUptoRow.laidByTextAt .later Tryz.pinned [.data, .handle, .sentinel, .sentinel, .sentinel, .sentinel, .sentinel, .sentinel, .sentinel, .sentinel, .sentinel, .sentinel, .sentinel, .sentinel, .sentinel, .sentinel, .sentinel, .sentinel, .sentinel, .sentinel, .sentinel, .sentinel, .sentinel, .pinned] true :=
  OpenClaim.laidByTextAt_pinned rfl rfl tie rfl rfl rfl rfl (fun y hy _e => by
    simp only [Rows.testNumbersUptoRow, List.zip_cons_cons, List.zip_nil_right, List.mem_cons, List.mem_nil_iff, or_false] at hy
    rcases hy with rfl | rfl | rfl | rfl | rfl | rfl | rfl | rfl | rfl | rfl | rfl | rfl | rfl | rfl | rfl | rfl | rfl | rfl | rfl | rfl | rfl | rfl | rfl | rfl
    · cases _e
    · cases _e
    · cases _e
    · cases _e
    · cases _e
    · cases _e
    · cases _e
    · cases _e
    · cases _e
    · cases _e
    · cases _e
    · cases _e
    · cases _e
    · cases _e
    · cases _e
    · cases _e
    · cases _e
    · cases _e
    · cases _e
    · cases _e
    · cases _e
    · cases _e
    · cases _e
    · exact ⟨pin_laid_unicode_utf8_first, by kernel_rfl⟩) fits1
theorem testNotUpto_row_tie : Rows.testNotUptoRow.laidByTextAt .later Tryz.pinned [.data, .handle, .sentinel, .sentinel, .sentinel, .sentinel, .sentinel, .sentinel, .sentinel, .sentinel, .sentinel, .sentinel, .sentinel, .sentinel, .sentinel, .sentinel, .sentinel, .sentinel, .sentinel, .sentinel, .sentinel, .sentinel, .sentinel, .pinned] true :=
  OpenClaim.laidByTextAt_pinned rfl rfl tie rfl rfl rfl rfl (fun y hy _e => by
    simp only [Rows.testNotUptoRow, List.zip_cons_cons, List.zip_nil_right, List.mem_cons, List.mem_nil_iff, or_false] at hy
    rcases hy with rfl | rfl | rfl | rfl | rfl | rfl | rfl | rfl | rfl | rfl | rfl | rfl | rfl | rfl | rfl | rfl | rfl | rfl | rfl | rfl | rfl | rfl | rfl | rfl
    · cases _e
    · cases _e
    · cases _e
    · cases _e
    · cases _e
    · cases _e
    · cases _e
    · cases _e
    · cases _e
    · cases _e
    · cases _e
    · cases _e
    · cases _e
    · cases _e
    · cases _e
    · cases _e
    · cases _e
    · cases _e
    · cases _e
    · cases _e
    · cases _e
    · cases _e
    · cases _e
    · exact ⟨pin_laid_unicode_utf8_first, by kernel_rfl⟩) fits1
theorem testFilesUpto_row_tie : Rows.testFilesUptoRow.laidByTextAt .later Tryz.pinned [.data, .handle, .sentinel, .sentinel, .sentinel, .sentinel, .sentinel, .sentinel, .sentinel, .sentinel, .sentinel, .sentinel, .sentinel, .sentinel, .sentinel, .sentinel, .sentinel, .sentinel, .sentinel, .sentinel, .sentinel, .sentinel, .sentinel, .pinned] true :=
  OpenClaim.laidByTextAt_pinned rfl rfl tie rfl rfl rfl rfl (fun y hy _e => by
    simp only [Rows.testFilesUptoRow, List.zip_cons_cons, List.zip_nil_right, List.mem_cons, List.mem_nil_iff, or_false] at hy
    rcases hy with rfl | rfl | rfl | rfl | rfl | rfl | rfl | rfl | rfl | rfl | rfl | rfl | rfl | rfl | rfl | rfl | rfl | rfl | rfl | rfl | rfl | rfl | rfl | rfl
    · cases _e
    · cases _e
    · cases _e
    · cases _e
    · cases _e
    · cases _e
    · cases _e
    · cases _e
    · cases _e
    · cases _e
    · cases _e
    · cases _e
    · cases _e
    · cases _e
    · cases _e
    · cases _e
    · cases _e
    · cases _e
    · cases _e
    · cases _e
    · cases _e
    · cases _e
    · cases _e
    · exact ⟨pin_laid_unicode_utf8_first, by kernel_rfl⟩) fits1
theorem testEvalsUpto_row_tie : Rows.testEvalsUptoRow.laidByTextAt .later Tryz.pinned [.data, .handle, .sentinel, .sentinel, .sentinel, .sentinel, .sentinel, .sentinel, .sentinel, .sentinel, .sentinel, .sentinel, .sentinel, .sentinel, .sentinel, .sentinel, .sentinel, .sentinel, .sentinel, .sentinel, .sentinel, .sentinel, .sentinel, .pinned] true :=
  OpenClaim.laidByTextAt_pinned rfl rfl tie rfl rfl rfl rfl (fun y hy _e => by
    simp only [Rows.testEvalsUptoRow, List.zip_cons_cons, List.zip_nil_right, List.mem_cons, List.mem_nil_iff, or_false] at hy
    rcases hy with rfl | rfl | rfl | rfl | rfl | rfl | rfl | rfl | rfl | rfl | rfl | rfl | rfl | rfl | rfl | rfl | rfl | rfl | rfl | rfl | rfl | rfl | rfl | rfl
    · cases _e
    · cases _e
    · cases _e
    · cases _e
    · cases _e
    · cases _e
    · cases _e
    · cases _e
    · cases _e
    · cases _e
    · cases _e
    · cases _e
    · cases _e
    · cases _e
    · cases _e
    · cases _e
    · cases _e
    · cases _e
    · cases _e
    · cases _e
    · cases _e
    · cases _e
    · cases _e
    · exact ⟨pin_laid_unicode_utf8_first, by kernel_rfl⟩) fits1
end Go.Proofs.YtfnaooplpofgiaaGreatDoor
