/- What a card's list of variables gives of errors.errorType: it holds the type 'error'. No conditions beyond the row's own. -/
import Derived.Test.YtfnaooplpofgiaaGreatDoorKLaid
import Derived.Test.YtfnaooplpofgiaaGreatDoorKTel
namespace Go.Proofs.YtfnaooplpofgiaaGreatDoor
open Go Go.RowKit SN

theorem et_named : Tryz.prog.globalNamed "errors.errorType" = some 0 := by kernel_rfl
theorem et_rtype : (Tryz.prog.cutTypes.find? (·.1 == "internal/reflectlite.rtype")).map (·.2) = some 127 := by kernel_rfl
theorem et_row : ((List.range Tryz.prog.types.size).filter fun t => Tryz.prog.rowNamed t [101, 114, 114, 111, 114]) = [24] := by kernel_rfl
theorem errT_of_laid {W : World} (h : handlesMet Tryz.prog [("errors.errorType", Rows.laid_errors_errorType)] W) : ErrT W.heap.size W := by
  obtain ⟨name, u, ty, e1, e2, e3, e4, e5⟩ := h _ (List.mem_singleton.2 rfl)
  have en : name = [101, 114, 114, 111, 114] := (Option.some.inj e1).symm
  subst en
  obtain rfl := Option.some.inj (et_rtype.symm.trans e2)
  have hm : ty ∈ (List.range Tryz.prog.types.size).filter fun t => Tryz.prog.rowNamed t [101, 114, 114, 111, 114] := List.mem_filter.2 ⟨List.mem_range.2 e3, e4⟩
  rw [et_row] at hm
  obtain rfl := List.mem_singleton.1 hm
  have hh : typeHandle Tryz.prog 24 = .pointer (some ⟨25, 24, none⟩) := by kernel_rfl
  rw [hh] at e5
  have hc : W.cell? ⟨0, 0, none⟩ = some (.iface 127 (.agg #[.pointer (some ⟨25, 24, none⟩)])) := by simpa using World.var?_cell et_named e5 0
  exact ⟨hc, World.block_lt_of_cell? W _ hc⟩
end Go.Proofs.YtfnaooplpofgiaaGreatDoor
