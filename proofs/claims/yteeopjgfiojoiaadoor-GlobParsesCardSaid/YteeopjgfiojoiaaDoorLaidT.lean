/- What a card's list of variables gives of errors.errorType: it holds the type 'error'. No conditions beyond the row's own. -/
import Derived.Test.YteeopjgfiojoiaaDoorLaid
import Derived.Test.YteeopjgfiojoiaaDoorTel
namespace Go.Proofs.YteeopjgfiojoiaaDoor
open Go Go.RowKit SN

theorem et_named : Tryd.prog.globalNamed "errors.errorType" = some 10 := by kernel_rfl
theorem et_rtype : (Tryd.prog.cutTypes.find? (·.1 == "internal/reflectlite.rtype")).map (·.2) = some 145 := by kernel_rfl
theorem et_row : ((List.range Tryd.prog.types.size).filter fun t => Tryd.prog.rowNamed t [101, 114, 114, 111, 114]) = [46] := by kernel_rfl
theorem errT_of_laid {W : World} (h : handlesMet Tryd.prog [("errors.errorType", Rows.laid_errors_errorType)] W) : ErrT W.heap.size W := by
  obtain ⟨name, u, ty, e1, e2, e3, e4, e5⟩ := h _ (List.mem_singleton.2 rfl)
  have en : name = [101, 114, 114, 111, 114] := (Option.some.inj e1).symm
  subst en
  obtain rfl := Option.some.inj (et_rtype.symm.trans e2)
  have hm : ty ∈ (List.range Tryd.prog.types.size).filter fun t => Tryd.prog.rowNamed t [101, 114, 114, 111, 114] := List.mem_filter.2 ⟨List.mem_range.2 e3, e4⟩
  rw [et_row] at hm
  obtain rfl := List.mem_singleton.1 hm
  have hh : typeHandle Tryd.prog 46 = .pointer (some ⟨23, 46, none⟩) := by kernel_rfl
  rw [hh] at e5
  have hc : W.cell? ⟨10, 0, none⟩ = some (.iface 145 (.agg #[.pointer (some ⟨23, 46, none⟩)])) := by simpa using World.var?_cell et_named e5 0
  exact ⟨hc, World.block_lt_of_cell? W _ hc⟩
end Go.Proofs.YteeopjgfiojoiaaDoor
