/- What a card's list of variables gives a walk: the errors' variables hold pointers, no two alike; and the world in which the witness starts. No conditions beyond the row's own. -/
import Derived.Test.YtfnaooplpofgiaaGreatDoorRows
import Derived.Test.YtfnaooplpofgiaaGreatDoorKErr
import Derived.LaidLaws
import Derived.LaidHandle
import Derived.LaidMore
import Derived.LaidOnce
import Derived.LaidSub
namespace Go.Proofs.YtfnaooplpofgiaaGreatDoor
open Go Go.RowKit SN

theorem nameErr : Tryz.prog.typeName? 3 184 = some "*errors.errorString" := by kernel_rfl
theorem cellsErr : Tryz.prog.cellsOf 205 = 1 := by kernel_rfl
theorem cellsStr : Tryz.prog.cellsOf 9 = 1 := by kernel_rfl
theorem starErr : "*" ++ "errors.errorString" = "*errors.errorString" := by decide
theorem rowErr (u : TypeId) (h : Tryz.prog.typeName? 3 u = some "*errors.errorString") : u = 184 :=
  typeName_ptr_named (nm := "errors.errorString") (by rw [starErr]; kernel_rfl) (by kernel_rfl) (by decide) u (by rw [starErr]; exact h)
set_option maxRecDepth 100000 in
/-- The head of a list of sentinels. -/
theorem sent {n : String} {text : List UInt8} {r : List (String × DataW Unit)} {W : World} {g : Nat} (h : laidMet Tryz.prog ((n, .iface "*errors.errorString" (.ptr (.agg [.lit (.string text)]))) :: r) W)
    (hg : Tryz.prog.globalNamed n = some g) (ht : (Tryz.prog.globals[g]?).map (·.type) = some 24) :
    (∃ a s, W.cell? ⟨g, 0, none⟩ = some (.iface 184 (.pointer (some a))) ∧ W.cell? a = some (.string s) ∧ s.data.toList = text ∧ ∃ cs t, W.heap[a.block]? = some (.cells cs t (0, 0))) ∧ laidMet Tryz.prog r W := by
  obtain ⟨ps, ⟨g0, t0, cs0, f0, p0, q0, hg0, ht0, hv0, hd0, hq, e0⟩, hnd, hrows⟩ := h
  obtain rfl := Option.some.inj (hg.symm.trans hg0)
  obtain rfl := Option.some.inj (ht.symm.trans ht0)
  subst e0
  obtain ⟨l0⟩ := cs0
  have ok0 : ∀ u v, l0 = [.iface u v] → Value.okWide Tryz.prog W .any 0 u v := fun u v e => by
    subst e
    exact (hrows g 0 (by simp [MemPlace.row])).2 u v (by simpa using World.var?_cell hg0 hv0 0)
  obtain ⟨a0, s0, rfl, hc0, hs0, -, rfl⟩ := errorString_of_trod Tryz.underlying24 rowErr Tryz.underlying184 Tryz.underlying205 rfl rfl Tryz.underlying9 cellsErr cellsStr hd0 ok0
  obtain ⟨c0, t0, hb0⟩ := (hrows a0.block a0.off (by simp [MemPlace.row])).1
  exact ⟨⟨a0, s0, by simpa using World.var?_cell hg0 hv0 0, hc0, hs0, c0, t0, hb0⟩, _, hq, List.Nodup.sublist (List.sublist_append_right _ _) hnd, fun b off hm => hrows b off (List.mem_append_right _ hm)⟩

def textOf : Nat → List UInt8
  | 1 => [97, 114, 103, 117, 109, 101, 110, 116]
  | 2 => [108, 111, 110, 103]
  | 3 => [115, 121, 110, 116, 97, 120]
  | 4 => [100, 101, 101, 112]
  | 5 => [109, 97, 110, 121]
  | 6 => [110, 117, 109, 98, 101, 114]
  | 7 => [114, 97, 110, 103, 101]
  | 8 => [98, 114, 97, 99, 107, 101, 116]
  | 9 => [103, 114, 111, 117, 112]
  | 10 => [101, 115, 99, 97, 112, 101]
  | 11 => [115, 116, 97, 116, 101, 115]
  | 12 => [100, 105, 118, 105, 100, 101]
  | 13 => [118, 97, 108, 117, 101]
  | 14 => [111, 112, 101, 114, 97, 110, 100]
  | 15 => [110, 97, 109, 101]
  | 16 => [102, 105, 108, 101]
  | 17 => [100, 105, 114]
  | 18 => [101, 120, 105, 115, 116, 115]
  | 19 => [102, 117, 108, 108]
  | 20 => [108, 97, 98, 101, 108]
  | 21 => [102, 117, 101, 108]
  | _ => []
def sentinels : List (String × DataW Unit) := [("pidgin/fault.errArg", Rows.laid_pidgin_fault_errArg), ("pidgin/fault.errLong", Rows.laid_pidgin_fault_errLong), ("pidgin/fault.errSyntax", Rows.laid_pidgin_fault_errSyntax), ("pidgin/fault.errDeep", Rows.laid_pidgin_fault_errDeep), ("pidgin/fault.errMany", Rows.laid_pidgin_fault_errMany), ("pidgin/fault.errNumber", Rows.laid_pidgin_fault_errNumber), ("pidgin/fault.errRange", Rows.laid_pidgin_fault_errRange), ("pidgin/fault.errBracket", Rows.laid_pidgin_fault_errBracket), ("pidgin/fault.errGroup", Rows.laid_pidgin_fault_errGroup), ("pidgin/fault.errEscape", Rows.laid_pidgin_fault_errEscape), ("pidgin/fault.errStates", Rows.laid_pidgin_fault_errStates), ("pidgin/fault.errDivide", Rows.laid_pidgin_fault_errDivide), ("pidgin/fault.errValue", Rows.laid_pidgin_fault_errValue), ("pidgin/fault.errOperand", Rows.laid_pidgin_fault_errOperand), ("pidgin/fault.errName", Rows.laid_pidgin_fault_errName), ("pidgin/fault.errFile", Rows.laid_pidgin_fault_errFile), ("pidgin/fault.errDir", Rows.laid_pidgin_fault_errDir), ("pidgin/fault.errExists", Rows.laid_pidgin_fault_errExists), ("pidgin/fault.errFull", Rows.laid_pidgin_fault_errFull), ("pidgin/fault.errLabel", Rows.laid_pidgin_fault_errLabel), ("pidgin/fault.errFuel", Rows.laid_pidgin_fault_errFuel)]

theorem textOf_inj : ∀ c, c < 22 → ∀ d, d < 22 → 1 ≤ c → 1 ≤ d → textOf c = textOf d → c = d := by decide
set_option maxRecDepth 100000 in
theorem errs_of_laid {W : World} (h : laidMet Tryz.prog sentinels W) : ∃ E, Errs W.heap.size E W := by
  have key : ∀ c, 1 ≤ c → c ≤ 21 → ∃ a s, W.cell? ⟨gOf c, 0, none⟩ = some (.iface 184 (.pointer (some a))) ∧ W.cell? a = some (.string s) ∧ s.data.toList = textOf c ∧ ∃ cs t, W.heap[a.block]? = some (.cells cs t (0, 0)) := by
    obtain ⟨k1, h1⟩ := sent (n := "pidgin/fault.errArg") (text := textOf 1) (g := 1) h (by kernel_rfl) (by kernel_rfl)
    obtain ⟨k2, h2⟩ := sent (n := "pidgin/fault.errLong") (text := textOf 2) (g := 2) h1 (by kernel_rfl) (by kernel_rfl)
    obtain ⟨k3, h3⟩ := sent (n := "pidgin/fault.errSyntax") (text := textOf 3) (g := 3) h2 (by kernel_rfl) (by kernel_rfl)
    obtain ⟨k4, h4⟩ := sent (n := "pidgin/fault.errDeep") (text := textOf 4) (g := 4) h3 (by kernel_rfl) (by kernel_rfl)
    obtain ⟨k5, h5⟩ := sent (n := "pidgin/fault.errMany") (text := textOf 5) (g := 5) h4 (by kernel_rfl) (by kernel_rfl)
    obtain ⟨k6, h6⟩ := sent (n := "pidgin/fault.errNumber") (text := textOf 6) (g := 6) h5 (by kernel_rfl) (by kernel_rfl)
    obtain ⟨k7, h7⟩ := sent (n := "pidgin/fault.errRange") (text := textOf 7) (g := 7) h6 (by kernel_rfl) (by kernel_rfl)
    obtain ⟨k8, h8⟩ := sent (n := "pidgin/fault.errBracket") (text := textOf 8) (g := 8) h7 (by kernel_rfl) (by kernel_rfl)
    obtain ⟨k9, h9⟩ := sent (n := "pidgin/fault.errGroup") (text := textOf 9) (g := 9) h8 (by kernel_rfl) (by kernel_rfl)
    obtain ⟨k10, h10⟩ := sent (n := "pidgin/fault.errEscape") (text := textOf 10) (g := 10) h9 (by kernel_rfl) (by kernel_rfl)
    obtain ⟨k11, h11⟩ := sent (n := "pidgin/fault.errStates") (text := textOf 11) (g := 11) h10 (by kernel_rfl) (by kernel_rfl)
    obtain ⟨k12, h12⟩ := sent (n := "pidgin/fault.errDivide") (text := textOf 12) (g := 12) h11 (by kernel_rfl) (by kernel_rfl)
    obtain ⟨k13, h13⟩ := sent (n := "pidgin/fault.errValue") (text := textOf 13) (g := 13) h12 (by kernel_rfl) (by kernel_rfl)
    obtain ⟨k14, h14⟩ := sent (n := "pidgin/fault.errOperand") (text := textOf 14) (g := 14) h13 (by kernel_rfl) (by kernel_rfl)
    obtain ⟨k15, h15⟩ := sent (n := "pidgin/fault.errName") (text := textOf 15) (g := 15) h14 (by kernel_rfl) (by kernel_rfl)
    obtain ⟨k16, h16⟩ := sent (n := "pidgin/fault.errFile") (text := textOf 16) (g := 16) h15 (by kernel_rfl) (by kernel_rfl)
    obtain ⟨k17, h17⟩ := sent (n := "pidgin/fault.errDir") (text := textOf 17) (g := 17) h16 (by kernel_rfl) (by kernel_rfl)
    obtain ⟨k18, h18⟩ := sent (n := "pidgin/fault.errExists") (text := textOf 18) (g := 18) h17 (by kernel_rfl) (by kernel_rfl)
    obtain ⟨k19, h19⟩ := sent (n := "pidgin/fault.errFull") (text := textOf 19) (g := 19) h18 (by kernel_rfl) (by kernel_rfl)
    obtain ⟨k20, h20⟩ := sent (n := "pidgin/fault.errLabel") (text := textOf 20) (g := 20) h19 (by kernel_rfl) (by kernel_rfl)
    obtain ⟨k21, h21⟩ := sent (n := "pidgin/fault.errFuel") (text := textOf 21) (g := 21) h20 (by kernel_rfl) (by kernel_rfl)
    intro c h1 h2
    have hcs : c = 1 ∨ c = 2 ∨ c = 3 ∨ c = 4 ∨ c = 5 ∨ c = 6 ∨ c = 7 ∨ c = 8 ∨ c = 9 ∨ c = 10 ∨ c = 11 ∨ c = 12 ∨ c = 13 ∨ c = 14 ∨ c = 15 ∨ c = 16 ∨ c = 17 ∨ c = 18 ∨ c = 19 ∨ c = 20 ∨ c = 21 := by omega
    rcases hcs with rfl | rfl | rfl | rfl | rfl | rfl | rfl | rfl | rfl | rfl | rfl | rfl | rfl | rfl | rfl | rfl | rfl | rfl | rfl | rfl | rfl
    · exact k1
    · exact k2
    · exact k3
    · exact k4
    · exact k5
    · exact k6
    · exact k7
    · exact k8
    · exact k9
    · exact k10
    · exact k11
    · exact k12
    · exact k13
    · exact k14
    · exact k15
    · exact k16
    · exact k17
    · exact k18
    · exact k19
    · exact k20
    · exact k21
  obtain ⟨E, hE⟩ : ∃ E : Nat → Addr, ∀ c, 1 ≤ c → c ≤ 21 → ∃ s, W.cell? ⟨gOf c, 0, none⟩ = some (.iface 184 (.pointer (some (E c)))) ∧ W.cell? (E c) = some (.string s) ∧ s.data.toList = textOf c ∧ ∃ cs t, W.heap[(E c).block]? = some (.cells cs t (0, 0)) :=
    ⟨fun c => if hc : 1 ≤ c ∧ c ≤ 21 then Classical.choose (key c hc.1 hc.2) else ⟨0, 0, none⟩, fun c h1 h2 => by
      simp only [dif_pos (And.intro h1 h2)]
      exact Classical.choose_spec (key c h1 h2)⟩
  have hlt : ∀ g v, W.cell? ⟨g, 0, none⟩ = some v → g < W.heap.size := fun g v hc => World.block_lt_of_cell? W ⟨g, 0, none⟩ hc
  refine ⟨E, fun c h1 h2 => ?_, fun c h1 h2 => ?_, fun c h1 h2 => ?_, fun c h1 h2 => ?_, fun c d h1 h2 h3 h4 e => ?_⟩
  · obtain ⟨s, a, -⟩ := hE c h1 h2; exact a
  · obtain ⟨s, -, -, -, a⟩ := hE c h1 h2; exact a
  · obtain ⟨s, a, -⟩ := hE c h1 h2; exact hlt _ _ a
  · obtain ⟨s, -, -, -, cs, t, a⟩ := hE c h1 h2; exact row_lt a
  · obtain ⟨s, -, a, b, -⟩ := hE c h1 h2
    obtain ⟨s2, -, a2, b2, -⟩ := hE d h3 h4
    have e' : s = s2 := by
      have this := a
      rw [e, a2] at this
      injection this with this; injection this with this; exact this.symm
    subst e'
    exact textOf_inj c (by omega) d (by omega) h1 h3 (b.symm.trans b2)
def keepErr (x : String × DataW Unit) : Bool := !(x.1 == "unicode/utf8.acceptRanges" || x.1 == "unicode/utf8.first")
/-- Of a row's list: the sentinels, and the type that errors.As asks for. -/
theorem parts_of_laid {W : World} {l : List (String × DataW Unit)} (hl : l.filter keepErr = ("errors.errorType", Rows.laid_errors_errorType) :: sentinels) (h : laidMetH Tryz.prog l W) :
    laidMet Tryz.prog sentinels W ∧ handlesMet Tryz.prog [("errors.errorType", Rows.laid_errors_errorType)] W := by
  have h2 := h.filter keepErr
  rw [hl] at h2
  exact h2
end Go.Proofs.YtfnaooplpofgiaaGreatDoor
