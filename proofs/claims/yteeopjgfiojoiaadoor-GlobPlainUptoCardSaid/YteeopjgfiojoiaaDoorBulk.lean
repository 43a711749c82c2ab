/- What the bound of a second form gives: how long the slices and the texts are that come in. No conditions beyond the bound. -/
import Derived.Test.YteeopjgfiojoiaaDoorOpn
import Derived.Test.YteeopjgfiojoiaaDoorRows
namespace Go.Proofs.YteeopjgfiojoiaaDoor
open Go Go.RowKit SN
open Go.ChangeShapes Go.WideShapes

theorem bulk_one {H : Type} (d : DataW H) : 1 ≤ Rows.uptoBulk d := by
  cases d with
  | lit l => cases l <;> simp [Rows.uptoBulk]
  | nil => simp [Rows.uptoBulk]
  | ptr d => simp [Rows.uptoBulk]
  | slice elems spare => simp [Rows.uptoBulk]
  | agg parts => simp [Rows.uptoBulk]
  | iface t d => simp [Rows.uptoBulk]
  | map entries => simp [Rows.uptoBulk]
  | held h => simp [Rows.uptoBulk]
theorem bulk_len {H : Type} (l : List (DataW H)) : l.length ≤ Rows.uptoBulkAll l := by
  induction l with
  | nil => simp [Rows.uptoBulkAll]
  | cons x r ih => have := bulk_one x; simp only [Rows.uptoBulkAll, List.length_cons]; omega
theorem bulk_part {H : Type} {d : DataW H} {l : List (DataW H)} (h : d ∈ l) : Rows.uptoBulk d ≤ Rows.uptoBulkAll l := by
  induction l with
  | nil => cases h
  | cons x r ih =>
    simp only [Rows.uptoBulkAll]
    cases List.mem_cons.1 h with
    | inl e => subst e; omega
    | inr e => have := ih e; omega
theorem bulk_bound {H : Type} {l : List (DataW H)} (hk : Rows.uptoSmall H l = true) {d : DataW H} (h : d ∈ l) : Rows.uptoBulk d ≤ 1048576 :=
  Nat.le_trans (bulk_part h) (of_decide_eq_true hk)
set_option maxRecDepth 100000 in
theorem bulk_bs {H : Type} {enc : TypeId × Value → H} {w : World} {p : Option Addr} {n cap : Nat} {d : DataW H} {ps : List MemPlace}
    (hd : DataW.Trod enc Tryd.prog w 0 (fun _ => true) true 36 (.slice p n cap) d ps) : n ≤ Rows.uptoBulk d := by
  obtain ⟨fuel, hf⟩ := hd
  rcases open_ints Tryd.underlying36 Tryd.underlying5 cells_u8 hf with ⟨hcs, hx⟩ | ⟨a, len', cap', zs, hcs, -, hl, hm, hz, hx, -, -⟩
  · simp [Value.cells] at hcs
    omega
  · simp [Value.cells] at hcs
    obtain ⟨rfl, rfl, rfl⟩ := hcs
    simp only [if_true] at hz
    simp only [Prod.mk.injEq] at hx
    obtain ⟨rfl, -⟩ := hx
    simp only [Rows.uptoBulk]
    have h1 := bulk_len (H := H) (lits .u8 (zs.take n))
    have h2 : (lits (H := H) .u8 (zs.take n)).length = n := by simp [lits]; omega
    omega
theorem bulk_str {H : Type} (l : List UInt8) : l.length ≤ Rows.uptoBulk (DataW.lit (H := H) (.string l)) := by simp [Rows.uptoBulk]
end Go.Proofs.YteeopjgfiojoiaaDoor
