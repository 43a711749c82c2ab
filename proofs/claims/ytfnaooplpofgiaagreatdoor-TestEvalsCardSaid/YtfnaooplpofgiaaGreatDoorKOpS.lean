/- An argument that is a slice of texts, opened and shut. No conditions beyond the row's own. -/
import Derived.Test.YtfnaooplpofgiaaGreatDoorKOpn
import Derived.Test.YtfnaooplpofgiaaGreatDoorKTEv
import Derived.SliceStrings
import Derived.Carry
namespace Go.Proofs.YtfnaooplpofgiaaGreatDoor
open Go Go.RowKit SN
open Go.ChangeShapes Go.WideShapes

theorem cells_str : Tryz.prog.cellsOf 9 = 1 := by kernel_rfl
set_option maxRecDepth 100000 in
theorem open_ops {H : Type} {enc : TypeId × Value → H} {w : World} {r : Reach} {b0 : Nat} {v : Value} {d : DataW H} {ps : List MemPlace}
    (hval : Value.okWide Tryz.prog w r b0 22 v) (hd : DataW.Trod enc Tryz.prog w 0 (fun _ => true) true 22 v d ps) : ∃ l, IsOpsF w v l := by
  obtain ⟨a1, len, cap, rfl⟩ := okWide_slice Tryz.underlying22 hval
  obtain ⟨fuel, hf⟩ := hd
  rcases open_strings Tryz.underlying22 Tryz.underlying9 cells_str hf with ⟨hcs, -⟩ | ⟨a, len', cap', ss, hcs, -, hl, -, hz, -, hcell, -⟩
  · simp [Value.cells] at hcs
    obtain ⟨rfl, rfl, rfl⟩ := hcs
    exact ⟨[], none, 0, rfl, Nat.le_refl _, .inl rfl⟩
  · simp [Value.cells] at hcs
    obtain ⟨rfl, rfl, rfl⟩ := hcs
    simp only [if_true] at hz
    have hlen : (ss.take len).length = len := by rw [List.length_take]; omega
    refine ⟨ss.take len, some a, cap, by rw [hlen], by rw [hlen]; exact hl, ?_⟩
    by_cases h0 : len = 0
    · exact .inl (by rw [h0]; rfl)
    · obtain ⟨ab, ao, spot⟩ := a
      have hspot : spot = none := by simpa [Addr.add] using World.cell?_spot (hcell 0 (by omega))
      subst hspot
      refine .inr ⟨ab, ao, rfl, World.block_lt_of_cell? w _ (hcell 0 (by omega)), fun i s hs => ?_⟩
      have hi : i < len := by
        rcases Nat.lt_or_ge i len with h | h
        · exact h
        · rw [List.getElem?_eq_none (by omega)] at hs; cases hs
      rw [List.getElem?_take_of_lt hi] at hs
      have hci := hcell i (by omega)
      rw [Addr.add_lit] at hci
      rw [hci]
      simp [List.getD, hs]
theorem shut_ops {H : Type} {enc : TypeId × Value → H} {W W' : World} {v : Value} {d : DataW H} {ps : List MemPlace} {sp : Nat → Bool}
    (h : DataW.Trod enc Tryz.prog W 0 (fun _ => true) true 22 v d ps) (hb : Below W.heap.size W W') (hlt : ∀ x ∈ ps, x.block < W.heap.size) (hs : ∀ x ∈ ps, sp x.block = true) :
    DataW.Trod enc Tryz.prog W' 0 sp true 22 v d ps :=
  WideElems.Trod_stays laid_out (by kernel_rfl) (of_decide_eq_true (by kernel_rfl)) h (fun x hx => hb.same (hlt x hx)) hs
end Go.Proofs.YtfnaooplpofgiaaGreatDoor
