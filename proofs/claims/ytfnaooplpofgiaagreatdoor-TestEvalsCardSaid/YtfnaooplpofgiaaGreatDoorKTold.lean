/- test's told and moved: an error of operands, as the package tells it; the same one place farther on. Conditions: the errors' variables hold their values. -/
import Derived.Test.YtfnaooplpofgiaaGreatDoorKTel
import Derived.Test.YtfnaooplpofgiaaGreatDoorKBin
import Derived.Deep.RegionHeld3
import Derived.WalkMore
import Derived.OwnWalk
import Derived.Handy
import Derived.Outline
namespace Go.Proofs.YtfnaooplpofgiaaGreatDoor
open Go Go.RowKit SN

theorem asW_any {N : Nat} (S pb : Nat) (w : World) (hT : ErrT N w) (ht : w.heap[pb]? = some (.cells #[.pointer none] 42 (0, 0))) :
    Calls Tryz.prog 19 #[.iface 42 (.pointer (some ⟨S, 0, none⟩)), .iface 64 (.pointer (some ⟨pb, 0, none⟩))] w fun ev w' => ev = .returned (.bool true) ∧ w.grownBy w' (some pb) ∧ w'.heap[pb]? = some (.cells #[.pointer (some ⟨S, 0, none⟩)] 42 (0, 0)) := by
  refine (as_wrong ⟨S, 0, none⟩ ⟨pb, 0, none⟩ (.pointer none) w hT.1 (row_cell ht rfl) (row_free ht 0)).mono ?_
  rintro e w' ⟨rfl, rfl⟩
  obtain ⟨a, b⟩ := grown_as w pb _ _ _ _ (.pointer (some ⟨S, 0, none⟩)) (.pointer none) 42 ht
  exact ⟨rfl, a, b⟩
set_option maxHeartbeats 1000000 in
set_option maxRecDepth 100000 in
theorem told_any {N : Nat} {E : Nat → Addr} (w : World) (hE : Errs N E w) (hT : ErrT N w) (hN : N ≤ w.heap.size) {v : Value} {c : Nat} {p : Int} (hv : IsWr w v c p) (hc1 : 1 ≤ c) (hc2 : c ≤ 21) :
    Calls Tryz.prog 14 #[v] w fun e w' => ∃ u, e = .returned u ∧ IsErr w' E u c p 6 ∧ Below w.heap.size w w' := by
  obtain ⟨B, rfl, hB⟩ := hv
  have hE' := Lib.hid hE
  have hT' := Lib.hid hT
  have hB' := Lib.hid hB
  have hBl := row_lt hB
  clear hE hT hB
  go_enter Tryz.func14, Tryz.ntmps14
  go_wp2_with fail
  refine (asW_any (N := N) B w.heap.size _ (hT'.out.below ((Below.refl _ _).alloc (Nat.le_refl _) _) hN) (heap_alloc_new w _)).mono ?_
  rintro e w1 ⟨rfl, g1, hp1⟩
  have b1 : Below w.heap.size w w1 := ((Below.refl _ _).alloc (Nat.le_refl _) (.cells #[.pointer none] 42)).grown g1 (by simp) (fun j hj => by cases hj; exact Nat.le_refl _)
  have hB1 := row_below hB'.out b1 hBl
  have cW : w1.cell? ⟨w.heap.size, 0, none⟩ = some (.pointer (some ⟨B, 0, none⟩)) := row_cell hp1 rfl
  have cB0 : w1.cell? ⟨B, 0, none⟩ = some (.int .i64 c) := row_cell hB1 rfl
  have cB1 : w1.cell? ⟨B, 1, none⟩ = some (.int .i64 p) := row_cell hB1 rfl
  have hE1 := Lib.hid (hE'.out.below b1 hN)
  have b1' := Lib.hid b1
  have z1 := b1.size
  clear hB1 g1 hp1 b1
  go_wp2_with fail
  go_region_held3 (fun w' => w'.cell? ⟨w.heap.size, 0, none⟩ = some (.pointer (some ⟨B, 0, none⟩)) ∧ w'.cell? ⟨B, 0, none⟩ = some (.int .i64 c) ∧ w'.cell? ⟨B, 1, none⟩ = some (.int .i64 p)) (go_keep)
    (first
      | (go_at_call 28; refine (of_any (N := N) (E := E) (by first | exact hE1.out | exact hE1.out.drewN 1) c hc1 hc2).mono ?_; rintro e w' ⟨rfl, rfl⟩)
      | (go_at_call 27; refine (at_any _ _ _ _).mono ?_; rintro e w' ⟨rfl, rfl⟩)
      | (go_at_call 26; refine (in_any _ _ _ _).mono ?_; rintro e w' ⟨rfl, rfl⟩))
  go_wp2
  go_ret
  have hn := heap_alloc_new (w1.alloc (.cells #[.iface 184 (.pointer (some (E c))), .int .i64 p] 52)) (.cells #[.iface 48 (.pointer (some ⟨w1.heap.size, 0, none⟩)), .int .i64 6] 56)
  rw [World.size_alloc] at hn
  exact ⟨_, rfl, ⟨w1.heap.size + 1, w1.heap.size, rfl, row_drew hn, row_drew (row_alloc (heap_alloc_new w1 _) _)⟩, ((b1'.out.alloc z1 _).alloc (by simp; omega) _).drew⟩
set_option maxHeartbeats 1000000 in
set_option maxRecDepth 100000 in
theorem moved_any {N : Nat} (w : World) (hT : ErrT N w) (hN : N ≤ w.heap.size) {v : Value} {c : Int} {p : Nat} (hv : IsWr w v c p) (hp : p ≤ 100) :
    Calls Tryz.prog 32 #[v] w fun e w' => ∃ u, e = .returned u ∧ IsWr w' u c ((p + 1 : Nat) : Int) ∧ Below w.heap.size w w' := by
  obtain ⟨B, rfl, hB⟩ := hv
  have hT' := Lib.hid hT
  have hB' := Lib.hid hB
  have hBl := row_lt hB
  have hw : IntKind.i64.wrap ((p : Int) + 1) = ((p + 1 : Nat) : Int) := by rw [IntKind.wrap_i64]; omega
  clear hT hB
  go_enter Tryz.func32, Tryz.ntmps32
  go_wp2_with fail
  refine (asW_any (N := N) B w.heap.size _ (hT'.out.below ((Below.refl _ _).alloc (Nat.le_refl _) _) hN) (heap_alloc_new w _)).mono ?_
  rintro e w1 ⟨rfl, g1, hp1⟩
  have b1 : Below w.heap.size w w1 := ((Below.refl _ _).alloc (Nat.le_refl _) (.cells #[.pointer none] 42)).grown g1 (by simp) (fun j hj => by cases hj; exact Nat.le_refl _)
  have hB1 := row_below hB'.out b1 hBl
  have cW : w1.cell? ⟨w.heap.size, 0, none⟩ = some (.pointer (some ⟨B, 0, none⟩)) := row_cell hp1 rfl
  have cB0 : w1.cell? ⟨B, 0, none⟩ = some (.int .i64 c) := row_cell hB1 rfl
  have cB1 : w1.cell? ⟨B, 1, none⟩ = some (.int .i64 p) := row_cell hB1 rfl
  have b1' := Lib.hid b1
  have z1 := b1.size
  clear hB1 g1 hp1 b1
  go_wp2_with fail
  go_region
  go_wp2
  go_ret
  refine ⟨_, rfl, ⟨w1.heap.size, rfl, ?_⟩, (b1'.out.alloc z1 _).drew⟩
  exact row_drew (heap_alloc_new w1 _)
end Go.Proofs.YtfnaooplpofgiaaGreatDoor
