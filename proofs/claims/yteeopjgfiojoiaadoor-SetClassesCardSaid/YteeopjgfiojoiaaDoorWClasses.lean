/- The walk over the law of the classes: any text as a class's name: it returns true. Conditions: the errors' variables lie in memory. -/
import Derived.Test.YteeopjgfiojoiaaDoorAwake
import Derived.Test.YteeopjgfiojoiaaDoorSetC3
import Derived.Test.YteeopjgfiojoiaaDoorSetC5
namespace Go.Proofs.YteeopjgfiojoiaaDoor
open Go Go.RowKit SN

theorem cls_ok (l : List UInt8) : Ok ((cls l).getD 0) := by
  unfold cls
  cases h : clsTab.find? fun x => l == x.1 with
  | none => exact ok_zero
  | some x =>
    have hm := List.mem_of_find?_eq_some h
    have : ∀ y ∈ clsTab, Ok y.2 := by unfold clsTab Ok; decide +kernel
    exact this x hm
theorem eq_same (A : Nat) (hA : Ok A) (w : World) : (binOp .eql 24 (sv A) (sv A)).run Tryd.prog w = .ok (.bool true) w := by
  rw [run_eql_set A A hA hA w, decide_eq_true rfl]
set_option maxHeartbeats 1000000 in
set_option maxRecDepth 100000 in
theorem classes_any {N : Nat} {E : Nat → Addr} (s : ByteArray) (w : World) (hE : Errs N E w) (hN : N ≤ w.heap.size) :
    Calls Tryd.prog 3 #[.string s] w fun e w' => e = .returned (.bool true) ∧ Below w.heap.size w w' := by
  have hE' := Lib.hid hE
  have hok := Lib.hid (cls_ok s.data.toList)
  clear hE
  go_enter Tryd.func3, Tryd.ntmps3
  go_wp2_with (first | (go_at_call 17; refine (Class_any _ _).mono ?_; rintro e wX ⟨rfl, bX⟩; have zX := bX.size; (try simp only [World.size_alloc] at zX)) | (go_at_call 18; refine (r5Class_any _ _).mono ?_; rintro e wX ⟨rfl, bX⟩; have zX := bX.size; (try simp only [World.size_alloc] at zX)) | (refine store_set rfl rfl _ _ rfl _ _ rfl rfl ?_ ?_; (focus (apply Exists.intro; (repeat' (first | (with_reducible assumption) | (with_reducible apply IsSet.zero'; first | (with_reducible rfl) | (simp only [World.size_alloc]; done)) | (with_reducible apply IsSet.new'; first | (with_reducible rfl) | (simp only [World.size_alloc]; done)) | (with_reducible apply IsSet.sv; first | (with_reducible rfl) | (simp only [World.size_alloc]; done)) | (with_reducible apply IsSet.viaG; with_reducible assumption) | (with_reducible apply IsSet.viaB; with_reducible assumption) | (with_reducible apply IsSet.drew) | (with_reducible apply IsSet.store4) | (with_reducible apply IsSet.set_other) | (with_reducible apply IsSet.alloc) | (simp only [World.size_alloc]; omega) | omega | (simp; omega) | (simp; done))); done)); intro wX hX gX zX; (try simp only [World.size_alloc] at zX)) | (refine load_setg rfl _ rfl _ rfl ?_; apply Exists.intro; apply And.intro; focus ((repeat' (first | (with_reducible assumption) | (with_reducible apply IsSet.zero'; first | (with_reducible rfl) | (simp only [World.size_alloc]; done)) | (with_reducible apply IsSet.new'; first | (with_reducible rfl) | (simp only [World.size_alloc]; done)) | (with_reducible apply IsSet.sv; first | (with_reducible rfl) | (simp only [World.size_alloc]; done)) | (with_reducible apply IsSet.viaG; with_reducible assumption) | (with_reducible apply IsSet.viaB; with_reducible assumption) | (with_reducible apply IsSet.drew) | (with_reducible apply IsSet.store4) | (with_reducible apply IsSet.set_other) | (with_reducible apply IsSet.alloc) | (simp only [World.size_alloc]; omega) | omega | (simp; omega) | (simp; done))); done)) | (refine eq_setsg rfl _ _ rfl _ _ rfl rfl true (eq_same _ hok.out _) ?_) | (go_at_call 19; refine (awake_any (N := N) (E := E) _ (hE'.out.below (show Below w.heap.size w _ from (by (repeat' (first | (with_reducible assumption) | (with_reducible exact Below.refl _ _) | (with_reducible apply Below.viaG1; with_reducible assumption) | (with_reducible apply Below.viaB; with_reducible assumption) | (with_reducible apply Below.alloc) | (with_reducible apply Below.drew) | (with_reducible apply Below.setCell) | (dsimp only; omega) | omega | (simp only [World.size_alloc]; omega) | (simp; omega) | (simp; done))))) hN) (by (try simp only [World.size_alloc]); omega)).mono ?_; rintro e wX ⟨rfl, bX⟩; have zX := bX.size; (try simp only [World.size_alloc] at zX)))
  go_ret
  exact ⟨rfl, by (repeat' (first | (with_reducible assumption) | (with_reducible exact Below.refl _ _) | (with_reducible apply Below.viaG1; with_reducible assumption) | (with_reducible apply Below.viaB; with_reducible assumption) | (with_reducible apply Below.alloc) | (with_reducible apply Below.drew) | (with_reducible apply Below.setCell) | (dsimp only; omega) | omega | (simp only [World.size_alloc]; omega) | (simp; omega) | (simp; done)))⟩
end Go.Proofs.YteeopjgfiojoiaaDoor
