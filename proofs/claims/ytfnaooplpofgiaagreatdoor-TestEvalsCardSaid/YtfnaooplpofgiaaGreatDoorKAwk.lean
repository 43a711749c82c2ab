/- test.Eval of two and three operands where no error is met; law 18's awake. Conditions: the operands have at most 1024 bytes. -/
import Derived.Test.YtfnaooplpofgiaaGreatDoorKEvl
import Derived.Test.YtfnaooplpofgiaaGreatDoorKBin
import Derived.Test.YtfnaooplpofgiaaGreatDoorKStat
import Derived.WalkMore
import Derived.OwnWalk
import Derived.Handy
import Derived.Outline
namespace Go.Proofs.YtfnaooplpofgiaaGreatDoor
open Go Go.RowKit SN

theorem rw3 (a b c : ByteArray) (w : World) : IsRw (w.alloc (.cells #[.string a, .string b, .string c] 9)) w.heap.size [a, b, c] := by
  refine ⟨by simp, fun i s h => ?_⟩
  match i, h with
  | 0, h => cases h; exact row_cell (heap_alloc_new w _) rfl
  | 1, h => cases h; exact row_cell (heap_alloc_new w _) rfl
  | 2, h => cases h; exact row_cell (heap_alloc_new w _) rfl
theorem rw2 (a b : ByteArray) (w : World) : IsRw (w.alloc (.cells #[.string a, .string b] 9)) w.heap.size [a, b] := by
  refine ⟨by simp, fun i s h => ?_⟩
  match i, h with
  | 0, h => cases h; exact row_cell (heap_alloc_new w _) rfl
  | 1, h => cases h; exact row_cell (heap_alloc_new w _) rfl
/-- test.Eval of three operands, where binary tells no error. -/
theorem Eval3_ok (a b c : ByteArray) (x : Bool) (w : World) (ha : a.size ≤ 1024) (hb : b.size ≤ 1024) (hc : c.size ≤ 1024)
    (hC : ∀ W, Calls Tryz.prog 31 #[.string a, .string b, .string c] W fun e w' => ∃ v, e = .returned (.tuple #[.bool x, .bool true, v]) ∧ v = .nilIface ∧ Below W.heap.size W w') :
    Calls Tryz.prog 7 #[.slice (some ⟨w.heap.size, 0, none⟩) 3 3, .pointer none] (w.alloc (.cells #[.string a, .string b, .string c] 9)) fun e w' => e = .returned (.tuple #[.bool x, .nilIface]) ∧ Below w.heap.size w w' := by
  have h := rw3 a b c w
  have h1 := eval3_ok w.heap.size 0 3 (.pointer none) a b c x (fun v _ => v = .nilIface) nil_st (w.alloc (.cells #[.string a, .string b, .string c] 9)) h.1 (h.2 0 a rfl) (h.2 1 b rfl) (h.2 2 c rfl) (fun W _ => hC W)
  have h2 := Eval_ok w.heap.size 3 (.pointer none) [a, b, c] x (w.alloc (.cells #[.string a, .string b, .string c] 9)) h (by simp) (by simp [ha, hb, hc]) (h1.mono fun e w' ⟨v, e1, e2, e3⟩ => ⟨by rw [e1, e2], e3⟩)
  exact h2.mono fun e w' ⟨e1, e2⟩ => ⟨e1, ((Below.refl _ _).alloc (Nat.le_refl _) _).trans (e2.mono (by simp))⟩
theorem Eval2_ok (a b : ByteArray) (x : Bool) (w : World) (ha : a.size ≤ 1024) (hb : b.size ≤ 1024) (h33 : (a.toList == [33]) = false)
    (hC : ∀ W, Below (w.alloc (.cells #[.string a, .string b] 9)).heap.size (w.alloc (.cells #[.string a, .string b] 9)) W → (w.alloc (.cells #[.string a, .string b] 9)).heap.size ≤ W.heap.size → Calls Tryz.prog 30 #[.string a, .string b, .pointer none] W fun e w' => e = .returned (.tuple #[.bool x, .bool true]) ∧ Below W.heap.size W w') :
    Calls Tryz.prog 7 #[.slice (some ⟨w.heap.size, 0, none⟩) 2 2, .pointer none] (w.alloc (.cells #[.string a, .string b] 9)) fun e w' => e = .returned (.tuple #[.bool x, .nilIface]) ∧ Below w.heap.size w w' := by
  have h := rw2 a b w
  have h1 := eval2_ok w.heap.size 0 2 (.pointer none) a b x (w.alloc (.cells #[.string a, .string b] 9)) h.1 h33 (h.2 0 a rfl) (h.2 1 b rfl) hC
  have h2 := Eval_ok w.heap.size 2 (.pointer none) [a, b] x (w.alloc (.cells #[.string a, .string b] 9)) h (by simp) (by simp [ha, hb]) h1
  exact h2.mono fun e w' ⟨e1, e2⟩ => ⟨e1, ((Below.refl _ _).alloc (Nat.le_refl _) _).trans (e2.mono (by simp))⟩
theorem num_1 : number (⟨#[49]⟩ : ByteArray).data.toList = some 1 := by decide +kernel
theorem num_02 : number (⟨#[48, 50]⟩ : ByteArray).data.toList = some 2 := by decide +kernel
/-- Law 18's awake. -/
theorem awake18_any (w : World) : Calls Tryz.prog 10 #[] w fun e w' => e = .returned (.bool true) ∧ Below w.heap.size w w' := by
  have hE := Eval3_ok ⟨#[49]⟩ ⟨#[45, 108, 116]⟩ ⟨#[48, 50]⟩ true w (by decide) (by decide) (by decide)
    (fun W => binary_lt _ _ (some 1) (some 2) W (fun W => by have h := number_any ⟨#[49]⟩ (by decide) W; rwa [num_1] at h) (fun W => by have h := number_any ⟨#[48, 50]⟩ (by decide) W; rwa [num_02] at h))
  have hE' := Lib.hid hE
  clear hE
  go_enter Tryz.func10, Tryz.ntmps10
  go_wp2_with fail
  refine hE'.out.mono ?_
  rintro e w1 ⟨rfl, b1⟩
  go_wp2_with fail
  go_ret
  exact ⟨rfl, b1⟩
end Go.Proofs.YtfnaooplpofgiaaGreatDoor
