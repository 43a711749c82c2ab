/- A digit and a byte to the base 16: scan.Base and set.hex. No conditions but the bounds. -/
import Derived.Test.YteeopjgfiojoiaaDoorByt
import Derived.Handy
import Derived.Outline
namespace Go.Proofs.YteeopjgfiojoiaaDoor
open Go Go.RowKit SN

/-- A digit to the base 16. -/
def digB : ByteArray := ⟨#[48, 49, 50, 51, 52, 53, 54, 55, 56, 57, 97, 98, 99, 100, 101, 102]⟩
def dig (n : Nat) : UInt8 := digB.data.toList.getD n 0
theorem dig_get (n : Nat) (h : n < digB.size) : digB[n] = dig n := by
  have hl : n < digB.data.toList.length := h
  unfold dig
  rw [List.getD_eq_getElem?_getD, List.getElem?_eq_getElem hl]
  rfl
set_option maxHeartbeats 1000000 in
set_option maxRecDepth 100000 in
theorem Base_any (n : Nat) (hn : n < 16) (w : World) :
    Calls Tryd.prog 71 #[.int .u64 n, .int .i64 16, .bool false] w fun e w' => e = .returned (.string ⟨#[dig n]⟩) ∧ Below w.heap.size w w' := by
  have hr : (n : Int) % 16 = n := by omega
  have hq : (n : Int) / 16 = 0 := by omega
  have hcv : ∀ (W : World) (x : UInt8), W.cell? ⟨w.heap.size, 63, none⟩ = some (.int .u8 x.toNat) → w.heap.size < W.heap.size → (convert 36 9 (.slice (some ⟨w.heap.size, 63, none⟩) 1 1)).run Tryd.prog W = .ok (.string ⟨#[x]⟩) W := fun W x hc hl => by
    refine conv_any (some ⟨w.heap.size, 63, none⟩) 1 ⟨#[x]⟩ W (.inr ⟨w.heap.size, 63, rfl, ?_, hl⟩)
    intro i hi
    have hi0 : i = 0 := by have : i < 1 := hi; omega
    subst hi0
    exact hc
  go_enter Tryd.func71, Tryd.ntmps71
  go_wp2_with fail
  generalize hW : World.alloc _ _ = W
  go_loopw [0, 9] (fun n0 i wr => n0 = .int .u64 n ∧ i = .int .i64 64 ∧ wr = W) (fun _ _ _ => 0)
  case atStart => exact ⟨rfl, rfl, rfl⟩
  case round =>
    obtain ⟨rfl, rfl, rfl⟩ := hrel
    subst hW
    go_wp2_with fail
    rw [hcv _ (digB[n]'(by show n < 16; omega)) (row_cell (heap_alloc_new w _) (by rfl)) (by simp)]
    go_wp2_with fail
    go_ret
    exact ⟨by rw [dig_get]; rfl, (Below.refl _ _).alloc (Nat.le_refl _) _⟩
/-- A byte to the base 16. -/
def hexB (b : Nat) : ByteArray := ⟨#[dig (b / 16), dig (b % 16)]⟩
set_option maxHeartbeats 1000000 in
set_option maxRecDepth 100000 in
theorem Hex_any (b : Nat) (hb : b < 256) (w : World) :
    Calls Tryd.prog 56 #[.int .u8 b] w fun e w' => e = .returned (.string (hexB b)) ∧ Below w.heap.size w w' := by
  have h1 : b / 16 < 16 := by omega
  have h2 : b % 16 < 16 := by omega
  have hd : (b : Int) / 16 = (b / 16 : Nat) := by omega
  have hbi : (b : Int) < 256 := by omega
  have ha : bits .and .u8 (b : Int) 15 = (b % 16 : Nat) := by
    have : ∀ b : Fin 256, bits .and .u8 ((b.val : Nat) : Int) 15 = ((b.val % 16 : Nat) : Int) := by decide +kernel
    exact this ⟨b, hb⟩
  have hsh : ∀ W : World, (binOp .shr 5 (.int .u8 b) (.int .u64 4)).run Tryd.prog W = .ok (.int .u8 (b / 16 : Nat)) W := fun W => by
    have hs := shift_shr_u8 (yk := .u64) (x := (b : Int)) (y := 4) (by decide) (by decide)
    rw [binOp_shr, hs]
    show Result.ok (Value.int .u8 ((b : Int) / 2 ^ 4)) W = _
    rw [show ((2 : Int) ^ 4) = 16 by decide, hd]
  unfold hexB
  generalize hq1 : b / 16 = q at *
  generalize hq2 : b % 16 = r at *
  have hqi : (q : Int) < 16 := by omega
  have hri : (r : Int) < 16 := by omega
  go_enter Tryd.func56, Tryd.ntmps56
  go_wp2_with fail
  refine (Base_any q h1 _).mono ?_
  rintro e wX ⟨rfl, bX⟩
  have zX := bX.size
  go_wp2_with fail
  refine (Base_any r h2 _).mono ?_
  rintro e wY ⟨rfl, bY⟩
  go_wp2_with fail
  go_ret
  exact ⟨rfl, bX.trans (bY.mono zX)⟩
end Go.Proofs.YteeopjgfiojoiaaDoor
