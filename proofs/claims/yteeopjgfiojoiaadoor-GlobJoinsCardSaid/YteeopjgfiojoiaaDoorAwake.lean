/- The bracket that every program must know: law 5's awake returns true. Conditions: the errors' variables lie in memory. -/
import Derived.Test.YteeopjgfiojoiaaDoorBracket
import Derived.Test.YteeopjgfiojoiaaDoorGrd
import Derived.Lib.SlBytesConst
namespace Go.Proofs.YteeopjgfiojoiaaDoor
open Go Go.RowKit SN

theorem brk_awake : brk (⟨#[97, 45, 99, 93, 120]⟩ : ByteArray).data.toList 0 3 = .ok (rng 97 99) 4 := by
  have h : brk [97, 45, 99, 93, 120] 0 3 = .ok (0 ||| rng 97 99) 4 := by kernel_rfl
  rw [Nat.zero_or] at h
  exact h
theorem cnt_awake : cnt (rng 97 99) = 3 := by decide +kernel
set_option maxHeartbeats 1000000 in
set_option maxRecDepth 100000 in
theorem awake_any {N : Nat} {E : Nat → Addr} (w : World) (hE : Errs N E w) (hN : N ≤ w.heap.size) : Calls Tryd.prog 19 #[] w fun e w' => e = .returned (.bool true) ∧ Below w.heap.size w w' := by
  have hE' := Lib.hid hE
  clear hE
  have hc := cnt_awake
  have hcv := Lib.run_convert_bytes_const (P := Tryd.prog) w 36 5 #[.int .u8 97, .int .u8 45, .int .u8 99, .int .u8 93, .int .u8 120] 5 5 Tryd.underlying36 Tryd.underlying5
  simp only [List.size_toArray, List.length_cons, List.length_nil] at hcv
  go_enter Tryd.func19, Tryd.ntmps19
  go_wp2_with fail
  have hn := heap_alloc_new w (.cells #[.int .u8 97, .int .u8 45, .int .u8 99, .int .u8 93, .int .u8 120] 5 (5, 6))
  have hS : HasB (w.alloc (.cells #[.int .u8 97, .int .u8 45, .int .u8 99, .int .u8 93, .int .u8 120] 5 (5, 6))) (some ⟨w.heap.size, 0, none⟩) ⟨#[97, 45, 99, 93, 120]⟩ := by
    refine .inr ⟨_, 0, rfl, fun i hi => ?_, by simp⟩
    have hi' : i < 5 := hi
    have h5 : i = 0 ∨ i = 1 ∨ i = 2 ∨ i = 3 ∨ i = 4 := by omega
    rcases h5 with rfl | rfl | rfl | rfl | rfl <;> (rw [cell_of_row _ _ _ _ _ _ hn]; rfl)
  have hb := bracket_any (N := N) (E := E) (some ⟨w.heap.size, 0, none⟩) 5 0 3 ⟨#[97, 45, 99, 93, 120]⟩ _ hS (hE'.out.alloc _ hN) (by simp; omega) (by decide) (by decide)
  rw [brk_awake] at hb
  clear hn hS
  refine hb.mono ?_
  clear hb
  rintro e w3 ⟨rfl, b3⟩
  have z3 := b3.size
  simp only [World.size_alloc] at z3
  go_wp2_with (first | (refine store_set rfl rfl _ _ rfl _ _ rfl rfl ?_ ?_; (focus (apply Exists.intro; (repeat' (first | (with_reducible assumption) | (with_reducible apply IsSet.zero'; first | (with_reducible rfl) | (simp only [World.size_alloc]; done)) | (with_reducible apply IsSet.new'; first | (with_reducible rfl) | (simp only [World.size_alloc]; done)) | (with_reducible apply IsSet.sv; first | (with_reducible rfl) | (simp only [World.size_alloc]; done)) | (with_reducible apply IsSet.viaG; with_reducible assumption) | (with_reducible apply IsSet.viaB; with_reducible assumption) | (with_reducible apply IsSet.drew) | (with_reducible apply IsSet.store4) | (with_reducible apply IsSet.set_other) | (with_reducible apply IsSet.alloc) | (simp only [World.size_alloc]; omega) | omega | (simp; omega) | (simp; done))); done)); intro wX hX gX zX; (try simp only [World.size_alloc] at zX)) | (refine load_setg rfl _ rfl _ rfl ?_; apply Exists.intro; apply And.intro; focus ((repeat' (first | (with_reducible assumption) | (with_reducible apply IsSet.zero'; first | (with_reducible rfl) | (simp only [World.size_alloc]; done)) | (with_reducible apply IsSet.new'; first | (with_reducible rfl) | (simp only [World.size_alloc]; done)) | (with_reducible apply IsSet.sv; first | (with_reducible rfl) | (simp only [World.size_alloc]; done)) | (with_reducible apply IsSet.viaG; with_reducible assumption) | (with_reducible apply IsSet.viaB; with_reducible assumption) | (with_reducible apply IsSet.drew) | (with_reducible apply IsSet.store4) | (with_reducible apply IsSet.set_other) | (with_reducible apply IsSet.alloc) | (simp only [World.size_alloc]; omega) | omega | (simp; omega) | (simp; done))); done)) | (go_at_call 32; refine (Len_any _ _).mono ?_; rintro e wX ⟨rfl, bX⟩; have zX := bX.size; (try simp only [World.size_alloc] at zX)))
  go_ret
  exact ⟨rfl, by (repeat' (first | (with_reducible assumption) | (with_reducible exact Below.refl _ _) | (with_reducible apply Below.viaG1; with_reducible assumption) | (with_reducible apply Below.viaB; with_reducible assumption) | (with_reducible apply Below.alloc) | (with_reducible apply Below.drew) | (with_reducible apply Below.setCell) | (dsimp only; omega) | omega | (simp only [World.size_alloc]; omega) | (simp; omega) | (simp; done)))⟩
end Go.Proofs.YteeopjgfiojoiaaDoor
