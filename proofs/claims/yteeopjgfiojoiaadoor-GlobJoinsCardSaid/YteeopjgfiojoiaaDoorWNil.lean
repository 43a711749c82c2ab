/- The walk over GlobNil, and pidginlaw6.awake: both return true. Conditions: the errors' variables hold their values. -/
import Derived.Test.YteeopjgfiojoiaaDoorGlobT
import Derived.WalkMore
import Derived.Lib.ConvBytes
import Derived.Handy
import Derived.Outline
namespace Go.Proofs.YteeopjgfiojoiaaDoor
open Go Go.RowKit SN

theorem pt_awake : pt (⟨#[97, 42, 91, 98, 45, 100, 93]⟩ : ByteArray).data.toList = [oneP 97, ⟨3, 0⟩, ⟨1, rng 98 100⟩] := by decide +kernel
theorem txt_awake : ptxt [oneP 97, ⟨3, 0⟩, ⟨1, rng 98 100⟩] = [91, 54, 49, 93, 32, 42, 32, 91, 54, 50, 45, 54, 52, 93] := by decide +kernel
theorem awake6_any {N : Nat} {E : Nat → Addr} (w : World) (hE : Errs N E w) (hN : N ≤ w.heap.size) :
    Calls Tryd.prog 38 #[] w fun e w' => e = .returned (.bool true) ∧ Below w.heap.size w w' := by
  have hE' := Lib.hid hE
  have hcv := Lib.run_convert_bytes_const (P := Tryd.prog) w 36 5 #[.int .u8 97, .int .u8 42, .int .u8 91, .int .u8 98, .int .u8 45, .int .u8 100, .int .u8 93] 7 7 Tryd.underlying36 Tryd.underlying5
  clear hE
  simp only [List.size_toArray, List.length_cons, List.length_nil] at hcv
  go_enter Tryd.func38, Tryd.ntmps38
  go_wp2_with fail
  have hn := heap_alloc_new w (.cells #[.int .u8 97, .int .u8 42, .int .u8 91, .int .u8 98, .int .u8 45, .int .u8 100, .int .u8 93] 5 (7, 8))
  have hS : HasB (w.alloc (.cells #[.int .u8 97, .int .u8 42, .int .u8 91, .int .u8 98, .int .u8 45, .int .u8 100, .int .u8 93] 5 (7, 8))) (some ⟨w.heap.size, 0, none⟩) ⟨#[97, 42, 91, 98, 45, 100, 93]⟩ := by
    refine .inr ⟨_, 0, rfl, fun i hi => ?_, by simp⟩
    have hi' : i < 7 := hi
    have h7 : i = 0 ∨ i = 1 ∨ i = 2 ∨ i = 3 ∨ i = 4 ∨ i = 5 ∨ i = 6 := by omega
    rcases h7 with rfl | rfl | rfl | rfl | rfl | rfl | rfl <;> (rw [cell_of_row _ _ _ _ _ _ hn]; rfl)
  have hb := parse_any (N := N) (E := E) (some ⟨w.heap.size, 0, none⟩) ⟨#[97, 42, 91, 98, 45, 100, 93]⟩ 7 _ hS (by decide) (by decide) (hE'.out.alloc _ hN) (by simp; omega)
  rw [pt_awake] at hb
  clear hn hS
  refine hb.mono ?_
  clear hb hcv
  rintro e w3 ⟨B, rfl, hI, b3⟩
  have z3 := b3.size
  simp only [World.size_alloc] at z3
  have x3 := ((Below.refl w.heap.size w).alloc (Nat.le_refl _) (.cells #[.int .u8 97, .int .u8 42, .int .u8 91, .int .u8 98, .int .u8 45, .int .u8 100, .int .u8 93] 5 (7, 8))).trans (b3.mono (by simp))
  have x3' := Lib.hid x3
  have ht := ptext_any B _ [oneP 97, ⟨3, 0⟩, ⟨1, rng 98 100⟩] w3 hI (by decide) (by rw [← pt_awake]; exact pt_ok _)
  rw [txt_awake] at ht
  have ht' := Lib.hid ht
  clear ht hI b3 x3
  go_wp2_with fail
  refine ht'.out.mono ?_
  rintro e w4 ⟨rfl, b4⟩
  have x4 := Lib.hid (x3'.out.trans (b4.mono (by omega)))
  clear b4
  go_wp2_with fail
  go_ret
  exact ⟨rfl, x4.out⟩
theorem plain_nil (w : World) : Calls Tryd.prog 45 #[.pointer none] w fun e w' => e = .returned (.tuple #[.string ⟨#[]⟩, .bool false]) ∧ w' = w := by
  go_enter Tryd.func45, Tryd.ntmps45
  go_wp2
  go_ret2
  exact ⟨rfl, rfl⟩
theorem gnil_any {N : Nat} {E : Nat → Addr} (w : World) (hE : Errs N E w) (hN : N ≤ w.heap.size) :
    Calls Tryd.prog 13 #[] w fun e w' => e = .returned (.bool true) ∧ Below w.heap.size w w' := by
  have hE' := Lib.hid hE
  clear hE
  go_enter Tryd.func13, Tryd.ntmps13
  go_wp2_with (first | (go_at_call 45; refine (plain_nil _).mono ?_; rintro e w' ⟨rfl, rfl⟩) | (go_at_call 41; refine (pieces_nil _).mono ?_; rintro e w' ⟨rfl, rfl⟩) | (go_at_call 42; refine (ptext_nil _).mono ?_; rintro e w' ⟨rfl, rfl⟩) | (go_at_call 38; refine (awake6_any (N := N) (E := E) _ hE'.out hN).mono ?_; rintro e w' ⟨rfl, hb⟩))
  go_ret
  exact ⟨rfl, hb⟩
end Go.Proofs.YteeopjgfiojoiaaDoor
