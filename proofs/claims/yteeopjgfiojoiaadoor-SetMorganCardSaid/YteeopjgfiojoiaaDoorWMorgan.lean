/- The walk over SetMorgan: sets are sets: it returns true. Conditions: the sets are sets of bytes, the errors' variables lie in memory. -/
import Derived.Test.YteeopjgfiojoiaaDoorMg1
import Derived.Test.YteeopjgfiojoiaaDoorMg6
import Derived.Test.YteeopjgfiojoiaaDoorMg8
import Derived.Test.YteeopjgfiojoiaaDoorMgP
import Derived.Deep.Cut
import Derived.Handy
import Derived.Outline
namespace Go.Proofs.YteeopjgfiojoiaaDoor
open Go Go.RowKit SN

set_option maxHeartbeats 4000000 in
set_option maxRecDepth 100000 in
theorem morgan_any {N : Nat} {E : Nat → Addr} (S T : Nat) (oS : Ok S) (oT : Ok T) (w : World) (hE : Errs N E w) (hN : N ≤ w.heap.size) :
    Calls Tryd.prog 5 #[sv S, sv T] w fun e w' => e = .returned (.bool true) ∧ Below w.heap.size w w' := by
  show Calls Tryd.prog 5 #[.agg #[.int .u64 (word S 0), .int .u64 (word S 1), .int .u64 (word S 2), .int .u64 (word S 3)], .agg #[.int .u64 (word T 0), .int .u64 (word T 1), .int .u64 (word T 2), .int .u64 (word T 3)]] w _
  have hE' := Lib.hid hE
  clear hE
  have oS' := Lib.hid oS
  have oT' := Lib.hid oT
  clear oS oT
  go_enter Tryd.func5, Tryd.ntmps5
  go_wp2_with fail
  go_cut [5] from 8 (fun s5 wc => ∃ b, s5 = .pointer (some ⟨b, 0, none⟩) ∧ w.heap.size + 2 ≤ b ∧ b < wc.heap.size ∧ IsSet 24 wc b (cmpl (unionL [cmpl S, cmpl T])) ∧ IsSet 24 wc w.heap.size S ∧ IsSet 24 wc (w.heap.size + 1) T ∧ Below w.heap.size w wc)
  case first =>
    have i1 : IsSet 24 ((w.alloc (.cells #[.int .u64 (word S 0), .int .u64 (word S 1), .int .u64 (word S 2), .int .u64 (word S 3)] 24)).alloc (.cells #[.int .u64 (word T 0), .int .u64 (word T 1), .int .u64 (word T 2), .int .u64 (word T 3)] 24)) w.heap.size S := (IsSet.new' _ _ _ _ rfl).alloc _
    have i2 : IsSet 24 ((w.alloc (.cells #[.int .u64 (word S 0), .int .u64 (word S 1), .int .u64 (word S 2), .int .u64 (word S 3)] 24)).alloc (.cells #[.int .u64 (word T 0), .int .u64 (word T 1), .int .u64 (word T 2), .int .u64 (word T 3)] 24)) (w.heap.size + 1) T := IsSet.new' _ _ _ _ (by simp)
    have bl : Below w.heap.size w ((w.alloc (.cells #[.int .u64 (word S 0), .int .u64 (word S 1), .int .u64 (word S 2), .int .u64 (word S 3)] 24)).alloc (.cells #[.int .u64 (word T 0), .int .u64 (word T 1), .int .u64 (word T 2), .int .u64 (word T 3)] 24)) := ((Below.refl _ _).alloc (Nat.le_refl _) _).alloc (by simp) _
    refine wp_region_swap (o' := regionOps Tryd.f5 1) (by kernel_rfl) ?_
    refine mg1_wp (base := w.heap.size + 2) (B2 := w.heap.size) (B3 := w.heap.size + 1) (S := S) (T := T) ⟨by rfl, by rfl, by rfl, i1, i2, by omega, by omega⟩ (by simp) ?_
    intro u W b e7 hbb hM bW hlt hsz
    have i1' := i1.below bW (by omega)
    have i2' := i2.below bW (by omega)
    have bl' := bl.trans (bW.mono (by omega))
    simp only [putL, Act.put, List.setIfInBounds_toArray, List.set_cons_succ, List.set_cons_zero, e7]
    go_wp2_with fail
    go_meet
    case rel => exact ⟨b, rfl, hbb, hlt, hM, i1', i2', bl'⟩
  obtain ⟨b, rfl, hbb, hlt, hM, i1, i2, bl⟩ := hcut
  have hf : 0 < 1 := by decide
  generalize hMd : cmpl (unionL [cmpl S, cmpl T]) = M at hM
  have hMd' := Lib.hid hMd
  have hM' := Lib.hid hM
  have i1' := Lib.hid i1
  have i2' := Lib.hid i2
  have bl' := Lib.hid bl
  clear hM i1 i2 bl hMd
  go_wp2_with fail
  go_loopw [6] (fun i wr => ∃ k : Nat, k ≤ 256 ∧ i = .int .i64 k ∧ b < wr.heap.size ∧ IsSet 24 wr b M ∧ IsSet 24 wr w.heap.size S ∧ IsSet 24 wr (w.heap.size + 1) T ∧ Below w.heap.size w wr) (fun i _ => 256 - (intOf i).toNat)
  case atStart => exact ⟨0, Nat.zero_le _, rfl, hlt, hM'.out, i1'.out, i2'.out, bl'.out⟩
  case round =>
    clear hM' i1' i2' bl' hlt
    obtain ⟨k, hk, rfl, hlt, hM, i1, i2, bl⟩ := hrel
    have hM' := Lib.hid hM
    have i1' := Lib.hid i1
    have i2' := Lib.hid i2
    have bl' := Lib.hid bl
    clear hM i1 i2 bl
    by_cases hkl : k < 256
    · go_wp2_with fail
      go_cut [59] from 101 (fun s59 wc => s59 = .bool false ∧ b < wc.heap.size ∧ IsSet 24 wc b M ∧ IsSet 24 wc w.heap.size S ∧ IsSet 24 wc (w.heap.size + 1) T ∧ Below w.heap.size w wc)
      case first =>
        refine wp_region_swap (o' := regionOps Tryd.f5 6) (by kernel_rfl) ?_
        refine mg6_wp (base := b + 1) (B2 := w.heap.size) (B3 := w.heap.size + 1) (B5 := b) (S := S) (T := T) (M := M) (k := k) (s := S.testBit k) (t := T.testBit k) ⟨by rfl, by rfl, by rfl, by rfl, by rfl, i1'.out, i2'.out, hM'.out, by omega, by omega, by omega, hkl, rfl, rfl, by rw [← hMd'.out]; exact morgan_bit S T k hkl, union2_bit S T k, cmpl_bit S k hkl⟩ (by omega) ?_
        intro u W e38 bW hsz
        have j1 := i1'.out.below bW (by omega)
        have j2 := i2'.out.below bW (by omega)
        have j3 := hM'.out.below bW (by omega)
        have j4 := bl'.out.trans (bW.mono (by omega))
        rw [mg6_plan]
        simp only [putL, Act.put, List.setIfInBounds_toArray, List.set_cons_succ, List.set_cons_zero, e38]
        go_wp2_with fail
        go_meet
        case rel => exact ⟨rfl, by omega, j3, j1, j2, j4⟩
      obtain ⟨rfl, hlt', j3, j1, j2, j4⟩ := hcut
      have j1' := Lib.hid j1
      have j2' := Lib.hid j2
      have j3' := Lib.hid j3
      have j4' := Lib.hid j4
      clear j1 j2 j3 j4
      go_wp2_with fail
      go_round
      case rel => exact ⟨k + 1, by omega, by go_num, hlt', j3'.out, j1'.out, j2'.out, j4'.out⟩
      case measure => simp [intOf]; omega
    · have hke : k = 256 := by omega
      subst hke
      clear hkl hk
      go_wp2_with fail
      go_cut [4] from 101 (fun s4 wc => s4 = .bool true ∧ Below w.heap.size w wc)
      case first =>
        refine wp_region_swap (o' := regionOps Tryd.f5 8) (by kernel_rfl) ?_
        have hc1 := cnt_split S
        have hc2 := cnt_both S T
        rw [hMd'.out] at hc2
        have hc3 := cnt_le S
        have hc4 := cnt_le T
        refine mg8_wp (base := b + 1) (B2 := w.heap.size) (B3 := w.heap.size + 1) (B5 := b) (S := S) (T := T) (M := M) (N := N) (E := E) ⟨by rfl, by rfl, by rfl, by rfl, i1'.out, i2'.out, hM'.out, by omega, by omega, by omega, hE'.out.below bl'.out hN, by omega, oS'.out, cmpl_cmpl oS'.out, ofL_mem oS'.out, by rw [toB_size]; unfold maxLen; show cnt S ≤ _; omega, by rw [wrap_small _ (by omega) (by omega)]; omega, by rw [wrap_small _ (by omega) (by omega)]; omega, by rw [wrap_small _ (by omega) (by omega)]; omega⟩ (by omega) ?_
        intro u W e41 bW
        have j4 := bl'.out.trans (bW.mono (by omega))
        rw [mg8_plan]
        simp only [putL, Act.put, List.setIfInBounds_toArray, List.set_cons_succ, List.set_cons_zero, e41]
        go_wp2_with fail
        go_meet
        case rel => exact ⟨rfl, j4⟩
      obtain ⟨rfl, j4⟩ := hcut
      go_wp2_with fail
      go_ret
      exact ⟨rfl, j4⟩
end Go.Proofs.YteeopjgfiojoiaaDoor
