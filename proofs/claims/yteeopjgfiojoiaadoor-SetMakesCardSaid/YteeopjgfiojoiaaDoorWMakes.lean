/- The walk over SetMakes: sets of any bytes, ranges, others, all together: it returns true. Conditions: the sets are sets of bytes, the text no longer than a text may be, the errors' variables lie in memory. -/
import Derived.Test.YteeopjgfiojoiaaDoorMk8
import Derived.Test.YteeopjgfiojoiaaDoorMk11
import Derived.Test.YteeopjgfiojoiaaDoorRIn
import Derived.Test.YteeopjgfiojoiaaDoorMgP
import Derived.Deep.Cut
import Derived.Handy
import Derived.Outline
namespace Go.Proofs.YteeopjgfiojoiaaDoor
open Go Go.RowKit SN

/-- The bytes below k that stand in a text. -/
def memK (l : List UInt8) (k : Nat) : Nat := ofP fun b => decide (b < k) && l.any fun c => c.toNat == b
theorem memK_bit (l : List UInt8) (k b : Nat) (hb : b < 256) : (memK l k).testBit b = (decide (b < k) && l.any fun c => c.toNat == b) := by unfold memK; rw [testBit_ofP _ _ hb]
theorem memK_zero (l : List UInt8) : memK l 0 = 0 := set_ext (ok_ofP _) ok_zero fun b hb => by rw [memK_bit _ _ _ hb, Nat.zero_testBit]; simp
theorem memK_all (l : List UInt8) : memK l 256 = ofL l := set_ext (ok_ofP _) (ok_ofL _) fun b hb => by rw [memK_bit _ _ _ hb, ofL_bit]; simp [hb]
theorem lt_succ_ne {b k : Nat} (e : b ≠ k) : decide (b < k + 1) = decide (b < k) := by rw [decide_eq_decide]; omega
theorem memK_hit (l : List UInt8) (k : Nat) (hk : k < 256) (h : (l.any fun c => c.toNat == k) = true) : memK l (k + 1) = add (memK l k) k := set_ext (ok_ofP _) (ok_add (ok_ofP _) hk) fun b hb => by
  rw [testBit_add, memK_bit _ _ _ hb, memK_bit _ _ _ hb]
  by_cases e : b = k
  · subst e; rw [h]; simp
  · rw [lt_succ_ne e]; simp [Ne.symm e]
theorem memK_miss (l : List UInt8) (k : Nat) (h : (l.any fun c => c.toNat == k) = false) : memK l (k + 1) = memK l k := set_ext (ok_ofP _) (ok_ofP _) fun b hb => by
  rw [memK_bit _ _ _ hb, memK_bit _ _ _ hb]
  by_cases e : b = k
  · subst e; rw [h]; simp
  · rw [lt_succ_ne e]
set_option maxHeartbeats 4000000 in
set_option maxRecDepth 100000 in
theorem makes_any {N : Nat} {E : Nat → Addr} (s : ByteArray) (lo hi S T : Nat) (hs : s.size ≤ maxLen) (hl : lo < 256) (hh : hi < 256) (oS : Ok S) (oT : Ok T) (w : World) (hE : Errs N E w) (hN : N ≤ w.heap.size) :
    Calls Tryd.prog 4 #[.string s, .int .u8 lo, .int .u8 hi, sv S, sv T] w fun e w' => e = .returned (.bool true) ∧ Below w.heap.size w w' := by
  show Calls Tryd.prog 4 #[.string s, .int .u8 lo, .int .u8 hi, .agg #[.int .u64 (word S 0), .int .u64 (word S 1), .int .u64 (word S 2), .int .u64 (word S 3)], .agg #[.int .u64 (word T 0), .int .u64 (word T 1), .int .u64 (word T 2), .int .u64 (word T 3)]] w _
  have hE' := Lib.hid hE
  clear hE
  have oS' := Lib.hid oS
  have oT' := Lib.hid oT
  have hs' := Lib.hid hs
  clear oS oT hs
  have hb : (Instr.build 24 #[]).run Tryd.prog = fun w => .ok (sv 0) w := by funext w; kernel_rfl
  go_enter Tryd.func4, Tryd.ntmps4
  go_wp2_with (refine store_set rfl rfl _ _ rfl _ _ rfl rfl ?_ ?_; (focus (apply Exists.intro; (repeat' (first | (with_reducible assumption) | (with_reducible apply IsSet.zero'; first | (with_reducible rfl) | (simp only [World.size_alloc]; done)) | (with_reducible apply IsSet.new'; first | (with_reducible rfl) | (simp only [World.size_alloc]; done)) | (with_reducible apply IsSet.sv; first | (with_reducible rfl) | (simp only [World.size_alloc]; done)) | (with_reducible apply IsSet.viaG; with_reducible assumption) | (with_reducible apply IsSet.viaB; with_reducible assumption) | (with_reducible apply IsSet.drew) | (with_reducible apply IsSet.store4) | (with_reducible apply IsSet.set_other) | (with_reducible apply IsSet.alloc) | (simp only [World.size_alloc]; omega) | omega | (simp; omega) | (simp; done))); done)); intro wX hX gX zX; (try simp only [World.size_alloc] at zX))
  go_loopw [15] (fun i wr => ∃ k : Nat, k ≤ 256 ∧ i = .int .i64 k ∧ IsSet 24 wr (w.heap.size + 2) (memK s.data.toList k) ∧ IsSet 24 wr w.heap.size S ∧ IsSet 24 wr (w.heap.size + 1) T ∧ Below w.heap.size w wr) (fun i _ => 256 - (intOf i).toNat)
  case atStart => exact ⟨0, Nat.zero_le _, rfl, by rw [memK_zero]; exact IsSet.zero' _ _ _ (by simp), ((IsSet.new' _ _ _ _ rfl).alloc _).alloc _, (IsSet.new' _ _ _ _ (by simp)).alloc _, (((Below.refl _ _).alloc (Nat.le_refl _) _).alloc (by simp) _).alloc (by simp; omega) _⟩
  case round =>
    obtain ⟨k, hk, rfl, hM, i1, i2, bl⟩ := hrel
    have hM' := Lib.hid hM
    have i1' := Lib.hid i1
    have i2' := Lib.hid i2
    have bl' := Lib.hid bl
    have hlt := hM.lt
    clear hM i1 i2 bl
    by_cases hkl : k < 256
    · obtain ⟨R, hR⟩ : ∃ R, (s.data.toList.any fun x => x.toNat == k) = R := ⟨_, rfl⟩
      have hin := Lib.hid (show ∀ W, Calls Tryd.prog 20 #[.int .u8 k, .string s] W fun e w' => e = .returned (.bool R) ∧ w' = W from fun W => by rw [← hR]; exact r2In_any k s hs'.out W)
      have hR' := Lib.hid hR
      clear hR
      cases R
      · go_wp2_with (go_at_call 20; refine (hin.out _).mono ?_; rintro e wX ⟨rfl, rfl⟩)
        go_round
        case rel => exact ⟨k + 1, by omega, by go_num, by rw [memK_miss _ _ hR'.out]; exact hM'.out, i1'.out, i2'.out, bl'.out⟩
        case measure => simp [intOf]; omega
      · have hM1 := hM'.out
        go_wp2_with (first | (go_at_call 20; refine (hin.out _).mono ?_; rintro e wX ⟨rfl, rfl⟩) | (refine load_set rfl _ rfl _ rfl ⟨_, hM1, ?_⟩) | (go_at_call 21; refine (r5Add_any _ _ hkl _).mono ?_; rw [← memK_hit _ _ hkl hR'.out]; rintro e w1 ⟨rfl, b1⟩; have z1 := b1.size; have hM2 := hM1.below b1 hlt) | (refine store_set rfl rfl _ _ rfl _ _ rfl rfl ⟨_, hM2⟩ ?_; intro w2 hX g2 z2))
        have j1 := (i1'.out.below b1 i1'.out.lt).grown g2 (by simp; omega)
        have j2 := (i2'.out.below b1 i2'.out.lt).grown g2 (by simp)
        have j3 := (bl'.out.trans (b1.mono (by omega))).grown g2 (by omega) (fun j hj => by cases hj; omega)
        have j1' := Lib.hid j1
        have j2' := Lib.hid j2
        have j3' := Lib.hid j3
        have hX' := Lib.hid hX
        clear j1 j2 j3 hX hM1 hM2 b1 g2
        go_round
        case rel => exact ⟨k + 1, by omega, by go_num, hX'.out, j1'.out, j2'.out, j3'.out⟩
        case measure => simp [intOf]; omega
    · have hke : k = 256 := by omega
      subst hke
      clear hkl hk
      have hL : IsSet 24 wr (w.heap.size + 2) (ofL s.data.toList) := by rw [← memK_all]; exact hM'.out
      have hL' := Lib.hid hL
      clear hL
      go_wp2_with fail
      go_cut [61] from 87 (fun s61 wc => s61 = .bool false ∧ w.heap.size + 3 ≤ wc.heap.size ∧ IsSet 24 wc w.heap.size S ∧ Below w.heap.size w wc)
      case first =>
        refine wp_region_swap (o' := regionOps Tryd.f4 8) (by kernel_rfl) ?_
        refine mk8_wp (base := w.heap.size + 3) (B8 := w.heap.size) (B9 := w.heap.size + 1) (B11 := w.heap.size + 2) (S := S) (T := T) (L := ofL s.data.toList) (lo := lo) (hi := hi) (s := s) ⟨by rfl, by rfl, by rfl, by rfl, by rfl, by rfl, by rfl, i1'.out, i2'.out, hL'.out, by omega, by omega, by omega, hs'.out, hl, hh, oS'.out, oT'.out, ok_ofL _, rfl⟩ (by omega) ?_
        intro u W e34 bW hsz
        have j1 := i1'.out.below bW (by omega)
        have j4 := bl'.out.trans (bW.mono (by omega))
        rw [mk8_plan]
        simp only [putL, Act.put, List.setIfInBounds_toArray, List.set_cons_succ, List.set_cons_zero, e34]
        go_wp2_with fail
        go_meet
        case rel => exact ⟨rfl, hsz, j1, j4⟩
      obtain ⟨rfl, hsz, j1, j4⟩ := hcut
      have j1' := Lib.hid j1
      have j4' := Lib.hid j4
      clear hM' i1' i2' bl' hL' j4
      go_wp2_with (first | (refine load_set rfl _ rfl _ rfl ⟨_, j1, ?_⟩) | (go_at_call 29; refine (r5Bytes_any S _).mono ?_; rintro e wY ⟨v, rfl, hv, bY⟩; obtain ⟨p, cap, rfl, -, hB, -⟩ := hv.hasB' (fun _ h => mem_lt h); have zY := bY.size; clear hv))
      have y1 := j1.below bY (by omega)
      have y4 := j4'.out.trans (bY.mono (by omega))
      have y1' := Lib.hid y1
      have y4' := Lib.hid y4
      have hB' := Lib.hid hB
      clear y1 y4 hB j1 bY
      go_cut [10] from 87 (fun s10 wc => s10 = .bool true ∧ Below w.heap.size w wc)
      case first =>
        refine wp_region_swap (o' := regionOps Tryd.f4 11) (by kernel_rfl) ?_
        refine mk11_wp (base := wY.heap.size) (B8 := w.heap.size) (S := S) (lo := lo) (p := p) (cap := cap) (N := N) (E := E) (s := S.testBit lo) ⟨by rfl, by rfl, by rfl, by rfl, y1'.out, by omega, hB'.out, Nat.le_refl _, hl, rfl, hE'.out.below y4'.out hN, by omega⟩ (Nat.le_refl _) ?_
        intro u W e23 bW
        have j5 := y4'.out.trans (bW.mono (by omega))
        rw [mk11_plan]
        simp only [putL, Act.put, List.setIfInBounds_toArray, List.set_cons_succ, List.set_cons_zero, e23]
        go_wp2_with fail
        go_meet
        case rel => exact ⟨rfl, j5⟩
      obtain ⟨rfl, j5⟩ := hcut
      go_wp2_with fail
      go_ret
      exact ⟨rfl, j5⟩
end Go.Proofs.YteeopjgfiojoiaaDoor
