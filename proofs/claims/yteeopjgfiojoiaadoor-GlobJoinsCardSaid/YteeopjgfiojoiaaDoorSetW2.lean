/- Walks over package set: Len (with OnesCount64 of math/bits) and Range: what each computes, for every set and all bytes. -/
import Derived.Test.YteeopjgfiojoiaaDoorSetW1
namespace Go.Proofs.YteeopjgfiojoiaaDoor
open Go Go.RowKit SN

theorem oc1 (x : Nat) (hx : x < 18446744073709551616) : IntKind.u64.wrap (bits .and .u64 ((x : Int) / 2) 6148914691236517205 + bits .and .u64 (x : Int) 6148914691236517205) = (s1 8 x : Nat) := by
  have e : ((x : Int) / 2) = ((x / 2 : Nat) : Int) := by simp
  rw [e, show (6148914691236517205 : Int) = ((6148914691236517205 : Nat) : Int) from rfl, bits_and_u64_nat _ _ (by omega) (by decide), bits_and_u64_nat _ _ hx (by decide), IntKind.wrap_u64]
  have h := s1_lt x
  have e2 : s1 8 x = (x / 2 &&& 6148914691236517205) + (x &&& 6148914691236517205) := rfl
  omega
theorem oc2 (x : Nat) (hx : x < 18446744073709551616) : IntKind.u64.wrap (bits .and .u64 ((x : Int) / 4) 3689348814741910323 + bits .and .u64 (x : Int) 3689348814741910323) = (s2 8 x : Nat) := by
  have e : ((x : Int) / 4) = ((x / 4 : Nat) : Int) := by simp
  rw [e, show (3689348814741910323 : Int) = ((3689348814741910323 : Nat) : Int) from rfl, bits_and_u64_nat _ _ (by omega) (by decide), bits_and_u64_nat _ _ hx (by decide), IntKind.wrap_u64]
  have h := s2_lt x
  have e2 : s2 8 x = (x / 4 &&& 3689348814741910323) + (x &&& 3689348814741910323) := rfl
  omega
theorem oc3 (x : Nat) (hx : x < 7378697629483820647) : bits .and .u64 (IntKind.u64.wrap ((x : Int) / 16 + (x : Int))) 1085102592571150095 = (s3 8 x : Nat) := by
  have e : ((x : Int) / 16 + (x : Int)) = ((x / 16 + x : Nat) : Int) := by simp
  rw [e, IntKind.wrap_u64, show (((x / 16 + x : Nat) : Int) % 18446744073709551616) = ((x / 16 + x : Nat) : Int) by omega, show (1085102592571150095 : Int) = ((1085102592571150095 : Nat) : Int) from rfl, bits_and_u64_nat _ _ (by omega) (by decide)]
  rfl
set_option maxHeartbeats 400000 in
theorem OnesCount_core (x y1 y2 y3 : Nat) (w : World) (h1 : IntKind.u64.wrap (bits .and .u64 ((x : Int) / 2) 6148914691236517205 + bits .and .u64 (x : Int) 6148914691236517205) = (y1 : Nat))
    (h2 : IntKind.u64.wrap (bits .and .u64 ((y1 : Int) / 4) 3689348814741910323 + bits .and .u64 (y1 : Int) 3689348814741910323) = (y2 : Nat))
    (h3 : bits .and .u64 (IntKind.u64.wrap ((y2 : Int) / 16 + (y2 : Int))) 1085102592571150095 = (y3 : Nat))
    (hb : y3 < 1085102592571150096) :
    Calls Tryd.prog 52 #[.int .u64 x] w fun e w' => e = .returned (.int .i64 (fold3 y3 : Nat)) ∧ w = w' := by
  go_enter Tryd.func52, Tryd.ntmps52
  go_wp2
  go_ret
  refine ⟨ret_int ?_, rfl⟩
  show bits .and .i64 ((y3 : Int) + (y3 : Int) / 256 + ((y3 : Int) + (y3 : Int) / 256) / 65536 + ((y3 : Int) + (y3 : Int) / 256 + ((y3 : Int) + (y3 : Int) / 256) / 65536) / 4294967296) 127 = _
  rw [i64_and127]
  unfold fold3
  omega
/-- OnesCount64: how many bits. -/
theorem OnesCount_any (x : Nat) (w : World) (hx : x < 18446744073709551616) :
    Calls Tryd.prog 52 #[.int .u64 x] w fun e w' => e = .returned (.int .i64 (cntW x : Nat)) ∧ w = w' := by
  rw [← count64 x hx]
  exact OnesCount_core x _ _ _ w (oc1 x hx) (oc2 _ (s1_lt x)) (oc3 _ (s2_lt _)) (s3_lt _)
theorem cntW_lt (x : Nat) : (cntW x : Int) ≤ 64 := by have := cntW_le x; omega
theorem idx (x0 x1 x2 x3 : Value) (w : World) :
    (Instr.index 24 (.agg #[x0, x1, x2, x3]) (.int .i64 0)).run Tryd.prog w = .ok x0 w ∧ (Instr.index 24 (.agg #[x0, x1, x2, x3]) (.int .i64 1)).run Tryd.prog w = .ok x1 w ∧
    (Instr.index 24 (.agg #[x0, x1, x2, x3]) (.int .i64 2)).run Tryd.prog w = .ok x2 w ∧ (Instr.index 24 (.agg #[x0, x1, x2, x3]) (.int .i64 3)).run Tryd.prog w = .ok x3 w :=
  ⟨by kernel_rfl, by kernel_rfl, by kernel_rfl, by kernel_rfl⟩
set_option maxRecDepth 100000 in
set_option maxHeartbeats 400000 in
theorem Len_any (S : Nat) (w : World) :
    Calls Tryd.prog 32 #[sv S] w fun e w' => e = .returned (.int .i64 (cnt S : Nat)) ∧ Below w.heap.size w w' := by
  have b0 := cntW_lt (word S 0)
  have b1 := cntW_lt (word S 1)
  have b2 := cntW_lt (word S 2)
  have b3 := cntW_lt (word S 3)
  have i0 := fun w => (idx (.int .u64 (word S 0)) (.int .u64 (word S 1)) (.int .u64 (word S 2)) (.int .u64 (word S 3)) w).1
  have i1 := fun w => (idx (.int .u64 (word S 0)) (.int .u64 (word S 1)) (.int .u64 (word S 2)) (.int .u64 (word S 3)) w).2.1
  have i2 := fun w => (idx (.int .u64 (word S 0)) (.int .u64 (word S 1)) (.int .u64 (word S 2)) (.int .u64 (word S 3)) w).2.2.1
  have i3 := fun w => (idx (.int .u64 (word S 0)) (.int .u64 (word S 1)) (.int .u64 (word S 2)) (.int .u64 (word S 3)) w).2.2.2
  show Calls Tryd.prog 32 #[.agg #[.int .u64 (word S 0), .int .u64 (word S 1), .int .u64 (word S 2), .int .u64 (word S 3)]] w _
  go_enter Tryd.func32, Tryd.ntmps32
  go_wp2_with fail
  refine wp_loop_rounds 5 ?_
  iterate 4 (rw [rounds_succ]; go_wp2_with fail; refine (OnesCount_any _ _ (word_lt' _ _)).mono ?_; rintro e w' ⟨rfl, rfl⟩; go_wp2_with fail)
  rw [rounds_succ]; go_wp2_with fail
  go_ret
  exact ⟨ret_int (by rw [cnt_words]; simp), (Below.refl _ _).alloc (Nat.le_refl _) _⟩
def rng (lo hi : Nat) : Nat := ofP fun b => decide (lo ≤ b) && decide (b ≤ hi)
def rngTo (lo k : Nat) : Nat := ofP fun b => decide (lo ≤ b) && decide (b < k)
theorem rngTo_zero (lo k : Nat) (h : k ≤ lo) : rngTo lo k = 0 := set_ext (ok_ofP _) ok_zero fun b hb => by
  unfold rngTo; rw [testBit_ofP _ _ hb]; simp; omega
theorem rngTo_succ (lo k : Nat) (h : lo ≤ k) (hk : k < 256) : rngTo lo (k + 1) = add (rngTo lo k) k := set_ext (ok_ofP _) (ok_add (ok_ofP _) hk) fun b hb => by
  rw [testBit_add]; unfold rngTo; rw [testBit_ofP _ _ hb, testBit_ofP _ _ hb, Bool.eq_iff_iff]; simp; omega
theorem rngTo_end (lo hi k : Nat) (h : k = hi + 1 ∨ (hi < lo ∧ k = lo)) : rngTo lo k = rng lo hi := set_ext (ok_ofP _) (ok_ofP _) fun b hb => by
  unfold rngTo rng; rw [testBit_ofP _ _ hb, testBit_ofP _ _ hb, Bool.eq_iff_iff]; simp; omega
set_option maxHeartbeats 400000 in
theorem Range_any (lo hi : Nat) (hlo : lo < 256) (hhi : hi < 256) (w : World) :
    Calls Tryd.prog 23 #[.int .u8 lo, .int .u8 hi] w fun e w' => e = .returned (sv (rng lo hi)) ∧ Below w.heap.size w w' := by
  go_enter Tryd.func23, Tryd.ntmps23
  go_wp2_with fail
  go_loopw [6] (fun i wr => ∃ k : Nat, lo ≤ k ∧ (k ≤ hi + 1 ∨ k = lo) ∧ i = .int .i64 k ∧ IsSet 24 wr (w.heap.size + 1) (rngTo lo k) ∧ IsSet 24 wr w.heap.size 0 ∧ Below w.heap.size w wr) (fun i _ => hi + 1 - (intOf i).toNat)
  case atStart =>
    refine ⟨lo, Nat.le_refl _, .inr rfl, rfl, ?_, (IsSet.zero _ w).alloc _, ((Below.refl _ _).alloc (Nat.le_refl _) _).alloc (by simp) _⟩
    rw [rngTo_zero lo lo (Nat.le_refl _)]
    exact IsSet.zero2 _ w
  case round =>
    obtain ⟨k, hk0, hk1, rfl, hS, hR, hb⟩ := hrel
    by_cases hlt : k ≤ hi
    · have hts := Lib.hid (rngTo_succ lo k hk0 (by omega))
      have hS' := Lib.hid hS
      have hR' := Lib.hid hR
      have hb' := Lib.hid hb
      clear hS hR hb hk1
      have hc : (k : Int) < 256 := by omega
      go_wp2_with (go_at_call 51; refine (put_any _ _ _ (by omega) _ hS'.out).mono ?_; rintro e w' ⟨rfl, h1, h2, h3⟩)
      go_roundw
      case rel =>
        refine ⟨k + 1, by omega, by omega, by go_num, ?_, hR'.out.grown h2 (by simp), hb'.out.grown h2 (by have := hR'.out.lt; omega) (by intro k hk; cases hk; omega)⟩
        rw [hts.out]; exact h1
      case measure => simp [intOf]; omega
    · obtain ⟨⟨c0, c1, c2, c3⟩, ⟨f0, f1, f2, f3⟩, hl⟩ := hS.all
      obtain ⟨⟨d0, d1, d2, d3⟩, ⟨g0, g1, g2, g3⟩, hm⟩ := hR.all
      have hS' := Lib.hid hS
      have hR' := Lib.hid hR
      have hb' := Lib.hid hb
      have hk' := Lib.hid hk1
      clear hS hR hb hk1
      go_wp2
      refine ret_set rfl rfl rfl (hR'.out.store4 _) ⟨by rw [rngTo_end lo hi k (by have := hk'.out; omega)], ?_⟩
      exact (((hb'.out.setCell (by simp) _).setCell (by simp) _).setCell (by simp) _).setCell (by simp) _
end Go.Proofs.YteeopjgfiojoiaaDoor
