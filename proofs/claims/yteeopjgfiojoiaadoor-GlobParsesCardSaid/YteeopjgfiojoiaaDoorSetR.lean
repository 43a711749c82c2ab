/- Walks over the reference of chapter 5: Has, Not, Or, Add, Range, Bytes. No conditions but the bytes' own. -/
import Derived.Test.YteeopjgfiojoiaaDoorWal
namespace Go.Proofs.YteeopjgfiojoiaaDoor
open Go Go.RowKit SN

set_option maxHeartbeats 400000 in
theorem r5Has_k (S b k : Nat) (hb : b / 64 = k) (hk : k < 4) (w : World) :
    Calls Tryd.prog 31 #[sv S, .int .u8 b] w fun e w' => e = .returned (.bool (bits .and .u64 ((word S k : Nat) / 2 ^ (b % 64) : Int) 1 == 1)) ∧ Below w.heap.size w w' := by
  have hb0 : (b : Int) < 256 := by omega
  have hkk : k = 0 ∨ k = 1 ∨ k = 2 ∨ k = 3 := by omega
  have hd := quo_cast b k hb
  unfold sv
  rcases hkk with rfl | rfl | rfl | rfl
  all_goals
    go_enter Tryd.func31, Tryd.ntmps31
    go_wp2
    go_ret
    exact ⟨rfl, (Below.refl _ _).alloc (Nat.le_refl _) _⟩
/-- The reference's Has. -/
theorem r5Has_any (S b : Nat) (hb : b < 256) (w : World) :
    Calls Tryd.prog 31 #[sv S, .int .u8 b] w fun e w' => e = .returned (.bool (S.testBit b)) ∧ Below w.heap.size w w' := by
  rw [← bit_test]; exact r5Has_k S b _ rfl (by omega) w
set_option maxHeartbeats 400000 in
theorem r5Not_any (S : Nat) (w : World) :
    Calls Tryd.prog 26 #[sv S] w fun e w' => e = .returned (sv (cmpl S)) ∧ Below w.heap.size w w' := by
  have h0 := bits_not S 0 (by decide)
  have h1 := bits_not S 1 (by decide)
  have h2 := bits_not S 2 (by decide)
  have h3 := bits_not S 3 (by decide)
  show Calls Tryd.prog 26 #[.agg #[.int .u64 (word S 0), .int .u64 (word S 1), .int .u64 (word S 2), .int .u64 (word S 3)]] w _
  go_enter Tryd.func26, Tryd.ntmps26
  go_wp2
  refine wp_loop_rounds 5 ?_
  iterate 5 (rw [rounds_succ]; go_wp2)
  refine ret_set rfl rfl rfl (IsSet.new' _ _ _ _ (by simp)) ⟨rfl, ?_⟩
  exact ((Below.refl _ _).alloc (Nat.le_refl _) _).alloc (by simp) _
set_option maxHeartbeats 400000 in
theorem r5Or_any (S T : Nat) (w : World) :
    Calls Tryd.prog 28 #[sv S, sv T] w fun e w' => e = .returned (sv (S ||| T)) ∧ Below w.heap.size w w' := by
  have h0 := bits_union S T 0
  have h1 := bits_union S T 1
  have h2 := bits_union S T 2
  have h3 := bits_union S T 3
  show Calls Tryd.prog 28 #[.agg #[.int .u64 (word S 0), .int .u64 (word S 1), .int .u64 (word S 2), .int .u64 (word S 3)], .agg #[.int .u64 (word T 0), .int .u64 (word T 1), .int .u64 (word T 2), .int .u64 (word T 3)]] w _
  go_enter Tryd.func28, Tryd.ntmps28
  go_wp2
  refine wp_loop_rounds 5 ?_
  iterate 4 (rw [rounds_succ]; go_wp2; go_region; go_wp2)
  rw [rounds_succ]; go_wp2
  refine ret_set rfl rfl rfl (IsSet.drew (IsSet.drew (IsSet.drew (IsSet.drew (IsSet.new' _ _ _ _ (by simp)))))) ⟨rfl, ?_⟩
  exact (((((((Below.refl _ _).alloc (Nat.le_refl _) _).alloc (by simp) _).alloc (by simp; omega) _).drew).drew).drew).drew
end Go.Proofs.YteeopjgfiojoiaaDoor
namespace Go.Proofs.YteeopjgfiojoiaaDoor
open Go Go.RowKit SN

set_option maxHeartbeats 800000 in
theorem r5Add_k (S b k : Nat) (hb : b / 64 = k) (hk : k < 4) (w : World) :
    Calls Tryd.prog 21 #[sv S, .int .u8 b] w fun e w' => e = .returned (sv (add S b)) ∧ Below w.heap.size w w' := by
  have hb0 : (b : Int) < 256 := by omega
  have hkk : k = 0 ∨ k = 1 ∨ k = 2 ∨ k = 3 := by omega
  have hd := quo_cast b k hb
  have hw : bits .or .u64 (word S k) (IntKind.u64.wrap ((2 : Int) ^ (b % 64))) = (word (add S b) k : Nat) := by subst hb; exact bits_add S b
  have ho : ∀ j, j ≠ k → word (add S b) j = word S j := fun j hj => word_add_other S b j (by omega)
  unfold sv
  rcases hkk with rfl | rfl | rfl | rfl
  · rw [ho 1 (by decide), ho 2 (by decide), ho 3 (by decide)]
    have ho' := Lib.hid ho
    clear ho
    go_enter Tryd.func21, Tryd.ntmps21
    go_wp2
    refine bodyPost_ret (by simp [results, Tryd.results21, go_sem]) rfl ⟨rfl, ?_⟩
    exact ((Below.refl _ _).alloc (Nat.le_refl _) _).alloc (by simp) _
  · rw [ho 0 (by decide), ho 2 (by decide), ho 3 (by decide)]
    have ho' := Lib.hid ho
    clear ho
    go_enter Tryd.func21, Tryd.ntmps21
    go_wp2
    refine bodyPost_ret (by simp [results, Tryd.results21, go_sem]) rfl ⟨rfl, ?_⟩
    exact ((Below.refl _ _).alloc (Nat.le_refl _) _).alloc (by simp) _
  · rw [ho 0 (by decide), ho 1 (by decide), ho 3 (by decide)]
    have ho' := Lib.hid ho
    clear ho
    go_enter Tryd.func21, Tryd.ntmps21
    go_wp2
    refine bodyPost_ret (by simp [results, Tryd.results21, go_sem]) rfl ⟨rfl, ?_⟩
    exact ((Below.refl _ _).alloc (Nat.le_refl _) _).alloc (by simp) _
  · rw [ho 0 (by decide), ho 1 (by decide), ho 2 (by decide)]
    have ho' := Lib.hid ho
    clear ho
    go_enter Tryd.func21, Tryd.ntmps21
    go_wp2
    refine bodyPost_ret (by simp [results, Tryd.results21, go_sem]) rfl ⟨rfl, ?_⟩
    exact ((Below.refl _ _).alloc (Nat.le_refl _) _).alloc (by simp) _
/-- The reference's Add. -/
theorem r5Add_any (S b : Nat) (hb : b < 256) (w : World) :
    Calls Tryd.prog 21 #[sv S, .int .u8 b] w fun e w' => e = .returned (sv (add S b)) ∧ Below w.heap.size w w' := r5Add_k S b _ rfl (by omega) w
theorem rngTo_hit (lo hi k : Nat) (h1 : lo ≤ k) (h2 : k ≤ hi) (hk : k < 256) : ofP (fun b => (decide (lo ≤ b) && decide (b ≤ hi)) && decide (b < k + 1)) = add (ofP (fun b => (decide (lo ≤ b) && decide (b ≤ hi)) && decide (b < k))) k :=
  set_ext (ok_ofP _) (ok_add (ok_ofP _) hk) fun b hb => by
    rw [testBit_add, testBit_ofP _ _ hb, testBit_ofP _ _ hb, Bool.eq_iff_iff]; simp; omega
theorem rngTo_miss (lo hi k : Nat) (h : ¬ (lo ≤ k ∧ k ≤ hi)) : ofP (fun b => (decide (lo ≤ b) && decide (b ≤ hi)) && decide (b < k + 1)) = ofP (fun b => (decide (lo ≤ b) && decide (b ≤ hi)) && decide (b < k)) :=
  set_ext (ok_ofP _) (ok_ofP _) fun b hb => by
    rw [testBit_ofP _ _ hb, testBit_ofP _ _ hb, Bool.eq_iff_iff]; simp; omega
def rngK (lo hi k : Nat) : Nat := ofP (fun b => (decide (lo ≤ b) && decide (b ≤ hi)) && decide (b < k))
theorem rngK_0 (lo hi : Nat) : rngK lo hi 0 = 0 := set_ext (ok_ofP _) ok_zero fun b hb => by
  unfold rngK; rw [testBit_ofP _ _ hb]; simp
theorem rngK_256 (lo hi : Nat) : rngK lo hi 256 = rng lo hi := set_ext (ok_ofP _) (ok_ofP _) fun b hb => by
  unfold rngK rng; rw [testBit_ofP _ _ hb, testBit_ofP _ _ hb, Bool.eq_iff_iff]; simp [hb]
set_option maxHeartbeats 1000000 in
set_option maxRecDepth 100000 in
theorem r5Range_any (lo hi : Nat) (w : World) :
    Calls Tryd.prog 24 #[.int .u8 lo, .int .u8 hi] w fun e w' => e = .returned (sv (rng lo hi)) ∧ Below w.heap.size w w' := by
  go_enter Tryd.func24, Tryd.ntmps24
  go_wp2_with fail
  go_loopw [8] (fun i wr => ∃ k : Nat, k ≤ 256 ∧ i = .int .i64 k ∧ IsSet 24 wr (w.heap.size + 1) (rngK lo hi k) ∧ IsSet 24 wr w.heap.size 0 ∧ Below w.heap.size w wr) (fun i _ => 256 - (intOf i).toNat)
  case atStart =>
    refine ⟨0, by decide, rfl, ?_, (IsSet.zero _ w).alloc _, ((Below.refl _ _).alloc (Nat.le_refl _) _).alloc (by simp) _⟩
    rw [rngK_0]
    exact IsSet.zero2 _ w
  case round =>
    obtain ⟨k, hk, rfl, hS, hR, hb⟩ := hrel
    by_cases hlt : k < 256
    · by_cases hin : lo ≤ k ∧ k ≤ hi
      · obtain ⟨h1, h2⟩ := hin
        have hts : Hid (rngK lo hi (k + 1) = add (rngK lo hi k) k) := rngTo_hit lo hi k h1 h2 hlt
        obtain ⟨⟨c0, c1, c2, c3⟩, ⟨f0, f1, f2, f3⟩, hl⟩ := hS.all
        have hS' := Lib.hid hS
        have hR' := Lib.hid hR
        have hb' := Lib.hid hb
        clear hS hR hb
        go_wp2_with fail
        refine (r5Add_any (rngK lo hi k) k hlt _).mono ?_
        rintro e w1 ⟨rfl, hb1⟩
        obtain ⟨⟨d0, d1, d2, d3⟩, ⟨g0, g1, g2, g3⟩, hm⟩ := (hS'.out.below hb1 hl).all
        clear c0 c1 c2 c3 f0 f1 f2 f3
        unfold sv
        go_wp2
        go_roundw
        case rel =>
          refine ⟨k + 1, by omega, by go_num, ?_, ?_, ?_⟩
          · rw [hts.out]; exact (hS'.out.below hb1 hl).store4 _
          · exact ((((hR'.out.below hb1 (by omega)).set_other (by simp) _ _).set_other (by simp) _ _).set_other (by simp) _ _).set_other (by simp) _ _
          · exact ((((hb'.out.trans (hb1.mono (by omega))).setCell (by simp) _).setCell (by simp) _).setCell (by simp) _).setCell (by simp) _
        case measure => simp [intOf]; omega
      · have hts : Hid (rngK lo hi (k + 1) = rngK lo hi k) := rngTo_miss lo hi k hin
        have hS' := Lib.hid hS
        have hR' := Lib.hid hR
        have hb' := Lib.hid hb
        clear hS hR hb
        by_cases h1 : lo ≤ k
        all_goals
          go_wp2
          go_roundw
          case rel => exact ⟨k + 1, by omega, by go_num, by rw [hts.out]; exact hS'.out, hR'.out, hb'.out⟩
          case measure => simp [intOf]; omega
    · have : k = 256 := by omega
      subst this
      obtain ⟨⟨c0, c1, c2, c3⟩, ⟨f0, f1, f2, f3⟩, hl⟩ := hS.all
      obtain ⟨⟨d0, d1, d2, d3⟩, ⟨g0, g1, g2, g3⟩, hm⟩ := hR.all
      have hS' := Lib.hid hS
      have hR' := Lib.hid hR
      have hb' := Lib.hid hb
      clear hS hR hb
      go_wp2
      refine ret_set rfl rfl rfl (hR'.out.store4 _) ⟨by rw [rngK_256], ?_⟩
      exact (((hb'.out.setCell (by simp) _).setCell (by simp) _).setCell (by simp) _).setCell (by simp) _
set_option maxHeartbeats 1000000 in
set_option maxRecDepth 100000 in
theorem r5Bytes_any (S : Nat) (w : World) :
    Calls Tryd.prog 29 #[sv S] w fun e w' => ∃ v, e = .returned v ∧ OwnsB w' (w.heap.size + 1) v (mem S) ∧ Below w.heap.size w w' := by
  obtain ⟨i0, hi, hz0, hz1, hz2⟩ := info_parts info_u8
  show Calls Tryd.prog 29 #[.agg #[.int .u64 (word S 0), .int .u64 (word S 1), .int .u64 (word S 2), .int .u64 (word S 3)]] w _
  go_enter Tryd.func29, Tryd.ntmps29
  go_wp2_with fail
  go_loopw [3, 5] (fun v i wr => ∃ k : Nat, k ≤ 256 ∧ i = .int .i64 k ∧ OwnsB wr (w.heap.size + 1) v (memTo S k) ∧ IsSet 24 wr w.heap.size S ∧ Below w.heap.size w wr) (fun _ i _ => 256 - (intOf i).toNat)
  case atStart => exact ⟨0, Nat.zero_le _, rfl, OwnsB.nil _ _, IsSet.new' _ _ _ _ rfl, (Below.refl _ _).alloc (Nat.le_refl _) _⟩
  case round =>
    obtain ⟨k, hk, rfl, hown, hR, hb⟩ := hrel
    by_cases hlt : k < 256
    · obtain ⟨⟨c0, c1, c2, c3⟩, ⟨f0, f1, f2, f3⟩, hl⟩ := hR.all
      have hR' := Lib.hid hR
      have hb' := Lib.hid hb
      have hown' := Lib.hid hown
      clear hR hb hown
      go_wp2_with fail
      refine (r5Has_any S k hlt _).mono ?_
      rintro e w1 ⟨rfl, hb1⟩
      have hown1 : OwnsB w1 (w.heap.size + 1) u3 (memTo S k) := hown'.out.keptB hb1 (by omega)
      have hz1' := hb1.size
      cases hbit : S.testBit k with
      | true =>
        have hbit' := Lib.hid hbit
        clear hbit
        go_wp2_with (at_builtin; refine wpList_append_own _ rfl _ _ 36 rfl (w.heap.size + 1) 5 i0 (.int .u8 0) 1 1 Tryd.underlying36 hi hz0 hz1 hz2 rfl (by decide) _ _ _ rfl (hown1.alloc _) ⟨w1.heap.size, 0, none⟩ 1 1 [.int .u8 k] rfl rfl ?c1 ?c2 ?c3 ?c4 ?c5 ?_)
        case c1 => exact one_new _ _ _
        case c2 => intro u hu; simp at hu; subst hu; rfl
        case c3 => have := memTo_le S k; unfold maxLen; omega
        case c4 => have := memTo_le S k; omega
        case c5 => simp; omega
        intro v' w2 hown2 hg2 _
        go_wp2
        go_roundw
        case rel =>
          have hlow := hown1.lt
          refine ⟨k + 1, by omega, by go_num, ?_, ?_, ?_⟩
          · rw [memTo_yes S k hbit'.out]; exact OwnsB.snoc hown2
          · exact ((hR'.out.below hb1 (by omega)).alloc _).grown hg2 (fun h => by have := hlow _ h.symm; omega)
          · exact ((hb'.out.trans (hb1.mono (by omega))).alloc (by omega) _).grown hg2 (by simp; omega) (fun j hj => by have := hlow _ hj; omega)
        case measure => simp [intOf]; omega
      | false =>
        have hbit' := Lib.hid hbit
        clear hbit
        go_wp2
        go_roundw
        case rel => exact ⟨k + 1, by omega, by go_num, by rw [memTo_no S k hbit'.out]; exact hown1, hR'.out.below hb1 (by omega), hb'.out.trans (hb1.mono (by omega))⟩
        case measure => simp [intOf]; omega
    · have : k = 256 := by omega
      subst this
      have hb' := Lib.hid hb
      have hown' := Lib.hid hown
      clear hb hown
      go_wp2
      go_ret
      exact ⟨_, rfl, hown'.out, hb'.out⟩
end Go.Proofs.YteeopjgfiojoiaaDoor
