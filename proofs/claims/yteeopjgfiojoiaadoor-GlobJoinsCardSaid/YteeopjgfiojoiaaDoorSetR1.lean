/- Walks over the reference of chapter 5: Has, Not, Or, Add, Range: what each computes, for every set. -/
import Derived.Test.YteeopjgfiojoiaaDoorSetW1
namespace Go.Proofs.YteeopjgfiojoiaaDoor
open Go Go.RowKit SN

set_option maxHeartbeats 400000 in
theorem r5Has_k (S b k : Nat) (hb : b / 64 = k) (hk : k < 4) (w : World) :
    Calls Tryd.prog 31 #[sv S, .int .u8 b] w fun e w' => e = .returned (.bool (bits .and .u64 ((word S k : Nat) / 2 ^ (b % 64) : Int) 1 == 1)) ∧ Below w.heap.size w w' := by
  have hb0 : (b : Int) < 256 := by omega
  have hkk : k = 0 ∨ k = 1 ∨ k = 2 ∨ k = 3 := by omega
  have hd := quo_cast b k hb
  unfold sv
  rcases hkk with rfl | rfl | rfl | rfl
  all_goals
    go_enter Tryd.func31, Tryd.ntmps31
    go_wp2
    go_ret
    exact ⟨rfl, (Below.refl _ _).alloc (Nat.le_refl _) _⟩
/-- The reference's Has. -/
theorem r5Has_any (S b : Nat) (hb : b < 256) (w : World) :
    Calls Tryd.prog 31 #[sv S, .int .u8 b] w fun e w' => e = .returned (.bool (S.testBit b)) ∧ Below w.heap.size w w' := by
  rw [← bit_test]; exact r5Has_k S b _ rfl (by omega) w
set_option maxHeartbeats 400000 in
theorem r5Not_any (S : Nat) (w : World) :
    Calls Tryd.prog 26 #[sv S] w fun e w' => e = .returned (sv (cmpl S)) ∧ Below w.heap.size w w' := by
  have h0 := bits_not S 0 (by decide)
  have h1 := bits_not S 1 (by decide)
  have h2 := bits_not S 2 (by decide)
  have h3 := bits_not S 3 (by decide)
  show Calls Tryd.prog 26 #[.agg #[.int .u64 (word S 0), .int .u64 (word S 1), .int .u64 (word S 2), .int .u64 (word S 3)]] w _
  go_enter Tryd.func26, Tryd.ntmps26
  go_wp2
  refine wp_loop_rounds 5 ?_
  iterate 5 (rw [rounds_succ]; go_wp2)
  refine ret_set rfl rfl rfl (IsSet.new' _ _ _ _ (by simp)) ⟨rfl, ?_⟩
  exact ((Below.refl _ _).alloc (Nat.le_refl _) _).alloc (by simp) _
set_option maxHeartbeats 400000 in
theorem r5Or_any (S T : Nat) (w : World) :
    Calls Tryd.prog 28 #[sv S, sv T] w fun e w' => e = .returned (sv (S ||| T)) ∧ Below w.heap.size w w' := by
  have h0 := bits_union S T 0
  have h1 := bits_union S T 1
  have h2 := bits_union S T 2
  have h3 := bits_union S T 3
  show Calls Tryd.prog 28 #[.agg #[.int .u64 (word S 0), .int .u64 (word S 1), .int .u64 (word S 2), .int .u64 (word S 3)], .agg #[.int .u64 (word T 0), .int .u64 (word T 1), .int .u64 (word T 2), .int .u64 (word T 3)]] w _
  go_enter Tryd.func28, Tryd.ntmps28
  go_wp2
  refine wp_loop_rounds 5 ?_
  iterate 4 (rw [rounds_succ]; go_wp2; go_region; go_wp2)
  rw [rounds_succ]; go_wp2
  refine ret_set rfl rfl rfl (IsSet.drew (IsSet.drew (IsSet.drew (IsSet.drew (IsSet.new' _ _ _ _ (by simp)))))) ⟨rfl, ?_⟩
  exact (((((((Below.refl _ _).alloc (Nat.le_refl _) _).alloc (by simp) _).alloc (by simp; omega) _).drew).drew).drew).drew
end Go.Proofs.YteeopjgfiojoiaaDoor
