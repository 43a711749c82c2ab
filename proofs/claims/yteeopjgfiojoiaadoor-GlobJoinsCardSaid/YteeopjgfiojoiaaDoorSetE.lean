/- Two sets, compared by the program: the same or not. -/
import Derived.Test.YteeopjgfiojoiaaDoorSetW2
import Derived.ChangeKeysEq
namespace Go.Proofs.YteeopjgfiojoiaaDoor
open Go Go.RowKit SN

theorem info_u64' : ∃ i, Tryd.prog.info? 22 = some i := by
  have h : (Tryd.prog.info? 22).isSome = true := by kernel_rfl
  exact Option.isSome_iff_exists.1 h
theorem cells_u64 : Tryd.prog.cellsOf 22 = 1 := by kernel_rfl
theorem eq_u64 (d : Nat) (a b : Int) (w : World) : (Op.equalIn (d + 1) 22 (.int .u64 a) (.int .u64 b)).run Tryd.prog w = .ok (a == b) w := by
  simp [Op.equalIn, run_underlying Tryd.underlying22]
theorem parts4 (x0 x1 x2 x3 : Int) (w : World) :
    (part 22 #[.int .u64 x0, .int .u64 x1, .int .u64 x2, .int .u64 x3] (0 * 1)).run Tryd.prog w = .ok (.int .u64 x0) w ∧ (part 22 #[.int .u64 x0, .int .u64 x1, .int .u64 x2, .int .u64 x3] (1 * 1)).run Tryd.prog w = .ok (.int .u64 x1) w ∧
    (part 22 #[.int .u64 x0, .int .u64 x1, .int .u64 x2, .int .u64 x3] (2 * 1)).run Tryd.prog w = .ok (.int .u64 x2) w ∧ (part 22 #[.int .u64 x0, .int .u64 x1, .int .u64 x2, .int .u64 x3] (3 * 1)).run Tryd.prog w = .ok (.int .u64 x3) w :=
  ⟨by kernel_rfl, by kernel_rfl, by kernel_rfl, by kernel_rfl⟩
theorem run_eql_words (a0 a1 a2 a3 b0 b1 b2 b3 : Int) (w : World) :
    (binOp .eql 24 (.agg #[.int .u64 a0, .int .u64 a1, .int .u64 a2, .int .u64 a3]) (.agg #[.int .u64 b0, .int .u64 b1, .int .u64 b2, .int .u64 b3])).run Tryd.prog w = .ok (.bool ((a0 == b0) && (a1 == b1) && (a2 == b2) && (a3 == b3))) w := by
  obtain ⟨i, hi⟩ := info_u64'
  obtain ⟨p0, p1, p2, p3⟩ := parts4 a0 a1 a2 a3 w
  obtain ⟨q0, q1, q2, q3⟩ := parts4 b0 b1 b2 b3 w
  rw [run_eql_struct, run_equalIn_array w 9999 _ _ Tryd.underlying24 hi, cells_u64]
  rw [show List.range 4 = [0, 1, 2, 3] from rfl]
  have e0 : (Op.equalIn 9999 22 (.int .u64 a0) (.int .u64 b0)).run Tryd.prog w = .ok (a0 == b0) w := eq_u64 9998 a0 b0 w
  have e1 : (Op.equalIn 9999 22 (.int .u64 a1) (.int .u64 b1)).run Tryd.prog w = .ok (a1 == b1) w := eq_u64 9998 a1 b1 w
  have e2 : (Op.equalIn 9999 22 (.int .u64 a2) (.int .u64 b2)).run Tryd.prog w = .ok (a2 == b2) w := eq_u64 9998 a2 b2 w
  have e3 : (Op.equalIn 9999 22 (.int .u64 a3) (.int .u64 b3)).run Tryd.prog w = .ok (a3 == b3) w := eq_u64 9998 a3 b3 w
  simp only [Op.eqItems, Sem.run_bind, Sem.run_ite, p0, p1, p2, p3, q0, q1, q2, q3, Result.andThen_ok, e0, e1, e2, e3]
  cases (a0 == b0) <;> cases (a1 == b1) <;> cases (a2 == b2) <;> cases (a3 == b3) <;> simp
theorem eq_words (A B : Nat) (hA : Ok A) (hB : Ok B) : (((word A 0 : Int) == (word B 0 : Int)) && ((word A 1 : Int) == (word B 1 : Int)) && ((word A 2 : Int) == (word B 2 : Int)) && ((word A 3 : Int) == (word B 3 : Int))) = decide (A = B) := by
  rw [Bool.eq_iff_iff]
  simp only [Bool.and_eq_true, beq_iff_eq, decide_eq_true_eq]
  constructor
  · rintro ⟨⟨⟨h0, h1⟩, h2⟩, h3⟩
    refine word_ext hA hB fun k hk => ?_
    have : k = 0 ∨ k = 1 ∨ k = 2 ∨ k = 3 := by omega
    rcases this with rfl | rfl | rfl | rfl <;> omega
  · rintro rfl
    simp
theorem run_eql_set (A B : Nat) (hA : Ok A) (hB : Ok B) (w : World) : (binOp .eql 24 (sv A) (sv B)).run Tryd.prog w = .ok (.bool (decide (A = B))) w := by
  have h := run_eql_words (word A 0) (word A 1) (word A 2) (word A 3) (word B 0) (word B 1) (word B 2) (word B 3) w
  have e : (((word A 0 : Int) == (word B 0 : Int)) && ((word A 1 : Int) == (word B 1 : Int)) && ((word A 2 : Int) == (word B 2 : Int)) && ((word A 3 : Int) == (word B 3 : Int))) = decide (A = B) := eq_words A B hA hB
  rw [e] at h
  exact h
end Go.Proofs.YteeopjgfiojoiaaDoor
