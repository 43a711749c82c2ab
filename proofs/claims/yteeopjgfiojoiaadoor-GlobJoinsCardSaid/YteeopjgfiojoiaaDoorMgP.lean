/- De Morgan's law and the counts of sets of bytes, as plain facts. No conditions but that the sets are sets of bytes. -/
import Derived.Test.YteeopjgfiojoiaaDoorWRanges
namespace Go.Proofs.YteeopjgfiojoiaaDoor
open Go Go.RowKit SN

theorem full_bit (b : Nat) (hb : b < 256) : full.testBit b = true := by unfold full; rw [Nat.testBit_two_pow_sub_one]; simpa using hb
theorem cmpl_bit (S b : Nat) (hb : b < 256) : (cmpl S).testBit b = !S.testBit b := by unfold cmpl; rw [Nat.testBit_xor, full_bit b hb]; simp
theorem union2_eq (S T : Nat) : unionL [S, T] = S ||| T := by unfold unionL; simp
theorem union2_bit (S T b : Nat) : (unionL [S, T]).testBit b = (S.testBit b || T.testBit b) := by rw [union2_eq, Nat.testBit_or]
theorem ok_union2 {S T : Nat} (hS : Ok S) (hT : Ok T) : Ok (unionL [S, T]) := by rw [union2_eq]; exact ok_or hS hT
theorem cmpl_cmpl {S : Nat} (hS : Ok S) : cmpl (cmpl S) = S := set_ext (ok_cmpl (ok_cmpl hS)) hS fun b hb => by rw [cmpl_bit _ b hb, cmpl_bit _ b hb, Bool.not_not]
theorem morgan_bit (S T b : Nat) (hb : b < 256) : (cmpl (unionL [cmpl S, cmpl T])).testBit b = (S.testBit b && T.testBit b) := by
  rw [cmpl_bit _ b hb, union2_bit, cmpl_bit _ b hb, cmpl_bit _ b hb, ← Bool.not_and, Bool.not_not]
theorem ofL_mem {S : Nat} (hS : Ok S) : ofL (toB (mem S)).data.toList = S := by
  refine set_ext (ok_ofL _) hS fun b hb => ?_
  rw [toB_bit _ (fun _ h => mem_lt h), Bool.eq_iff_iff, List.contains_iff_mem, mem_bit]
  exact ⟨fun h => h.2, fun h => ⟨hb, h⟩⟩
theorem cnt_split (S : Nat) : cnt S + cnt (cmpl S) = 256 := by have := mem_split S; unfold cnt; omega
theorem cnt_both (S T : Nat) : cnt (cmpl (unionL [cmpl S, cmpl T])) + cnt (unionL [S, T]) = cnt S + cnt T := by
  unfold cnt mem
  have key : ∀ n, n ≤ 256 → ((List.range n).filter (cmpl (unionL [cmpl S, cmpl T])).testBit).length + ((List.range n).filter (unionL [S, T]).testBit).length = ((List.range n).filter S.testBit).length + ((List.range n).filter T.testBit).length := by
    intro n
    induction n with
    | zero => intro _; rfl
    | succ n ih =>
      intro h
      have ih := ih (by omega)
      have h1 := morgan_bit S T n (by omega)
      have h2 := union2_bit S T n
      simp only [List.range_succ, List.filter_append, List.length_append]
      cases hs : S.testBit n <;> cases ht : T.testBit n <;> rw [hs, ht] at h1 h2 <;> simp [h1, h2, hs, ht] <;> omega
  exact key 256 (Nat.le_refl _)
theorem wrap_small (x : Int) (h0 : 0 ≤ x) (h1 : x ≤ 512) : IntKind.i64.wrap x = x := by simp [IntKind.wrap, IntKind.bits, IntKind.signed]; omega
end Go.Proofs.YteeopjgfiojoiaaDoor
