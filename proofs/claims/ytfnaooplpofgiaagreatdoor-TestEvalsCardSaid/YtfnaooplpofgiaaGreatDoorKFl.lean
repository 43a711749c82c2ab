/- What the two trees of files() tell an operator of one operand. Conditions: the trees lie in memory, and the errors' variables. -/
import Derived.Test.YtfnaooplpofgiaaGreatDoorKFiles
import Derived.Test.YtfnaooplpofgiaaGreatDoorKSt
import Derived.Test.YtfnaooplpofgiaaGreatDoorKUd
import Derived.Test.YtfnaooplpofgiaaGreatDoorKNums
import Derived.WalkMore
import Derived.OwnWalk
import Derived.Handy
import Derived.Outline
namespace Go.Proofs.YtfnaooplpofgiaaGreatDoor
open Go Go.RowKit SN

def fU (op s : List UInt8) : Option Bool := unP (fileS s) op s
def GT (N : Nat) (E : Nat → Addr) (t r : Nat) (T : Nat → Option Nd) (W : World) : Prop := Errs N E W ∧ MaxL N W ∧ N ≤ W.heap.size ∧ IsTr W t r T
theorem GT.keep {N : Nat} {E : Nat → Addr} {t r : Nat} {T : Nat → Option Nd} : ∀ W W', GT N E t r T W → Below W.heap.size W W' → GT N E t r T W' := fun _ _ h b => ⟨h.1.below b h.2.2.1, h.2.1.below b h.2.2.1, Nat.le_trans h.2.2.1 b.size, h.2.2.2.below b⟩
theorem unC_files {N : Nat} {E : Nat → Addr} {t r : Nat} {T : Nat → Option Nd} (hst : ∀ p, statP T r p = fileS p) : UnC (.pointer (some ⟨t, 0, none⟩)) fU (GT N E t r T) := fun W s0 s1 hg => by
  have hS := stat_any (E := E) s1 W hg.1 hg.2.1 hg.2.2.1 hg.2.2.2
  rw [hst] at hS
  exact unary_any (some ⟨t, 0, none⟩) s0 s1 _ (fun _ => by simp) W hS
theorem fileS_dir {p : List UInt8} {n : Nat} (h : fileS p = some (true, n)) : 1 ≤ n := by
  unfold fileS at h
  cases hc : cleanP p with
  | none => rw [hc] at h; cases h
  | some l =>
    rw [hc] at h
    change statF l = some (true, n) at h
    match l, h with
    | [], h => cases h; decide
    | [s], h =>
      rw [statF_one] at h
      split at h
      · cases h; decide
      · split at h
        · cases h
        · split at h <;> cases h
    | [s, u], h =>
      rw [statF_two] at h
      split at h
      · split at h <;> cases h
      · cases h
    | s :: u :: v :: l, h => cases h
theorem unP_dir {n : Nat} (h : 1 ≤ n) (o s : List UInt8) : unP (some (true, n)) o s = unP (some (true, 1)) o s := by
  unfold unP
  simp only [decide_eq_true (show 0 < n by omega), decide_eq_true (show 0 < 1 by decide), Option.isSome_some]
theorem runC_files {m : Nat} {L : DRow} {D : Nat → Option DN} {b0 n1 n2 n3 n4 : Nat} (hF : FilD L D b0 n1 n2 n3 n4) : RUnC (.pointer (some ⟨m, 0, none⟩)) fU (fun W => IsDt W m L D) := fun W s0 s1 k hk hg => by
  have hS : ∀ W', Below W.heap.size W W' → Calls Tryz.prog 56 #[.pointer (some ⟨m, 0, none⟩), .string s1] W' (RStD ((fileS s1.data.toList).map fun x => ⟨x.1, if x.1 then 0 else x.2⟩) W') := fun W' hb => by
    rw [← statD_files hF]
    exact rstat_any s1 W' (IsDt.below hg hb) hF.kid
  have hU : ∀ st, unP (fileS s1.data.toList) s0.data.toList s1.data.toList = unP st s0.data.toList s1.data.toList → unO fU s0.data.toList s1.data.toList = unO (unP st) s0.data.toList s1.data.toList := fun st h => by
    unfold unO fU
    rw [h]
  cases hfs : fileS s1.data.toList with
  | none =>
    rw [hfs] at hS hU
    rw [hU none rfl]
    refine runary_any (some ⟨m, 0, none⟩) s0 s1 none k (fun h => by cases h) W fun a ha W' hb => ?_
    cases ha
    exact (hS W' hb).mono fun _ _ ⟨n, hn, hR⟩ => by
      have hn' : n = none := hn
      rw [hn'] at hR
      exact hR
  | some x =>
    obtain ⟨d, n⟩ := x
    rw [hfs] at hS hU
    cases d with
    | false =>
      rw [hU (some (false, n)) rfl]
      refine runary_any (some ⟨m, 0, none⟩) s0 s1 (some (false, n)) k (fun h => by cases h) W fun a ha W' hb => ?_
      cases ha
      exact (hS W' hb).mono fun _ _ ⟨v, ⟨q, hv, hq, _⟩, hR⟩ => by
        rw [hv, hq rfl] at hR
        exact hR
    | true =>
      have h1 := fileS_dir hfs
      rw [hU (some (true, 1)) (unP_dir h1 _ _)]
      exact runary_dir ⟨m, 0, none⟩ s0 s1 k W fun W' hb => (hS W' hb).mono fun _ _ ⟨v, ⟨q, hv, _, hq⟩, hR⟩ => by
        rw [hv] at hR
        exact ⟨q, hq rfl, hR⟩
theorem ops1 (a : ByteArray) (w : World) : IsOps (w.alloc (.cells #[.string a] 9)) (.slice (some ⟨w.heap.size, 0, none⟩) 1 1) [a] :=
  ⟨_, 1, rfl, Nat.le_refl _, .inr ⟨w.heap.size, rfl, by simp, fun i s h => by
    match i, h with
    | 0, h => cases h; exact row_cell (heap_alloc_new w _) rfl⟩⟩
theorem ops2 (a b : ByteArray) (w : World) : IsOps (w.alloc (.cells #[.string a, .string b] 9)) (.slice (some ⟨w.heap.size, 0, none⟩) 2 2) [a, b] :=
  ⟨_, 2, rfl, Nat.le_refl _, .inr ⟨w.heap.size, rfl, by simp, fun i s h => by
    match i, h with
    | 0, h => cases h; exact row_cell (heap_alloc_new w _) rfl
    | 1, h => cases h; exact row_cell (heap_alloc_new w _) rfl⟩⟩
theorem ops4 (a b c d : ByteArray) (w : World) : IsOps (w.alloc (.cells #[.string a, .string b, .string c, .string d] 9)) (.slice (some ⟨w.heap.size, 0, none⟩) 4 4) [a, b, c, d] :=
  ⟨_, 4, rfl, Nat.le_refl _, .inr ⟨w.heap.size, rfl, by simp, fun i s h => by
    match i, h with
    | 0, h => cases h; exact row_cell (heap_alloc_new w _) rfl
    | 1, h => cases h; exact row_cell (heap_alloc_new w _) rfl
    | 2, h => cases h; exact row_cell (heap_alloc_new w _) rfl
    | 3, h => cases h; exact row_cell (heap_alloc_new w _) rfl⟩⟩
theorem maxL_of {W : World} (hsh : W.ShapedOpen Tryz.prog) : MaxL W.heap.size W := by
  obtain ⟨m, hm⟩ := Tryz.laysM146.s1_3 W hsh
  exact ⟨⟨m, hm⟩, World.block_lt_of_cell? W _ hm⟩
end Go.Proofs.YtfnaooplpofgiaaGreatDoor
