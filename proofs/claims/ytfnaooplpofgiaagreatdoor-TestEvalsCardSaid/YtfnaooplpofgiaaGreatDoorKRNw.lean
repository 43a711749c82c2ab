/- The document's tree: New, nodes, before, add, stamp. Conditions: the tree lies in memory. -/
import Derived.Test.YtfnaooplpofgiaaGreatDoorKRSt
import Derived.WalkMore
import Derived.OwnWalk
import Derived.Handy
import Derived.Outline
namespace Go.Proofs.YtfnaooplpofgiaaGreatDoor
open Go Go.RowKit SN

set_option maxHeartbeats 1000000 in
set_option maxRecDepth 100000 in
theorem rnew_any (w : World) : Calls Tryz.prog 21 #[] w fun e w' => ∃ m B, e = .returned (.pointer (some ⟨m, 0, none⟩)) ∧ w.heap.size ≤ m ∧ w.heap.size ≤ B ∧ IsDt w' m [(⟨#[]⟩, B)] (fun C => if C = B then some ⟨true, 0⟩ else none) ∧ Below w.heap.size w w' := by
  go_enter Tryz.func21, Tryz.ntmps21
  go_wp2_with fail
  go_ret
  have r0 := row_alloc (row_alloc (heap_alloc_new w (.cells #[.bool true, .slice none 0 0, .int .i64 0] 96)) (.cells #[.string ⟨#[]⟩, .pointer (some ⟨w.heap.size, 0, none⟩)] 98)) (.cells #[.slice (some ⟨w.heap.size + 1, 0, none⟩) 1 1, .int .i64 0, .bool false] 101)
  have r1 := row_alloc (heap_alloc_new (w.alloc (.cells #[.bool true, .slice none 0 0, .int .i64 0] 96)) (.cells #[.string ⟨#[]⟩, .pointer (some ⟨w.heap.size, 0, none⟩)] 98)) (.cells #[.slice (some ⟨w.heap.size + 1, 0, none⟩) 1 1, .int .i64 0, .bool false] 101)
  have r2 := heap_alloc_new ((w.alloc (.cells #[.bool true, .slice none 0 0, .int .i64 0] 96)).alloc (.cells #[.string ⟨#[]⟩, .pointer (some ⟨w.heap.size, 0, none⟩)] 98)) (.cells #[.slice (some ⟨w.heap.size + 1, 0, none⟩) 1 1, .int .i64 0, .bool false] 101)
  rw [World.size_alloc] at r1
  rw [World.size_alloc, World.size_alloc] at r2
  refine ⟨_, w.heap.size, rfl, by omega, Nat.le_refl _, ⟨⟨_, _, _, _, r2, Nat.le_refl _, by simp, ?_⟩, ?_, by simp, by intro x hx; rw [List.mem_singleton] at hx; subst hx; exact Nat.zero_le _⟩, (((Below.refl _ _).alloc (Nat.le_refl _) _).alloc (by simp) _).alloc (by simp; omega) _⟩
  · intro i x hx j v hj
    match i, hx with
    | 0, hx =>
      cases hx
      match j, hj with
      | 0, hj => cases hj; exact row_cell r1 rfl
      | 1, hj => cases hj; exact row_cell r1 rfl
  · intro x hx
    rw [List.mem_singleton] at hx
    subst hx
    exact ⟨⟨true, 0⟩, by simp, none, 0, 0, r0⟩
def BoolR (w0 : World) (e : Ending) (w' : World) : Prop := ∃ v, e = .returned (.bool v) ∧ Below w0.heap.size w0 w'
set_option maxHeartbeats 2000000 in
set_option maxRecDepth 100000 in
theorem before_any (p q : ByteArray) (hp : p.size ≤ 1000000) (w : World) : Calls Tryz.prog 65 #[.string p, .string q] w (BoolR w) := by
  go_enter Tryz.func65, Tryz.ntmps65
  go_wp2_with fail
  go_loopw [5, 6, 7] (fun i u v wr => ∃ (k : Nat), k ≤ p.size ∧ i = .int .i64 k ∧ Hid (Below w.heap.size w wr)) (fun i _ _ _ => p.size - (intOf i).toNat)
  case atStart => exact ⟨0, Nat.zero_le _, rfl, Lib.hid (Below.refl _ _)⟩
  case round =>
    obtain ⟨k, hk, rfl, hb⟩ := hrel
    by_cases h1 : k < p.size
    · have h1I : (k : Int) < (p.size : Int) := by omega
      by_cases h2 : k < q.size
      · have h2I : (k : Int) < (q.size : Int) := by omega
        have hb2 := Lib.hid (below_drewN hb.out 1)
        go_wp2_with fail
        go_region
        change Hid (Below w.heap.size w wr.drew) at hb2
        generalize wr.drew = W at hb2 ⊢
        generalize p[k].toNat = a
        generalize q[k].toNat = b
        go_wp2_with fail
        case roundEnd =>
          refine ⟨⟨k + 1, by omega, rfl, hb2⟩, ?_⟩
          simp [intOf]; omega
        all_goals (go_ret; exact ⟨_, rfl, hb2.out⟩)
      · have h2I : ¬ (k : Int) < (q.size : Int) := by omega
        go_wp2_with fail
        go_ret
        exact ⟨_, rfl, hb.out⟩
    · have h1I : ¬ (k : Int) < (p.size : Int) := by omega
      go_wp2_with fail
      go_ret
      exact ⟨_, rfl, hb.out⟩
theorem neq_node {w : World} {B C : Nat} {n k : DN} (hB : IsDn w B n) (hC : IsDn w C k) : (binOp .neq 94 (.pointer (some ⟨B, 0, none⟩)) (.pointer (some ⟨C, 0, none⟩))).run Tryz.prog w = .ok (.bool (!decide (B = C))) w := by
  obtain ⟨sl, cap, ti, h1⟩ := hB
  obtain ⟨sl2, cap2, ti2, h2⟩ := hC
  have hp := Tryz.underlying94
  have hi : (Tryz.prog.info? 96).map (fun i => decide (i.size ≠ 0)) = some true := by kernel_rfl
  obtain ⟨j, hj, hj2⟩ := Option.map_eq_some_iff.1 hi
  have hj3 : j.size ≠ 0 := of_decide_eq_true hj2
  by_cases e : B = C
  · subst e
    rw [decide_eq_true rfl]
    have h : ∀ d : Nat, (Op.equalIn (d + 1) 94 (.pointer (some ⟨B, 0, none⟩)) (.pointer (some ⟨B, 0, none⟩))).run Tryz.prog w = .ok true w := fun d => by
      simp [Op.equalIn, run_underlying hp, sizeOf, typeInfo, hj, run_sameAddr_same]
    simp only [binOp]
    simp [Op.equal, Op.maxDepth, h 9999]
  · rw [decide_eq_false e]
    have h : ∀ d : Nat, (Op.equalIn (d + 1) 94 (.pointer (some ⟨B, 0, none⟩)) (.pointer (some ⟨C, 0, none⟩))).run Tryz.prog w = .ok false w := fun d => by
      simp [Op.equalIn, run_underlying hp, sizeOf, typeInfo, hj, hj3, run_sameAddr_other w (show (⟨B, 0, none⟩ : Addr) ≠ ⟨C, 0, none⟩ from fun h => e (by injection h)) h1 h2]
    simp only [binOp]
    simp [Op.equal, Op.maxDepth, h 9999]
def NodR (n : Nat) (w0 : World) (e : Ending) (w' : World) : Prop := ∃ k : Nat, k ≤ n ∧ e = .returned (.int .i64 k) ∧ Below w0.heap.size w0 w'
set_option maxHeartbeats 4000000 in
set_option maxRecDepth 100000 in
theorem nodes_any {m : Nat} {L : DRow} {D : Nat → Option DN} (w : World) (h : IsDt w m L D) : Calls Tryz.prog 49 #[.pointer (some ⟨m, 0, none⟩)] w (NodR L.length w) := by
  obtain ⟨⟨g, cap, now, gr, h1, hcap, h3, h4⟩, h5, h6, -⟩ := h
  have c1 : w.cell? ⟨m, 0, none⟩ = some (.slice (some ⟨g, 0, none⟩) L.length cap) := row_cell h1 rfl
  have hm := row_lt h1
  have h4' := Lib.hid h4
  have h5' := Lib.hid h5
  have c1' := Lib.hid c1
  clear h1 h4 h5
  go_enter Tryz.func49, Tryz.ntmps49
  go_wp2_with fail
  clear c1
  go_loopw [3, 14] (fun v i wr => ∃ (j k : Nat), j ≤ L.length ∧ k ≤ j ∧ v = .int .i64 k ∧ i = .int .i64 j ∧ Hid (Below w.heap.size w wr) ∧ w.heap.size ≤ wr.heap.size) (fun _ i _ => L.length - (intOf i).toNat)
  case atStart => exact ⟨0, 0, Nat.zero_le _, Nat.le_refl _, rfl, rfl, Lib.hid (Below.refl _ _), Nat.le_refl _⟩
  case round =>
    obtain ⟨j, k, hj, hkj, rfl, rfl, hb, hz⟩ := hrel
    by_cases hjj : j < L.length
    · have hjI : (j : Int) < (L.length : Int) := by omega
      have hj0 : (0 : Int) ≤ (j : Int) ∧ (j : Int) ≤ (cap : Int) := ⟨by omega, by omega⟩
      have hra := Lib.hid (rangeAt_below (h4'.out j L[j] (List.getElem?_eq_getElem hjj)) hb.out h3)
      have hnd := Lib.hid (h5'.out L[j] (List.getElem_mem hjj))
      have cr : wr.cell? ⟨m, 0, none⟩ = some (.slice (some ⟨g, 0, none⟩) L.length cap) := (hb.out.cell (p := ⟨m, 0, none⟩) hm).trans c1'.out
      have hnm : ¬ m = wr.heap.size := by omega
      generalize L[j] = x at hra hnd
      have cr2 : (wr.alloc (.cells #[.string x.1, .pointer (some ⟨x.2, 0, none⟩)] 98)).cell? ⟨m, 0, none⟩ = some (.slice (some ⟨g, 0, none⟩) L.length cap) := by rw [World.cell?_alloc_lt wr _ ⟨m, 0, none⟩ (by show m < wr.heap.size; omega)]; exact cr
      clear cr hnm
      go_wp2_with ((with_reducible refine load_entL g j x ?_ hra.out ?_); · rfl)
      have hb1 := Lib.hid (hb.out.alloc hz (.cells #[.string x.1, .pointer (some ⟨x.2, 0, none⟩)] 98))
      have hx1 := Lib.hid (heap_alloc_new wr (.cells #[.string x.1, .pointer (some ⟨x.2, 0, none⟩)] 98))
      have hz1 : wr.heap.size + 1 ≤ (wr.alloc (.cells #[.string x.1, .pointer (some ⟨x.2, 0, none⟩)] 98)).heap.size := by simp
      generalize (wr.alloc (.cells #[.string x.1, .pointer (some ⟨x.2, 0, none⟩)] 98)) = W0 at hb1 hx1 hz1 ⊢
      obtain ⟨Bx, hBx⟩ : ∃ Bx, Bx = wr.heap.size := ⟨_, rfl⟩
      rw [← hBx] at hz hz1 hx1 ⊢
      clear cr2 hra hb hBx
      go_loopw [6, 26] (fun b i W => ∃ (q : Nat) (d : Bool), q ≤ j ∧ b = .bool d ∧ i = .int .i64 q ∧ Hid (Below w.heap.size w W) ∧ Bx + 1 ≤ W.heap.size ∧ Hid (W.heap[Bx]? = some (.cells #[.string x.1, .pointer (some ⟨x.2, 0, none⟩)] 98 (0, 0)))) (fun _ i _ => j - (intOf i).toNat)
      case atStart => exact ⟨0, true, Nat.zero_le _, rfl, rfl, hb1, hz1, hx1⟩
      case round =>
        obtain ⟨q, d, hq, rfl, rfl, hbq, hzq, hxq⟩ := hrel
        by_cases hqq : q < j
        · have hqI : (q : Int) < (j : Int) := by omega
          have hqL : q < L.length := by omega
          have hrq := Lib.hid (rangeAt_below (h4'.out q L[q] (List.getElem?_eq_getElem hqL)) hbq.out h3)
          have hnq := Lib.hid (h5'.out L[q] (List.getElem_mem hqL))
          generalize L[q] = y at hrq hnq
          obtain ⟨nx, -, hnx⟩ := hnd.out
          obtain ⟨ny, -, hny⟩ := hnq.out
          have hbA := hbq.out.alloc (by omega) (.cells #[.string y.1, .pointer (some ⟨y.2, 0, none⟩)] 98)
          have e1 := neq_node (hny.below hbA) (hnx.below hbA)
          have e2 : (wr.alloc (.cells #[.string y.1, .pointer (some ⟨y.2, 0, none⟩)] 98)).cell? ⟨Bx, 1, none⟩ = some (.pointer (some ⟨x.2, 0, none⟩)) := row_cell (row_alloc hxq.out _) rfl
          have hbA' := Lib.hid hbA
          have hxA := Lib.hid (row_alloc hxq.out (.cells #[.string y.1, .pointer (some ⟨y.2, 0, none⟩)] 98))
          clear hnx hny hbA
          cases d with
          | true =>
            go_wp2_with ((with_reducible refine load_entL g q y ?_ hrq.out ?_); · rfl)
            case roundEnd =>
              refine ⟨⟨q + 1, _, by omega, rfl, rfl, hbA', by simp; omega, hxA⟩, ?_⟩
              simp [intOf]; omega
          | false =>
            go_wp2_with ((with_reducible refine load_entL g q y ?_ hrq.out ?_); · rfl)
            case roundEnd =>
              refine ⟨⟨q + 1, _, by omega, rfl, rfl, hbA', by simp; omega, hxA⟩, ?_⟩
              simp [intOf]; omega
        · have hqI : ¬ (q : Int) < (j : Int) := by omega
          cases d with
          | true =>
            go_wp2_with fail
            case roundEnd =>
              refine ⟨⟨j + 1, k + 1, by omega, by omega, rfl, rfl, hbq, by omega⟩, ?_⟩
              simp [intOf]; omega
          | false =>
            go_wp2_with fail
            case roundEnd =>
              refine ⟨⟨j + 1, k, by omega, by omega, rfl, rfl, hbq, by omega⟩, ?_⟩
              simp [intOf]; omega
    · have hjI : ¬ (j : Int) < (L.length : Int) := by omega
      go_wp2_with fail
      go_ret
      exact ⟨k, by omega, rfl, hb.out⟩
end Go.Proofs.YtfnaooplpofgiaaGreatDoor
