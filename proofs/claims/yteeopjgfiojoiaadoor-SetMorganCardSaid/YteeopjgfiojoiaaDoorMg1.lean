/- SetMorgan's set of both: whatever order is drawn, a new block that holds it. Conditions: the sets lie in memory. -/
import Derived.Test.YteeopjgfiojoiaaDoorPlan2
namespace Go.Proofs.YteeopjgfiojoiaaDoor
open Go Go.RowKit SN

structure Mg1 (a0 : Act) (w0 : World) (base B2 B3 S T : Nat) : Prop where
  hz : a0.tmps.size = 101
  h2 : a0.eval (.tmp 2) = .pointer (some ⟨B2, 0, none⟩)
  h3 : a0.eval (.tmp 3) = .pointer (some ⟨B3, 0, none⟩)
  b2 : IsSet 24 w0 B2 S
  b3 : IsSet 24 w0 B3 T
  l2 : B2 < base
  l3 : B3 < base
variable {a0 : Act} {w0 : World} {base B2 B3 S T : Nat}
def mg1Cs (S T base : Nat) : List Claim := [.val (sv (S)), .val (sv (cmpl (S))), .val (sv (T)), .val (sv (cmpl (T))), .two (cmpl (S)) (cmpl (T)), .val (sv (unionL [cmpl (S), cmpl (T)])), .val (sv (cmpl (unionL [cmpl (S), cmpl (T)]))), .fresh base 0]
theorem mg1_ok : planOk .any (regionOps Tryd.f5 1) (upto 8) = true := by kernel_rfl
theorem mg1_0 (F : Mg1 a0 w0 base B2 B3 S T) : PO (regionOps Tryd.f5 1) 8 a0 base w0 (mg1Cs S T base) 0 := by
  intro o ho u W hI hR
  obtain ⟨e1, e2, e3⟩ := ob_op ho (show ((regionOps Tryd.f5 1)[0]?).map (fun o => (o.op, o.dst, o.guard)) = some (.load 24 (.tmp 2), some 8, none) by kernel_rfl)
  rw [if_pos (plan_free e3 _)]
  intro K hK
  have x0 := ev_base (u := u) mg1_ok (by kernel_rfl) F.h2
  exact opw_load_set e1 x0 (F.b2.below hI.1 F.l2) (hK _ _ ⟨_, rfl, rfl⟩ hI (Below.refl _ _))
theorem mg1_1 (F : Mg1 a0 w0 base B2 B3 S T) : PO (regionOps Tryd.f5 1) 8 a0 base w0 (mg1Cs S T base) 1 := by
  intro o ho u W hI hR
  obtain ⟨e1, e2, e3⟩ := ob_op ho (show ((regionOps Tryd.f5 1)[1]?).map (fun o => (o.op, o.dst, o.guard)) = some (.call { callee := .value (.func 25), args := #[(.tmp 8)], argTypes := #[24] }, some 9, none) by kernel_rfl)
  rw [if_pos (plan_free e3 _)]
  intro K hK
  have x0 := ev_val (v := sv (S)) (cs := (mg1Cs S T base)) mg1_ok hR ho (j := 0) (t := 8) (by rw [F.hz]; kernel_rfl) rfl
  refine opw_call e1 (vs := #[sv (S)]) (by simp only [List.map_toArray, List.map_cons, List.map_nil, x0]) Tryd.func25 (by kernel_rfl) (by kernel_rfl) (Not_any (S) W) ?_
  rintro e W' ⟨rfl, b⟩
  exact ⟨_, rfl, hK _ _ ⟨_, rfl, rfl⟩ (hI.step b) b⟩
theorem mg1_2 (F : Mg1 a0 w0 base B2 B3 S T) : PO (regionOps Tryd.f5 1) 8 a0 base w0 (mg1Cs S T base) 2 := by
  intro o ho u W hI hR
  obtain ⟨e1, e2, e3⟩ := ob_op ho (show ((regionOps Tryd.f5 1)[2]?).map (fun o => (o.op, o.dst, o.guard)) = some (.load 24 (.tmp 3), some 10, none) by kernel_rfl)
  rw [if_pos (plan_free e3 _)]
  intro K hK
  have x0 := ev_base (u := u) mg1_ok (by kernel_rfl) F.h3
  exact opw_load_set e1 x0 (F.b3.below hI.1 F.l3) (hK _ _ ⟨_, rfl, rfl⟩ hI (Below.refl _ _))
theorem mg1_3 (F : Mg1 a0 w0 base B2 B3 S T) : PO (regionOps Tryd.f5 1) 8 a0 base w0 (mg1Cs S T base) 3 := by
  intro o ho u W hI hR
  obtain ⟨e1, e2, e3⟩ := ob_op ho (show ((regionOps Tryd.f5 1)[3]?).map (fun o => (o.op, o.dst, o.guard)) = some (.call { callee := .value (.func 25), args := #[(.tmp 10)], argTypes := #[24] }, some 11, none) by kernel_rfl)
  rw [if_pos (plan_free e3 _)]
  intro K hK
  have x0 := ev_val (v := sv (T)) (cs := (mg1Cs S T base)) mg1_ok hR ho (j := 2) (t := 10) (by rw [F.hz]; kernel_rfl) rfl
  refine opw_call e1 (vs := #[sv (T)]) (by simp only [List.map_toArray, List.map_cons, List.map_nil, x0]) Tryd.func25 (by kernel_rfl) (by kernel_rfl) (Not_any (T) W) ?_
  rintro e W' ⟨rfl, b⟩
  exact ⟨_, rfl, hK _ _ ⟨_, rfl, rfl⟩ (hI.step b) b⟩
theorem mg1_4 (F : Mg1 a0 w0 base B2 B3 S T) : PO (regionOps Tryd.f5 1) 8 a0 base w0 (mg1Cs S T base) 4 := by
  intro o ho u W hI hR
  obtain ⟨e1, e2, e3⟩ := ob_op ho (show ((regionOps Tryd.f5 1)[4]?).map (fun o => (o.op, o.dst, o.guard)) = some (.buildSlice 79 2 #[(0, (.tmp 9)), (1, (.tmp 11))], some 12, none) by kernel_rfl)
  rw [if_pos (plan_free e3 _)]
  intro K hK
  have x0 := ev_val (v := sv (cmpl (S))) (cs := (mg1Cs S T base)) mg1_ok hR ho (j := 1) (t := 9) (by rw [F.hz]; kernel_rfl) rfl
  have x1 := ev_val (v := sv (cmpl (T))) (cs := (mg1Cs S T base)) mg1_ok hR ho (j := 3) (t := 11) (by rw [F.hz]; kernel_rfl) rfl
  have bb : Below W.heap.size W (W.alloc (.cells (scs2 (cmpl (S)) (cmpl (T))) 24)) := (Below.refl _ _).alloc (Nat.le_refl _) _
  exact opw_two e1 x0 x1 (hK _ _ ⟨_, rfl, W.heap.size, rfl, heap_alloc_new W _⟩ (hI.step bb) bb)
theorem mg1_5 (F : Mg1 a0 w0 base B2 B3 S T) : PO (regionOps Tryd.f5 1) 8 a0 base w0 (mg1Cs S T base) 5 := by
  intro o ho u W hI hR
  obtain ⟨e1, e2, e3⟩ := ob_op ho (show ((regionOps Tryd.f5 1)[5]?).map (fun o => (o.op, o.dst, o.guard)) = some (.call { callee := .value (.func 27), args := #[(.tmp 12)], argTypes := #[79] }, some 13, none) by kernel_rfl)
  rw [if_pos (plan_free e3 _)]
  intro K hK
  obtain ⟨x0, cx0, kx0, lx0⟩ := ev_cl mg1_ok hR ho (j := 4) (t := 12) (by rw [F.hz]; kernel_rfl)
  cases kx0
  obtain ⟨b0, ex0, hb0⟩ := lx0
  rw [ex0] at x0
  refine opw_call e1 (vs := #[.slice (some ⟨b0, 0, none⟩) 2 2]) (by simp only [List.map_toArray, List.map_cons, List.map_nil, x0]) Tryd.func27 (by kernel_rfl) (by kernel_rfl) (union_at hb0) ?_
  rintro e W' ⟨rfl, b⟩
  exact ⟨_, rfl, hK _ _ ⟨_, rfl, rfl⟩ (hI.step b) b⟩
theorem mg1_6 (F : Mg1 a0 w0 base B2 B3 S T) : PO (regionOps Tryd.f5 1) 8 a0 base w0 (mg1Cs S T base) 6 := by
  intro o ho u W hI hR
  obtain ⟨e1, e2, e3⟩ := ob_op ho (show ((regionOps Tryd.f5 1)[6]?).map (fun o => (o.op, o.dst, o.guard)) = some (.call { callee := .value (.func 25), args := #[(.tmp 13)], argTypes := #[24] }, some 14, none) by kernel_rfl)
  rw [if_pos (plan_free e3 _)]
  intro K hK
  have x0 := ev_val (v := sv (unionL [cmpl (S), cmpl (T)])) (cs := (mg1Cs S T base)) mg1_ok hR ho (j := 5) (t := 13) (by rw [F.hz]; kernel_rfl) rfl
  refine opw_call e1 (vs := #[sv (unionL [cmpl (S), cmpl (T)])]) (by simp only [List.map_toArray, List.map_cons, List.map_nil, x0]) Tryd.func25 (by kernel_rfl) (by kernel_rfl) (Not_any (unionL [cmpl (S), cmpl (T)]) W) ?_
  rintro e W' ⟨rfl, b⟩
  exact ⟨_, rfl, hK _ _ ⟨_, rfl, rfl⟩ (hI.step b) b⟩
theorem mg1_7 (_F : Mg1 a0 w0 base B2 B3 S T) : PO (regionOps Tryd.f5 1) 8 a0 base w0 (mg1Cs S T base) 7 := by
  intro o ho u W hI hR
  obtain ⟨e1, e2, e3⟩ := ob_op ho (show ((regionOps Tryd.f5 1)[7]?).map (fun o => (o.op, o.dst, o.guard)) = some (.alloc 24, some 5, none) by kernel_rfl)
  rw [if_pos (plan_free e3 _)]
  intro K hK
  have bb : Below W.heap.size W (W.alloc (.cells #[.int .u64 0, .int .u64 0, .int .u64 0, .int .u64 0] 24)) := (Below.refl _ _).alloc (Nat.le_refl _) _
  exact opw_alloc_set e1 (hK _ _ ⟨_, rfl, W.heap.size, rfl, hI.2, IsSet.zero' 24 W _ rfl⟩ (hI.step bb) bb)
theorem mg1_all (F : Mg1 a0 w0 base B2 B3 S T) : ∀ i, i < 8 → PO (regionOps Tryd.f5 1) 8 a0 base w0 (mg1Cs S T base) i
  | 0, _ => mg1_0 F
  | 1, _ => mg1_1 F
  | 2, _ => mg1_2 F
  | 3, _ => mg1_3 F
  | 4, _ => mg1_4 F
  | 5, _ => mg1_5 F
  | 6, _ => mg1_6 F
  | 7, _ => mg1_7 F
  | i + 8, h => absurd h (by omega)
theorem mg1_plan : planOf (regionOps Tryd.f5 1) (upto 8) = [(some 8, 0), (some 9, 1), (some 10, 2), (some 11, 3), (some 12, 4), (some 13, 5), (some 14, 6), (some 5, 7)] := by kernel_rfl
theorem mg1_wp {id : Nat} {Q : Exit → Act → World → Prop} (F : Mg1 a0 w0 base B2 B3 S T) (hb : base ≤ w0.heap.size)
    (hq : ∀ (u : Nat → Value) (W : World) (b : Nat), u 7 = .pointer (some ⟨b, 0, none⟩) → base ≤ b → IsSet 24 W b (cmpl (unionL [cmpl S, cmpl T])) → Below base w0 W → b < W.heap.size → base ≤ W.heap.size → Q .normal (putL [(some 8, 0), (some 9, 1), (some 10, 2), (some 11, 3), (some 12, 4), (some 13, 5), (some 14, 6), (some 5, 7)] u a0) W) :
    (Code.region id (regionOps Tryd.f5 1) true).wp Tryd.prog Q a0 w0 := by
  refine wp_plan_cl 8 1 (mg1Cs S T base) mg1_ok (by kernel_rfl) hb (mg1_all F) fun u W hI1 hI2 hR => ?_
  have hR' : ∀ j, j < 8 → cl (mg1Cs S T base) j (u j) W := fun j hj => hR j (Nat.lt_of_lt_of_le hj (of_decide_eq_true (show decide (8 ≤ (regionOps Tryd.f5 1).size) = true by kernel_rfl))) hj
  clear hR
  obtain ⟨c7, k7, b, e7, hbb, hS⟩ : ∃ c, (mg1Cs S T base)[7]? = some c ∧ ∃ b, u 7 = .pointer (some ⟨b, 0, none⟩) ∧ base ≤ b ∧ IsSet 24 W b 0 := by
    obtain ⟨c, hc, h⟩ := hR' 7 (by decide)
    refine ⟨c, hc, ?_⟩
    cases hc
    exact h
  have e6 : u 6 = sv (cmpl (unionL [cmpl S, cmpl T])) := by
    obtain ⟨c, hc, h⟩ := hR' 6 (by decide)
    cases hc
    exact h
  have hrd : Region.ready .any (regionOps Tryd.f5 1) (listedOf (regionOps Tryd.f5 1) (upto 8)) = [8] := by kernel_rfl
  have hx5 : (putL (planOf (regionOps Tryd.f5 1) (upto 8)) u a0).eval (.tmp 5) = .pointer (some ⟨b, 0, none⟩) := (plan_eval mg1_ok (j := 7) (by kernel_rfl) (by decide) (by rw [F.hz]; decide)).trans e7
  have hx14 : (putL (planOf (regionOps Tryd.f5 1) (upto 8)) u a0).eval (.tmp 14) = sv (cmpl (unionL [cmpl S, cmpl T])) := (plan_eval mg1_ok (j := 6) (by kernel_rfl) (by decide) (by rw [F.hz]; decide)).trans e6
  refine ⟨fun h => (by rw [hrd] at h; cases h), fun i hi => ?_⟩
  rw [hrd, List.mem_singleton] at hi
  subst hi
  cases ho : (regionOps Tryd.f5 1)[8]? with
  | none =>
    have hs : ((regionOps Tryd.f5 1)[8]?).isSome = true := by kernel_rfl
    rw [ho] at hs
    cases hs
  | some o =>
    obtain ⟨e1, e2, e3⟩ := ob_op ho (show ((regionOps Tryd.f5 1)[8]?).map (fun o => (o.op, o.dst, o.guard)) = some (.store 24 (.tmp 5) (.tmp 14), none, none) by kernel_rfl)
    unfold wpOp
    rw [ho]
    simp only []
    rw [if_pos (plan_free e3 _)]
    refine .inl (wp_store_row 24 (.tmp 5) (.tmp 14) e1 b (sc (cmpl (unionL [cmpl S, cmpl T]))) hx5 hx14 24 (sc 0) hS (by rw [size24]; rfl) rfl (by simp [sc, Value.oneCell']) ?_)
    have hp : ∀ a : Act, a.put none undef = a := fun _ => rfl
    rw [e2, hp, mg1_plan]
    refine ⟨by kernel_rfl, ?_⟩
    have hz1 : (W.setRow b (sc (cmpl (unionL [cmpl S, cmpl T])))).heap.size = W.heap.size := by simp
    refine hq u _ b e7 hbb (setRow_heap W b _ _ _ _ hS) (hI1.grown ⟨rfl, rfl, rfl, by simp, fun k _ hk => setRow_other W b k _ (fun e => hk (by rw [e]))⟩ hI2 (fun k hk => by cases hk; exact hbb)) (by rw [hz1]; exact hS.lt) (by rw [hz1]; exact hI2)
end Go.Proofs.YteeopjgfiojoiaaDoor
