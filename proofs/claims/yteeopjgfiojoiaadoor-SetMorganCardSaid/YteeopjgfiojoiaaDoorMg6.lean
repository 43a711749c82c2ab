/- SetMorgan's test of one byte: whatever order is drawn, what is told of sets holds for that byte. Conditions: the sets lie in memory. -/
import Derived.Test.YteeopjgfiojoiaaDoorPlan2
namespace Go.Proofs.YteeopjgfiojoiaaDoor
open Go Go.RowKit SN

/-- What the test of one byte meets. -/
structure Mg6 (a0 : Act) (w0 : World) (base B2 B3 B5 S T M k : Nat) (s t : Bool) : Prop where
  hz : a0.tmps.size = 101
  h2 : a0.eval (.tmp 2) = .pointer (some ⟨B2, 0, none⟩)
  h3 : a0.eval (.tmp 3) = .pointer (some ⟨B3, 0, none⟩)
  h5 : a0.eval (.tmp 5) = .pointer (some ⟨B5, 0, none⟩)
  h7 : a0.eval (.tmp 7) = .int .u8 k
  b2 : IsSet 24 w0 B2 S
  b3 : IsSet 24 w0 B3 T
  b5 : IsSet 24 w0 B5 M
  l2 : B2 < base
  l3 : B3 < base
  l5 : B5 < base
  hk : k < 256
  hS : S.testBit k = s
  hT : T.testBit k = t
  hM : M.testBit k = (s && t)
  hU : (unionL [S, T]).testBit k = (s || t)
  hN : (cmpl S).testBit k = !s
variable {a0 : Act} {w0 : World} {base B2 B3 B5 S T M k : Nat}

def mg6ttCs (S T M k : Nat) : List Claim := [.val (sv (M)), .val (.int .u8 (k)), .val (.bool true), .val (sv (S)), .val (.int .u8 (k)), .val (.bool true), .val (.bool true), .val (sv (T)), .val (.int .u8 (k)), .val (.bool true), .val (.bool true), .val (.bool false), .val (.bool false), .val (sv (S)), .val (sv (T)), .two (S) (T), .val (sv (unionL [S, T])), .val (.int .u8 (k)), .val (.bool true), .val (sv (S)), .val (.int .u8 (k)), .val (.bool true), .val (.bool true), .val (undef), .val (undef), .val (undef), .val (.bool true), .val (.bool false), .val (.bool false), .val (.bool false), .val (sv (S)), .val (sv (cmpl (S))), .val (.int .u8 (k)), .val (.bool false), .val (sv (S)), .val (.int .u8 (k)), .val (.bool true), .val (.bool false), .val (.bool false)]
theorem mg6tt_ok : planOk .any (regionOps Tryd.f5 6) (upto 39) = true := by kernel_rfl
theorem mg6tt_0 (F : Mg6 a0 w0 base B2 B3 B5 S T M k true true) : PO (regionOps Tryd.f5 6) 39 a0 base w0 (mg6ttCs S T M k) 0 := by
  intro o ho u W hI hR
  obtain ⟨e1, e2, e3⟩ := ob_op ho (show ((regionOps Tryd.f5 6)[0]?).map (fun o => (o.op, o.dst, o.guard)) = some (.load 24 (.tmp 5), some 21, none) by kernel_rfl)
  rw [if_pos (plan_free e3 _)]
  intro K hK
  have x0 := ev_base (u := u) mg6tt_ok (by kernel_rfl) F.h5
  exact opw_load_set e1 x0 (F.b5.below hI.1 F.l5) (hK _ _ ⟨_, rfl, rfl⟩ hI (Below.refl _ _))
theorem mg6tt_1 (F : Mg6 a0 w0 base B2 B3 B5 S T M k true true) : PO (regionOps Tryd.f5 6) 39 a0 base w0 (mg6ttCs S T M k) 1 := by
  intro o ho u W hI hR
  obtain ⟨e1, e2, e3⟩ := ob_op ho (show ((regionOps Tryd.f5 6)[1]?).map (fun o => (o.op, o.dst, o.guard)) = some (.move (.tmp 7), some 22, none) by kernel_rfl)
  rw [if_pos (plan_free e3 _)]
  intro K hK
  have x0 := ev_base (u := u) mg6tt_ok (by kernel_rfl) F.h7
  exact opw_move e1 x0 (hK _ _ ⟨_, rfl, rfl⟩ hI (Below.refl _ _))
theorem mg6tt_2 (F : Mg6 a0 w0 base B2 B3 B5 S T M k true true) : PO (regionOps Tryd.f5 6) 39 a0 base w0 (mg6ttCs S T M k) 2 := by
  intro o ho u W hI hR
  obtain ⟨e1, e2, e3⟩ := ob_op ho (show ((regionOps Tryd.f5 6)[2]?).map (fun o => (o.op, o.dst, o.guard)) = some (.call { callee := .value (.func 30), args := #[(.tmp 21), (.tmp 22)], argTypes := #[24, 5] }, some 23, none) by kernel_rfl)
  rw [if_pos (plan_free e3 _)]
  intro K hK
  have x0 := ev_val (v := sv (M)) (cs := (mg6ttCs S T M k)) mg6tt_ok hR ho (j := 0) (t := 21) (by rw [F.hz]; kernel_rfl) rfl
  have x1 := ev_val (v := .int .u8 (k)) (cs := (mg6ttCs S T M k)) mg6tt_ok hR ho (j := 1) (t := 22) (by rw [F.hz]; kernel_rfl) rfl
  refine opw_call e1 (vs := #[sv (M), .int .u8 k]) (by simp only [List.map_toArray, List.map_cons, List.map_nil, x0, x1]) Tryd.func30 (by kernel_rfl) (by kernel_rfl) (Has_any (M) k F.hk W) ?_
  rintro e W' ⟨rfl, b⟩
  exact ⟨_, rfl, hK _ _ ⟨_, rfl, congrArg Value.bool F.hM⟩ (hI.step b) b⟩
theorem mg6tt_3 (F : Mg6 a0 w0 base B2 B3 B5 S T M k true true) : PO (regionOps Tryd.f5 6) 39 a0 base w0 (mg6ttCs S T M k) 3 := by
  intro o ho u W hI hR
  obtain ⟨e1, e2, e3⟩ := ob_op ho (show ((regionOps Tryd.f5 6)[3]?).map (fun o => (o.op, o.dst, o.guard)) = some (.load 24 (.tmp 2), some 24, none) by kernel_rfl)
  rw [if_pos (plan_free e3 _)]
  intro K hK
  have x0 := ev_base (u := u) mg6tt_ok (by kernel_rfl) F.h2
  exact opw_load_set e1 x0 (F.b2.below hI.1 F.l2) (hK _ _ ⟨_, rfl, rfl⟩ hI (Below.refl _ _))
theorem mg6tt_4 (F : Mg6 a0 w0 base B2 B3 B5 S T M k true true) : PO (regionOps Tryd.f5 6) 39 a0 base w0 (mg6ttCs S T M k) 4 := by
  intro o ho u W hI hR
  obtain ⟨e1, e2, e3⟩ := ob_op ho (show ((regionOps Tryd.f5 6)[4]?).map (fun o => (o.op, o.dst, o.guard)) = some (.move (.tmp 7), some 25, none) by kernel_rfl)
  rw [if_pos (plan_free e3 _)]
  intro K hK
  have x0 := ev_base (u := u) mg6tt_ok (by kernel_rfl) F.h7
  exact opw_move e1 x0 (hK _ _ ⟨_, rfl, rfl⟩ hI (Below.refl _ _))
theorem mg6tt_5 (F : Mg6 a0 w0 base B2 B3 B5 S T M k true true) : PO (regionOps Tryd.f5 6) 39 a0 base w0 (mg6ttCs S T M k) 5 := by
  intro o ho u W hI hR
  obtain ⟨e1, e2, e3⟩ := ob_op ho (show ((regionOps Tryd.f5 6)[5]?).map (fun o => (o.op, o.dst, o.guard)) = some (.call { callee := .value (.func 30), args := #[(.tmp 24), (.tmp 25)], argTypes := #[24, 5] }, some 26, none) by kernel_rfl)
  rw [if_pos (plan_free e3 _)]
  intro K hK
  have x0 := ev_val (v := sv (S)) (cs := (mg6ttCs S T M k)) mg6tt_ok hR ho (j := 3) (t := 24) (by rw [F.hz]; kernel_rfl) rfl
  have x1 := ev_val (v := .int .u8 (k)) (cs := (mg6ttCs S T M k)) mg6tt_ok hR ho (j := 4) (t := 25) (by rw [F.hz]; kernel_rfl) rfl
  refine opw_call e1 (vs := #[sv (S), .int .u8 k]) (by simp only [List.map_toArray, List.map_cons, List.map_nil, x0, x1]) Tryd.func30 (by kernel_rfl) (by kernel_rfl) (Has_any (S) k F.hk W) ?_
  rintro e W' ⟨rfl, b⟩
  exact ⟨_, rfl, hK _ _ ⟨_, rfl, congrArg Value.bool F.hS⟩ (hI.step b) b⟩
theorem mg6tt_6 (F : Mg6 a0 w0 base B2 B3 B5 S T M k true true) : PO (regionOps Tryd.f5 6) 39 a0 base w0 (mg6ttCs S T M k) 6 := by
  intro o ho u W hI hR
  obtain ⟨e1, e2, e3⟩ := ob_op ho (show ((regionOps Tryd.f5 6)[6]?).map (fun o => (o.op, o.dst, o.guard)) = some (.move (.tmp 26), some 27, none) by kernel_rfl)
  rw [if_pos (plan_free e3 _)]
  intro K hK
  have x0 := ev_val (v := .bool true) (cs := (mg6ttCs S T M k)) mg6tt_ok hR ho (j := 5) (t := 26) (by rw [F.hz]; kernel_rfl) rfl
  exact opw_move e1 x0 (hK _ _ ⟨_, rfl, rfl⟩ hI (Below.refl _ _))
theorem mg6tt_7 (F : Mg6 a0 w0 base B2 B3 B5 S T M k true true) : PO (regionOps Tryd.f5 6) 39 a0 base w0 (mg6ttCs S T M k) 7 := by
  intro o ho u W hI hR
  obtain ⟨e1, e2, e3⟩ := ob_op ho (show ((regionOps Tryd.f5 6)[7]?).map (fun o => (o.op, o.dst, o.guard)) = some (.load 24 (.tmp 3), some 28, some (6, true)) by kernel_rfl)
  have xg := ev_val (v := .bool true) (cs := (mg6ttCs S T M k)) mg6tt_ok hR ho (j := 6) (t := 27) (by rw [F.hz]; kernel_rfl) rfl
  rw [if_pos (wanted_yes e3 (t := 27) (by kernel_rfl) xg)]
  intro K hK
  have x0 := ev_base (u := u) mg6tt_ok (by kernel_rfl) F.h3
  exact opw_load_set e1 x0 (F.b3.below hI.1 F.l3) (hK _ _ ⟨_, rfl, rfl⟩ hI (Below.refl _ _))
theorem mg6tt_8 (F : Mg6 a0 w0 base B2 B3 B5 S T M k true true) : PO (regionOps Tryd.f5 6) 39 a0 base w0 (mg6ttCs S T M k) 8 := by
  intro o ho u W hI hR
  obtain ⟨e1, e2, e3⟩ := ob_op ho (show ((regionOps Tryd.f5 6)[8]?).map (fun o => (o.op, o.dst, o.guard)) = some (.move (.tmp 7), some 29, some (6, true)) by kernel_rfl)
  have xg := ev_val (v := .bool true) (cs := (mg6ttCs S T M k)) mg6tt_ok hR ho (j := 6) (t := 27) (by rw [F.hz]; kernel_rfl) rfl
  rw [if_pos (wanted_yes e3 (t := 27) (by kernel_rfl) xg)]
  intro K hK
  have x0 := ev_base (u := u) mg6tt_ok (by kernel_rfl) F.h7
  exact opw_move e1 x0 (hK _ _ ⟨_, rfl, rfl⟩ hI (Below.refl _ _))
theorem mg6tt_9 (F : Mg6 a0 w0 base B2 B3 B5 S T M k true true) : PO (regionOps Tryd.f5 6) 39 a0 base w0 (mg6ttCs S T M k) 9 := by
  intro o ho u W hI hR
  obtain ⟨e1, e2, e3⟩ := ob_op ho (show ((regionOps Tryd.f5 6)[9]?).map (fun o => (o.op, o.dst, o.guard)) = some (.call { callee := .value (.func 30), args := #[(.tmp 28), (.tmp 29)], argTypes := #[24, 5] }, some 30, some (6, true)) by kernel_rfl)
  have xg := ev_val (v := .bool true) (cs := (mg6ttCs S T M k)) mg6tt_ok hR ho (j := 6) (t := 27) (by rw [F.hz]; kernel_rfl) rfl
  rw [if_pos (wanted_yes e3 (t := 27) (by kernel_rfl) xg)]
  intro K hK
  have x0 := ev_val (v := sv (T)) (cs := (mg6ttCs S T M k)) mg6tt_ok hR ho (j := 7) (t := 28) (by rw [F.hz]; kernel_rfl) rfl
  have x1 := ev_val (v := .int .u8 (k)) (cs := (mg6ttCs S T M k)) mg6tt_ok hR ho (j := 8) (t := 29) (by rw [F.hz]; kernel_rfl) rfl
  refine opw_call e1 (vs := #[sv (T), .int .u8 k]) (by simp only [List.map_toArray, List.map_cons, List.map_nil, x0, x1]) Tryd.func30 (by kernel_rfl) (by kernel_rfl) (Has_any (T) k F.hk W) ?_
  rintro e W' ⟨rfl, b⟩
  exact ⟨_, rfl, hK _ _ ⟨_, rfl, congrArg Value.bool F.hT⟩ (hI.step b) b⟩
theorem mg6tt_10 (F : Mg6 a0 w0 base B2 B3 B5 S T M k true true) : PO (regionOps Tryd.f5 6) 39 a0 base w0 (mg6ttCs S T M k) 10 := by
  intro o ho u W hI hR
  obtain ⟨e1, e2, e3⟩ := ob_op ho (show ((regionOps Tryd.f5 6)[10]?).map (fun o => (o.op, o.dst, o.guard)) = some (.pick (.tmp 27) (.tmp 30) (.const (.bool false)), some 31, none) by kernel_rfl)
  rw [if_pos (plan_free e3 _)]
  intro K hK
  have x0 := ev_val (v := .bool true) (cs := (mg6ttCs S T M k)) mg6tt_ok hR ho (j := 6) (t := 27) (by rw [F.hz]; kernel_rfl) rfl
  have x1 := ev_val (v := .bool true) (cs := (mg6ttCs S T M k)) mg6tt_ok hR ho (j := 9) (t := 30) (by rw [F.hz]; kernel_rfl) rfl
  exact opw_pickT e1 x0 x1 (hK _ _ ⟨_, rfl, rfl⟩ hI (Below.refl _ _))
theorem mg6tt_11 (F : Mg6 a0 w0 base B2 B3 B5 S T M k true true) : PO (regionOps Tryd.f5 6) 39 a0 base w0 (mg6ttCs S T M k) 11 := by
  intro o ho u W hI hR
  obtain ⟨e1, e2, e3⟩ := ob_op ho (show ((regionOps Tryd.f5 6)[11]?).map (fun o => (o.op, o.dst, o.guard)) = some (.binOp .neq 4 (.tmp 23) (.tmp 31) 4, some 32, none) by kernel_rfl)
  rw [if_pos (plan_free e3 _)]
  intro K hK
  have x0 := ev_val (v := .bool true) (cs := (mg6ttCs S T M k)) mg6tt_ok hR ho (j := 2) (t := 23) (by rw [F.hz]; kernel_rfl) rfl
  have x1 := ev_val (v := .bool true) (cs := (mg6ttCs S T M k)) mg6tt_ok hR ho (j := 10) (t := 31) (by rw [F.hz]; kernel_rfl) rfl
  exact opw_neb e1 x0 x1 (by decide) (hK _ _ ⟨_, rfl, rfl⟩ hI (Below.refl _ _))
theorem mg6tt_12 (F : Mg6 a0 w0 base B2 B3 B5 S T M k true true) : PO (regionOps Tryd.f5 6) 39 a0 base w0 (mg6ttCs S T M k) 12 := by
  intro o ho u W hI hR
  obtain ⟨e1, e2, e3⟩ := ob_op ho (show ((regionOps Tryd.f5 6)[12]?).map (fun o => (o.op, o.dst, o.guard)) = some (.move (.tmp 32), some 33, none) by kernel_rfl)
  rw [if_pos (plan_free e3 _)]
  intro K hK
  have x0 := ev_val (v := .bool false) (cs := (mg6ttCs S T M k)) mg6tt_ok hR ho (j := 11) (t := 32) (by rw [F.hz]; kernel_rfl) rfl
  exact opw_move e1 x0 (hK _ _ ⟨_, rfl, rfl⟩ hI (Below.refl _ _))
theorem mg6tt_13 (F : Mg6 a0 w0 base B2 B3 B5 S T M k true true) : PO (regionOps Tryd.f5 6) 39 a0 base w0 (mg6ttCs S T M k) 13 := by
  intro o ho u W hI hR
  obtain ⟨e1, e2, e3⟩ := ob_op ho (show ((regionOps Tryd.f5 6)[13]?).map (fun o => (o.op, o.dst, o.guard)) = some (.load 24 (.tmp 2), some 34, some (12, false)) by kernel_rfl)
  have xg := ev_val (v := .bool false) (cs := (mg6ttCs S T M k)) mg6tt_ok hR ho (j := 12) (t := 33) (by rw [F.hz]; kernel_rfl) rfl
  rw [if_pos (wanted_yes e3 (t := 33) (by kernel_rfl) xg)]
  intro K hK
  have x0 := ev_base (u := u) mg6tt_ok (by kernel_rfl) F.h2
  exact opw_load_set e1 x0 (F.b2.below hI.1 F.l2) (hK _ _ ⟨_, rfl, rfl⟩ hI (Below.refl _ _))
theorem mg6tt_14 (F : Mg6 a0 w0 base B2 B3 B5 S T M k true true) : PO (regionOps Tryd.f5 6) 39 a0 base w0 (mg6ttCs S T M k) 14 := by
  intro o ho u W hI hR
  obtain ⟨e1, e2, e3⟩ := ob_op ho (show ((regionOps Tryd.f5 6)[14]?).map (fun o => (o.op, o.dst, o.guard)) = some (.load 24 (.tmp 3), some 35, some (12, false)) by kernel_rfl)
  have xg := ev_val (v := .bool false) (cs := (mg6ttCs S T M k)) mg6tt_ok hR ho (j := 12) (t := 33) (by rw [F.hz]; kernel_rfl) rfl
  rw [if_pos (wanted_yes e3 (t := 33) (by kernel_rfl) xg)]
  intro K hK
  have x0 := ev_base (u := u) mg6tt_ok (by kernel_rfl) F.h3
  exact opw_load_set e1 x0 (F.b3.below hI.1 F.l3) (hK _ _ ⟨_, rfl, rfl⟩ hI (Below.refl _ _))
theorem mg6tt_15 (F : Mg6 a0 w0 base B2 B3 B5 S T M k true true) : PO (regionOps Tryd.f5 6) 39 a0 base w0 (mg6ttCs S T M k) 15 := by
  intro o ho u W hI hR
  obtain ⟨e1, e2, e3⟩ := ob_op ho (show ((regionOps Tryd.f5 6)[15]?).map (fun o => (o.op, o.dst, o.guard)) = some (.buildSlice 79 2 #[(0, (.tmp 34)), (1, (.tmp 35))], some 36, some (12, false)) by kernel_rfl)
  have xg := ev_val (v := .bool false) (cs := (mg6ttCs S T M k)) mg6tt_ok hR ho (j := 12) (t := 33) (by rw [F.hz]; kernel_rfl) rfl
  rw [if_pos (wanted_yes e3 (t := 33) (by kernel_rfl) xg)]
  intro K hK
  have x0 := ev_val (v := sv (S)) (cs := (mg6ttCs S T M k)) mg6tt_ok hR ho (j := 13) (t := 34) (by rw [F.hz]; kernel_rfl) rfl
  have x1 := ev_val (v := sv (T)) (cs := (mg6ttCs S T M k)) mg6tt_ok hR ho (j := 14) (t := 35) (by rw [F.hz]; kernel_rfl) rfl
  have bb : Below W.heap.size W (W.alloc (.cells (scs2 (S) (T)) 24)) := (Below.refl _ _).alloc (Nat.le_refl _) _
  exact opw_two e1 x0 x1 (hK _ _ ⟨_, rfl, W.heap.size, rfl, heap_alloc_new W _⟩ (hI.step bb) bb)
theorem mg6tt_16 (F : Mg6 a0 w0 base B2 B3 B5 S T M k true true) : PO (regionOps Tryd.f5 6) 39 a0 base w0 (mg6ttCs S T M k) 16 := by
  intro o ho u W hI hR
  obtain ⟨e1, e2, e3⟩ := ob_op ho (show ((regionOps Tryd.f5 6)[16]?).map (fun o => (o.op, o.dst, o.guard)) = some (.call { callee := .value (.func 27), args := #[(.tmp 36)], argTypes := #[79] }, some 37, some (12, false)) by kernel_rfl)
  have xg := ev_val (v := .bool false) (cs := (mg6ttCs S T M k)) mg6tt_ok hR ho (j := 12) (t := 33) (by rw [F.hz]; kernel_rfl) rfl
  rw [if_pos (wanted_yes e3 (t := 33) (by kernel_rfl) xg)]
  intro K hK
  obtain ⟨x0, cx0, kx0, lx0⟩ := ev_cl mg6tt_ok hR ho (j := 15) (t := 36) (by rw [F.hz]; kernel_rfl)
  cases kx0
  obtain ⟨b0, ex0, hb0⟩ := lx0
  rw [ex0] at x0
  refine opw_call e1 (vs := #[.slice (some ⟨b0, 0, none⟩) 2 2]) (by simp only [List.map_toArray, List.map_cons, List.map_nil, x0]) Tryd.func27 (by kernel_rfl) (by kernel_rfl) (union_at hb0) ?_
  rintro e W' ⟨rfl, b⟩
  exact ⟨_, rfl, hK _ _ ⟨_, rfl, rfl⟩ (hI.step b) b⟩
theorem mg6tt_17 (F : Mg6 a0 w0 base B2 B3 B5 S T M k true true) : PO (regionOps Tryd.f5 6) 39 a0 base w0 (mg6ttCs S T M k) 17 := by
  intro o ho u W hI hR
  obtain ⟨e1, e2, e3⟩ := ob_op ho (show ((regionOps Tryd.f5 6)[17]?).map (fun o => (o.op, o.dst, o.guard)) = some (.move (.tmp 7), some 38, some (12, false)) by kernel_rfl)
  have xg := ev_val (v := .bool false) (cs := (mg6ttCs S T M k)) mg6tt_ok hR ho (j := 12) (t := 33) (by rw [F.hz]; kernel_rfl) rfl
  rw [if_pos (wanted_yes e3 (t := 33) (by kernel_rfl) xg)]
  intro K hK
  have x0 := ev_base (u := u) mg6tt_ok (by kernel_rfl) F.h7
  exact opw_move e1 x0 (hK _ _ ⟨_, rfl, rfl⟩ hI (Below.refl _ _))
theorem mg6tt_18 (F : Mg6 a0 w0 base B2 B3 B5 S T M k true true) : PO (regionOps Tryd.f5 6) 39 a0 base w0 (mg6ttCs S T M k) 18 := by
  intro o ho u W hI hR
  obtain ⟨e1, e2, e3⟩ := ob_op ho (show ((regionOps Tryd.f5 6)[18]?).map (fun o => (o.op, o.dst, o.guard)) = some (.call { callee := .value (.func 30), args := #[(.tmp 37), (.tmp 38)], argTypes := #[24, 5] }, some 39, some (12, false)) by kernel_rfl)
  have xg := ev_val (v := .bool false) (cs := (mg6ttCs S T M k)) mg6tt_ok hR ho (j := 12) (t := 33) (by rw [F.hz]; kernel_rfl) rfl
  rw [if_pos (wanted_yes e3 (t := 33) (by kernel_rfl) xg)]
  intro K hK
  have x0 := ev_val (v := sv (unionL [S, T])) (cs := (mg6ttCs S T M k)) mg6tt_ok hR ho (j := 16) (t := 37) (by rw [F.hz]; kernel_rfl) rfl
  have x1 := ev_val (v := .int .u8 (k)) (cs := (mg6ttCs S T M k)) mg6tt_ok hR ho (j := 17) (t := 38) (by rw [F.hz]; kernel_rfl) rfl
  refine opw_call e1 (vs := #[sv (unionL [S, T]), .int .u8 k]) (by simp only [List.map_toArray, List.map_cons, List.map_nil, x0, x1]) Tryd.func30 (by kernel_rfl) (by kernel_rfl) (Has_any (unionL [S, T]) k F.hk W) ?_
  rintro e W' ⟨rfl, b⟩
  exact ⟨_, rfl, hK _ _ ⟨_, rfl, congrArg Value.bool F.hU⟩ (hI.step b) b⟩
theorem mg6tt_19 (F : Mg6 a0 w0 base B2 B3 B5 S T M k true true) : PO (regionOps Tryd.f5 6) 39 a0 base w0 (mg6ttCs S T M k) 19 := by
  intro o ho u W hI hR
  obtain ⟨e1, e2, e3⟩ := ob_op ho (show ((regionOps Tryd.f5 6)[19]?).map (fun o => (o.op, o.dst, o.guard)) = some (.load 24 (.tmp 2), some 40, some (12, false)) by kernel_rfl)
  have xg := ev_val (v := .bool false) (cs := (mg6ttCs S T M k)) mg6tt_ok hR ho (j := 12) (t := 33) (by rw [F.hz]; kernel_rfl) rfl
  rw [if_pos (wanted_yes e3 (t := 33) (by kernel_rfl) xg)]
  intro K hK
  have x0 := ev_base (u := u) mg6tt_ok (by kernel_rfl) F.h2
  exact opw_load_set e1 x0 (F.b2.below hI.1 F.l2) (hK _ _ ⟨_, rfl, rfl⟩ hI (Below.refl _ _))
theorem mg6tt_20 (F : Mg6 a0 w0 base B2 B3 B5 S T M k true true) : PO (regionOps Tryd.f5 6) 39 a0 base w0 (mg6ttCs S T M k) 20 := by
  intro o ho u W hI hR
  obtain ⟨e1, e2, e3⟩ := ob_op ho (show ((regionOps Tryd.f5 6)[20]?).map (fun o => (o.op, o.dst, o.guard)) = some (.move (.tmp 7), some 41, some (12, false)) by kernel_rfl)
  have xg := ev_val (v := .bool false) (cs := (mg6ttCs S T M k)) mg6tt_ok hR ho (j := 12) (t := 33) (by rw [F.hz]; kernel_rfl) rfl
  rw [if_pos (wanted_yes e3 (t := 33) (by kernel_rfl) xg)]
  intro K hK
  have x0 := ev_base (u := u) mg6tt_ok (by kernel_rfl) F.h7
  exact opw_move e1 x0 (hK _ _ ⟨_, rfl, rfl⟩ hI (Below.refl _ _))
theorem mg6tt_21 (F : Mg6 a0 w0 base B2 B3 B5 S T M k true true) : PO (regionOps Tryd.f5 6) 39 a0 base w0 (mg6ttCs S T M k) 21 := by
  intro o ho u W hI hR
  obtain ⟨e1, e2, e3⟩ := ob_op ho (show ((regionOps Tryd.f5 6)[21]?).map (fun o => (o.op, o.dst, o.guard)) = some (.call { callee := .value (.func 30), args := #[(.tmp 40), (.tmp 41)], argTypes := #[24, 5] }, some 42, some (12, false)) by kernel_rfl)
  have xg := ev_val (v := .bool false) (cs := (mg6ttCs S T M k)) mg6tt_ok hR ho (j := 12) (t := 33) (by rw [F.hz]; kernel_rfl) rfl
  rw [if_pos (wanted_yes e3 (t := 33) (by kernel_rfl) xg)]
  intro K hK
  have x0 := ev_val (v := sv (S)) (cs := (mg6ttCs S T M k)) mg6tt_ok hR ho (j := 19) (t := 40) (by rw [F.hz]; kernel_rfl) rfl
  have x1 := ev_val (v := .int .u8 (k)) (cs := (mg6ttCs S T M k)) mg6tt_ok hR ho (j := 20) (t := 41) (by rw [F.hz]; kernel_rfl) rfl
  refine opw_call e1 (vs := #[sv (S), .int .u8 k]) (by simp only [List.map_toArray, List.map_cons, List.map_nil, x0, x1]) Tryd.func30 (by kernel_rfl) (by kernel_rfl) (Has_any (S) k F.hk W) ?_
  rintro e W' ⟨rfl, b⟩
  exact ⟨_, rfl, hK _ _ ⟨_, rfl, congrArg Value.bool F.hS⟩ (hI.step b) b⟩
theorem mg6tt_22 (F : Mg6 a0 w0 base B2 B3 B5 S T M k true true) : PO (regionOps Tryd.f5 6) 39 a0 base w0 (mg6ttCs S T M k) 22 := by
  intro o ho u W hI hR
  obtain ⟨e1, e2, e3⟩ := ob_op ho (show ((regionOps Tryd.f5 6)[22]?).map (fun o => (o.op, o.dst, o.guard)) = some (.move (.tmp 42), some 43, some (12, false)) by kernel_rfl)
  have xg := ev_val (v := .bool false) (cs := (mg6ttCs S T M k)) mg6tt_ok hR ho (j := 12) (t := 33) (by rw [F.hz]; kernel_rfl) rfl
  rw [if_pos (wanted_yes e3 (t := 33) (by kernel_rfl) xg)]
  intro K hK
  have x0 := ev_val (v := .bool true) (cs := (mg6ttCs S T M k)) mg6tt_ok hR ho (j := 21) (t := 42) (by rw [F.hz]; kernel_rfl) rfl
  exact opw_move e1 x0 (hK _ _ ⟨_, rfl, rfl⟩ hI (Below.refl _ _))
theorem mg6tt_23 (F : Mg6 a0 w0 base B2 B3 B5 S T M k true true) : PO (regionOps Tryd.f5 6) 39 a0 base w0 (mg6ttCs S T M k) 23 := by
  intro o ho u W hI hR
  obtain ⟨e1, e2, e3⟩ := ob_op ho (show ((regionOps Tryd.f5 6)[23]?).map (fun o => (o.op, o.dst, o.guard)) = some (.load 24 (.tmp 3), some 44, some (22, false)) by kernel_rfl)
  have xg := ev_val (v := .bool true) (cs := (mg6ttCs S T M k)) mg6tt_ok hR ho (j := 22) (t := 43) (by rw [F.hz]; kernel_rfl) rfl
  rw [if_neg (wanted_no e3 (t := 43) (by kernel_rfl) xg)]
  rintro W' rfl
  exact ⟨⟨_, rfl, rfl⟩, Below.refl _ _⟩
theorem mg6tt_24 (F : Mg6 a0 w0 base B2 B3 B5 S T M k true true) : PO (regionOps Tryd.f5 6) 39 a0 base w0 (mg6ttCs S T M k) 24 := by
  intro o ho u W hI hR
  obtain ⟨e1, e2, e3⟩ := ob_op ho (show ((regionOps Tryd.f5 6)[24]?).map (fun o => (o.op, o.dst, o.guard)) = some (.move (.tmp 7), some 45, some (22, false)) by kernel_rfl)
  have xg := ev_val (v := .bool true) (cs := (mg6ttCs S T M k)) mg6tt_ok hR ho (j := 22) (t := 43) (by rw [F.hz]; kernel_rfl) rfl
  rw [if_neg (wanted_no e3 (t := 43) (by kernel_rfl) xg)]
  rintro W' rfl
  exact ⟨⟨_, rfl, rfl⟩, Below.refl _ _⟩
theorem mg6tt_25 (F : Mg6 a0 w0 base B2 B3 B5 S T M k true true) : PO (regionOps Tryd.f5 6) 39 a0 base w0 (mg6ttCs S T M k) 25 := by
  intro o ho u W hI hR
  obtain ⟨e1, e2, e3⟩ := ob_op ho (show ((regionOps Tryd.f5 6)[25]?).map (fun o => (o.op, o.dst, o.guard)) = some (.call { callee := .value (.func 30), args := #[(.tmp 44), (.tmp 45)], argTypes := #[24, 5] }, some 46, some (22, false)) by kernel_rfl)
  have xg := ev_val (v := .bool true) (cs := (mg6ttCs S T M k)) mg6tt_ok hR ho (j := 22) (t := 43) (by rw [F.hz]; kernel_rfl) rfl
  rw [if_neg (wanted_no e3 (t := 43) (by kernel_rfl) xg)]
  rintro W' rfl
  exact ⟨⟨_, rfl, rfl⟩, Below.refl _ _⟩
theorem mg6tt_26 (F : Mg6 a0 w0 base B2 B3 B5 S T M k true true) : PO (regionOps Tryd.f5 6) 39 a0 base w0 (mg6ttCs S T M k) 26 := by
  intro o ho u W hI hR
  obtain ⟨e1, e2, e3⟩ := ob_op ho (show ((regionOps Tryd.f5 6)[26]?).map (fun o => (o.op, o.dst, o.guard)) = some (.pick (.tmp 43) (.const (.bool true)) (.tmp 46), some 47, some (12, false)) by kernel_rfl)
  have xg := ev_val (v := .bool false) (cs := (mg6ttCs S T M k)) mg6tt_ok hR ho (j := 12) (t := 33) (by rw [F.hz]; kernel_rfl) rfl
  rw [if_pos (wanted_yes e3 (t := 33) (by kernel_rfl) xg)]
  intro K hK
  have x0 := ev_val (v := .bool true) (cs := (mg6ttCs S T M k)) mg6tt_ok hR ho (j := 22) (t := 43) (by rw [F.hz]; kernel_rfl) rfl
  have x1 : (putL (planOf (regionOps Tryd.f5 6) (upto 39)) u a0).eval (.const (.bool true)) = .bool true := rfl
  exact opw_pickT e1 x0 x1 (hK _ _ ⟨_, rfl, rfl⟩ hI (Below.refl _ _))
theorem mg6tt_27 (F : Mg6 a0 w0 base B2 B3 B5 S T M k true true) : PO (regionOps Tryd.f5 6) 39 a0 base w0 (mg6ttCs S T M k) 27 := by
  intro o ho u W hI hR
  obtain ⟨e1, e2, e3⟩ := ob_op ho (show ((regionOps Tryd.f5 6)[27]?).map (fun o => (o.op, o.dst, o.guard)) = some (.binOp .neq 4 (.tmp 39) (.tmp 47) 4, some 48, some (12, false)) by kernel_rfl)
  have xg := ev_val (v := .bool false) (cs := (mg6ttCs S T M k)) mg6tt_ok hR ho (j := 12) (t := 33) (by rw [F.hz]; kernel_rfl) rfl
  rw [if_pos (wanted_yes e3 (t := 33) (by kernel_rfl) xg)]
  intro K hK
  have x0 := ev_val (v := .bool true) (cs := (mg6ttCs S T M k)) mg6tt_ok hR ho (j := 18) (t := 39) (by rw [F.hz]; kernel_rfl) rfl
  have x1 := ev_val (v := .bool true) (cs := (mg6ttCs S T M k)) mg6tt_ok hR ho (j := 26) (t := 47) (by rw [F.hz]; kernel_rfl) rfl
  exact opw_neb e1 x0 x1 (by decide) (hK _ _ ⟨_, rfl, rfl⟩ hI (Below.refl _ _))
theorem mg6tt_28 (F : Mg6 a0 w0 base B2 B3 B5 S T M k true true) : PO (regionOps Tryd.f5 6) 39 a0 base w0 (mg6ttCs S T M k) 28 := by
  intro o ho u W hI hR
  obtain ⟨e1, e2, e3⟩ := ob_op ho (show ((regionOps Tryd.f5 6)[28]?).map (fun o => (o.op, o.dst, o.guard)) = some (.pick (.tmp 33) (.const (.bool true)) (.tmp 48), some 49, none) by kernel_rfl)
  rw [if_pos (plan_free e3 _)]
  intro K hK
  have x0 := ev_val (v := .bool false) (cs := (mg6ttCs S T M k)) mg6tt_ok hR ho (j := 12) (t := 33) (by rw [F.hz]; kernel_rfl) rfl
  have x2 := ev_val (v := .bool false) (cs := (mg6ttCs S T M k)) mg6tt_ok hR ho (j := 27) (t := 48) (by rw [F.hz]; kernel_rfl) rfl
  exact opw_pickF e1 x0 x2 (hK _ _ ⟨_, rfl, rfl⟩ hI (Below.refl _ _))
theorem mg6tt_29 (F : Mg6 a0 w0 base B2 B3 B5 S T M k true true) : PO (regionOps Tryd.f5 6) 39 a0 base w0 (mg6ttCs S T M k) 29 := by
  intro o ho u W hI hR
  obtain ⟨e1, e2, e3⟩ := ob_op ho (show ((regionOps Tryd.f5 6)[29]?).map (fun o => (o.op, o.dst, o.guard)) = some (.move (.tmp 49), some 50, none) by kernel_rfl)
  rw [if_pos (plan_free e3 _)]
  intro K hK
  have x0 := ev_val (v := .bool false) (cs := (mg6ttCs S T M k)) mg6tt_ok hR ho (j := 28) (t := 49) (by rw [F.hz]; kernel_rfl) rfl
  exact opw_move e1 x0 (hK _ _ ⟨_, rfl, rfl⟩ hI (Below.refl _ _))
theorem mg6tt_30 (F : Mg6 a0 w0 base B2 B3 B5 S T M k true true) : PO (regionOps Tryd.f5 6) 39 a0 base w0 (mg6ttCs S T M k) 30 := by
  intro o ho u W hI hR
  obtain ⟨e1, e2, e3⟩ := ob_op ho (show ((regionOps Tryd.f5 6)[30]?).map (fun o => (o.op, o.dst, o.guard)) = some (.load 24 (.tmp 2), some 51, some (29, false)) by kernel_rfl)
  have xg := ev_val (v := .bool false) (cs := (mg6ttCs S T M k)) mg6tt_ok hR ho (j := 29) (t := 50) (by rw [F.hz]; kernel_rfl) rfl
  rw [if_pos (wanted_yes e3 (t := 50) (by kernel_rfl) xg)]
  intro K hK
  have x0 := ev_base (u := u) mg6tt_ok (by kernel_rfl) F.h2
  exact opw_load_set e1 x0 (F.b2.below hI.1 F.l2) (hK _ _ ⟨_, rfl, rfl⟩ hI (Below.refl _ _))
theorem mg6tt_31 (F : Mg6 a0 w0 base B2 B3 B5 S T M k true true) : PO (regionOps Tryd.f5 6) 39 a0 base w0 (mg6ttCs S T M k) 31 := by
  intro o ho u W hI hR
  obtain ⟨e1, e2, e3⟩ := ob_op ho (show ((regionOps Tryd.f5 6)[31]?).map (fun o => (o.op, o.dst, o.guard)) = some (.call { callee := .value (.func 25), args := #[(.tmp 51)], argTypes := #[24] }, some 52, some (29, false)) by kernel_rfl)
  have xg := ev_val (v := .bool false) (cs := (mg6ttCs S T M k)) mg6tt_ok hR ho (j := 29) (t := 50) (by rw [F.hz]; kernel_rfl) rfl
  rw [if_pos (wanted_yes e3 (t := 50) (by kernel_rfl) xg)]
  intro K hK
  have x0 := ev_val (v := sv (S)) (cs := (mg6ttCs S T M k)) mg6tt_ok hR ho (j := 30) (t := 51) (by rw [F.hz]; kernel_rfl) rfl
  refine opw_call e1 (vs := #[sv (S)]) (by simp only [List.map_toArray, List.map_cons, List.map_nil, x0]) Tryd.func25 (by kernel_rfl) (by kernel_rfl) (Not_any (S) W) ?_
  rintro e W' ⟨rfl, b⟩
  exact ⟨_, rfl, hK _ _ ⟨_, rfl, rfl⟩ (hI.step b) b⟩
theorem mg6tt_32 (F : Mg6 a0 w0 base B2 B3 B5 S T M k true true) : PO (regionOps Tryd.f5 6) 39 a0 base w0 (mg6ttCs S T M k) 32 := by
  intro o ho u W hI hR
  obtain ⟨e1, e2, e3⟩ := ob_op ho (show ((regionOps Tryd.f5 6)[32]?).map (fun o => (o.op, o.dst, o.guard)) = some (.move (.tmp 7), some 53, some (29, false)) by kernel_rfl)
  have xg := ev_val (v := .bool false) (cs := (mg6ttCs S T M k)) mg6tt_ok hR ho (j := 29) (t := 50) (by rw [F.hz]; kernel_rfl) rfl
  rw [if_pos (wanted_yes e3 (t := 50) (by kernel_rfl) xg)]
  intro K hK
  have x0 := ev_base (u := u) mg6tt_ok (by kernel_rfl) F.h7
  exact opw_move e1 x0 (hK _ _ ⟨_, rfl, rfl⟩ hI (Below.refl _ _))
theorem mg6tt_33 (F : Mg6 a0 w0 base B2 B3 B5 S T M k true true) : PO (regionOps Tryd.f5 6) 39 a0 base w0 (mg6ttCs S T M k) 33 := by
  intro o ho u W hI hR
  obtain ⟨e1, e2, e3⟩ := ob_op ho (show ((regionOps Tryd.f5 6)[33]?).map (fun o => (o.op, o.dst, o.guard)) = some (.call { callee := .value (.func 30), args := #[(.tmp 52), (.tmp 53)], argTypes := #[24, 5] }, some 54, some (29, false)) by kernel_rfl)
  have xg := ev_val (v := .bool false) (cs := (mg6ttCs S T M k)) mg6tt_ok hR ho (j := 29) (t := 50) (by rw [F.hz]; kernel_rfl) rfl
  rw [if_pos (wanted_yes e3 (t := 50) (by kernel_rfl) xg)]
  intro K hK
  have x0 := ev_val (v := sv (cmpl (S))) (cs := (mg6ttCs S T M k)) mg6tt_ok hR ho (j := 31) (t := 52) (by rw [F.hz]; kernel_rfl) rfl
  have x1 := ev_val (v := .int .u8 (k)) (cs := (mg6ttCs S T M k)) mg6tt_ok hR ho (j := 32) (t := 53) (by rw [F.hz]; kernel_rfl) rfl
  refine opw_call e1 (vs := #[sv (cmpl (S)), .int .u8 k]) (by simp only [List.map_toArray, List.map_cons, List.map_nil, x0, x1]) Tryd.func30 (by kernel_rfl) (by kernel_rfl) (Has_any (cmpl (S)) k F.hk W) ?_
  rintro e W' ⟨rfl, b⟩
  exact ⟨_, rfl, hK _ _ ⟨_, rfl, congrArg Value.bool F.hN⟩ (hI.step b) b⟩
theorem mg6tt_34 (F : Mg6 a0 w0 base B2 B3 B5 S T M k true true) : PO (regionOps Tryd.f5 6) 39 a0 base w0 (mg6ttCs S T M k) 34 := by
  intro o ho u W hI hR
  obtain ⟨e1, e2, e3⟩ := ob_op ho (show ((regionOps Tryd.f5 6)[34]?).map (fun o => (o.op, o.dst, o.guard)) = some (.load 24 (.tmp 2), some 55, some (29, false)) by kernel_rfl)
  have xg := ev_val (v := .bool false) (cs := (mg6ttCs S T M k)) mg6tt_ok hR ho (j := 29) (t := 50) (by rw [F.hz]; kernel_rfl) rfl
  rw [if_pos (wanted_yes e3 (t := 50) (by kernel_rfl) xg)]
  intro K hK
  have x0 := ev_base (u := u) mg6tt_ok (by kernel_rfl) F.h2
  exact opw_load_set e1 x0 (F.b2.below hI.1 F.l2) (hK _ _ ⟨_, rfl, rfl⟩ hI (Below.refl _ _))
theorem mg6tt_35 (F : Mg6 a0 w0 base B2 B3 B5 S T M k true true) : PO (regionOps Tryd.f5 6) 39 a0 base w0 (mg6ttCs S T M k) 35 := by
  intro o ho u W hI hR
  obtain ⟨e1, e2, e3⟩ := ob_op ho (show ((regionOps Tryd.f5 6)[35]?).map (fun o => (o.op, o.dst, o.guard)) = some (.move (.tmp 7), some 56, some (29, false)) by kernel_rfl)
  have xg := ev_val (v := .bool false) (cs := (mg6ttCs S T M k)) mg6tt_ok hR ho (j := 29) (t := 50) (by rw [F.hz]; kernel_rfl) rfl
  rw [if_pos (wanted_yes e3 (t := 50) (by kernel_rfl) xg)]
  intro K hK
  have x0 := ev_base (u := u) mg6tt_ok (by kernel_rfl) F.h7
  exact opw_move e1 x0 (hK _ _ ⟨_, rfl, rfl⟩ hI (Below.refl _ _))
theorem mg6tt_36 (F : Mg6 a0 w0 base B2 B3 B5 S T M k true true) : PO (regionOps Tryd.f5 6) 39 a0 base w0 (mg6ttCs S T M k) 36 := by
  intro o ho u W hI hR
  obtain ⟨e1, e2, e3⟩ := ob_op ho (show ((regionOps Tryd.f5 6)[36]?).map (fun o => (o.op, o.dst, o.guard)) = some (.call { callee := .value (.func 30), args := #[(.tmp 55), (.tmp 56)], argTypes := #[24, 5] }, some 57, some (29, false)) by kernel_rfl)
  have xg := ev_val (v := .bool false) (cs := (mg6ttCs S T M k)) mg6tt_ok hR ho (j := 29) (t := 50) (by rw [F.hz]; kernel_rfl) rfl
  rw [if_pos (wanted_yes e3 (t := 50) (by kernel_rfl) xg)]
  intro K hK
  have x0 := ev_val (v := sv (S)) (cs := (mg6ttCs S T M k)) mg6tt_ok hR ho (j := 34) (t := 55) (by rw [F.hz]; kernel_rfl) rfl
  have x1 := ev_val (v := .int .u8 (k)) (cs := (mg6ttCs S T M k)) mg6tt_ok hR ho (j := 35) (t := 56) (by rw [F.hz]; kernel_rfl) rfl
  refine opw_call e1 (vs := #[sv (S), .int .u8 k]) (by simp only [List.map_toArray, List.map_cons, List.map_nil, x0, x1]) Tryd.func30 (by kernel_rfl) (by kernel_rfl) (Has_any (S) k F.hk W) ?_
  rintro e W' ⟨rfl, b⟩
  exact ⟨_, rfl, hK _ _ ⟨_, rfl, congrArg Value.bool F.hS⟩ (hI.step b) b⟩
theorem mg6tt_37 (F : Mg6 a0 w0 base B2 B3 B5 S T M k true true) : PO (regionOps Tryd.f5 6) 39 a0 base w0 (mg6ttCs S T M k) 37 := by
  intro o ho u W hI hR
  obtain ⟨e1, e2, e3⟩ := ob_op ho (show ((regionOps Tryd.f5 6)[37]?).map (fun o => (o.op, o.dst, o.guard)) = some (.binOp .eql 4 (.tmp 54) (.tmp 57) 4, some 58, some (29, false)) by kernel_rfl)
  have xg := ev_val (v := .bool false) (cs := (mg6ttCs S T M k)) mg6tt_ok hR ho (j := 29) (t := 50) (by rw [F.hz]; kernel_rfl) rfl
  rw [if_pos (wanted_yes e3 (t := 50) (by kernel_rfl) xg)]
  intro K hK
  have x0 := ev_val (v := .bool false) (cs := (mg6ttCs S T M k)) mg6tt_ok hR ho (j := 33) (t := 54) (by rw [F.hz]; kernel_rfl) rfl
  have x1 := ev_val (v := .bool true) (cs := (mg6ttCs S T M k)) mg6tt_ok hR ho (j := 36) (t := 57) (by rw [F.hz]; kernel_rfl) rfl
  exact opw_eqb e1 x0 x1 (by decide) (hK _ _ ⟨_, rfl, rfl⟩ hI (Below.refl _ _))
theorem mg6tt_38 (F : Mg6 a0 w0 base B2 B3 B5 S T M k true true) : PO (regionOps Tryd.f5 6) 39 a0 base w0 (mg6ttCs S T M k) 38 := by
  intro o ho u W hI hR
  obtain ⟨e1, e2, e3⟩ := ob_op ho (show ((regionOps Tryd.f5 6)[38]?).map (fun o => (o.op, o.dst, o.guard)) = some (.pick (.tmp 50) (.const (.bool true)) (.tmp 58), some 59, none) by kernel_rfl)
  rw [if_pos (plan_free e3 _)]
  intro K hK
  have x0 := ev_val (v := .bool false) (cs := (mg6ttCs S T M k)) mg6tt_ok hR ho (j := 29) (t := 50) (by rw [F.hz]; kernel_rfl) rfl
  have x2 := ev_val (v := .bool false) (cs := (mg6ttCs S T M k)) mg6tt_ok hR ho (j := 37) (t := 58) (by rw [F.hz]; kernel_rfl) rfl
  exact opw_pickF e1 x0 x2 (hK _ _ ⟨_, rfl, rfl⟩ hI (Below.refl _ _))
theorem mg6tt_all (F : Mg6 a0 w0 base B2 B3 B5 S T M k true true) : ∀ i, i < 39 → PO (regionOps Tryd.f5 6) 39 a0 base w0 (mg6ttCs S T M k) i
  | 0, _ => mg6tt_0 F
  | 1, _ => mg6tt_1 F
  | 2, _ => mg6tt_2 F
  | 3, _ => mg6tt_3 F
  | 4, _ => mg6tt_4 F
  | 5, _ => mg6tt_5 F
  | 6, _ => mg6tt_6 F
  | 7, _ => mg6tt_7 F
  | 8, _ => mg6tt_8 F
  | 9, _ => mg6tt_9 F
  | 10, _ => mg6tt_10 F
  | 11, _ => mg6tt_11 F
  | 12, _ => mg6tt_12 F
  | 13, _ => mg6tt_13 F
  | 14, _ => mg6tt_14 F
  | 15, _ => mg6tt_15 F
  | 16, _ => mg6tt_16 F
  | 17, _ => mg6tt_17 F
  | 18, _ => mg6tt_18 F
  | 19, _ => mg6tt_19 F
  | 20, _ => mg6tt_20 F
  | 21, _ => mg6tt_21 F
  | 22, _ => mg6tt_22 F
  | 23, _ => mg6tt_23 F
  | 24, _ => mg6tt_24 F
  | 25, _ => mg6tt_25 F
  | 26, _ => mg6tt_26 F
  | 27, _ => mg6tt_27 F
  | 28, _ => mg6tt_28 F
  | 29, _ => mg6tt_29 F
  | 30, _ => mg6tt_30 F
  | 31, _ => mg6tt_31 F
  | 32, _ => mg6tt_32 F
  | 33, _ => mg6tt_33 F
  | 34, _ => mg6tt_34 F
  | 35, _ => mg6tt_35 F
  | 36, _ => mg6tt_36 F
  | 37, _ => mg6tt_37 F
  | 38, _ => mg6tt_38 F
  | i + 39, h => absurd h (by omega)
def mg6tfCs (S T M k : Nat) : List Claim := [.val (sv (M)), .val (.int .u8 (k)), .val (.bool false), .val (sv (S)), .val (.int .u8 (k)), .val (.bool true), .val (.bool true), .val (sv (T)), .val (.int .u8 (k)), .val (.bool false), .val (.bool false), .val (.bool false), .val (.bool false), .val (sv (S)), .val (sv (T)), .two (S) (T), .val (sv (unionL [S, T])), .val (.int .u8 (k)), .val (.bool true), .val (sv (S)), .val (.int .u8 (k)), .val (.bool true), .val (.bool true), .val (undef), .val (undef), .val (undef), .val (.bool true), .val (.bool false), .val (.bool false), .val (.bool false), .val (sv (S)), .val (sv (cmpl (S))), .val (.int .u8 (k)), .val (.bool false), .val (sv (S)), .val (.int .u8 (k)), .val (.bool true), .val (.bool false), .val (.bool false)]
theorem mg6tf_ok : planOk .any (regionOps Tryd.f5 6) (upto 39) = true := by kernel_rfl
theorem mg6tf_0 (F : Mg6 a0 w0 base B2 B3 B5 S T M k true false) : PO (regionOps Tryd.f5 6) 39 a0 base w0 (mg6tfCs S T M k) 0 := by
  intro o ho u W hI hR
  obtain ⟨e1, e2, e3⟩ := ob_op ho (show ((regionOps Tryd.f5 6)[0]?).map (fun o => (o.op, o.dst, o.guard)) = some (.load 24 (.tmp 5), some 21, none) by kernel_rfl)
  rw [if_pos (plan_free e3 _)]
  intro K hK
  have x0 := ev_base (u := u) mg6tf_ok (by kernel_rfl) F.h5
  exact opw_load_set e1 x0 (F.b5.below hI.1 F.l5) (hK _ _ ⟨_, rfl, rfl⟩ hI (Below.refl _ _))
theorem mg6tf_1 (F : Mg6 a0 w0 base B2 B3 B5 S T M k true false) : PO (regionOps Tryd.f5 6) 39 a0 base w0 (mg6tfCs S T M k) 1 := by
  intro o ho u W hI hR
  obtain ⟨e1, e2, e3⟩ := ob_op ho (show ((regionOps Tryd.f5 6)[1]?).map (fun o => (o.op, o.dst, o.guard)) = some (.move (.tmp 7), some 22, none) by kernel_rfl)
  rw [if_pos (plan_free e3 _)]
  intro K hK
  have x0 := ev_base (u := u) mg6tf_ok (by kernel_rfl) F.h7
  exact opw_move e1 x0 (hK _ _ ⟨_, rfl, rfl⟩ hI (Below.refl _ _))
theorem mg6tf_2 (F : Mg6 a0 w0 base B2 B3 B5 S T M k true false) : PO (regionOps Tryd.f5 6) 39 a0 base w0 (mg6tfCs S T M k) 2 := by
  intro o ho u W hI hR
  obtain ⟨e1, e2, e3⟩ := ob_op ho (show ((regionOps Tryd.f5 6)[2]?).map (fun o => (o.op, o.dst, o.guard)) = some (.call { callee := .value (.func 30), args := #[(.tmp 21), (.tmp 22)], argTypes := #[24, 5] }, some 23, none) by kernel_rfl)
  rw [if_pos (plan_free e3 _)]
  intro K hK
  have x0 := ev_val (v := sv (M)) (cs := (mg6tfCs S T M k)) mg6tf_ok hR ho (j := 0) (t := 21) (by rw [F.hz]; kernel_rfl) rfl
  have x1 := ev_val (v := .int .u8 (k)) (cs := (mg6tfCs S T M k)) mg6tf_ok hR ho (j := 1) (t := 22) (by rw [F.hz]; kernel_rfl) rfl
  refine opw_call e1 (vs := #[sv (M), .int .u8 k]) (by simp only [List.map_toArray, List.map_cons, List.map_nil, x0, x1]) Tryd.func30 (by kernel_rfl) (by kernel_rfl) (Has_any (M) k F.hk W) ?_
  rintro e W' ⟨rfl, b⟩
  exact ⟨_, rfl, hK _ _ ⟨_, rfl, congrArg Value.bool F.hM⟩ (hI.step b) b⟩
theorem mg6tf_3 (F : Mg6 a0 w0 base B2 B3 B5 S T M k true false) : PO (regionOps Tryd.f5 6) 39 a0 base w0 (mg6tfCs S T M k) 3 := by
  intro o ho u W hI hR
  obtain ⟨e1, e2, e3⟩ := ob_op ho (show ((regionOps Tryd.f5 6)[3]?).map (fun o => (o.op, o.dst, o.guard)) = some (.load 24 (.tmp 2), some 24, none) by kernel_rfl)
  rw [if_pos (plan_free e3 _)]
  intro K hK
  have x0 := ev_base (u := u) mg6tf_ok (by kernel_rfl) F.h2
  exact opw_load_set e1 x0 (F.b2.below hI.1 F.l2) (hK _ _ ⟨_, rfl, rfl⟩ hI (Below.refl _ _))
theorem mg6tf_4 (F : Mg6 a0 w0 base B2 B3 B5 S T M k true false) : PO (regionOps Tryd.f5 6) 39 a0 base w0 (mg6tfCs S T M k) 4 := by
  intro o ho u W hI hR
  obtain ⟨e1, e2, e3⟩ := ob_op ho (show ((regionOps Tryd.f5 6)[4]?).map (fun o => (o.op, o.dst, o.guard)) = some (.move (.tmp 7), some 25, none) by kernel_rfl)
  rw [if_pos (plan_free e3 _)]
  intro K hK
  have x0 := ev_base (u := u) mg6tf_ok (by kernel_rfl) F.h7
  exact opw_move e1 x0 (hK _ _ ⟨_, rfl, rfl⟩ hI (Below.refl _ _))
theorem mg6tf_5 (F : Mg6 a0 w0 base B2 B3 B5 S T M k true false) : PO (regionOps Tryd.f5 6) 39 a0 base w0 (mg6tfCs S T M k) 5 := by
  intro o ho u W hI hR
  obtain ⟨e1, e2, e3⟩ := ob_op ho (show ((regionOps Tryd.f5 6)[5]?).map (fun o => (o.op, o.dst, o.guard)) = some (.call { callee := .value (.func 30), args := #[(.tmp 24), (.tmp 25)], argTypes := #[24, 5] }, some 26, none) by kernel_rfl)
  rw [if_pos (plan_free e3 _)]
  intro K hK
  have x0 := ev_val (v := sv (S)) (cs := (mg6tfCs S T M k)) mg6tf_ok hR ho (j := 3) (t := 24) (by rw [F.hz]; kernel_rfl) rfl
  have x1 := ev_val (v := .int .u8 (k)) (cs := (mg6tfCs S T M k)) mg6tf_ok hR ho (j := 4) (t := 25) (by rw [F.hz]; kernel_rfl) rfl
  refine opw_call e1 (vs := #[sv (S), .int .u8 k]) (by simp only [List.map_toArray, List.map_cons, List.map_nil, x0, x1]) Tryd.func30 (by kernel_rfl) (by kernel_rfl) (Has_any (S) k F.hk W) ?_
  rintro e W' ⟨rfl, b⟩
  exact ⟨_, rfl, hK _ _ ⟨_, rfl, congrArg Value.bool F.hS⟩ (hI.step b) b⟩
theorem mg6tf_6 (F : Mg6 a0 w0 base B2 B3 B5 S T M k true false) : PO (regionOps Tryd.f5 6) 39 a0 base w0 (mg6tfCs S T M k) 6 := by
  intro o ho u W hI hR
  obtain ⟨e1, e2, e3⟩ := ob_op ho (show ((regionOps Tryd.f5 6)[6]?).map (fun o => (o.op, o.dst, o.guard)) = some (.move (.tmp 26), some 27, none) by kernel_rfl)
  rw [if_pos (plan_free e3 _)]
  intro K hK
  have x0 := ev_val (v := .bool true) (cs := (mg6tfCs S T M k)) mg6tf_ok hR ho (j := 5) (t := 26) (by rw [F.hz]; kernel_rfl) rfl
  exact opw_move e1 x0 (hK _ _ ⟨_, rfl, rfl⟩ hI (Below.refl _ _))
theorem mg6tf_7 (F : Mg6 a0 w0 base B2 B3 B5 S T M k true false) : PO (regionOps Tryd.f5 6) 39 a0 base w0 (mg6tfCs S T M k) 7 := by
  intro o ho u W hI hR
  obtain ⟨e1, e2, e3⟩ := ob_op ho (show ((regionOps Tryd.f5 6)[7]?).map (fun o => (o.op, o.dst, o.guard)) = some (.load 24 (.tmp 3), some 28, some (6, true)) by kernel_rfl)
  have xg := ev_val (v := .bool true) (cs := (mg6tfCs S T M k)) mg6tf_ok hR ho (j := 6) (t := 27) (by rw [F.hz]; kernel_rfl) rfl
  rw [if_pos (wanted_yes e3 (t := 27) (by kernel_rfl) xg)]
  intro K hK
  have x0 := ev_base (u := u) mg6tf_ok (by kernel_rfl) F.h3
  exact opw_load_set e1 x0 (F.b3.below hI.1 F.l3) (hK _ _ ⟨_, rfl, rfl⟩ hI (Below.refl _ _))
theorem mg6tf_8 (F : Mg6 a0 w0 base B2 B3 B5 S T M k true false) : PO (regionOps Tryd.f5 6) 39 a0 base w0 (mg6tfCs S T M k) 8 := by
  intro o ho u W hI hR
  obtain ⟨e1, e2, e3⟩ := ob_op ho (show ((regionOps Tryd.f5 6)[8]?).map (fun o => (o.op, o.dst, o.guard)) = some (.move (.tmp 7), some 29, some (6, true)) by kernel_rfl)
  have xg := ev_val (v := .bool true) (cs := (mg6tfCs S T M k)) mg6tf_ok hR ho (j := 6) (t := 27) (by rw [F.hz]; kernel_rfl) rfl
  rw [if_pos (wanted_yes e3 (t := 27) (by kernel_rfl) xg)]
  intro K hK
  have x0 := ev_base (u := u) mg6tf_ok (by kernel_rfl) F.h7
  exact opw_move e1 x0 (hK _ _ ⟨_, rfl, rfl⟩ hI (Below.refl _ _))
theorem mg6tf_9 (F : Mg6 a0 w0 base B2 B3 B5 S T M k true false) : PO (regionOps Tryd.f5 6) 39 a0 base w0 (mg6tfCs S T M k) 9 := by
  intro o ho u W hI hR
  obtain ⟨e1, e2, e3⟩ := ob_op ho (show ((regionOps Tryd.f5 6)[9]?).map (fun o => (o.op, o.dst, o.guard)) = some (.call { callee := .value (.func 30), args := #[(.tmp 28), (.tmp 29)], argTypes := #[24, 5] }, some 30, some (6, true)) by kernel_rfl)
  have xg := ev_val (v := .bool true) (cs := (mg6tfCs S T M k)) mg6tf_ok hR ho (j := 6) (t := 27) (by rw [F.hz]; kernel_rfl) rfl
  rw [if_pos (wanted_yes e3 (t := 27) (by kernel_rfl) xg)]
  intro K hK
  have x0 := ev_val (v := sv (T)) (cs := (mg6tfCs S T M k)) mg6tf_ok hR ho (j := 7) (t := 28) (by rw [F.hz]; kernel_rfl) rfl
  have x1 := ev_val (v := .int .u8 (k)) (cs := (mg6tfCs S T M k)) mg6tf_ok hR ho (j := 8) (t := 29) (by rw [F.hz]; kernel_rfl) rfl
  refine opw_call e1 (vs := #[sv (T), .int .u8 k]) (by simp only [List.map_toArray, List.map_cons, List.map_nil, x0, x1]) Tryd.func30 (by kernel_rfl) (by kernel_rfl) (Has_any (T) k F.hk W) ?_
  rintro e W' ⟨rfl, b⟩
  exact ⟨_, rfl, hK _ _ ⟨_, rfl, congrArg Value.bool F.hT⟩ (hI.step b) b⟩
theorem mg6tf_10 (F : Mg6 a0 w0 base B2 B3 B5 S T M k true false) : PO (regionOps Tryd.f5 6) 39 a0 base w0 (mg6tfCs S T M k) 10 := by
  intro o ho u W hI hR
  obtain ⟨e1, e2, e3⟩ := ob_op ho (show ((regionOps Tryd.f5 6)[10]?).map (fun o => (o.op, o.dst, o.guard)) = some (.pick (.tmp 27) (.tmp 30) (.const (.bool false)), some 31, none) by kernel_rfl)
  rw [if_pos (plan_free e3 _)]
  intro K hK
  have x0 := ev_val (v := .bool true) (cs := (mg6tfCs S T M k)) mg6tf_ok hR ho (j := 6) (t := 27) (by rw [F.hz]; kernel_rfl) rfl
  have x1 := ev_val (v := .bool false) (cs := (mg6tfCs S T M k)) mg6tf_ok hR ho (j := 9) (t := 30) (by rw [F.hz]; kernel_rfl) rfl
  exact opw_pickT e1 x0 x1 (hK _ _ ⟨_, rfl, rfl⟩ hI (Below.refl _ _))
theorem mg6tf_11 (F : Mg6 a0 w0 base B2 B3 B5 S T M k true false) : PO (regionOps Tryd.f5 6) 39 a0 base w0 (mg6tfCs S T M k) 11 := by
  intro o ho u W hI hR
  obtain ⟨e1, e2, e3⟩ := ob_op ho (show ((regionOps Tryd.f5 6)[11]?).map (fun o => (o.op, o.dst, o.guard)) = some (.binOp .neq 4 (.tmp 23) (.tmp 31) 4, some 32, none) by kernel_rfl)
  rw [if_pos (plan_free e3 _)]
  intro K hK
  have x0 := ev_val (v := .bool false) (cs := (mg6tfCs S T M k)) mg6tf_ok hR ho (j := 2) (t := 23) (by rw [F.hz]; kernel_rfl) rfl
  have x1 := ev_val (v := .bool false) (cs := (mg6tfCs S T M k)) mg6tf_ok hR ho (j := 10) (t := 31) (by rw [F.hz]; kernel_rfl) rfl
  exact opw_neb e1 x0 x1 (by decide) (hK _ _ ⟨_, rfl, rfl⟩ hI (Below.refl _ _))
theorem mg6tf_12 (F : Mg6 a0 w0 base B2 B3 B5 S T M k true false) : PO (regionOps Tryd.f5 6) 39 a0 base w0 (mg6tfCs S T M k) 12 := by
  intro o ho u W hI hR
  obtain ⟨e1, e2, e3⟩ := ob_op ho (show ((regionOps Tryd.f5 6)[12]?).map (fun o => (o.op, o.dst, o.guard)) = some (.move (.tmp 32), some 33, none) by kernel_rfl)
  rw [if_pos (plan_free e3 _)]
  intro K hK
  have x0 := ev_val (v := .bool false) (cs := (mg6tfCs S T M k)) mg6tf_ok hR ho (j := 11) (t := 32) (by rw [F.hz]; kernel_rfl) rfl
  exact opw_move e1 x0 (hK _ _ ⟨_, rfl, rfl⟩ hI (Below.refl _ _))
theorem mg6tf_13 (F : Mg6 a0 w0 base B2 B3 B5 S T M k true false) : PO (regionOps Tryd.f5 6) 39 a0 base w0 (mg6tfCs S T M k) 13 := by
  intro o ho u W hI hR
  obtain ⟨e1, e2, e3⟩ := ob_op ho (show ((regionOps Tryd.f5 6)[13]?).map (fun o => (o.op, o.dst, o.guard)) = some (.load 24 (.tmp 2), some 34, some (12, false)) by kernel_rfl)
  have xg := ev_val (v := .bool false) (cs := (mg6tfCs S T M k)) mg6tf_ok hR ho (j := 12) (t := 33) (by rw [F.hz]; kernel_rfl) rfl
  rw [if_pos (wanted_yes e3 (t := 33) (by kernel_rfl) xg)]
  intro K hK
  have x0 := ev_base (u := u) mg6tf_ok (by kernel_rfl) F.h2
  exact opw_load_set e1 x0 (F.b2.below hI.1 F.l2) (hK _ _ ⟨_, rfl, rfl⟩ hI (Below.refl _ _))
theorem mg6tf_14 (F : Mg6 a0 w0 base B2 B3 B5 S T M k true false) : PO (regionOps Tryd.f5 6) 39 a0 base w0 (mg6tfCs S T M k) 14 := by
  intro o ho u W hI hR
  obtain ⟨e1, e2, e3⟩ := ob_op ho (show ((regionOps Tryd.f5 6)[14]?).map (fun o => (o.op, o.dst, o.guard)) = some (.load 24 (.tmp 3), some 35, some (12, false)) by kernel_rfl)
  have xg := ev_val (v := .bool false) (cs := (mg6tfCs S T M k)) mg6tf_ok hR ho (j := 12) (t := 33) (by rw [F.hz]; kernel_rfl) rfl
  rw [if_pos (wanted_yes e3 (t := 33) (by kernel_rfl) xg)]
  intro K hK
  have x0 := ev_base (u := u) mg6tf_ok (by kernel_rfl) F.h3
  exact opw_load_set e1 x0 (F.b3.below hI.1 F.l3) (hK _ _ ⟨_, rfl, rfl⟩ hI (Below.refl _ _))
theorem mg6tf_15 (F : Mg6 a0 w0 base B2 B3 B5 S T M k true false) : PO (regionOps Tryd.f5 6) 39 a0 base w0 (mg6tfCs S T M k) 15 := by
  intro o ho u W hI hR
  obtain ⟨e1, e2, e3⟩ := ob_op ho (show ((regionOps Tryd.f5 6)[15]?).map (fun o => (o.op, o.dst, o.guard)) = some (.buildSlice 79 2 #[(0, (.tmp 34)), (1, (.tmp 35))], some 36, some (12, false)) by kernel_rfl)
  have xg := ev_val (v := .bool false) (cs := (mg6tfCs S T M k)) mg6tf_ok hR ho (j := 12) (t := 33) (by rw [F.hz]; kernel_rfl) rfl
  rw [if_pos (wanted_yes e3 (t := 33) (by kernel_rfl) xg)]
  intro K hK
  have x0 := ev_val (v := sv (S)) (cs := (mg6tfCs S T M k)) mg6tf_ok hR ho (j := 13) (t := 34) (by rw [F.hz]; kernel_rfl) rfl
  have x1 := ev_val (v := sv (T)) (cs := (mg6tfCs S T M k)) mg6tf_ok hR ho (j := 14) (t := 35) (by rw [F.hz]; kernel_rfl) rfl
  have bb : Below W.heap.size W (W.alloc (.cells (scs2 (S) (T)) 24)) := (Below.refl _ _).alloc (Nat.le_refl _) _
  exact opw_two e1 x0 x1 (hK _ _ ⟨_, rfl, W.heap.size, rfl, heap_alloc_new W _⟩ (hI.step bb) bb)
theorem mg6tf_16 (F : Mg6 a0 w0 base B2 B3 B5 S T M k true false) : PO (regionOps Tryd.f5 6) 39 a0 base w0 (mg6tfCs S T M k) 16 := by
  intro o ho u W hI hR
  obtain ⟨e1, e2, e3⟩ := ob_op ho (show ((regionOps Tryd.f5 6)[16]?).map (fun o => (o.op, o.dst, o.guard)) = some (.call { callee := .value (.func 27), args := #[(.tmp 36)], argTypes := #[79] }, some 37, some (12, false)) by kernel_rfl)
  have xg := ev_val (v := .bool false) (cs := (mg6tfCs S T M k)) mg6tf_ok hR ho (j := 12) (t := 33) (by rw [F.hz]; kernel_rfl) rfl
  rw [if_pos (wanted_yes e3 (t := 33) (by kernel_rfl) xg)]
  intro K hK
  obtain ⟨x0, cx0, kx0, lx0⟩ := ev_cl mg6tf_ok hR ho (j := 15) (t := 36) (by rw [F.hz]; kernel_rfl)
  cases kx0
  obtain ⟨b0, ex0, hb0⟩ := lx0
  rw [ex0] at x0
  refine opw_call e1 (vs := #[.slice (some ⟨b0, 0, none⟩) 2 2]) (by simp only [List.map_toArray, List.map_cons, List.map_nil, x0]) Tryd.func27 (by kernel_rfl) (by kernel_rfl) (union_at hb0) ?_
  rintro e W' ⟨rfl, b⟩
  exact ⟨_, rfl, hK _ _ ⟨_, rfl, rfl⟩ (hI.step b) b⟩
theorem mg6tf_17 (F : Mg6 a0 w0 base B2 B3 B5 S T M k true false) : PO (regionOps Tryd.f5 6) 39 a0 base w0 (mg6tfCs S T M k) 17 := by
  intro o ho u W hI hR
  obtain ⟨e1, e2, e3⟩ := ob_op ho (show ((regionOps Tryd.f5 6)[17]?).map (fun o => (o.op, o.dst, o.guard)) = some (.move (.tmp 7), some 38, some (12, false)) by kernel_rfl)
  have xg := ev_val (v := .bool false) (cs := (mg6tfCs S T M k)) mg6tf_ok hR ho (j := 12) (t := 33) (by rw [F.hz]; kernel_rfl) rfl
  rw [if_pos (wanted_yes e3 (t := 33) (by kernel_rfl) xg)]
  intro K hK
  have x0 := ev_base (u := u) mg6tf_ok (by kernel_rfl) F.h7
  exact opw_move e1 x0 (hK _ _ ⟨_, rfl, rfl⟩ hI (Below.refl _ _))
theorem mg6tf_18 (F : Mg6 a0 w0 base B2 B3 B5 S T M k true false) : PO (regionOps Tryd.f5 6) 39 a0 base w0 (mg6tfCs S T M k) 18 := by
  intro o ho u W hI hR
  obtain ⟨e1, e2, e3⟩ := ob_op ho (show ((regionOps Tryd.f5 6)[18]?).map (fun o => (o.op, o.dst, o.guard)) = some (.call { callee := .value (.func 30), args := #[(.tmp 37), (.tmp 38)], argTypes := #[24, 5] }, some 39, some (12, false)) by kernel_rfl)
  have xg := ev_val (v := .bool false) (cs := (mg6tfCs S T M k)) mg6tf_ok hR ho (j := 12) (t := 33) (by rw [F.hz]; kernel_rfl) rfl
  rw [if_pos (wanted_yes e3 (t := 33) (by kernel_rfl) xg)]
  intro K hK
  have x0 := ev_val (v := sv (unionL [S, T])) (cs := (mg6tfCs S T M k)) mg6tf_ok hR ho (j := 16) (t := 37) (by rw [F.hz]; kernel_rfl) rfl
  have x1 := ev_val (v := .int .u8 (k)) (cs := (mg6tfCs S T M k)) mg6tf_ok hR ho (j := 17) (t := 38) (by rw [F.hz]; kernel_rfl) rfl
  refine opw_call e1 (vs := #[sv (unionL [S, T]), .int .u8 k]) (by simp only [List.map_toArray, List.map_cons, List.map_nil, x0, x1]) Tryd.func30 (by kernel_rfl) (by kernel_rfl) (Has_any (unionL [S, T]) k F.hk W) ?_
  rintro e W' ⟨rfl, b⟩
  exact ⟨_, rfl, hK _ _ ⟨_, rfl, congrArg Value.bool F.hU⟩ (hI.step b) b⟩
theorem mg6tf_19 (F : Mg6 a0 w0 base B2 B3 B5 S T M k true false) : PO (regionOps Tryd.f5 6) 39 a0 base w0 (mg6tfCs S T M k) 19 := by
  intro o ho u W hI hR
  obtain ⟨e1, e2, e3⟩ := ob_op ho (show ((regionOps Tryd.f5 6)[19]?).map (fun o => (o.op, o.dst, o.guard)) = some (.load 24 (.tmp 2), some 40, some (12, false)) by kernel_rfl)
  have xg := ev_val (v := .bool false) (cs := (mg6tfCs S T M k)) mg6tf_ok hR ho (j := 12) (t := 33) (by rw [F.hz]; kernel_rfl) rfl
  rw [if_pos (wanted_yes e3 (t := 33) (by kernel_rfl) xg)]
  intro K hK
  have x0 := ev_base (u := u) mg6tf_ok (by kernel_rfl) F.h2
  exact opw_load_set e1 x0 (F.b2.below hI.1 F.l2) (hK _ _ ⟨_, rfl, rfl⟩ hI (Below.refl _ _))
theorem mg6tf_20 (F : Mg6 a0 w0 base B2 B3 B5 S T M k true false) : PO (regionOps Tryd.f5 6) 39 a0 base w0 (mg6tfCs S T M k) 20 := by
  intro o ho u W hI hR
  obtain ⟨e1, e2, e3⟩ := ob_op ho (show ((regionOps Tryd.f5 6)[20]?).map (fun o => (o.op, o.dst, o.guard)) = some (.move (.tmp 7), some 41, some (12, false)) by kernel_rfl)
  have xg := ev_val (v := .bool false) (cs := (mg6tfCs S T M k)) mg6tf_ok hR ho (j := 12) (t := 33) (by rw [F.hz]; kernel_rfl) rfl
  rw [if_pos (wanted_yes e3 (t := 33) (by kernel_rfl) xg)]
  intro K hK
  have x0 := ev_base (u := u) mg6tf_ok (by kernel_rfl) F.h7
  exact opw_move e1 x0 (hK _ _ ⟨_, rfl, rfl⟩ hI (Below.refl _ _))
theorem mg6tf_21 (F : Mg6 a0 w0 base B2 B3 B5 S T M k true false) : PO (regionOps Tryd.f5 6) 39 a0 base w0 (mg6tfCs S T M k) 21 := by
  intro o ho u W hI hR
  obtain ⟨e1, e2, e3⟩ := ob_op ho (show ((regionOps Tryd.f5 6)[21]?).map (fun o => (o.op, o.dst, o.guard)) = some (.call { callee := .value (.func 30), args := #[(.tmp 40), (.tmp 41)], argTypes := #[24, 5] }, some 42, some (12, false)) by kernel_rfl)
  have xg := ev_val (v := .bool false) (cs := (mg6tfCs S T M k)) mg6tf_ok hR ho (j := 12) (t := 33) (by rw [F.hz]; kernel_rfl) rfl
  rw [if_pos (wanted_yes e3 (t := 33) (by kernel_rfl) xg)]
  intro K hK
  have x0 := ev_val (v := sv (S)) (cs := (mg6tfCs S T M k)) mg6tf_ok hR ho (j := 19) (t := 40) (by rw [F.hz]; kernel_rfl) rfl
  have x1 := ev_val (v := .int .u8 (k)) (cs := (mg6tfCs S T M k)) mg6tf_ok hR ho (j := 20) (t := 41) (by rw [F.hz]; kernel_rfl) rfl
  refine opw_call e1 (vs := #[sv (S), .int .u8 k]) (by simp only [List.map_toArray, List.map_cons, List.map_nil, x0, x1]) Tryd.func30 (by kernel_rfl) (by kernel_rfl) (Has_any (S) k F.hk W) ?_
  rintro e W' ⟨rfl, b⟩
  exact ⟨_, rfl, hK _ _ ⟨_, rfl, congrArg Value.bool F.hS⟩ (hI.step b) b⟩
theorem mg6tf_22 (F : Mg6 a0 w0 base B2 B3 B5 S T M k true false) : PO (regionOps Tryd.f5 6) 39 a0 base w0 (mg6tfCs S T M k) 22 := by
  intro o ho u W hI hR
  obtain ⟨e1, e2, e3⟩ := ob_op ho (show ((regionOps Tryd.f5 6)[22]?).map (fun o => (o.op, o.dst, o.guard)) = some (.move (.tmp 42), some 43, some (12, false)) by kernel_rfl)
  have xg := ev_val (v := .bool false) (cs := (mg6tfCs S T M k)) mg6tf_ok hR ho (j := 12) (t := 33) (by rw [F.hz]; kernel_rfl) rfl
  rw [if_pos (wanted_yes e3 (t := 33) (by kernel_rfl) xg)]
  intro K hK
  have x0 := ev_val (v := .bool true) (cs := (mg6tfCs S T M k)) mg6tf_ok hR ho (j := 21) (t := 42) (by rw [F.hz]; kernel_rfl) rfl
  exact opw_move e1 x0 (hK _ _ ⟨_, rfl, rfl⟩ hI (Below.refl _ _))
theorem mg6tf_23 (F : Mg6 a0 w0 base B2 B3 B5 S T M k true false) : PO (regionOps Tryd.f5 6) 39 a0 base w0 (mg6tfCs S T M k) 23 := by
  intro o ho u W hI hR
  obtain ⟨e1, e2, e3⟩ := ob_op ho (show ((regionOps Tryd.f5 6)[23]?).map (fun o => (o.op, o.dst, o.guard)) = some (.load 24 (.tmp 3), some 44, some (22, false)) by kernel_rfl)
  have xg := ev_val (v := .bool true) (cs := (mg6tfCs S T M k)) mg6tf_ok hR ho (j := 22) (t := 43) (by rw [F.hz]; kernel_rfl) rfl
  rw [if_neg (wanted_no e3 (t := 43) (by kernel_rfl) xg)]
  rintro W' rfl
  exact ⟨⟨_, rfl, rfl⟩, Below.refl _ _⟩
theorem mg6tf_24 (F : Mg6 a0 w0 base B2 B3 B5 S T M k true false) : PO (regionOps Tryd.f5 6) 39 a0 base w0 (mg6tfCs S T M k) 24 := by
  intro o ho u W hI hR
  obtain ⟨e1, e2, e3⟩ := ob_op ho (show ((regionOps Tryd.f5 6)[24]?).map (fun o => (o.op, o.dst, o.guard)) = some (.move (.tmp 7), some 45, some (22, false)) by kernel_rfl)
  have xg := ev_val (v := .bool true) (cs := (mg6tfCs S T M k)) mg6tf_ok hR ho (j := 22) (t := 43) (by rw [F.hz]; kernel_rfl) rfl
  rw [if_neg (wanted_no e3 (t := 43) (by kernel_rfl) xg)]
  rintro W' rfl
  exact ⟨⟨_, rfl, rfl⟩, Below.refl _ _⟩
theorem mg6tf_25 (F : Mg6 a0 w0 base B2 B3 B5 S T M k true false) : PO (regionOps Tryd.f5 6) 39 a0 base w0 (mg6tfCs S T M k) 25 := by
  intro o ho u W hI hR
  obtain ⟨e1, e2, e3⟩ := ob_op ho (show ((regionOps Tryd.f5 6)[25]?).map (fun o => (o.op, o.dst, o.guard)) = some (.call { callee := .value (.func 30), args := #[(.tmp 44), (.tmp 45)], argTypes := #[24, 5] }, some 46, some (22, false)) by kernel_rfl)
  have xg := ev_val (v := .bool true) (cs := (mg6tfCs S T M k)) mg6tf_ok hR ho (j := 22) (t := 43) (by rw [F.hz]; kernel_rfl) rfl
  rw [if_neg (wanted_no e3 (t := 43) (by kernel_rfl) xg)]
  rintro W' rfl
  exact ⟨⟨_, rfl, rfl⟩, Below.refl _ _⟩
theorem mg6tf_26 (F : Mg6 a0 w0 base B2 B3 B5 S T M k true false) : PO (regionOps Tryd.f5 6) 39 a0 base w0 (mg6tfCs S T M k) 26 := by
  intro o ho u W hI hR
  obtain ⟨e1, e2, e3⟩ := ob_op ho (show ((regionOps Tryd.f5 6)[26]?).map (fun o => (o.op, o.dst, o.guard)) = some (.pick (.tmp 43) (.const (.bool true)) (.tmp 46), some 47, some (12, false)) by kernel_rfl)
  have xg := ev_val (v := .bool false) (cs := (mg6tfCs S T M k)) mg6tf_ok hR ho (j := 12) (t := 33) (by rw [F.hz]; kernel_rfl) rfl
  rw [if_pos (wanted_yes e3 (t := 33) (by kernel_rfl) xg)]
  intro K hK
  have x0 := ev_val (v := .bool true) (cs := (mg6tfCs S T M k)) mg6tf_ok hR ho (j := 22) (t := 43) (by rw [F.hz]; kernel_rfl) rfl
  have x1 : (putL (planOf (regionOps Tryd.f5 6) (upto 39)) u a0).eval (.const (.bool true)) = .bool true := rfl
  exact opw_pickT e1 x0 x1 (hK _ _ ⟨_, rfl, rfl⟩ hI (Below.refl _ _))
theorem mg6tf_27 (F : Mg6 a0 w0 base B2 B3 B5 S T M k true false) : PO (regionOps Tryd.f5 6) 39 a0 base w0 (mg6tfCs S T M k) 27 := by
  intro o ho u W hI hR
  obtain ⟨e1, e2, e3⟩ := ob_op ho (show ((regionOps Tryd.f5 6)[27]?).map (fun o => (o.op, o.dst, o.guard)) = some (.binOp .neq 4 (.tmp 39) (.tmp 47) 4, some 48, some (12, false)) by kernel_rfl)
  have xg := ev_val (v := .bool false) (cs := (mg6tfCs S T M k)) mg6tf_ok hR ho (j := 12) (t := 33) (by rw [F.hz]; kernel_rfl) rfl
  rw [if_pos (wanted_yes e3 (t := 33) (by kernel_rfl) xg)]
  intro K hK
  have x0 := ev_val (v := .bool true) (cs := (mg6tfCs S T M k)) mg6tf_ok hR ho (j := 18) (t := 39) (by rw [F.hz]; kernel_rfl) rfl
  have x1 := ev_val (v := .bool true) (cs := (mg6tfCs S T M k)) mg6tf_ok hR ho (j := 26) (t := 47) (by rw [F.hz]; kernel_rfl) rfl
  exact opw_neb e1 x0 x1 (by decide) (hK _ _ ⟨_, rfl, rfl⟩ hI (Below.refl _ _))
theorem mg6tf_28 (F : Mg6 a0 w0 base B2 B3 B5 S T M k true false) : PO (regionOps Tryd.f5 6) 39 a0 base w0 (mg6tfCs S T M k) 28 := by
  intro o ho u W hI hR
  obtain ⟨e1, e2, e3⟩ := ob_op ho (show ((regionOps Tryd.f5 6)[28]?).map (fun o => (o.op, o.dst, o.guard)) = some (.pick (.tmp 33) (.const (.bool true)) (.tmp 48), some 49, none) by kernel_rfl)
  rw [if_pos (plan_free e3 _)]
  intro K hK
  have x0 := ev_val (v := .bool false) (cs := (mg6tfCs S T M k)) mg6tf_ok hR ho (j := 12) (t := 33) (by rw [F.hz]; kernel_rfl) rfl
  have x2 := ev_val (v := .bool false) (cs := (mg6tfCs S T M k)) mg6tf_ok hR ho (j := 27) (t := 48) (by rw [F.hz]; kernel_rfl) rfl
  exact opw_pickF e1 x0 x2 (hK _ _ ⟨_, rfl, rfl⟩ hI (Below.refl _ _))
theorem mg6tf_29 (F : Mg6 a0 w0 base B2 B3 B5 S T M k true false) : PO (regionOps Tryd.f5 6) 39 a0 base w0 (mg6tfCs S T M k) 29 := by
  intro o ho u W hI hR
  obtain ⟨e1, e2, e3⟩ := ob_op ho (show ((regionOps Tryd.f5 6)[29]?).map (fun o => (o.op, o.dst, o.guard)) = some (.move (.tmp 49), some 50, none) by kernel_rfl)
  rw [if_pos (plan_free e3 _)]
  intro K hK
  have x0 := ev_val (v := .bool false) (cs := (mg6tfCs S T M k)) mg6tf_ok hR ho (j := 28) (t := 49) (by rw [F.hz]; kernel_rfl) rfl
  exact opw_move e1 x0 (hK _ _ ⟨_, rfl, rfl⟩ hI (Below.refl _ _))
theorem mg6tf_30 (F : Mg6 a0 w0 base B2 B3 B5 S T M k true false) : PO (regionOps Tryd.f5 6) 39 a0 base w0 (mg6tfCs S T M k) 30 := by
  intro o ho u W hI hR
  obtain ⟨e1, e2, e3⟩ := ob_op ho (show ((regionOps Tryd.f5 6)[30]?).map (fun o => (o.op, o.dst, o.guard)) = some (.load 24 (.tmp 2), some 51, some (29, false)) by kernel_rfl)
  have xg := ev_val (v := .bool false) (cs := (mg6tfCs S T M k)) mg6tf_ok hR ho (j := 29) (t := 50) (by rw [F.hz]; kernel_rfl) rfl
  rw [if_pos (wanted_yes e3 (t := 50) (by kernel_rfl) xg)]
  intro K hK
  have x0 := ev_base (u := u) mg6tf_ok (by kernel_rfl) F.h2
  exact opw_load_set e1 x0 (F.b2.below hI.1 F.l2) (hK _ _ ⟨_, rfl, rfl⟩ hI (Below.refl _ _))
theorem mg6tf_31 (F : Mg6 a0 w0 base B2 B3 B5 S T M k true false) : PO (regionOps Tryd.f5 6) 39 a0 base w0 (mg6tfCs S T M k) 31 := by
  intro o ho u W hI hR
  obtain ⟨e1, e2, e3⟩ := ob_op ho (show ((regionOps Tryd.f5 6)[31]?).map (fun o => (o.op, o.dst, o.guard)) = some (.call { callee := .value (.func 25), args := #[(.tmp 51)], argTypes := #[24] }, some 52, some (29, false)) by kernel_rfl)
  have xg := ev_val (v := .bool false) (cs := (mg6tfCs S T M k)) mg6tf_ok hR ho (j := 29) (t := 50) (by rw [F.hz]; kernel_rfl) rfl
  rw [if_pos (wanted_yes e3 (t := 50) (by kernel_rfl) xg)]
  intro K hK
  have x0 := ev_val (v := sv (S)) (cs := (mg6tfCs S T M k)) mg6tf_ok hR ho (j := 30) (t := 51) (by rw [F.hz]; kernel_rfl) rfl
  refine opw_call e1 (vs := #[sv (S)]) (by simp only [List.map_toArray, List.map_cons, List.map_nil, x0]) Tryd.func25 (by kernel_rfl) (by kernel_rfl) (Not_any (S) W) ?_
  rintro e W' ⟨rfl, b⟩
  exact ⟨_, rfl, hK _ _ ⟨_, rfl, rfl⟩ (hI.step b) b⟩
theorem mg6tf_32 (F : Mg6 a0 w0 base B2 B3 B5 S T M k true false) : PO (regionOps Tryd.f5 6) 39 a0 base w0 (mg6tfCs S T M k) 32 := by
  intro o ho u W hI hR
  obtain ⟨e1, e2, e3⟩ := ob_op ho (show ((regionOps Tryd.f5 6)[32]?).map (fun o => (o.op, o.dst, o.guard)) = some (.move (.tmp 7), some 53, some (29, false)) by kernel_rfl)
  have xg := ev_val (v := .bool false) (cs := (mg6tfCs S T M k)) mg6tf_ok hR ho (j := 29) (t := 50) (by rw [F.hz]; kernel_rfl) rfl
  rw [if_pos (wanted_yes e3 (t := 50) (by kernel_rfl) xg)]
  intro K hK
  have x0 := ev_base (u := u) mg6tf_ok (by kernel_rfl) F.h7
  exact opw_move e1 x0 (hK _ _ ⟨_, rfl, rfl⟩ hI (Below.refl _ _))
theorem mg6tf_33 (F : Mg6 a0 w0 base B2 B3 B5 S T M k true false) : PO (regionOps Tryd.f5 6) 39 a0 base w0 (mg6tfCs S T M k) 33 := by
  intro o ho u W hI hR
  obtain ⟨e1, e2, e3⟩ := ob_op ho (show ((regionOps Tryd.f5 6)[33]?).map (fun o => (o.op, o.dst, o.guard)) = some (.call { callee := .value (.func 30), args := #[(.tmp 52), (.tmp 53)], argTypes := #[24, 5] }, some 54, some (29, false)) by kernel_rfl)
  have xg := ev_val (v := .bool false) (cs := (mg6tfCs S T M k)) mg6tf_ok hR ho (j := 29) (t := 50) (by rw [F.hz]; kernel_rfl) rfl
  rw [if_pos (wanted_yes e3 (t := 50) (by kernel_rfl) xg)]
  intro K hK
  have x0 := ev_val (v := sv (cmpl (S))) (cs := (mg6tfCs S T M k)) mg6tf_ok hR ho (j := 31) (t := 52) (by rw [F.hz]; kernel_rfl) rfl
  have x1 := ev_val (v := .int .u8 (k)) (cs := (mg6tfCs S T M k)) mg6tf_ok hR ho (j := 32) (t := 53) (by rw [F.hz]; kernel_rfl) rfl
  refine opw_call e1 (vs := #[sv (cmpl (S)), .int .u8 k]) (by simp only [List.map_toArray, List.map_cons, List.map_nil, x0, x1]) Tryd.func30 (by kernel_rfl) (by kernel_rfl) (Has_any (cmpl (S)) k F.hk W) ?_
  rintro e W' ⟨rfl, b⟩
  exact ⟨_, rfl, hK _ _ ⟨_, rfl, congrArg Value.bool F.hN⟩ (hI.step b) b⟩
theorem mg6tf_34 (F : Mg6 a0 w0 base B2 B3 B5 S T M k true false) : PO (regionOps Tryd.f5 6) 39 a0 base w0 (mg6tfCs S T M k) 34 := by
  intro o ho u W hI hR
  obtain ⟨e1, e2, e3⟩ := ob_op ho (show ((regionOps Tryd.f5 6)[34]?).map (fun o => (o.op, o.dst, o.guard)) = some (.load 24 (.tmp 2), some 55, some (29, false)) by kernel_rfl)
  have xg := ev_val (v := .bool false) (cs := (mg6tfCs S T M k)) mg6tf_ok hR ho (j := 29) (t := 50) (by rw [F.hz]; kernel_rfl) rfl
  rw [if_pos (wanted_yes e3 (t := 50) (by kernel_rfl) xg)]
  intro K hK
  have x0 := ev_base (u := u) mg6tf_ok (by kernel_rfl) F.h2
  exact opw_load_set e1 x0 (F.b2.below hI.1 F.l2) (hK _ _ ⟨_, rfl, rfl⟩ hI (Below.refl _ _))
theorem mg6tf_35 (F : Mg6 a0 w0 base B2 B3 B5 S T M k true false) : PO (regionOps Tryd.f5 6) 39 a0 base w0 (mg6tfCs S T M k) 35 := by
  intro o ho u W hI hR
  obtain ⟨e1, e2, e3⟩ := ob_op ho (show ((regionOps Tryd.f5 6)[35]?).map (fun o => (o.op, o.dst, o.guard)) = some (.move (.tmp 7), some 56, some (29, false)) by kernel_rfl)
  have xg := ev_val (v := .bool false) (cs := (mg6tfCs S T M k)) mg6tf_ok hR ho (j := 29) (t := 50) (by rw [F.hz]; kernel_rfl) rfl
  rw [if_pos (wanted_yes e3 (t := 50) (by kernel_rfl) xg)]
  intro K hK
  have x0 := ev_base (u := u) mg6tf_ok (by kernel_rfl) F.h7
  exact opw_move e1 x0 (hK _ _ ⟨_, rfl, rfl⟩ hI (Below.refl _ _))
theorem mg6tf_36 (F : Mg6 a0 w0 base B2 B3 B5 S T M k true false) : PO (regionOps Tryd.f5 6) 39 a0 base w0 (mg6tfCs S T M k) 36 := by
  intro o ho u W hI hR
  obtain ⟨e1, e2, e3⟩ := ob_op ho (show ((regionOps Tryd.f5 6)[36]?).map (fun o => (o.op, o.dst, o.guard)) = some (.call { callee := .value (.func 30), args := #[(.tmp 55), (.tmp 56)], argTypes := #[24, 5] }, some 57, some (29, false)) by kernel_rfl)
  have xg := ev_val (v := .bool false) (cs := (mg6tfCs S T M k)) mg6tf_ok hR ho (j := 29) (t := 50) (by rw [F.hz]; kernel_rfl) rfl
  rw [if_pos (wanted_yes e3 (t := 50) (by kernel_rfl) xg)]
  intro K hK
  have x0 := ev_val (v := sv (S)) (cs := (mg6tfCs S T M k)) mg6tf_ok hR ho (j := 34) (t := 55) (by rw [F.hz]; kernel_rfl) rfl
  have x1 := ev_val (v := .int .u8 (k)) (cs := (mg6tfCs S T M k)) mg6tf_ok hR ho (j := 35) (t := 56) (by rw [F.hz]; kernel_rfl) rfl
  refine opw_call e1 (vs := #[sv (S), .int .u8 k]) (by simp only [List.map_toArray, List.map_cons, List.map_nil, x0, x1]) Tryd.func30 (by kernel_rfl) (by kernel_rfl) (Has_any (S) k F.hk W) ?_
  rintro e W' ⟨rfl, b⟩
  exact ⟨_, rfl, hK _ _ ⟨_, rfl, congrArg Value.bool F.hS⟩ (hI.step b) b⟩
theorem mg6tf_37 (F : Mg6 a0 w0 base B2 B3 B5 S T M k true false) : PO (regionOps Tryd.f5 6) 39 a0 base w0 (mg6tfCs S T M k) 37 := by
  intro o ho u W hI hR
  obtain ⟨e1, e2, e3⟩ := ob_op ho (show ((regionOps Tryd.f5 6)[37]?).map (fun o => (o.op, o.dst, o.guard)) = some (.binOp .eql 4 (.tmp 54) (.tmp 57) 4, some 58, some (29, false)) by kernel_rfl)
  have xg := ev_val (v := .bool false) (cs := (mg6tfCs S T M k)) mg6tf_ok hR ho (j := 29) (t := 50) (by rw [F.hz]; kernel_rfl) rfl
  rw [if_pos (wanted_yes e3 (t := 50) (by kernel_rfl) xg)]
  intro K hK
  have x0 := ev_val (v := .bool false) (cs := (mg6tfCs S T M k)) mg6tf_ok hR ho (j := 33) (t := 54) (by rw [F.hz]; kernel_rfl) rfl
  have x1 := ev_val (v := .bool true) (cs := (mg6tfCs S T M k)) mg6tf_ok hR ho (j := 36) (t := 57) (by rw [F.hz]; kernel_rfl) rfl
  exact opw_eqb e1 x0 x1 (by decide) (hK _ _ ⟨_, rfl, rfl⟩ hI (Below.refl _ _))
theorem mg6tf_38 (F : Mg6 a0 w0 base B2 B3 B5 S T M k true false) : PO (regionOps Tryd.f5 6) 39 a0 base w0 (mg6tfCs S T M k) 38 := by
  intro o ho u W hI hR
  obtain ⟨e1, e2, e3⟩ := ob_op ho (show ((regionOps Tryd.f5 6)[38]?).map (fun o => (o.op, o.dst, o.guard)) = some (.pick (.tmp 50) (.const (.bool true)) (.tmp 58), some 59, none) by kernel_rfl)
  rw [if_pos (plan_free e3 _)]
  intro K hK
  have x0 := ev_val (v := .bool false) (cs := (mg6tfCs S T M k)) mg6tf_ok hR ho (j := 29) (t := 50) (by rw [F.hz]; kernel_rfl) rfl
  have x2 := ev_val (v := .bool false) (cs := (mg6tfCs S T M k)) mg6tf_ok hR ho (j := 37) (t := 58) (by rw [F.hz]; kernel_rfl) rfl
  exact opw_pickF e1 x0 x2 (hK _ _ ⟨_, rfl, rfl⟩ hI (Below.refl _ _))
theorem mg6tf_all (F : Mg6 a0 w0 base B2 B3 B5 S T M k true false) : ∀ i, i < 39 → PO (regionOps Tryd.f5 6) 39 a0 base w0 (mg6tfCs S T M k) i
  | 0, _ => mg6tf_0 F
  | 1, _ => mg6tf_1 F
  | 2, _ => mg6tf_2 F
  | 3, _ => mg6tf_3 F
  | 4, _ => mg6tf_4 F
  | 5, _ => mg6tf_5 F
  | 6, _ => mg6tf_6 F
  | 7, _ => mg6tf_7 F
  | 8, _ => mg6tf_8 F
  | 9, _ => mg6tf_9 F
  | 10, _ => mg6tf_10 F
  | 11, _ => mg6tf_11 F
  | 12, _ => mg6tf_12 F
  | 13, _ => mg6tf_13 F
  | 14, _ => mg6tf_14 F
  | 15, _ => mg6tf_15 F
  | 16, _ => mg6tf_16 F
  | 17, _ => mg6tf_17 F
  | 18, _ => mg6tf_18 F
  | 19, _ => mg6tf_19 F
  | 20, _ => mg6tf_20 F
  | 21, _ => mg6tf_21 F
  | 22, _ => mg6tf_22 F
  | 23, _ => mg6tf_23 F
  | 24, _ => mg6tf_24 F
  | 25, _ => mg6tf_25 F
  | 26, _ => mg6tf_26 F
  | 27, _ => mg6tf_27 F
  | 28, _ => mg6tf_28 F
  | 29, _ => mg6tf_29 F
  | 30, _ => mg6tf_30 F
  | 31, _ => mg6tf_31 F
  | 32, _ => mg6tf_32 F
  | 33, _ => mg6tf_33 F
  | 34, _ => mg6tf_34 F
  | 35, _ => mg6tf_35 F
  | 36, _ => mg6tf_36 F
  | 37, _ => mg6tf_37 F
  | 38, _ => mg6tf_38 F
  | i + 39, h => absurd h (by omega)
def mg6ftCs (S T M k : Nat) : List Claim := [.val (sv (M)), .val (.int .u8 (k)), .val (.bool false), .val (sv (S)), .val (.int .u8 (k)), .val (.bool false), .val (.bool false), .val (undef), .val (undef), .val (undef), .val (.bool false), .val (.bool false), .val (.bool false), .val (sv (S)), .val (sv (T)), .two (S) (T), .val (sv (unionL [S, T])), .val (.int .u8 (k)), .val (.bool true), .val (sv (S)), .val (.int .u8 (k)), .val (.bool false), .val (.bool false), .val (sv (T)), .val (.int .u8 (k)), .val (.bool true), .val (.bool true), .val (.bool false), .val (.bool false), .val (.bool false), .val (sv (S)), .val (sv (cmpl (S))), .val (.int .u8 (k)), .val (.bool true), .val (sv (S)), .val (.int .u8 (k)), .val (.bool false), .val (.bool false), .val (.bool false)]
theorem mg6ft_ok : planOk .any (regionOps Tryd.f5 6) (upto 39) = true := by kernel_rfl
theorem mg6ft_0 (F : Mg6 a0 w0 base B2 B3 B5 S T M k false true) : PO (regionOps Tryd.f5 6) 39 a0 base w0 (mg6ftCs S T M k) 0 := by
  intro o ho u W hI hR
  obtain ⟨e1, e2, e3⟩ := ob_op ho (show ((regionOps Tryd.f5 6)[0]?).map (fun o => (o.op, o.dst, o.guard)) = some (.load 24 (.tmp 5), some 21, none) by kernel_rfl)
  rw [if_pos (plan_free e3 _)]
  intro K hK
  have x0 := ev_base (u := u) mg6ft_ok (by kernel_rfl) F.h5
  exact opw_load_set e1 x0 (F.b5.below hI.1 F.l5) (hK _ _ ⟨_, rfl, rfl⟩ hI (Below.refl _ _))
theorem mg6ft_1 (F : Mg6 a0 w0 base B2 B3 B5 S T M k false true) : PO (regionOps Tryd.f5 6) 39 a0 base w0 (mg6ftCs S T M k) 1 := by
  intro o ho u W hI hR
  obtain ⟨e1, e2, e3⟩ := ob_op ho (show ((regionOps Tryd.f5 6)[1]?).map (fun o => (o.op, o.dst, o.guard)) = some (.move (.tmp 7), some 22, none) by kernel_rfl)
  rw [if_pos (plan_free e3 _)]
  intro K hK
  have x0 := ev_base (u := u) mg6ft_ok (by kernel_rfl) F.h7
  exact opw_move e1 x0 (hK _ _ ⟨_, rfl, rfl⟩ hI (Below.refl _ _))
theorem mg6ft_2 (F : Mg6 a0 w0 base B2 B3 B5 S T M k false true) : PO (regionOps Tryd.f5 6) 39 a0 base w0 (mg6ftCs S T M k) 2 := by
  intro o ho u W hI hR
  obtain ⟨e1, e2, e3⟩ := ob_op ho (show ((regionOps Tryd.f5 6)[2]?).map (fun o => (o.op, o.dst, o.guard)) = some (.call { callee := .value (.func 30), args := #[(.tmp 21), (.tmp 22)], argTypes := #[24, 5] }, some 23, none) by kernel_rfl)
  rw [if_pos (plan_free e3 _)]
  intro K hK
  have x0 := ev_val (v := sv (M)) (cs := (mg6ftCs S T M k)) mg6ft_ok hR ho (j := 0) (t := 21) (by rw [F.hz]; kernel_rfl) rfl
  have x1 := ev_val (v := .int .u8 (k)) (cs := (mg6ftCs S T M k)) mg6ft_ok hR ho (j := 1) (t := 22) (by rw [F.hz]; kernel_rfl) rfl
  refine opw_call e1 (vs := #[sv (M), .int .u8 k]) (by simp only [List.map_toArray, List.map_cons, List.map_nil, x0, x1]) Tryd.func30 (by kernel_rfl) (by kernel_rfl) (Has_any (M) k F.hk W) ?_
  rintro e W' ⟨rfl, b⟩
  exact ⟨_, rfl, hK _ _ ⟨_, rfl, congrArg Value.bool F.hM⟩ (hI.step b) b⟩
theorem mg6ft_3 (F : Mg6 a0 w0 base B2 B3 B5 S T M k false true) : PO (regionOps Tryd.f5 6) 39 a0 base w0 (mg6ftCs S T M k) 3 := by
  intro o ho u W hI hR
  obtain ⟨e1, e2, e3⟩ := ob_op ho (show ((regionOps Tryd.f5 6)[3]?).map (fun o => (o.op, o.dst, o.guard)) = some (.load 24 (.tmp 2), some 24, none) by kernel_rfl)
  rw [if_pos (plan_free e3 _)]
  intro K hK
  have x0 := ev_base (u := u) mg6ft_ok (by kernel_rfl) F.h2
  exact opw_load_set e1 x0 (F.b2.below hI.1 F.l2) (hK _ _ ⟨_, rfl, rfl⟩ hI (Below.refl _ _))
theorem mg6ft_4 (F : Mg6 a0 w0 base B2 B3 B5 S T M k false true) : PO (regionOps Tryd.f5 6) 39 a0 base w0 (mg6ftCs S T M k) 4 := by
  intro o ho u W hI hR
  obtain ⟨e1, e2, e3⟩ := ob_op ho (show ((regionOps Tryd.f5 6)[4]?).map (fun o => (o.op, o.dst, o.guard)) = some (.move (.tmp 7), some 25, none) by kernel_rfl)
  rw [if_pos (plan_free e3 _)]
  intro K hK
  have x0 := ev_base (u := u) mg6ft_ok (by kernel_rfl) F.h7
  exact opw_move e1 x0 (hK _ _ ⟨_, rfl, rfl⟩ hI (Below.refl _ _))
theorem mg6ft_5 (F : Mg6 a0 w0 base B2 B3 B5 S T M k false true) : PO (regionOps Tryd.f5 6) 39 a0 base w0 (mg6ftCs S T M k) 5 := by
  intro o ho u W hI hR
  obtain ⟨e1, e2, e3⟩ := ob_op ho (show ((regionOps Tryd.f5 6)[5]?).map (fun o => (o.op, o.dst, o.guard)) = some (.call { callee := .value (.func 30), args := #[(.tmp 24), (.tmp 25)], argTypes := #[24, 5] }, some 26, none) by kernel_rfl)
  rw [if_pos (plan_free e3 _)]
  intro K hK
  have x0 := ev_val (v := sv (S)) (cs := (mg6ftCs S T M k)) mg6ft_ok hR ho (j := 3) (t := 24) (by rw [F.hz]; kernel_rfl) rfl
  have x1 := ev_val (v := .int .u8 (k)) (cs := (mg6ftCs S T M k)) mg6ft_ok hR ho (j := 4) (t := 25) (by rw [F.hz]; kernel_rfl) rfl
  refine opw_call e1 (vs := #[sv (S), .int .u8 k]) (by simp only [List.map_toArray, List.map_cons, List.map_nil, x0, x1]) Tryd.func30 (by kernel_rfl) (by kernel_rfl) (Has_any (S) k F.hk W) ?_
  rintro e W' ⟨rfl, b⟩
  exact ⟨_, rfl, hK _ _ ⟨_, rfl, congrArg Value.bool F.hS⟩ (hI.step b) b⟩
theorem mg6ft_6 (F : Mg6 a0 w0 base B2 B3 B5 S T M k false true) : PO (regionOps Tryd.f5 6) 39 a0 base w0 (mg6ftCs S T M k) 6 := by
  intro o ho u W hI hR
  obtain ⟨e1, e2, e3⟩ := ob_op ho (show ((regionOps Tryd.f5 6)[6]?).map (fun o => (o.op, o.dst, o.guard)) = some (.move (.tmp 26), some 27, none) by kernel_rfl)
  rw [if_pos (plan_free e3 _)]
  intro K hK
  have x0 := ev_val (v := .bool false) (cs := (mg6ftCs S T M k)) mg6ft_ok hR ho (j := 5) (t := 26) (by rw [F.hz]; kernel_rfl) rfl
  exact opw_move e1 x0 (hK _ _ ⟨_, rfl, rfl⟩ hI (Below.refl _ _))
theorem mg6ft_7 (F : Mg6 a0 w0 base B2 B3 B5 S T M k false true) : PO (regionOps Tryd.f5 6) 39 a0 base w0 (mg6ftCs S T M k) 7 := by
  intro o ho u W hI hR
  obtain ⟨e1, e2, e3⟩ := ob_op ho (show ((regionOps Tryd.f5 6)[7]?).map (fun o => (o.op, o.dst, o.guard)) = some (.load 24 (.tmp 3), some 28, some (6, true)) by kernel_rfl)
  have xg := ev_val (v := .bool false) (cs := (mg6ftCs S T M k)) mg6ft_ok hR ho (j := 6) (t := 27) (by rw [F.hz]; kernel_rfl) rfl
  rw [if_neg (wanted_no e3 (t := 27) (by kernel_rfl) xg)]
  rintro W' rfl
  exact ⟨⟨_, rfl, rfl⟩, Below.refl _ _⟩
theorem mg6ft_8 (F : Mg6 a0 w0 base B2 B3 B5 S T M k false true) : PO (regionOps Tryd.f5 6) 39 a0 base w0 (mg6ftCs S T M k) 8 := by
  intro o ho u W hI hR
  obtain ⟨e1, e2, e3⟩ := ob_op ho (show ((regionOps Tryd.f5 6)[8]?).map (fun o => (o.op, o.dst, o.guard)) = some (.move (.tmp 7), some 29, some (6, true)) by kernel_rfl)
  have xg := ev_val (v := .bool false) (cs := (mg6ftCs S T M k)) mg6ft_ok hR ho (j := 6) (t := 27) (by rw [F.hz]; kernel_rfl) rfl
  rw [if_neg (wanted_no e3 (t := 27) (by kernel_rfl) xg)]
  rintro W' rfl
  exact ⟨⟨_, rfl, rfl⟩, Below.refl _ _⟩
theorem mg6ft_9 (F : Mg6 a0 w0 base B2 B3 B5 S T M k false true) : PO (regionOps Tryd.f5 6) 39 a0 base w0 (mg6ftCs S T M k) 9 := by
  intro o ho u W hI hR
  obtain ⟨e1, e2, e3⟩ := ob_op ho (show ((regionOps Tryd.f5 6)[9]?).map (fun o => (o.op, o.dst, o.guard)) = some (.call { callee := .value (.func 30), args := #[(.tmp 28), (.tmp 29)], argTypes := #[24, 5] }, some 30, some (6, true)) by kernel_rfl)
  have xg := ev_val (v := .bool false) (cs := (mg6ftCs S T M k)) mg6ft_ok hR ho (j := 6) (t := 27) (by rw [F.hz]; kernel_rfl) rfl
  rw [if_neg (wanted_no e3 (t := 27) (by kernel_rfl) xg)]
  rintro W' rfl
  exact ⟨⟨_, rfl, rfl⟩, Below.refl _ _⟩
theorem mg6ft_10 (F : Mg6 a0 w0 base B2 B3 B5 S T M k false true) : PO (regionOps Tryd.f5 6) 39 a0 base w0 (mg6ftCs S T M k) 10 := by
  intro o ho u W hI hR
  obtain ⟨e1, e2, e3⟩ := ob_op ho (show ((regionOps Tryd.f5 6)[10]?).map (fun o => (o.op, o.dst, o.guard)) = some (.pick (.tmp 27) (.tmp 30) (.const (.bool false)), some 31, none) by kernel_rfl)
  rw [if_pos (plan_free e3 _)]
  intro K hK
  have x0 := ev_val (v := .bool false) (cs := (mg6ftCs S T M k)) mg6ft_ok hR ho (j := 6) (t := 27) (by rw [F.hz]; kernel_rfl) rfl
  have x2 : (putL (planOf (regionOps Tryd.f5 6) (upto 39)) u a0).eval (.const (.bool false)) = .bool false := rfl
  exact opw_pickF e1 x0 x2 (hK _ _ ⟨_, rfl, rfl⟩ hI (Below.refl _ _))
theorem mg6ft_11 (F : Mg6 a0 w0 base B2 B3 B5 S T M k false true) : PO (regionOps Tryd.f5 6) 39 a0 base w0 (mg6ftCs S T M k) 11 := by
  intro o ho u W hI hR
  obtain ⟨e1, e2, e3⟩ := ob_op ho (show ((regionOps Tryd.f5 6)[11]?).map (fun o => (o.op, o.dst, o.guard)) = some (.binOp .neq 4 (.tmp 23) (.tmp 31) 4, some 32, none) by kernel_rfl)
  rw [if_pos (plan_free e3 _)]
  intro K hK
  have x0 := ev_val (v := .bool false) (cs := (mg6ftCs S T M k)) mg6ft_ok hR ho (j := 2) (t := 23) (by rw [F.hz]; kernel_rfl) rfl
  have x1 := ev_val (v := .bool false) (cs := (mg6ftCs S T M k)) mg6ft_ok hR ho (j := 10) (t := 31) (by rw [F.hz]; kernel_rfl) rfl
  exact opw_neb e1 x0 x1 (by decide) (hK _ _ ⟨_, rfl, rfl⟩ hI (Below.refl _ _))
theorem mg6ft_12 (F : Mg6 a0 w0 base B2 B3 B5 S T M k false true) : PO (regionOps Tryd.f5 6) 39 a0 base w0 (mg6ftCs S T M k) 12 := by
  intro o ho u W hI hR
  obtain ⟨e1, e2, e3⟩ := ob_op ho (show ((regionOps Tryd.f5 6)[12]?).map (fun o => (o.op, o.dst, o.guard)) = some (.move (.tmp 32), some 33, none) by kernel_rfl)
  rw [if_pos (plan_free e3 _)]
  intro K hK
  have x0 := ev_val (v := .bool false) (cs := (mg6ftCs S T M k)) mg6ft_ok hR ho (j := 11) (t := 32) (by rw [F.hz]; kernel_rfl) rfl
  exact opw_move e1 x0 (hK _ _ ⟨_, rfl, rfl⟩ hI (Below.refl _ _))
theorem mg6ft_13 (F : Mg6 a0 w0 base B2 B3 B5 S T M k false true) : PO (regionOps Tryd.f5 6) 39 a0 base w0 (mg6ftCs S T M k) 13 := by
  intro o ho u W hI hR
  obtain ⟨e1, e2, e3⟩ := ob_op ho (show ((regionOps Tryd.f5 6)[13]?).map (fun o => (o.op, o.dst, o.guard)) = some (.load 24 (.tmp 2), some 34, some (12, false)) by kernel_rfl)
  have xg := ev_val (v := .bool false) (cs := (mg6ftCs S T M k)) mg6ft_ok hR ho (j := 12) (t := 33) (by rw [F.hz]; kernel_rfl) rfl
  rw [if_pos (wanted_yes e3 (t := 33) (by kernel_rfl) xg)]
  intro K hK
  have x0 := ev_base (u := u) mg6ft_ok (by kernel_rfl) F.h2
  exact opw_load_set e1 x0 (F.b2.below hI.1 F.l2) (hK _ _ ⟨_, rfl, rfl⟩ hI (Below.refl _ _))
theorem mg6ft_14 (F : Mg6 a0 w0 base B2 B3 B5 S T M k false true) : PO (regionOps Tryd.f5 6) 39 a0 base w0 (mg6ftCs S T M k) 14 := by
  intro o ho u W hI hR
  obtain ⟨e1, e2, e3⟩ := ob_op ho (show ((regionOps Tryd.f5 6)[14]?).map (fun o => (o.op, o.dst, o.guard)) = some (.load 24 (.tmp 3), some 35, some (12, false)) by kernel_rfl)
  have xg := ev_val (v := .bool false) (cs := (mg6ftCs S T M k)) mg6ft_ok hR ho (j := 12) (t := 33) (by rw [F.hz]; kernel_rfl) rfl
  rw [if_pos (wanted_yes e3 (t := 33) (by kernel_rfl) xg)]
  intro K hK
  have x0 := ev_base (u := u) mg6ft_ok (by kernel_rfl) F.h3
  exact opw_load_set e1 x0 (F.b3.below hI.1 F.l3) (hK _ _ ⟨_, rfl, rfl⟩ hI (Below.refl _ _))
theorem mg6ft_15 (F : Mg6 a0 w0 base B2 B3 B5 S T M k false true) : PO (regionOps Tryd.f5 6) 39 a0 base w0 (mg6ftCs S T M k) 15 := by
  intro o ho u W hI hR
  obtain ⟨e1, e2, e3⟩ := ob_op ho (show ((regionOps Tryd.f5 6)[15]?).map (fun o => (o.op, o.dst, o.guard)) = some (.buildSlice 79 2 #[(0, (.tmp 34)), (1, (.tmp 35))], some 36, some (12, false)) by kernel_rfl)
  have xg := ev_val (v := .bool false) (cs := (mg6ftCs S T M k)) mg6ft_ok hR ho (j := 12) (t := 33) (by rw [F.hz]; kernel_rfl) rfl
  rw [if_pos (wanted_yes e3 (t := 33) (by kernel_rfl) xg)]
  intro K hK
  have x0 := ev_val (v := sv (S)) (cs := (mg6ftCs S T M k)) mg6ft_ok hR ho (j := 13) (t := 34) (by rw [F.hz]; kernel_rfl) rfl
  have x1 := ev_val (v := sv (T)) (cs := (mg6ftCs S T M k)) mg6ft_ok hR ho (j := 14) (t := 35) (by rw [F.hz]; kernel_rfl) rfl
  have bb : Below W.heap.size W (W.alloc (.cells (scs2 (S) (T)) 24)) := (Below.refl _ _).alloc (Nat.le_refl _) _
  exact opw_two e1 x0 x1 (hK _ _ ⟨_, rfl, W.heap.size, rfl, heap_alloc_new W _⟩ (hI.step bb) bb)
theorem mg6ft_16 (F : Mg6 a0 w0 base B2 B3 B5 S T M k false true) : PO (regionOps Tryd.f5 6) 39 a0 base w0 (mg6ftCs S T M k) 16 := by
  intro o ho u W hI hR
  obtain ⟨e1, e2, e3⟩ := ob_op ho (show ((regionOps Tryd.f5 6)[16]?).map (fun o => (o.op, o.dst, o.guard)) = some (.call { callee := .value (.func 27), args := #[(.tmp 36)], argTypes := #[79] }, some 37, some (12, false)) by kernel_rfl)
  have xg := ev_val (v := .bool false) (cs := (mg6ftCs S T M k)) mg6ft_ok hR ho (j := 12) (t := 33) (by rw [F.hz]; kernel_rfl) rfl
  rw [if_pos (wanted_yes e3 (t := 33) (by kernel_rfl) xg)]
  intro K hK
  obtain ⟨x0, cx0, kx0, lx0⟩ := ev_cl mg6ft_ok hR ho (j := 15) (t := 36) (by rw [F.hz]; kernel_rfl)
  cases kx0
  obtain ⟨b0, ex0, hb0⟩ := lx0
  rw [ex0] at x0
  refine opw_call e1 (vs := #[.slice (some ⟨b0, 0, none⟩) 2 2]) (by simp only [List.map_toArray, List.map_cons, List.map_nil, x0]) Tryd.func27 (by kernel_rfl) (by kernel_rfl) (union_at hb0) ?_
  rintro e W' ⟨rfl, b⟩
  exact ⟨_, rfl, hK _ _ ⟨_, rfl, rfl⟩ (hI.step b) b⟩
theorem mg6ft_17 (F : Mg6 a0 w0 base B2 B3 B5 S T M k false true) : PO (regionOps Tryd.f5 6) 39 a0 base w0 (mg6ftCs S T M k) 17 := by
  intro o ho u W hI hR
  obtain ⟨e1, e2, e3⟩ := ob_op ho (show ((regionOps Tryd.f5 6)[17]?).map (fun o => (o.op, o.dst, o.guard)) = some (.move (.tmp 7), some 38, some (12, false)) by kernel_rfl)
  have xg := ev_val (v := .bool false) (cs := (mg6ftCs S T M k)) mg6ft_ok hR ho (j := 12) (t := 33) (by rw [F.hz]; kernel_rfl) rfl
  rw [if_pos (wanted_yes e3 (t := 33) (by kernel_rfl) xg)]
  intro K hK
  have x0 := ev_base (u := u) mg6ft_ok (by kernel_rfl) F.h7
  exact opw_move e1 x0 (hK _ _ ⟨_, rfl, rfl⟩ hI (Below.refl _ _))
theorem mg6ft_18 (F : Mg6 a0 w0 base B2 B3 B5 S T M k false true) : PO (regionOps Tryd.f5 6) 39 a0 base w0 (mg6ftCs S T M k) 18 := by
  intro o ho u W hI hR
  obtain ⟨e1, e2, e3⟩ := ob_op ho (show ((regionOps Tryd.f5 6)[18]?).map (fun o => (o.op, o.dst, o.guard)) = some (.call { callee := .value (.func 30), args := #[(.tmp 37), (.tmp 38)], argTypes := #[24, 5] }, some 39, some (12, false)) by kernel_rfl)
  have xg := ev_val (v := .bool false) (cs := (mg6ftCs S T M k)) mg6ft_ok hR ho (j := 12) (t := 33) (by rw [F.hz]; kernel_rfl) rfl
  rw [if_pos (wanted_yes e3 (t := 33) (by kernel_rfl) xg)]
  intro K hK
  have x0 := ev_val (v := sv (unionL [S, T])) (cs := (mg6ftCs S T M k)) mg6ft_ok hR ho (j := 16) (t := 37) (by rw [F.hz]; kernel_rfl) rfl
  have x1 := ev_val (v := .int .u8 (k)) (cs := (mg6ftCs S T M k)) mg6ft_ok hR ho (j := 17) (t := 38) (by rw [F.hz]; kernel_rfl) rfl
  refine opw_call e1 (vs := #[sv (unionL [S, T]), .int .u8 k]) (by simp only [List.map_toArray, List.map_cons, List.map_nil, x0, x1]) Tryd.func30 (by kernel_rfl) (by kernel_rfl) (Has_any (unionL [S, T]) k F.hk W) ?_
  rintro e W' ⟨rfl, b⟩
  exact ⟨_, rfl, hK _ _ ⟨_, rfl, congrArg Value.bool F.hU⟩ (hI.step b) b⟩
theorem mg6ft_19 (F : Mg6 a0 w0 base B2 B3 B5 S T M k false true) : PO (regionOps Tryd.f5 6) 39 a0 base w0 (mg6ftCs S T M k) 19 := by
  intro o ho u W hI hR
  obtain ⟨e1, e2, e3⟩ := ob_op ho (show ((regionOps Tryd.f5 6)[19]?).map (fun o => (o.op, o.dst, o.guard)) = some (.load 24 (.tmp 2), some 40, some (12, false)) by kernel_rfl)
  have xg := ev_val (v := .bool false) (cs := (mg6ftCs S T M k)) mg6ft_ok hR ho (j := 12) (t := 33) (by rw [F.hz]; kernel_rfl) rfl
  rw [if_pos (wanted_yes e3 (t := 33) (by kernel_rfl) xg)]
  intro K hK
  have x0 := ev_base (u := u) mg6ft_ok (by kernel_rfl) F.h2
  exact opw_load_set e1 x0 (F.b2.below hI.1 F.l2) (hK _ _ ⟨_, rfl, rfl⟩ hI (Below.refl _ _))
theorem mg6ft_20 (F : Mg6 a0 w0 base B2 B3 B5 S T M k false true) : PO (regionOps Tryd.f5 6) 39 a0 base w0 (mg6ftCs S T M k) 20 := by
  intro o ho u W hI hR
  obtain ⟨e1, e2, e3⟩ := ob_op ho (show ((regionOps Tryd.f5 6)[20]?).map (fun o => (o.op, o.dst, o.guard)) = some (.move (.tmp 7), some 41, some (12, false)) by kernel_rfl)
  have xg := ev_val (v := .bool false) (cs := (mg6ftCs S T M k)) mg6ft_ok hR ho (j := 12) (t := 33) (by rw [F.hz]; kernel_rfl) rfl
  rw [if_pos (wanted_yes e3 (t := 33) (by kernel_rfl) xg)]
  intro K hK
  have x0 := ev_base (u := u) mg6ft_ok (by kernel_rfl) F.h7
  exact opw_move e1 x0 (hK _ _ ⟨_, rfl, rfl⟩ hI (Below.refl _ _))
theorem mg6ft_21 (F : Mg6 a0 w0 base B2 B3 B5 S T M k false true) : PO (regionOps Tryd.f5 6) 39 a0 base w0 (mg6ftCs S T M k) 21 := by
  intro o ho u W hI hR
  obtain ⟨e1, e2, e3⟩ := ob_op ho (show ((regionOps Tryd.f5 6)[21]?).map (fun o => (o.op, o.dst, o.guard)) = some (.call { callee := .value (.func 30), args := #[(.tmp 40), (.tmp 41)], argTypes := #[24, 5] }, some 42, some (12, false)) by kernel_rfl)
  have xg := ev_val (v := .bool false) (cs := (mg6ftCs S T M k)) mg6ft_ok hR ho (j := 12) (t := 33) (by rw [F.hz]; kernel_rfl) rfl
  rw [if_pos (wanted_yes e3 (t := 33) (by kernel_rfl) xg)]
  intro K hK
  have x0 := ev_val (v := sv (S)) (cs := (mg6ftCs S T M k)) mg6ft_ok hR ho (j := 19) (t := 40) (by rw [F.hz]; kernel_rfl) rfl
  have x1 := ev_val (v := .int .u8 (k)) (cs := (mg6ftCs S T M k)) mg6ft_ok hR ho (j := 20) (t := 41) (by rw [F.hz]; kernel_rfl) rfl
  refine opw_call e1 (vs := #[sv (S), .int .u8 k]) (by simp only [List.map_toArray, List.map_cons, List.map_nil, x0, x1]) Tryd.func30 (by kernel_rfl) (by kernel_rfl) (Has_any (S) k F.hk W) ?_
  rintro e W' ⟨rfl, b⟩
  exact ⟨_, rfl, hK _ _ ⟨_, rfl, congrArg Value.bool F.hS⟩ (hI.step b) b⟩
theorem mg6ft_22 (F : Mg6 a0 w0 base B2 B3 B5 S T M k false true) : PO (regionOps Tryd.f5 6) 39 a0 base w0 (mg6ftCs S T M k) 22 := by
  intro o ho u W hI hR
  obtain ⟨e1, e2, e3⟩ := ob_op ho (show ((regionOps Tryd.f5 6)[22]?).map (fun o => (o.op, o.dst, o.guard)) = some (.move (.tmp 42), some 43, some (12, false)) by kernel_rfl)
  have xg := ev_val (v := .bool false) (cs := (mg6ftCs S T M k)) mg6ft_ok hR ho (j := 12) (t := 33) (by rw [F.hz]; kernel_rfl) rfl
  rw [if_pos (wanted_yes e3 (t := 33) (by kernel_rfl) xg)]
  intro K hK
  have x0 := ev_val (v := .bool false) (cs := (mg6ftCs S T M k)) mg6ft_ok hR ho (j := 21) (t := 42) (by rw [F.hz]; kernel_rfl) rfl
  exact opw_move e1 x0 (hK _ _ ⟨_, rfl, rfl⟩ hI (Below.refl _ _))
theorem mg6ft_23 (F : Mg6 a0 w0 base B2 B3 B5 S T M k false true) : PO (regionOps Tryd.f5 6) 39 a0 base w0 (mg6ftCs S T M k) 23 := by
  intro o ho u W hI hR
  obtain ⟨e1, e2, e3⟩ := ob_op ho (show ((regionOps Tryd.f5 6)[23]?).map (fun o => (o.op, o.dst, o.guard)) = some (.load 24 (.tmp 3), some 44, some (22, false)) by kernel_rfl)
  have xg := ev_val (v := .bool false) (cs := (mg6ftCs S T M k)) mg6ft_ok hR ho (j := 22) (t := 43) (by rw [F.hz]; kernel_rfl) rfl
  rw [if_pos (wanted_yes e3 (t := 43) (by kernel_rfl) xg)]
  intro K hK
  have x0 := ev_base (u := u) mg6ft_ok (by kernel_rfl) F.h3
  exact opw_load_set e1 x0 (F.b3.below hI.1 F.l3) (hK _ _ ⟨_, rfl, rfl⟩ hI (Below.refl _ _))
theorem mg6ft_24 (F : Mg6 a0 w0 base B2 B3 B5 S T M k false true) : PO (regionOps Tryd.f5 6) 39 a0 base w0 (mg6ftCs S T M k) 24 := by
  intro o ho u W hI hR
  obtain ⟨e1, e2, e3⟩ := ob_op ho (show ((regionOps Tryd.f5 6)[24]?).map (fun o => (o.op, o.dst, o.guard)) = some (.move (.tmp 7), some 45, some (22, false)) by kernel_rfl)
  have xg := ev_val (v := .bool false) (cs := (mg6ftCs S T M k)) mg6ft_ok hR ho (j := 22) (t := 43) (by rw [F.hz]; kernel_rfl) rfl
  rw [if_pos (wanted_yes e3 (t := 43) (by kernel_rfl) xg)]
  intro K hK
  have x0 := ev_base (u := u) mg6ft_ok (by kernel_rfl) F.h7
  exact opw_move e1 x0 (hK _ _ ⟨_, rfl, rfl⟩ hI (Below.refl _ _))
theorem mg6ft_25 (F : Mg6 a0 w0 base B2 B3 B5 S T M k false true) : PO (regionOps Tryd.f5 6) 39 a0 base w0 (mg6ftCs S T M k) 25 := by
  intro o ho u W hI hR
  obtain ⟨e1, e2, e3⟩ := ob_op ho (show ((regionOps Tryd.f5 6)[25]?).map (fun o => (o.op, o.dst, o.guard)) = some (.call { callee := .value (.func 30), args := #[(.tmp 44), (.tmp 45)], argTypes := #[24, 5] }, some 46, some (22, false)) by kernel_rfl)
  have xg := ev_val (v := .bool false) (cs := (mg6ftCs S T M k)) mg6ft_ok hR ho (j := 22) (t := 43) (by rw [F.hz]; kernel_rfl) rfl
  rw [if_pos (wanted_yes e3 (t := 43) (by kernel_rfl) xg)]
  intro K hK
  have x0 := ev_val (v := sv (T)) (cs := (mg6ftCs S T M k)) mg6ft_ok hR ho (j := 23) (t := 44) (by rw [F.hz]; kernel_rfl) rfl
  have x1 := ev_val (v := .int .u8 (k)) (cs := (mg6ftCs S T M k)) mg6ft_ok hR ho (j := 24) (t := 45) (by rw [F.hz]; kernel_rfl) rfl
  refine opw_call e1 (vs := #[sv (T), .int .u8 k]) (by simp only [List.map_toArray, List.map_cons, List.map_nil, x0, x1]) Tryd.func30 (by kernel_rfl) (by kernel_rfl) (Has_any (T) k F.hk W) ?_
  rintro e W' ⟨rfl, b⟩
  exact ⟨_, rfl, hK _ _ ⟨_, rfl, congrArg Value.bool F.hT⟩ (hI.step b) b⟩
theorem mg6ft_26 (F : Mg6 a0 w0 base B2 B3 B5 S T M k false true) : PO (regionOps Tryd.f5 6) 39 a0 base w0 (mg6ftCs S T M k) 26 := by
  intro o ho u W hI hR
  obtain ⟨e1, e2, e3⟩ := ob_op ho (show ((regionOps Tryd.f5 6)[26]?).map (fun o => (o.op, o.dst, o.guard)) = some (.pick (.tmp 43) (.const (.bool true)) (.tmp 46), some 47, some (12, false)) by kernel_rfl)
  have xg := ev_val (v := .bool false) (cs := (mg6ftCs S T M k)) mg6ft_ok hR ho (j := 12) (t := 33) (by rw [F.hz]; kernel_rfl) rfl
  rw [if_pos (wanted_yes e3 (t := 33) (by kernel_rfl) xg)]
  intro K hK
  have x0 := ev_val (v := .bool false) (cs := (mg6ftCs S T M k)) mg6ft_ok hR ho (j := 22) (t := 43) (by rw [F.hz]; kernel_rfl) rfl
  have x2 := ev_val (v := .bool true) (cs := (mg6ftCs S T M k)) mg6ft_ok hR ho (j := 25) (t := 46) (by rw [F.hz]; kernel_rfl) rfl
  exact opw_pickF e1 x0 x2 (hK _ _ ⟨_, rfl, rfl⟩ hI (Below.refl _ _))
theorem mg6ft_27 (F : Mg6 a0 w0 base B2 B3 B5 S T M k false true) : PO (regionOps Tryd.f5 6) 39 a0 base w0 (mg6ftCs S T M k) 27 := by
  intro o ho u W hI hR
  obtain ⟨e1, e2, e3⟩ := ob_op ho (show ((regionOps Tryd.f5 6)[27]?).map (fun o => (o.op, o.dst, o.guard)) = some (.binOp .neq 4 (.tmp 39) (.tmp 47) 4, some 48, some (12, false)) by kernel_rfl)
  have xg := ev_val (v := .bool false) (cs := (mg6ftCs S T M k)) mg6ft_ok hR ho (j := 12) (t := 33) (by rw [F.hz]; kernel_rfl) rfl
  rw [if_pos (wanted_yes e3 (t := 33) (by kernel_rfl) xg)]
  intro K hK
  have x0 := ev_val (v := .bool true) (cs := (mg6ftCs S T M k)) mg6ft_ok hR ho (j := 18) (t := 39) (by rw [F.hz]; kernel_rfl) rfl
  have x1 := ev_val (v := .bool true) (cs := (mg6ftCs S T M k)) mg6ft_ok hR ho (j := 26) (t := 47) (by rw [F.hz]; kernel_rfl) rfl
  exact opw_neb e1 x0 x1 (by decide) (hK _ _ ⟨_, rfl, rfl⟩ hI (Below.refl _ _))
theorem mg6ft_28 (F : Mg6 a0 w0 base B2 B3 B5 S T M k false true) : PO (regionOps Tryd.f5 6) 39 a0 base w0 (mg6ftCs S T M k) 28 := by
  intro o ho u W hI hR
  obtain ⟨e1, e2, e3⟩ := ob_op ho (show ((regionOps Tryd.f5 6)[28]?).map (fun o => (o.op, o.dst, o.guard)) = some (.pick (.tmp 33) (.const (.bool true)) (.tmp 48), some 49, none) by kernel_rfl)
  rw [if_pos (plan_free e3 _)]
  intro K hK
  have x0 := ev_val (v := .bool false) (cs := (mg6ftCs S T M k)) mg6ft_ok hR ho (j := 12) (t := 33) (by rw [F.hz]; kernel_rfl) rfl
  have x2 := ev_val (v := .bool false) (cs := (mg6ftCs S T M k)) mg6ft_ok hR ho (j := 27) (t := 48) (by rw [F.hz]; kernel_rfl) rfl
  exact opw_pickF e1 x0 x2 (hK _ _ ⟨_, rfl, rfl⟩ hI (Below.refl _ _))
theorem mg6ft_29 (F : Mg6 a0 w0 base B2 B3 B5 S T M k false true) : PO (regionOps Tryd.f5 6) 39 a0 base w0 (mg6ftCs S T M k) 29 := by
  intro o ho u W hI hR
  obtain ⟨e1, e2, e3⟩ := ob_op ho (show ((regionOps Tryd.f5 6)[29]?).map (fun o => (o.op, o.dst, o.guard)) = some (.move (.tmp 49), some 50, none) by kernel_rfl)
  rw [if_pos (plan_free e3 _)]
  intro K hK
  have x0 := ev_val (v := .bool false) (cs := (mg6ftCs S T M k)) mg6ft_ok hR ho (j := 28) (t := 49) (by rw [F.hz]; kernel_rfl) rfl
  exact opw_move e1 x0 (hK _ _ ⟨_, rfl, rfl⟩ hI (Below.refl _ _))
theorem mg6ft_30 (F : Mg6 a0 w0 base B2 B3 B5 S T M k false true) : PO (regionOps Tryd.f5 6) 39 a0 base w0 (mg6ftCs S T M k) 30 := by
  intro o ho u W hI hR
  obtain ⟨e1, e2, e3⟩ := ob_op ho (show ((regionOps Tryd.f5 6)[30]?).map (fun o => (o.op, o.dst, o.guard)) = some (.load 24 (.tmp 2), some 51, some (29, false)) by kernel_rfl)
  have xg := ev_val (v := .bool false) (cs := (mg6ftCs S T M k)) mg6ft_ok hR ho (j := 29) (t := 50) (by rw [F.hz]; kernel_rfl) rfl
  rw [if_pos (wanted_yes e3 (t := 50) (by kernel_rfl) xg)]
  intro K hK
  have x0 := ev_base (u := u) mg6ft_ok (by kernel_rfl) F.h2
  exact opw_load_set e1 x0 (F.b2.below hI.1 F.l2) (hK _ _ ⟨_, rfl, rfl⟩ hI (Below.refl _ _))
theorem mg6ft_31 (F : Mg6 a0 w0 base B2 B3 B5 S T M k false true) : PO (regionOps Tryd.f5 6) 39 a0 base w0 (mg6ftCs S T M k) 31 := by
  intro o ho u W hI hR
  obtain ⟨e1, e2, e3⟩ := ob_op ho (show ((regionOps Tryd.f5 6)[31]?).map (fun o => (o.op, o.dst, o.guard)) = some (.call { callee := .value (.func 25), args := #[(.tmp 51)], argTypes := #[24] }, some 52, some (29, false)) by kernel_rfl)
  have xg := ev_val (v := .bool false) (cs := (mg6ftCs S T M k)) mg6ft_ok hR ho (j := 29) (t := 50) (by rw [F.hz]; kernel_rfl) rfl
  rw [if_pos (wanted_yes e3 (t := 50) (by kernel_rfl) xg)]
  intro K hK
  have x0 := ev_val (v := sv (S)) (cs := (mg6ftCs S T M k)) mg6ft_ok hR ho (j := 30) (t := 51) (by rw [F.hz]; kernel_rfl) rfl
  refine opw_call e1 (vs := #[sv (S)]) (by simp only [List.map_toArray, List.map_cons, List.map_nil, x0]) Tryd.func25 (by kernel_rfl) (by kernel_rfl) (Not_any (S) W) ?_
  rintro e W' ⟨rfl, b⟩
  exact ⟨_, rfl, hK _ _ ⟨_, rfl, rfl⟩ (hI.step b) b⟩
theorem mg6ft_32 (F : Mg6 a0 w0 base B2 B3 B5 S T M k false true) : PO (regionOps Tryd.f5 6) 39 a0 base w0 (mg6ftCs S T M k) 32 := by
  intro o ho u W hI hR
  obtain ⟨e1, e2, e3⟩ := ob_op ho (show ((regionOps Tryd.f5 6)[32]?).map (fun o => (o.op, o.dst, o.guard)) = some (.move (.tmp 7), some 53, some (29, false)) by kernel_rfl)
  have xg := ev_val (v := .bool false) (cs := (mg6ftCs S T M k)) mg6ft_ok hR ho (j := 29) (t := 50) (by rw [F.hz]; kernel_rfl) rfl
  rw [if_pos (wanted_yes e3 (t := 50) (by kernel_rfl) xg)]
  intro K hK
  have x0 := ev_base (u := u) mg6ft_ok (by kernel_rfl) F.h7
  exact opw_move e1 x0 (hK _ _ ⟨_, rfl, rfl⟩ hI (Below.refl _ _))
theorem mg6ft_33 (F : Mg6 a0 w0 base B2 B3 B5 S T M k false true) : PO (regionOps Tryd.f5 6) 39 a0 base w0 (mg6ftCs S T M k) 33 := by
  intro o ho u W hI hR
  obtain ⟨e1, e2, e3⟩ := ob_op ho (show ((regionOps Tryd.f5 6)[33]?).map (fun o => (o.op, o.dst, o.guard)) = some (.call { callee := .value (.func 30), args := #[(.tmp 52), (.tmp 53)], argTypes := #[24, 5] }, some 54, some (29, false)) by kernel_rfl)
  have xg := ev_val (v := .bool false) (cs := (mg6ftCs S T M k)) mg6ft_ok hR ho (j := 29) (t := 50) (by rw [F.hz]; kernel_rfl) rfl
  rw [if_pos (wanted_yes e3 (t := 50) (by kernel_rfl) xg)]
  intro K hK
  have x0 := ev_val (v := sv (cmpl (S))) (cs := (mg6ftCs S T M k)) mg6ft_ok hR ho (j := 31) (t := 52) (by rw [F.hz]; kernel_rfl) rfl
  have x1 := ev_val (v := .int .u8 (k)) (cs := (mg6ftCs S T M k)) mg6ft_ok hR ho (j := 32) (t := 53) (by rw [F.hz]; kernel_rfl) rfl
  refine opw_call e1 (vs := #[sv (cmpl (S)), .int .u8 k]) (by simp only [List.map_toArray, List.map_cons, List.map_nil, x0, x1]) Tryd.func30 (by kernel_rfl) (by kernel_rfl) (Has_any (cmpl (S)) k F.hk W) ?_
  rintro e W' ⟨rfl, b⟩
  exact ⟨_, rfl, hK _ _ ⟨_, rfl, congrArg Value.bool F.hN⟩ (hI.step b) b⟩
theorem mg6ft_34 (F : Mg6 a0 w0 base B2 B3 B5 S T M k false true) : PO (regionOps Tryd.f5 6) 39 a0 base w0 (mg6ftCs S T M k) 34 := by
  intro o ho u W hI hR
  obtain ⟨e1, e2, e3⟩ := ob_op ho (show ((regionOps Tryd.f5 6)[34]?).map (fun o => (o.op, o.dst, o.guard)) = some (.load 24 (.tmp 2), some 55, some (29, false)) by kernel_rfl)
  have xg := ev_val (v := .bool false) (cs := (mg6ftCs S T M k)) mg6ft_ok hR ho (j := 29) (t := 50) (by rw [F.hz]; kernel_rfl) rfl
  rw [if_pos (wanted_yes e3 (t := 50) (by kernel_rfl) xg)]
  intro K hK
  have x0 := ev_base (u := u) mg6ft_ok (by kernel_rfl) F.h2
  exact opw_load_set e1 x0 (F.b2.below hI.1 F.l2) (hK _ _ ⟨_, rfl, rfl⟩ hI (Below.refl _ _))
theorem mg6ft_35 (F : Mg6 a0 w0 base B2 B3 B5 S T M k false true) : PO (regionOps Tryd.f5 6) 39 a0 base w0 (mg6ftCs S T M k) 35 := by
  intro o ho u W hI hR
  obtain ⟨e1, e2, e3⟩ := ob_op ho (show ((regionOps Tryd.f5 6)[35]?).map (fun o => (o.op, o.dst, o.guard)) = some (.move (.tmp 7), some 56, some (29, false)) by kernel_rfl)
  have xg := ev_val (v := .bool false) (cs := (mg6ftCs S T M k)) mg6ft_ok hR ho (j := 29) (t := 50) (by rw [F.hz]; kernel_rfl) rfl
  rw [if_pos (wanted_yes e3 (t := 50) (by kernel_rfl) xg)]
  intro K hK
  have x0 := ev_base (u := u) mg6ft_ok (by kernel_rfl) F.h7
  exact opw_move e1 x0 (hK _ _ ⟨_, rfl, rfl⟩ hI (Below.refl _ _))
theorem mg6ft_36 (F : Mg6 a0 w0 base B2 B3 B5 S T M k false true) : PO (regionOps Tryd.f5 6) 39 a0 base w0 (mg6ftCs S T M k) 36 := by
  intro o ho u W hI hR
  obtain ⟨e1, e2, e3⟩ := ob_op ho (show ((regionOps Tryd.f5 6)[36]?).map (fun o => (o.op, o.dst, o.guard)) = some (.call { callee := .value (.func 30), args := #[(.tmp 55), (.tmp 56)], argTypes := #[24, 5] }, some 57, some (29, false)) by kernel_rfl)
  have xg := ev_val (v := .bool false) (cs := (mg6ftCs S T M k)) mg6ft_ok hR ho (j := 29) (t := 50) (by rw [F.hz]; kernel_rfl) rfl
  rw [if_pos (wanted_yes e3 (t := 50) (by kernel_rfl) xg)]
  intro K hK
  have x0 := ev_val (v := sv (S)) (cs := (mg6ftCs S T M k)) mg6ft_ok hR ho (j := 34) (t := 55) (by rw [F.hz]; kernel_rfl) rfl
  have x1 := ev_val (v := .int .u8 (k)) (cs := (mg6ftCs S T M k)) mg6ft_ok hR ho (j := 35) (t := 56) (by rw [F.hz]; kernel_rfl) rfl
  refine opw_call e1 (vs := #[sv (S), .int .u8 k]) (by simp only [List.map_toArray, List.map_cons, List.map_nil, x0, x1]) Tryd.func30 (by kernel_rfl) (by kernel_rfl) (Has_any (S) k F.hk W) ?_
  rintro e W' ⟨rfl, b⟩
  exact ⟨_, rfl, hK _ _ ⟨_, rfl, congrArg Value.bool F.hS⟩ (hI.step b) b⟩
theorem mg6ft_37 (F : Mg6 a0 w0 base B2 B3 B5 S T M k false true) : PO (regionOps Tryd.f5 6) 39 a0 base w0 (mg6ftCs S T M k) 37 := by
  intro o ho u W hI hR
  obtain ⟨e1, e2, e3⟩ := ob_op ho (show ((regionOps Tryd.f5 6)[37]?).map (fun o => (o.op, o.dst, o.guard)) = some (.binOp .eql 4 (.tmp 54) (.tmp 57) 4, some 58, some (29, false)) by kernel_rfl)
  have xg := ev_val (v := .bool false) (cs := (mg6ftCs S T M k)) mg6ft_ok hR ho (j := 29) (t := 50) (by rw [F.hz]; kernel_rfl) rfl
  rw [if_pos (wanted_yes e3 (t := 50) (by kernel_rfl) xg)]
  intro K hK
  have x0 := ev_val (v := .bool true) (cs := (mg6ftCs S T M k)) mg6ft_ok hR ho (j := 33) (t := 54) (by rw [F.hz]; kernel_rfl) rfl
  have x1 := ev_val (v := .bool false) (cs := (mg6ftCs S T M k)) mg6ft_ok hR ho (j := 36) (t := 57) (by rw [F.hz]; kernel_rfl) rfl
  exact opw_eqb e1 x0 x1 (by decide) (hK _ _ ⟨_, rfl, rfl⟩ hI (Below.refl _ _))
theorem mg6ft_38 (F : Mg6 a0 w0 base B2 B3 B5 S T M k false true) : PO (regionOps Tryd.f5 6) 39 a0 base w0 (mg6ftCs S T M k) 38 := by
  intro o ho u W hI hR
  obtain ⟨e1, e2, e3⟩ := ob_op ho (show ((regionOps Tryd.f5 6)[38]?).map (fun o => (o.op, o.dst, o.guard)) = some (.pick (.tmp 50) (.const (.bool true)) (.tmp 58), some 59, none) by kernel_rfl)
  rw [if_pos (plan_free e3 _)]
  intro K hK
  have x0 := ev_val (v := .bool false) (cs := (mg6ftCs S T M k)) mg6ft_ok hR ho (j := 29) (t := 50) (by rw [F.hz]; kernel_rfl) rfl
  have x2 := ev_val (v := .bool false) (cs := (mg6ftCs S T M k)) mg6ft_ok hR ho (j := 37) (t := 58) (by rw [F.hz]; kernel_rfl) rfl
  exact opw_pickF e1 x0 x2 (hK _ _ ⟨_, rfl, rfl⟩ hI (Below.refl _ _))
theorem mg6ft_all (F : Mg6 a0 w0 base B2 B3 B5 S T M k false true) : ∀ i, i < 39 → PO (regionOps Tryd.f5 6) 39 a0 base w0 (mg6ftCs S T M k) i
  | 0, _ => mg6ft_0 F
  | 1, _ => mg6ft_1 F
  | 2, _ => mg6ft_2 F
  | 3, _ => mg6ft_3 F
  | 4, _ => mg6ft_4 F
  | 5, _ => mg6ft_5 F
  | 6, _ => mg6ft_6 F
  | 7, _ => mg6ft_7 F
  | 8, _ => mg6ft_8 F
  | 9, _ => mg6ft_9 F
  | 10, _ => mg6ft_10 F
  | 11, _ => mg6ft_11 F
  | 12, _ => mg6ft_12 F
  | 13, _ => mg6ft_13 F
  | 14, _ => mg6ft_14 F
  | 15, _ => mg6ft_15 F
  | 16, _ => mg6ft_16 F
  | 17, _ => mg6ft_17 F
  | 18, _ => mg6ft_18 F
  | 19, _ => mg6ft_19 F
  | 20, _ => mg6ft_20 F
  | 21, _ => mg6ft_21 F
  | 22, _ => mg6ft_22 F
  | 23, _ => mg6ft_23 F
  | 24, _ => mg6ft_24 F
  | 25, _ => mg6ft_25 F
  | 26, _ => mg6ft_26 F
  | 27, _ => mg6ft_27 F
  | 28, _ => mg6ft_28 F
  | 29, _ => mg6ft_29 F
  | 30, _ => mg6ft_30 F
  | 31, _ => mg6ft_31 F
  | 32, _ => mg6ft_32 F
  | 33, _ => mg6ft_33 F
  | 34, _ => mg6ft_34 F
  | 35, _ => mg6ft_35 F
  | 36, _ => mg6ft_36 F
  | 37, _ => mg6ft_37 F
  | 38, _ => mg6ft_38 F
  | i + 39, h => absurd h (by omega)
def mg6ffCs (S T M k : Nat) : List Claim := [.val (sv (M)), .val (.int .u8 (k)), .val (.bool false), .val (sv (S)), .val (.int .u8 (k)), .val (.bool false), .val (.bool false), .val (undef), .val (undef), .val (undef), .val (.bool false), .val (.bool false), .val (.bool false), .val (sv (S)), .val (sv (T)), .two (S) (T), .val (sv (unionL [S, T])), .val (.int .u8 (k)), .val (.bool false), .val (sv (S)), .val (.int .u8 (k)), .val (.bool false), .val (.bool false), .val (sv (T)), .val (.int .u8 (k)), .val (.bool false), .val (.bool false), .val (.bool false), .val (.bool false), .val (.bool false), .val (sv (S)), .val (sv (cmpl (S))), .val (.int .u8 (k)), .val (.bool true), .val (sv (S)), .val (.int .u8 (k)), .val (.bool false), .val (.bool false), .val (.bool false)]
theorem mg6ff_ok : planOk .any (regionOps Tryd.f5 6) (upto 39) = true := by kernel_rfl
theorem mg6ff_0 (F : Mg6 a0 w0 base B2 B3 B5 S T M k false false) : PO (regionOps Tryd.f5 6) 39 a0 base w0 (mg6ffCs S T M k) 0 := by
  intro o ho u W hI hR
  obtain ⟨e1, e2, e3⟩ := ob_op ho (show ((regionOps Tryd.f5 6)[0]?).map (fun o => (o.op, o.dst, o.guard)) = some (.load 24 (.tmp 5), some 21, none) by kernel_rfl)
  rw [if_pos (plan_free e3 _)]
  intro K hK
  have x0 := ev_base (u := u) mg6ff_ok (by kernel_rfl) F.h5
  exact opw_load_set e1 x0 (F.b5.below hI.1 F.l5) (hK _ _ ⟨_, rfl, rfl⟩ hI (Below.refl _ _))
theorem mg6ff_1 (F : Mg6 a0 w0 base B2 B3 B5 S T M k false false) : PO (regionOps Tryd.f5 6) 39 a0 base w0 (mg6ffCs S T M k) 1 := by
  intro o ho u W hI hR
  obtain ⟨e1, e2, e3⟩ := ob_op ho (show ((regionOps Tryd.f5 6)[1]?).map (fun o => (o.op, o.dst, o.guard)) = some (.move (.tmp 7), some 22, none) by kernel_rfl)
  rw [if_pos (plan_free e3 _)]
  intro K hK
  have x0 := ev_base (u := u) mg6ff_ok (by kernel_rfl) F.h7
  exact opw_move e1 x0 (hK _ _ ⟨_, rfl, rfl⟩ hI (Below.refl _ _))
theorem mg6ff_2 (F : Mg6 a0 w0 base B2 B3 B5 S T M k false false) : PO (regionOps Tryd.f5 6) 39 a0 base w0 (mg6ffCs S T M k) 2 := by
  intro o ho u W hI hR
  obtain ⟨e1, e2, e3⟩ := ob_op ho (show ((regionOps Tryd.f5 6)[2]?).map (fun o => (o.op, o.dst, o.guard)) = some (.call { callee := .value (.func 30), args := #[(.tmp 21), (.tmp 22)], argTypes := #[24, 5] }, some 23, none) by kernel_rfl)
  rw [if_pos (plan_free e3 _)]
  intro K hK
  have x0 := ev_val (v := sv (M)) (cs := (mg6ffCs S T M k)) mg6ff_ok hR ho (j := 0) (t := 21) (by rw [F.hz]; kernel_rfl) rfl
  have x1 := ev_val (v := .int .u8 (k)) (cs := (mg6ffCs S T M k)) mg6ff_ok hR ho (j := 1) (t := 22) (by rw [F.hz]; kernel_rfl) rfl
  refine opw_call e1 (vs := #[sv (M), .int .u8 k]) (by simp only [List.map_toArray, List.map_cons, List.map_nil, x0, x1]) Tryd.func30 (by kernel_rfl) (by kernel_rfl) (Has_any (M) k F.hk W) ?_
  rintro e W' ⟨rfl, b⟩
  exact ⟨_, rfl, hK _ _ ⟨_, rfl, congrArg Value.bool F.hM⟩ (hI.step b) b⟩
theorem mg6ff_3 (F : Mg6 a0 w0 base B2 B3 B5 S T M k false false) : PO (regionOps Tryd.f5 6) 39 a0 base w0 (mg6ffCs S T M k) 3 := by
  intro o ho u W hI hR
  obtain ⟨e1, e2, e3⟩ := ob_op ho (show ((regionOps Tryd.f5 6)[3]?).map (fun o => (o.op, o.dst, o.guard)) = some (.load 24 (.tmp 2), some 24, none) by kernel_rfl)
  rw [if_pos (plan_free e3 _)]
  intro K hK
  have x0 := ev_base (u := u) mg6ff_ok (by kernel_rfl) F.h2
  exact opw_load_set e1 x0 (F.b2.below hI.1 F.l2) (hK _ _ ⟨_, rfl, rfl⟩ hI (Below.refl _ _))
theorem mg6ff_4 (F : Mg6 a0 w0 base B2 B3 B5 S T M k false false) : PO (regionOps Tryd.f5 6) 39 a0 base w0 (mg6ffCs S T M k) 4 := by
  intro o ho u W hI hR
  obtain ⟨e1, e2, e3⟩ := ob_op ho (show ((regionOps Tryd.f5 6)[4]?).map (fun o => (o.op, o.dst, o.guard)) = some (.move (.tmp 7), some 25, none) by kernel_rfl)
  rw [if_pos (plan_free e3 _)]
  intro K hK
  have x0 := ev_base (u := u) mg6ff_ok (by kernel_rfl) F.h7
  exact opw_move e1 x0 (hK _ _ ⟨_, rfl, rfl⟩ hI (Below.refl _ _))
theorem mg6ff_5 (F : Mg6 a0 w0 base B2 B3 B5 S T M k false false) : PO (regionOps Tryd.f5 6) 39 a0 base w0 (mg6ffCs S T M k) 5 := by
  intro o ho u W hI hR
  obtain ⟨e1, e2, e3⟩ := ob_op ho (show ((regionOps Tryd.f5 6)[5]?).map (fun o => (o.op, o.dst, o.guard)) = some (.call { callee := .value (.func 30), args := #[(.tmp 24), (.tmp 25)], argTypes := #[24, 5] }, some 26, none) by kernel_rfl)
  rw [if_pos (plan_free e3 _)]
  intro K hK
  have x0 := ev_val (v := sv (S)) (cs := (mg6ffCs S T M k)) mg6ff_ok hR ho (j := 3) (t := 24) (by rw [F.hz]; kernel_rfl) rfl
  have x1 := ev_val (v := .int .u8 (k)) (cs := (mg6ffCs S T M k)) mg6ff_ok hR ho (j := 4) (t := 25) (by rw [F.hz]; kernel_rfl) rfl
  refine opw_call e1 (vs := #[sv (S), .int .u8 k]) (by simp only [List.map_toArray, List.map_cons, List.map_nil, x0, x1]) Tryd.func30 (by kernel_rfl) (by kernel_rfl) (Has_any (S) k F.hk W) ?_
  rintro e W' ⟨rfl, b⟩
  exact ⟨_, rfl, hK _ _ ⟨_, rfl, congrArg Value.bool F.hS⟩ (hI.step b) b⟩
theorem mg6ff_6 (F : Mg6 a0 w0 base B2 B3 B5 S T M k false false) : PO (regionOps Tryd.f5 6) 39 a0 base w0 (mg6ffCs S T M k) 6 := by
  intro o ho u W hI hR
  obtain ⟨e1, e2, e3⟩ := ob_op ho (show ((regionOps Tryd.f5 6)[6]?).map (fun o => (o.op, o.dst, o.guard)) = some (.move (.tmp 26), some 27, none) by kernel_rfl)
  rw [if_pos (plan_free e3 _)]
  intro K hK
  have x0 := ev_val (v := .bool false) (cs := (mg6ffCs S T M k)) mg6ff_ok hR ho (j := 5) (t := 26) (by rw [F.hz]; kernel_rfl) rfl
  exact opw_move e1 x0 (hK _ _ ⟨_, rfl, rfl⟩ hI (Below.refl _ _))
theorem mg6ff_7 (F : Mg6 a0 w0 base B2 B3 B5 S T M k false false) : PO (regionOps Tryd.f5 6) 39 a0 base w0 (mg6ffCs S T M k) 7 := by
  intro o ho u W hI hR
  obtain ⟨e1, e2, e3⟩ := ob_op ho (show ((regionOps Tryd.f5 6)[7]?).map (fun o => (o.op, o.dst, o.guard)) = some (.load 24 (.tmp 3), some 28, some (6, true)) by kernel_rfl)
  have xg := ev_val (v := .bool false) (cs := (mg6ffCs S T M k)) mg6ff_ok hR ho (j := 6) (t := 27) (by rw [F.hz]; kernel_rfl) rfl
  rw [if_neg (wanted_no e3 (t := 27) (by kernel_rfl) xg)]
  rintro W' rfl
  exact ⟨⟨_, rfl, rfl⟩, Below.refl _ _⟩
theorem mg6ff_8 (F : Mg6 a0 w0 base B2 B3 B5 S T M k false false) : PO (regionOps Tryd.f5 6) 39 a0 base w0 (mg6ffCs S T M k) 8 := by
  intro o ho u W hI hR
  obtain ⟨e1, e2, e3⟩ := ob_op ho (show ((regionOps Tryd.f5 6)[8]?).map (fun o => (o.op, o.dst, o.guard)) = some (.move (.tmp 7), some 29, some (6, true)) by kernel_rfl)
  have xg := ev_val (v := .bool false) (cs := (mg6ffCs S T M k)) mg6ff_ok hR ho (j := 6) (t := 27) (by rw [F.hz]; kernel_rfl) rfl
  rw [if_neg (wanted_no e3 (t := 27) (by kernel_rfl) xg)]
  rintro W' rfl
  exact ⟨⟨_, rfl, rfl⟩, Below.refl _ _⟩
theorem mg6ff_9 (F : Mg6 a0 w0 base B2 B3 B5 S T M k false false) : PO (regionOps Tryd.f5 6) 39 a0 base w0 (mg6ffCs S T M k) 9 := by
  intro o ho u W hI hR
  obtain ⟨e1, e2, e3⟩ := ob_op ho (show ((regionOps Tryd.f5 6)[9]?).map (fun o => (o.op, o.dst, o.guard)) = some (.call { callee := .value (.func 30), args := #[(.tmp 28), (.tmp 29)], argTypes := #[24, 5] }, some 30, some (6, true)) by kernel_rfl)
  have xg := ev_val (v := .bool false) (cs := (mg6ffCs S T M k)) mg6ff_ok hR ho (j := 6) (t := 27) (by rw [F.hz]; kernel_rfl) rfl
  rw [if_neg (wanted_no e3 (t := 27) (by kernel_rfl) xg)]
  rintro W' rfl
  exact ⟨⟨_, rfl, rfl⟩, Below.refl _ _⟩
theorem mg6ff_10 (F : Mg6 a0 w0 base B2 B3 B5 S T M k false false) : PO (regionOps Tryd.f5 6) 39 a0 base w0 (mg6ffCs S T M k) 10 := by
  intro o ho u W hI hR
  obtain ⟨e1, e2, e3⟩ := ob_op ho (show ((regionOps Tryd.f5 6)[10]?).map (fun o => (o.op, o.dst, o.guard)) = some (.pick (.tmp 27) (.tmp 30) (.const (.bool false)), some 31, none) by kernel_rfl)
  rw [if_pos (plan_free e3 _)]
  intro K hK
  have x0 := ev_val (v := .bool false) (cs := (mg6ffCs S T M k)) mg6ff_ok hR ho (j := 6) (t := 27) (by rw [F.hz]; kernel_rfl) rfl
  have x2 : (putL (planOf (regionOps Tryd.f5 6) (upto 39)) u a0).eval (.const (.bool false)) = .bool false := rfl
  exact opw_pickF e1 x0 x2 (hK _ _ ⟨_, rfl, rfl⟩ hI (Below.refl _ _))
theorem mg6ff_11 (F : Mg6 a0 w0 base B2 B3 B5 S T M k false false) : PO (regionOps Tryd.f5 6) 39 a0 base w0 (mg6ffCs S T M k) 11 := by
  intro o ho u W hI hR
  obtain ⟨e1, e2, e3⟩ := ob_op ho (show ((regionOps Tryd.f5 6)[11]?).map (fun o => (o.op, o.dst, o.guard)) = some (.binOp .neq 4 (.tmp 23) (.tmp 31) 4, some 32, none) by kernel_rfl)
  rw [if_pos (plan_free e3 _)]
  intro K hK
  have x0 := ev_val (v := .bool false) (cs := (mg6ffCs S T M k)) mg6ff_ok hR ho (j := 2) (t := 23) (by rw [F.hz]; kernel_rfl) rfl
  have x1 := ev_val (v := .bool false) (cs := (mg6ffCs S T M k)) mg6ff_ok hR ho (j := 10) (t := 31) (by rw [F.hz]; kernel_rfl) rfl
  exact opw_neb e1 x0 x1 (by decide) (hK _ _ ⟨_, rfl, rfl⟩ hI (Below.refl _ _))
theorem mg6ff_12 (F : Mg6 a0 w0 base B2 B3 B5 S T M k false false) : PO (regionOps Tryd.f5 6) 39 a0 base w0 (mg6ffCs S T M k) 12 := by
  intro o ho u W hI hR
  obtain ⟨e1, e2, e3⟩ := ob_op ho (show ((regionOps Tryd.f5 6)[12]?).map (fun o => (o.op, o.dst, o.guard)) = some (.move (.tmp 32), some 33, none) by kernel_rfl)
  rw [if_pos (plan_free e3 _)]
  intro K hK
  have x0 := ev_val (v := .bool false) (cs := (mg6ffCs S T M k)) mg6ff_ok hR ho (j := 11) (t := 32) (by rw [F.hz]; kernel_rfl) rfl
  exact opw_move e1 x0 (hK _ _ ⟨_, rfl, rfl⟩ hI (Below.refl _ _))
theorem mg6ff_13 (F : Mg6 a0 w0 base B2 B3 B5 S T M k false false) : PO (regionOps Tryd.f5 6) 39 a0 base w0 (mg6ffCs S T M k) 13 := by
  intro o ho u W hI hR
  obtain ⟨e1, e2, e3⟩ := ob_op ho (show ((regionOps Tryd.f5 6)[13]?).map (fun o => (o.op, o.dst, o.guard)) = some (.load 24 (.tmp 2), some 34, some (12, false)) by kernel_rfl)
  have xg := ev_val (v := .bool false) (cs := (mg6ffCs S T M k)) mg6ff_ok hR ho (j := 12) (t := 33) (by rw [F.hz]; kernel_rfl) rfl
  rw [if_pos (wanted_yes e3 (t := 33) (by kernel_rfl) xg)]
  intro K hK
  have x0 := ev_base (u := u) mg6ff_ok (by kernel_rfl) F.h2
  exact opw_load_set e1 x0 (F.b2.below hI.1 F.l2) (hK _ _ ⟨_, rfl, rfl⟩ hI (Below.refl _ _))
theorem mg6ff_14 (F : Mg6 a0 w0 base B2 B3 B5 S T M k false false) : PO (regionOps Tryd.f5 6) 39 a0 base w0 (mg6ffCs S T M k) 14 := by
  intro o ho u W hI hR
  obtain ⟨e1, e2, e3⟩ := ob_op ho (show ((regionOps Tryd.f5 6)[14]?).map (fun o => (o.op, o.dst, o.guard)) = some (.load 24 (.tmp 3), some 35, some (12, false)) by kernel_rfl)
  have xg := ev_val (v := .bool false) (cs := (mg6ffCs S T M k)) mg6ff_ok hR ho (j := 12) (t := 33) (by rw [F.hz]; kernel_rfl) rfl
  rw [if_pos (wanted_yes e3 (t := 33) (by kernel_rfl) xg)]
  intro K hK
  have x0 := ev_base (u := u) mg6ff_ok (by kernel_rfl) F.h3
  exact opw_load_set e1 x0 (F.b3.below hI.1 F.l3) (hK _ _ ⟨_, rfl, rfl⟩ hI (Below.refl _ _))
theorem mg6ff_15 (F : Mg6 a0 w0 base B2 B3 B5 S T M k false false) : PO (regionOps Tryd.f5 6) 39 a0 base w0 (mg6ffCs S T M k) 15 := by
  intro o ho u W hI hR
  obtain ⟨e1, e2, e3⟩ := ob_op ho (show ((regionOps Tryd.f5 6)[15]?).map (fun o => (o.op, o.dst, o.guard)) = some (.buildSlice 79 2 #[(0, (.tmp 34)), (1, (.tmp 35))], some 36, some (12, false)) by kernel_rfl)
  have xg := ev_val (v := .bool false) (cs := (mg6ffCs S T M k)) mg6ff_ok hR ho (j := 12) (t := 33) (by rw [F.hz]; kernel_rfl) rfl
  rw [if_pos (wanted_yes e3 (t := 33) (by kernel_rfl) xg)]
  intro K hK
  have x0 := ev_val (v := sv (S)) (cs := (mg6ffCs S T M k)) mg6ff_ok hR ho (j := 13) (t := 34) (by rw [F.hz]; kernel_rfl) rfl
  have x1 := ev_val (v := sv (T)) (cs := (mg6ffCs S T M k)) mg6ff_ok hR ho (j := 14) (t := 35) (by rw [F.hz]; kernel_rfl) rfl
  have bb : Below W.heap.size W (W.alloc (.cells (scs2 (S) (T)) 24)) := (Below.refl _ _).alloc (Nat.le_refl _) _
  exact opw_two e1 x0 x1 (hK _ _ ⟨_, rfl, W.heap.size, rfl, heap_alloc_new W _⟩ (hI.step bb) bb)
theorem mg6ff_16 (F : Mg6 a0 w0 base B2 B3 B5 S T M k false false) : PO (regionOps Tryd.f5 6) 39 a0 base w0 (mg6ffCs S T M k) 16 := by
  intro o ho u W hI hR
  obtain ⟨e1, e2, e3⟩ := ob_op ho (show ((regionOps Tryd.f5 6)[16]?).map (fun o => (o.op, o.dst, o.guard)) = some (.call { callee := .value (.func 27), args := #[(.tmp 36)], argTypes := #[79] }, some 37, some (12, false)) by kernel_rfl)
  have xg := ev_val (v := .bool false) (cs := (mg6ffCs S T M k)) mg6ff_ok hR ho (j := 12) (t := 33) (by rw [F.hz]; kernel_rfl) rfl
  rw [if_pos (wanted_yes e3 (t := 33) (by kernel_rfl) xg)]
  intro K hK
  obtain ⟨x0, cx0, kx0, lx0⟩ := ev_cl mg6ff_ok hR ho (j := 15) (t := 36) (by rw [F.hz]; kernel_rfl)
  cases kx0
  obtain ⟨b0, ex0, hb0⟩ := lx0
  rw [ex0] at x0
  refine opw_call e1 (vs := #[.slice (some ⟨b0, 0, none⟩) 2 2]) (by simp only [List.map_toArray, List.map_cons, List.map_nil, x0]) Tryd.func27 (by kernel_rfl) (by kernel_rfl) (union_at hb0) ?_
  rintro e W' ⟨rfl, b⟩
  exact ⟨_, rfl, hK _ _ ⟨_, rfl, rfl⟩ (hI.step b) b⟩
theorem mg6ff_17 (F : Mg6 a0 w0 base B2 B3 B5 S T M k false false) : PO (regionOps Tryd.f5 6) 39 a0 base w0 (mg6ffCs S T M k) 17 := by
  intro o ho u W hI hR
  obtain ⟨e1, e2, e3⟩ := ob_op ho (show ((regionOps Tryd.f5 6)[17]?).map (fun o => (o.op, o.dst, o.guard)) = some (.move (.tmp 7), some 38, some (12, false)) by kernel_rfl)
  have xg := ev_val (v := .bool false) (cs := (mg6ffCs S T M k)) mg6ff_ok hR ho (j := 12) (t := 33) (by rw [F.hz]; kernel_rfl) rfl
  rw [if_pos (wanted_yes e3 (t := 33) (by kernel_rfl) xg)]
  intro K hK
  have x0 := ev_base (u := u) mg6ff_ok (by kernel_rfl) F.h7
  exact opw_move e1 x0 (hK _ _ ⟨_, rfl, rfl⟩ hI (Below.refl _ _))
theorem mg6ff_18 (F : Mg6 a0 w0 base B2 B3 B5 S T M k false false) : PO (regionOps Tryd.f5 6) 39 a0 base w0 (mg6ffCs S T M k) 18 := by
  intro o ho u W hI hR
  obtain ⟨e1, e2, e3⟩ := ob_op ho (show ((regionOps Tryd.f5 6)[18]?).map (fun o => (o.op, o.dst, o.guard)) = some (.call { callee := .value (.func 30), args := #[(.tmp 37), (.tmp 38)], argTypes := #[24, 5] }, some 39, some (12, false)) by kernel_rfl)
  have xg := ev_val (v := .bool false) (cs := (mg6ffCs S T M k)) mg6ff_ok hR ho (j := 12) (t := 33) (by rw [F.hz]; kernel_rfl) rfl
  rw [if_pos (wanted_yes e3 (t := 33) (by kernel_rfl) xg)]
  intro K hK
  have x0 := ev_val (v := sv (unionL [S, T])) (cs := (mg6ffCs S T M k)) mg6ff_ok hR ho (j := 16) (t := 37) (by rw [F.hz]; kernel_rfl) rfl
  have x1 := ev_val (v := .int .u8 (k)) (cs := (mg6ffCs S T M k)) mg6ff_ok hR ho (j := 17) (t := 38) (by rw [F.hz]; kernel_rfl) rfl
  refine opw_call e1 (vs := #[sv (unionL [S, T]), .int .u8 k]) (by simp only [List.map_toArray, List.map_cons, List.map_nil, x0, x1]) Tryd.func30 (by kernel_rfl) (by kernel_rfl) (Has_any (unionL [S, T]) k F.hk W) ?_
  rintro e W' ⟨rfl, b⟩
  exact ⟨_, rfl, hK _ _ ⟨_, rfl, congrArg Value.bool F.hU⟩ (hI.step b) b⟩
theorem mg6ff_19 (F : Mg6 a0 w0 base B2 B3 B5 S T M k false false) : PO (regionOps Tryd.f5 6) 39 a0 base w0 (mg6ffCs S T M k) 19 := by
  intro o ho u W hI hR
  obtain ⟨e1, e2, e3⟩ := ob_op ho (show ((regionOps Tryd.f5 6)[19]?).map (fun o => (o.op, o.dst, o.guard)) = some (.load 24 (.tmp 2), some 40, some (12, false)) by kernel_rfl)
  have xg := ev_val (v := .bool false) (cs := (mg6ffCs S T M k)) mg6ff_ok hR ho (j := 12) (t := 33) (by rw [F.hz]; kernel_rfl) rfl
  rw [if_pos (wanted_yes e3 (t := 33) (by kernel_rfl) xg)]
  intro K hK
  have x0 := ev_base (u := u) mg6ff_ok (by kernel_rfl) F.h2
  exact opw_load_set e1 x0 (F.b2.below hI.1 F.l2) (hK _ _ ⟨_, rfl, rfl⟩ hI (Below.refl _ _))
theorem mg6ff_20 (F : Mg6 a0 w0 base B2 B3 B5 S T M k false false) : PO (regionOps Tryd.f5 6) 39 a0 base w0 (mg6ffCs S T M k) 20 := by
  intro o ho u W hI hR
  obtain ⟨e1, e2, e3⟩ := ob_op ho (show ((regionOps Tryd.f5 6)[20]?).map (fun o => (o.op, o.dst, o.guard)) = some (.move (.tmp 7), some 41, some (12, false)) by kernel_rfl)
  have xg := ev_val (v := .bool false) (cs := (mg6ffCs S T M k)) mg6ff_ok hR ho (j := 12) (t := 33) (by rw [F.hz]; kernel_rfl) rfl
  rw [if_pos (wanted_yes e3 (t := 33) (by kernel_rfl) xg)]
  intro K hK
  have x0 := ev_base (u := u) mg6ff_ok (by kernel_rfl) F.h7
  exact opw_move e1 x0 (hK _ _ ⟨_, rfl, rfl⟩ hI (Below.refl _ _))
theorem mg6ff_21 (F : Mg6 a0 w0 base B2 B3 B5 S T M k false false) : PO (regionOps Tryd.f5 6) 39 a0 base w0 (mg6ffCs S T M k) 21 := by
  intro o ho u W hI hR
  obtain ⟨e1, e2, e3⟩ := ob_op ho (show ((regionOps Tryd.f5 6)[21]?).map (fun o => (o.op, o.dst, o.guard)) = some (.call { callee := .value (.func 30), args := #[(.tmp 40), (.tmp 41)], argTypes := #[24, 5] }, some 42, some (12, false)) by kernel_rfl)
  have xg := ev_val (v := .bool false) (cs := (mg6ffCs S T M k)) mg6ff_ok hR ho (j := 12) (t := 33) (by rw [F.hz]; kernel_rfl) rfl
  rw [if_pos (wanted_yes e3 (t := 33) (by kernel_rfl) xg)]
  intro K hK
  have x0 := ev_val (v := sv (S)) (cs := (mg6ffCs S T M k)) mg6ff_ok hR ho (j := 19) (t := 40) (by rw [F.hz]; kernel_rfl) rfl
  have x1 := ev_val (v := .int .u8 (k)) (cs := (mg6ffCs S T M k)) mg6ff_ok hR ho (j := 20) (t := 41) (by rw [F.hz]; kernel_rfl) rfl
  refine opw_call e1 (vs := #[sv (S), .int .u8 k]) (by simp only [List.map_toArray, List.map_cons, List.map_nil, x0, x1]) Tryd.func30 (by kernel_rfl) (by kernel_rfl) (Has_any (S) k F.hk W) ?_
  rintro e W' ⟨rfl, b⟩
  exact ⟨_, rfl, hK _ _ ⟨_, rfl, congrArg Value.bool F.hS⟩ (hI.step b) b⟩
theorem mg6ff_22 (F : Mg6 a0 w0 base B2 B3 B5 S T M k false false) : PO (regionOps Tryd.f5 6) 39 a0 base w0 (mg6ffCs S T M k) 22 := by
  intro o ho u W hI hR
  obtain ⟨e1, e2, e3⟩ := ob_op ho (show ((regionOps Tryd.f5 6)[22]?).map (fun o => (o.op, o.dst, o.guard)) = some (.move (.tmp 42), some 43, some (12, false)) by kernel_rfl)
  have xg := ev_val (v := .bool false) (cs := (mg6ffCs S T M k)) mg6ff_ok hR ho (j := 12) (t := 33) (by rw [F.hz]; kernel_rfl) rfl
  rw [if_pos (wanted_yes e3 (t := 33) (by kernel_rfl) xg)]
  intro K hK
  have x0 := ev_val (v := .bool false) (cs := (mg6ffCs S T M k)) mg6ff_ok hR ho (j := 21) (t := 42) (by rw [F.hz]; kernel_rfl) rfl
  exact opw_move e1 x0 (hK _ _ ⟨_, rfl, rfl⟩ hI (Below.refl _ _))
theorem mg6ff_23 (F : Mg6 a0 w0 base B2 B3 B5 S T M k false false) : PO (regionOps Tryd.f5 6) 39 a0 base w0 (mg6ffCs S T M k) 23 := by
  intro o ho u W hI hR
  obtain ⟨e1, e2, e3⟩ := ob_op ho (show ((regionOps Tryd.f5 6)[23]?).map (fun o => (o.op, o.dst, o.guard)) = some (.load 24 (.tmp 3), some 44, some (22, false)) by kernel_rfl)
  have xg := ev_val (v := .bool false) (cs := (mg6ffCs S T M k)) mg6ff_ok hR ho (j := 22) (t := 43) (by rw [F.hz]; kernel_rfl) rfl
  rw [if_pos (wanted_yes e3 (t := 43) (by kernel_rfl) xg)]
  intro K hK
  have x0 := ev_base (u := u) mg6ff_ok (by kernel_rfl) F.h3
  exact opw_load_set e1 x0 (F.b3.below hI.1 F.l3) (hK _ _ ⟨_, rfl, rfl⟩ hI (Below.refl _ _))
theorem mg6ff_24 (F : Mg6 a0 w0 base B2 B3 B5 S T M k false false) : PO (regionOps Tryd.f5 6) 39 a0 base w0 (mg6ffCs S T M k) 24 := by
  intro o ho u W hI hR
  obtain ⟨e1, e2, e3⟩ := ob_op ho (show ((regionOps Tryd.f5 6)[24]?).map (fun o => (o.op, o.dst, o.guard)) = some (.move (.tmp 7), some 45, some (22, false)) by kernel_rfl)
  have xg := ev_val (v := .bool false) (cs := (mg6ffCs S T M k)) mg6ff_ok hR ho (j := 22) (t := 43) (by rw [F.hz]; kernel_rfl) rfl
  rw [if_pos (wanted_yes e3 (t := 43) (by kernel_rfl) xg)]
  intro K hK
  have x0 := ev_base (u := u) mg6ff_ok (by kernel_rfl) F.h7
  exact opw_move e1 x0 (hK _ _ ⟨_, rfl, rfl⟩ hI (Below.refl _ _))
theorem mg6ff_25 (F : Mg6 a0 w0 base B2 B3 B5 S T M k false false) : PO (regionOps Tryd.f5 6) 39 a0 base w0 (mg6ffCs S T M k) 25 := by
  intro o ho u W hI hR
  obtain ⟨e1, e2, e3⟩ := ob_op ho (show ((regionOps Tryd.f5 6)[25]?).map (fun o => (o.op, o.dst, o.guard)) = some (.call { callee := .value (.func 30), args := #[(.tmp 44), (.tmp 45)], argTypes := #[24, 5] }, some 46, some (22, false)) by kernel_rfl)
  have xg := ev_val (v := .bool false) (cs := (mg6ffCs S T M k)) mg6ff_ok hR ho (j := 22) (t := 43) (by rw [F.hz]; kernel_rfl) rfl
  rw [if_pos (wanted_yes e3 (t := 43) (by kernel_rfl) xg)]
  intro K hK
  have x0 := ev_val (v := sv (T)) (cs := (mg6ffCs S T M k)) mg6ff_ok hR ho (j := 23) (t := 44) (by rw [F.hz]; kernel_rfl) rfl
  have x1 := ev_val (v := .int .u8 (k)) (cs := (mg6ffCs S T M k)) mg6ff_ok hR ho (j := 24) (t := 45) (by rw [F.hz]; kernel_rfl) rfl
  refine opw_call e1 (vs := #[sv (T), .int .u8 k]) (by simp only [List.map_toArray, List.map_cons, List.map_nil, x0, x1]) Tryd.func30 (by kernel_rfl) (by kernel_rfl) (Has_any (T) k F.hk W) ?_
  rintro e W' ⟨rfl, b⟩
  exact ⟨_, rfl, hK _ _ ⟨_, rfl, congrArg Value.bool F.hT⟩ (hI.step b) b⟩
theorem mg6ff_26 (F : Mg6 a0 w0 base B2 B3 B5 S T M k false false) : PO (regionOps Tryd.f5 6) 39 a0 base w0 (mg6ffCs S T M k) 26 := by
  intro o ho u W hI hR
  obtain ⟨e1, e2, e3⟩ := ob_op ho (show ((regionOps Tryd.f5 6)[26]?).map (fun o => (o.op, o.dst, o.guard)) = some (.pick (.tmp 43) (.const (.bool true)) (.tmp 46), some 47, some (12, false)) by kernel_rfl)
  have xg := ev_val (v := .bool false) (cs := (mg6ffCs S T M k)) mg6ff_ok hR ho (j := 12) (t := 33) (by rw [F.hz]; kernel_rfl) rfl
  rw [if_pos (wanted_yes e3 (t := 33) (by kernel_rfl) xg)]
  intro K hK
  have x0 := ev_val (v := .bool false) (cs := (mg6ffCs S T M k)) mg6ff_ok hR ho (j := 22) (t := 43) (by rw [F.hz]; kernel_rfl) rfl
  have x2 := ev_val (v := .bool false) (cs := (mg6ffCs S T M k)) mg6ff_ok hR ho (j := 25) (t := 46) (by rw [F.hz]; kernel_rfl) rfl
  exact opw_pickF e1 x0 x2 (hK _ _ ⟨_, rfl, rfl⟩ hI (Below.refl _ _))
theorem mg6ff_27 (F : Mg6 a0 w0 base B2 B3 B5 S T M k false false) : PO (regionOps Tryd.f5 6) 39 a0 base w0 (mg6ffCs S T M k) 27 := by
  intro o ho u W hI hR
  obtain ⟨e1, e2, e3⟩ := ob_op ho (show ((regionOps Tryd.f5 6)[27]?).map (fun o => (o.op, o.dst, o.guard)) = some (.binOp .neq 4 (.tmp 39) (.tmp 47) 4, some 48, some (12, false)) by kernel_rfl)
  have xg := ev_val (v := .bool false) (cs := (mg6ffCs S T M k)) mg6ff_ok hR ho (j := 12) (t := 33) (by rw [F.hz]; kernel_rfl) rfl
  rw [if_pos (wanted_yes e3 (t := 33) (by kernel_rfl) xg)]
  intro K hK
  have x0 := ev_val (v := .bool false) (cs := (mg6ffCs S T M k)) mg6ff_ok hR ho (j := 18) (t := 39) (by rw [F.hz]; kernel_rfl) rfl
  have x1 := ev_val (v := .bool false) (cs := (mg6ffCs S T M k)) mg6ff_ok hR ho (j := 26) (t := 47) (by rw [F.hz]; kernel_rfl) rfl
  exact opw_neb e1 x0 x1 (by decide) (hK _ _ ⟨_, rfl, rfl⟩ hI (Below.refl _ _))
theorem mg6ff_28 (F : Mg6 a0 w0 base B2 B3 B5 S T M k false false) : PO (regionOps Tryd.f5 6) 39 a0 base w0 (mg6ffCs S T M k) 28 := by
  intro o ho u W hI hR
  obtain ⟨e1, e2, e3⟩ := ob_op ho (show ((regionOps Tryd.f5 6)[28]?).map (fun o => (o.op, o.dst, o.guard)) = some (.pick (.tmp 33) (.const (.bool true)) (.tmp 48), some 49, none) by kernel_rfl)
  rw [if_pos (plan_free e3 _)]
  intro K hK
  have x0 := ev_val (v := .bool false) (cs := (mg6ffCs S T M k)) mg6ff_ok hR ho (j := 12) (t := 33) (by rw [F.hz]; kernel_rfl) rfl
  have x2 := ev_val (v := .bool false) (cs := (mg6ffCs S T M k)) mg6ff_ok hR ho (j := 27) (t := 48) (by rw [F.hz]; kernel_rfl) rfl
  exact opw_pickF e1 x0 x2 (hK _ _ ⟨_, rfl, rfl⟩ hI (Below.refl _ _))
theorem mg6ff_29 (F : Mg6 a0 w0 base B2 B3 B5 S T M k false false) : PO (regionOps Tryd.f5 6) 39 a0 base w0 (mg6ffCs S T M k) 29 := by
  intro o ho u W hI hR
  obtain ⟨e1, e2, e3⟩ := ob_op ho (show ((regionOps Tryd.f5 6)[29]?).map (fun o => (o.op, o.dst, o.guard)) = some (.move (.tmp 49), some 50, none) by kernel_rfl)
  rw [if_pos (plan_free e3 _)]
  intro K hK
  have x0 := ev_val (v := .bool false) (cs := (mg6ffCs S T M k)) mg6ff_ok hR ho (j := 28) (t := 49) (by rw [F.hz]; kernel_rfl) rfl
  exact opw_move e1 x0 (hK _ _ ⟨_, rfl, rfl⟩ hI (Below.refl _ _))
theorem mg6ff_30 (F : Mg6 a0 w0 base B2 B3 B5 S T M k false false) : PO (regionOps Tryd.f5 6) 39 a0 base w0 (mg6ffCs S T M k) 30 := by
  intro o ho u W hI hR
  obtain ⟨e1, e2, e3⟩ := ob_op ho (show ((regionOps Tryd.f5 6)[30]?).map (fun o => (o.op, o.dst, o.guard)) = some (.load 24 (.tmp 2), some 51, some (29, false)) by kernel_rfl)
  have xg := ev_val (v := .bool false) (cs := (mg6ffCs S T M k)) mg6ff_ok hR ho (j := 29) (t := 50) (by rw [F.hz]; kernel_rfl) rfl
  rw [if_pos (wanted_yes e3 (t := 50) (by kernel_rfl) xg)]
  intro K hK
  have x0 := ev_base (u := u) mg6ff_ok (by kernel_rfl) F.h2
  exact opw_load_set e1 x0 (F.b2.below hI.1 F.l2) (hK _ _ ⟨_, rfl, rfl⟩ hI (Below.refl _ _))
theorem mg6ff_31 (F : Mg6 a0 w0 base B2 B3 B5 S T M k false false) : PO (regionOps Tryd.f5 6) 39 a0 base w0 (mg6ffCs S T M k) 31 := by
  intro o ho u W hI hR
  obtain ⟨e1, e2, e3⟩ := ob_op ho (show ((regionOps Tryd.f5 6)[31]?).map (fun o => (o.op, o.dst, o.guard)) = some (.call { callee := .value (.func 25), args := #[(.tmp 51)], argTypes := #[24] }, some 52, some (29, false)) by kernel_rfl)
  have xg := ev_val (v := .bool false) (cs := (mg6ffCs S T M k)) mg6ff_ok hR ho (j := 29) (t := 50) (by rw [F.hz]; kernel_rfl) rfl
  rw [if_pos (wanted_yes e3 (t := 50) (by kernel_rfl) xg)]
  intro K hK
  have x0 := ev_val (v := sv (S)) (cs := (mg6ffCs S T M k)) mg6ff_ok hR ho (j := 30) (t := 51) (by rw [F.hz]; kernel_rfl) rfl
  refine opw_call e1 (vs := #[sv (S)]) (by simp only [List.map_toArray, List.map_cons, List.map_nil, x0]) Tryd.func25 (by kernel_rfl) (by kernel_rfl) (Not_any (S) W) ?_
  rintro e W' ⟨rfl, b⟩
  exact ⟨_, rfl, hK _ _ ⟨_, rfl, rfl⟩ (hI.step b) b⟩
theorem mg6ff_32 (F : Mg6 a0 w0 base B2 B3 B5 S T M k false false) : PO (regionOps Tryd.f5 6) 39 a0 base w0 (mg6ffCs S T M k) 32 := by
  intro o ho u W hI hR
  obtain ⟨e1, e2, e3⟩ := ob_op ho (show ((regionOps Tryd.f5 6)[32]?).map (fun o => (o.op, o.dst, o.guard)) = some (.move (.tmp 7), some 53, some (29, false)) by kernel_rfl)
  have xg := ev_val (v := .bool false) (cs := (mg6ffCs S T M k)) mg6ff_ok hR ho (j := 29) (t := 50) (by rw [F.hz]; kernel_rfl) rfl
  rw [if_pos (wanted_yes e3 (t := 50) (by kernel_rfl) xg)]
  intro K hK
  have x0 := ev_base (u := u) mg6ff_ok (by kernel_rfl) F.h7
  exact opw_move e1 x0 (hK _ _ ⟨_, rfl, rfl⟩ hI (Below.refl _ _))
theorem mg6ff_33 (F : Mg6 a0 w0 base B2 B3 B5 S T M k false false) : PO (regionOps Tryd.f5 6) 39 a0 base w0 (mg6ffCs S T M k) 33 := by
  intro o ho u W hI hR
  obtain ⟨e1, e2, e3⟩ := ob_op ho (show ((regionOps Tryd.f5 6)[33]?).map (fun o => (o.op, o.dst, o.guard)) = some (.call { callee := .value (.func 30), args := #[(.tmp 52), (.tmp 53)], argTypes := #[24, 5] }, some 54, some (29, false)) by kernel_rfl)
  have xg := ev_val (v := .bool false) (cs := (mg6ffCs S T M k)) mg6ff_ok hR ho (j := 29) (t := 50) (by rw [F.hz]; kernel_rfl) rfl
  rw [if_pos (wanted_yes e3 (t := 50) (by kernel_rfl) xg)]
  intro K hK
  have x0 := ev_val (v := sv (cmpl (S))) (cs := (mg6ffCs S T M k)) mg6ff_ok hR ho (j := 31) (t := 52) (by rw [F.hz]; kernel_rfl) rfl
  have x1 := ev_val (v := .int .u8 (k)) (cs := (mg6ffCs S T M k)) mg6ff_ok hR ho (j := 32) (t := 53) (by rw [F.hz]; kernel_rfl) rfl
  refine opw_call e1 (vs := #[sv (cmpl (S)), .int .u8 k]) (by simp only [List.map_toArray, List.map_cons, List.map_nil, x0, x1]) Tryd.func30 (by kernel_rfl) (by kernel_rfl) (Has_any (cmpl (S)) k F.hk W) ?_
  rintro e W' ⟨rfl, b⟩
  exact ⟨_, rfl, hK _ _ ⟨_, rfl, congrArg Value.bool F.hN⟩ (hI.step b) b⟩
theorem mg6ff_34 (F : Mg6 a0 w0 base B2 B3 B5 S T M k false false) : PO (regionOps Tryd.f5 6) 39 a0 base w0 (mg6ffCs S T M k) 34 := by
  intro o ho u W hI hR
  obtain ⟨e1, e2, e3⟩ := ob_op ho (show ((regionOps Tryd.f5 6)[34]?).map (fun o => (o.op, o.dst, o.guard)) = some (.load 24 (.tmp 2), some 55, some (29, false)) by kernel_rfl)
  have xg := ev_val (v := .bool false) (cs := (mg6ffCs S T M k)) mg6ff_ok hR ho (j := 29) (t := 50) (by rw [F.hz]; kernel_rfl) rfl
  rw [if_pos (wanted_yes e3 (t := 50) (by kernel_rfl) xg)]
  intro K hK
  have x0 := ev_base (u := u) mg6ff_ok (by kernel_rfl) F.h2
  exact opw_load_set e1 x0 (F.b2.below hI.1 F.l2) (hK _ _ ⟨_, rfl, rfl⟩ hI (Below.refl _ _))
theorem mg6ff_35 (F : Mg6 a0 w0 base B2 B3 B5 S T M k false false) : PO (regionOps Tryd.f5 6) 39 a0 base w0 (mg6ffCs S T M k) 35 := by
  intro o ho u W hI hR
  obtain ⟨e1, e2, e3⟩ := ob_op ho (show ((regionOps Tryd.f5 6)[35]?).map (fun o => (o.op, o.dst, o.guard)) = some (.move (.tmp 7), some 56, some (29, false)) by kernel_rfl)
  have xg := ev_val (v := .bool false) (cs := (mg6ffCs S T M k)) mg6ff_ok hR ho (j := 29) (t := 50) (by rw [F.hz]; kernel_rfl) rfl
  rw [if_pos (wanted_yes e3 (t := 50) (by kernel_rfl) xg)]
  intro K hK
  have x0 := ev_base (u := u) mg6ff_ok (by kernel_rfl) F.h7
  exact opw_move e1 x0 (hK _ _ ⟨_, rfl, rfl⟩ hI (Below.refl _ _))
theorem mg6ff_36 (F : Mg6 a0 w0 base B2 B3 B5 S T M k false false) : PO (regionOps Tryd.f5 6) 39 a0 base w0 (mg6ffCs S T M k) 36 := by
  intro o ho u W hI hR
  obtain ⟨e1, e2, e3⟩ := ob_op ho (show ((regionOps Tryd.f5 6)[36]?).map (fun o => (o.op, o.dst, o.guard)) = some (.call { callee := .value (.func 30), args := #[(.tmp 55), (.tmp 56)], argTypes := #[24, 5] }, some 57, some (29, false)) by kernel_rfl)
  have xg := ev_val (v := .bool false) (cs := (mg6ffCs S T M k)) mg6ff_ok hR ho (j := 29) (t := 50) (by rw [F.hz]; kernel_rfl) rfl
  rw [if_pos (wanted_yes e3 (t := 50) (by kernel_rfl) xg)]
  intro K hK
  have x0 := ev_val (v := sv (S)) (cs := (mg6ffCs S T M k)) mg6ff_ok hR ho (j := 34) (t := 55) (by rw [F.hz]; kernel_rfl) rfl
  have x1 := ev_val (v := .int .u8 (k)) (cs := (mg6ffCs S T M k)) mg6ff_ok hR ho (j := 35) (t := 56) (by rw [F.hz]; kernel_rfl) rfl
  refine opw_call e1 (vs := #[sv (S), .int .u8 k]) (by simp only [List.map_toArray, List.map_cons, List.map_nil, x0, x1]) Tryd.func30 (by kernel_rfl) (by kernel_rfl) (Has_any (S) k F.hk W) ?_
  rintro e W' ⟨rfl, b⟩
  exact ⟨_, rfl, hK _ _ ⟨_, rfl, congrArg Value.bool F.hS⟩ (hI.step b) b⟩
theorem mg6ff_37 (F : Mg6 a0 w0 base B2 B3 B5 S T M k false false) : PO (regionOps Tryd.f5 6) 39 a0 base w0 (mg6ffCs S T M k) 37 := by
  intro o ho u W hI hR
  obtain ⟨e1, e2, e3⟩ := ob_op ho (show ((regionOps Tryd.f5 6)[37]?).map (fun o => (o.op, o.dst, o.guard)) = some (.binOp .eql 4 (.tmp 54) (.tmp 57) 4, some 58, some (29, false)) by kernel_rfl)
  have xg := ev_val (v := .bool false) (cs := (mg6ffCs S T M k)) mg6ff_ok hR ho (j := 29) (t := 50) (by rw [F.hz]; kernel_rfl) rfl
  rw [if_pos (wanted_yes e3 (t := 50) (by kernel_rfl) xg)]
  intro K hK
  have x0 := ev_val (v := .bool true) (cs := (mg6ffCs S T M k)) mg6ff_ok hR ho (j := 33) (t := 54) (by rw [F.hz]; kernel_rfl) rfl
  have x1 := ev_val (v := .bool false) (cs := (mg6ffCs S T M k)) mg6ff_ok hR ho (j := 36) (t := 57) (by rw [F.hz]; kernel_rfl) rfl
  exact opw_eqb e1 x0 x1 (by decide) (hK _ _ ⟨_, rfl, rfl⟩ hI (Below.refl _ _))
theorem mg6ff_38 (F : Mg6 a0 w0 base B2 B3 B5 S T M k false false) : PO (regionOps Tryd.f5 6) 39 a0 base w0 (mg6ffCs S T M k) 38 := by
  intro o ho u W hI hR
  obtain ⟨e1, e2, e3⟩ := ob_op ho (show ((regionOps Tryd.f5 6)[38]?).map (fun o => (o.op, o.dst, o.guard)) = some (.pick (.tmp 50) (.const (.bool true)) (.tmp 58), some 59, none) by kernel_rfl)
  rw [if_pos (plan_free e3 _)]
  intro K hK
  have x0 := ev_val (v := .bool false) (cs := (mg6ffCs S T M k)) mg6ff_ok hR ho (j := 29) (t := 50) (by rw [F.hz]; kernel_rfl) rfl
  have x2 := ev_val (v := .bool false) (cs := (mg6ffCs S T M k)) mg6ff_ok hR ho (j := 37) (t := 58) (by rw [F.hz]; kernel_rfl) rfl
  exact opw_pickF e1 x0 x2 (hK _ _ ⟨_, rfl, rfl⟩ hI (Below.refl _ _))
theorem mg6ff_all (F : Mg6 a0 w0 base B2 B3 B5 S T M k false false) : ∀ i, i < 39 → PO (regionOps Tryd.f5 6) 39 a0 base w0 (mg6ffCs S T M k) i
  | 0, _ => mg6ff_0 F
  | 1, _ => mg6ff_1 F
  | 2, _ => mg6ff_2 F
  | 3, _ => mg6ff_3 F
  | 4, _ => mg6ff_4 F
  | 5, _ => mg6ff_5 F
  | 6, _ => mg6ff_6 F
  | 7, _ => mg6ff_7 F
  | 8, _ => mg6ff_8 F
  | 9, _ => mg6ff_9 F
  | 10, _ => mg6ff_10 F
  | 11, _ => mg6ff_11 F
  | 12, _ => mg6ff_12 F
  | 13, _ => mg6ff_13 F
  | 14, _ => mg6ff_14 F
  | 15, _ => mg6ff_15 F
  | 16, _ => mg6ff_16 F
  | 17, _ => mg6ff_17 F
  | 18, _ => mg6ff_18 F
  | 19, _ => mg6ff_19 F
  | 20, _ => mg6ff_20 F
  | 21, _ => mg6ff_21 F
  | 22, _ => mg6ff_22 F
  | 23, _ => mg6ff_23 F
  | 24, _ => mg6ff_24 F
  | 25, _ => mg6ff_25 F
  | 26, _ => mg6ff_26 F
  | 27, _ => mg6ff_27 F
  | 28, _ => mg6ff_28 F
  | 29, _ => mg6ff_29 F
  | 30, _ => mg6ff_30 F
  | 31, _ => mg6ff_31 F
  | 32, _ => mg6ff_32 F
  | 33, _ => mg6ff_33 F
  | 34, _ => mg6ff_34 F
  | 35, _ => mg6ff_35 F
  | 36, _ => mg6ff_36 F
  | 37, _ => mg6ff_37 F
  | 38, _ => mg6ff_38 F
  | i + 39, h => absurd h (by omega)
theorem mg6tt_wp {id : Nat} {Q : Exit → Act → World → Prop} (F : Mg6 a0 w0 base B2 B3 B5 S T M k true true) (hb : base ≤ w0.heap.size)
    (hq : ∀ (u : Nat → Value) (W : World), u 38 = .bool false → Below base w0 W → base ≤ W.heap.size → Q .normal (putL (planOf (regionOps Tryd.f5 6) (upto 39)) u a0) W) :
    (Code.region id (regionOps Tryd.f5 6) true).wp Tryd.prog Q a0 w0 := by
  refine wp_plan_cl 39 0 (mg6ttCs S T M k) mg6tt_ok (by kernel_rfl) hb (mg6tt_all F) fun u W hI1 hI2 hR => ?_
  refine ⟨by kernel_rfl, hq u W ?_ hI1 hI2⟩
  obtain ⟨c, hc, h⟩ := hR 38 (of_decide_eq_true (by kernel_rfl)) (by decide)
  cases hc
  exact h
theorem mg6tf_wp {id : Nat} {Q : Exit → Act → World → Prop} (F : Mg6 a0 w0 base B2 B3 B5 S T M k true false) (hb : base ≤ w0.heap.size)
    (hq : ∀ (u : Nat → Value) (W : World), u 38 = .bool false → Below base w0 W → base ≤ W.heap.size → Q .normal (putL (planOf (regionOps Tryd.f5 6) (upto 39)) u a0) W) :
    (Code.region id (regionOps Tryd.f5 6) true).wp Tryd.prog Q a0 w0 := by
  refine wp_plan_cl 39 0 (mg6tfCs S T M k) mg6tf_ok (by kernel_rfl) hb (mg6tf_all F) fun u W hI1 hI2 hR => ?_
  refine ⟨by kernel_rfl, hq u W ?_ hI1 hI2⟩
  obtain ⟨c, hc, h⟩ := hR 38 (of_decide_eq_true (by kernel_rfl)) (by decide)
  cases hc
  exact h
theorem mg6ft_wp {id : Nat} {Q : Exit → Act → World → Prop} (F : Mg6 a0 w0 base B2 B3 B5 S T M k false true) (hb : base ≤ w0.heap.size)
    (hq : ∀ (u : Nat → Value) (W : World), u 38 = .bool false → Below base w0 W → base ≤ W.heap.size → Q .normal (putL (planOf (regionOps Tryd.f5 6) (upto 39)) u a0) W) :
    (Code.region id (regionOps Tryd.f5 6) true).wp Tryd.prog Q a0 w0 := by
  refine wp_plan_cl 39 0 (mg6ftCs S T M k) mg6ft_ok (by kernel_rfl) hb (mg6ft_all F) fun u W hI1 hI2 hR => ?_
  refine ⟨by kernel_rfl, hq u W ?_ hI1 hI2⟩
  obtain ⟨c, hc, h⟩ := hR 38 (of_decide_eq_true (by kernel_rfl)) (by decide)
  cases hc
  exact h
theorem mg6ff_wp {id : Nat} {Q : Exit → Act → World → Prop} (F : Mg6 a0 w0 base B2 B3 B5 S T M k false false) (hb : base ≤ w0.heap.size)
    (hq : ∀ (u : Nat → Value) (W : World), u 38 = .bool false → Below base w0 W → base ≤ W.heap.size → Q .normal (putL (planOf (regionOps Tryd.f5 6) (upto 39)) u a0) W) :
    (Code.region id (regionOps Tryd.f5 6) true).wp Tryd.prog Q a0 w0 := by
  refine wp_plan_cl 39 0 (mg6ffCs S T M k) mg6ff_ok (by kernel_rfl) hb (mg6ff_all F) fun u W hI1 hI2 hR => ?_
  refine ⟨by kernel_rfl, hq u W ?_ hI1 hI2⟩
  obtain ⟨c, hc, h⟩ := hR 38 (of_decide_eq_true (by kernel_rfl)) (by decide)
  cases hc
  exact h
theorem mg6_plan : planOf (regionOps Tryd.f5 6) (upto 39) = [(some 21, 0), (some 22, 1), (some 23, 2), (some 24, 3), (some 25, 4), (some 26, 5), (some 27, 6), (some 28, 7), (some 29, 8), (some 30, 9), (some 31, 10), (some 32, 11), (some 33, 12), (some 34, 13), (some 35, 14), (some 36, 15), (some 37, 16), (some 38, 17), (some 39, 18), (some 40, 19), (some 41, 20), (some 42, 21), (some 43, 22), (some 44, 23), (some 45, 24), (some 46, 25), (some 47, 26), (some 48, 27), (some 49, 28), (some 50, 29), (some 51, 30), (some 52, 31), (some 53, 32), (some 54, 33), (some 55, 34), (some 56, 35), (some 57, 36), (some 58, 37), (some 59, 38)] := by kernel_rfl
theorem mg6_wp {id : Nat} {Q : Exit → Act → World → Prop} {s t : Bool} (F : Mg6 a0 w0 base B2 B3 B5 S T M k s t) (hb : base ≤ w0.heap.size)
    (hq : ∀ (u : Nat → Value) (W : World), u 38 = .bool false → Below base w0 W → base ≤ W.heap.size → Q .normal (putL (planOf (regionOps Tryd.f5 6) (upto 39)) u a0) W) :
    (Code.region id (regionOps Tryd.f5 6) true).wp Tryd.prog Q a0 w0 := by
  cases s <;> cases t
  · exact mg6ff_wp F hb hq
  · exact mg6ft_wp F hb hq
  · exact mg6tf_wp F hb hq
  · exact mg6tt_wp F hb hq
end Go.Proofs.YteeopjgfiojoiaaDoor
