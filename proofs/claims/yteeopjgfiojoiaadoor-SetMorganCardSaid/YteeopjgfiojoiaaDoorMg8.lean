/- What SetMorgan tells at its end: whatever order is drawn, it is true. Conditions: the sets and the errors' variables lie in memory. -/
import Derived.Test.YteeopjgfiojoiaaDoorPlan2
import Derived.Test.YteeopjgfiojoiaaDoorAwake
import Derived.Test.YteeopjgfiojoiaaDoorWRanges
namespace Go.Proofs.YteeopjgfiojoiaaDoor
open Go Go.RowKit SN

structure Mg8 (a0 : Act) (w0 : World) (base B2 B3 B5 S T M N : Nat) (E : Nat → Addr) : Prop where
  hz : a0.tmps.size = 101
  h2 : a0.eval (.tmp 2) = .pointer (some ⟨B2, 0, none⟩)
  h3 : a0.eval (.tmp 3) = .pointer (some ⟨B3, 0, none⟩)
  h5 : a0.eval (.tmp 5) = .pointer (some ⟨B5, 0, none⟩)
  b2 : IsSet 24 w0 B2 S
  b3 : IsSet 24 w0 B3 T
  b5 : IsSet 24 w0 B5 M
  l2 : B2 < base
  l3 : B3 < base
  l5 : B5 < base
  hE : Errs N E w0
  hN : N ≤ base
  oS : Ok S
  hcc : cmpl (cmpl S) = S
  hof : ofL (toB (mem S)).data.toList = S
  hsz : (toB (mem S)).size ≤ maxLen
  hs1 : IntKind.i64.wrap (((cnt S : Nat) : Int) + ((cnt (cmpl S) : Nat) : Int)) = 256
  hs2 : IntKind.i64.wrap (((cnt M : Nat) : Int) + ((cnt (unionL [S, T]) : Nat) : Int)) = ((cnt S + cnt T : Nat) : Int)
  hs3 : IntKind.i64.wrap (((cnt S : Nat) : Int) + ((cnt T : Nat) : Int)) = ((cnt S + cnt T : Nat) : Int)
variable {a0 : Act} {w0 : World} {base B2 B3 B5 S T M N : Nat} {E : Nat → Addr}
def mg8Cs (S T M : Nat) : List Claim := [.val (sv (S)), .val (sv (cmpl (S))), .val (sv (S)), .val (sv (S)), .val (.bool true), .val (.bool true), .val (sv (S)), .val (.int .i64 ((cnt (S) : Nat))), .val (sv (S)), .val (sv (cmpl (S))), .val (.int .i64 ((cnt (cmpl (S)) : Nat))), .val (.int .i64 (256)), .val (.bool true), .val (.bool true), .val (.bool true), .val (sv (S)), .bytes (mem (S)), .val (.string (toB (mem (S)))), .val (sv (S)), .val (sv (S)), .val (.bool true), .val (.bool true), .val (.bool true), .val (sv (M)), .val (.int .i64 ((cnt (M) : Nat))), .val (sv (S)), .val (sv (T)), .two (S) (T), .val (sv (unionL [S, T])), .val (.int .i64 ((cnt (unionL [S, T]) : Nat))), .val (.int .i64 ((cnt S + cnt T : Nat))), .val (sv (S)), .val (.int .i64 ((cnt (S) : Nat))), .val (sv (T)), .val (.int .i64 ((cnt (T) : Nat))), .val (.int .i64 ((cnt S + cnt T : Nat))), .val (.bool true), .val (.bool true), .val (.bool true), .val (.bool true), .val (.bool true), .val (.bool true)]
theorem mg8_ok : planOk .any (regionOps Tryd.f5 8) (upto 42) = true := by kernel_rfl
theorem mg8_0 (F : Mg8 a0 w0 base B2 B3 B5 S T M N E) : PO (regionOps Tryd.f5 8) 42 a0 base w0 (mg8Cs S T M) 0 := by
  intro o ho u W hI hR
  obtain ⟨e1, e2, e3⟩ := ob_op ho (show ((regionOps Tryd.f5 8)[0]?).map (fun o => (o.op, o.dst, o.guard)) = some (.load 24 (.tmp 2), some 60, none) by kernel_rfl)
  rw [if_pos (plan_free e3 _)]
  intro K hK
  have x0 := ev_base (u := u) mg8_ok (by kernel_rfl) F.h2
  exact opw_load_set e1 x0 (F.b2.below hI.1 F.l2) (hK _ _ ⟨_, rfl, rfl⟩ hI (Below.refl _ _))
theorem mg8_1 (F : Mg8 a0 w0 base B2 B3 B5 S T M N E) : PO (regionOps Tryd.f5 8) 42 a0 base w0 (mg8Cs S T M) 1 := by
  intro o ho u W hI hR
  obtain ⟨e1, e2, e3⟩ := ob_op ho (show ((regionOps Tryd.f5 8)[1]?).map (fun o => (o.op, o.dst, o.guard)) = some (.call { callee := .value (.func 25), args := #[(.tmp 60)], argTypes := #[24] }, some 61, none) by kernel_rfl)
  rw [if_pos (plan_free e3 _)]
  intro K hK
  have x0 := ev_val (v := sv (S)) (cs := (mg8Cs S T M)) mg8_ok hR ho (j := 0) (t := 60) (by rw [F.hz]; kernel_rfl) rfl
  refine opw_call e1 (vs := #[sv (S)]) (by simp only [List.map_toArray, List.map_cons, List.map_nil, x0]) Tryd.func25 (by kernel_rfl) (by kernel_rfl) (Not_any (S) W) ?_
  rintro e W' ⟨rfl, b⟩
  exact ⟨_, rfl, hK _ _ ⟨_, rfl, rfl⟩ (hI.step b) b⟩
theorem mg8_2 (F : Mg8 a0 w0 base B2 B3 B5 S T M N E) : PO (regionOps Tryd.f5 8) 42 a0 base w0 (mg8Cs S T M) 2 := by
  intro o ho u W hI hR
  obtain ⟨e1, e2, e3⟩ := ob_op ho (show ((regionOps Tryd.f5 8)[2]?).map (fun o => (o.op, o.dst, o.guard)) = some (.call { callee := .value (.func 25), args := #[(.tmp 61)], argTypes := #[24] }, some 62, none) by kernel_rfl)
  rw [if_pos (plan_free e3 _)]
  intro K hK
  have x0 := ev_val (v := sv (cmpl (S))) (cs := (mg8Cs S T M)) mg8_ok hR ho (j := 1) (t := 61) (by rw [F.hz]; kernel_rfl) rfl
  refine opw_call e1 (vs := #[sv (cmpl (S))]) (by simp only [List.map_toArray, List.map_cons, List.map_nil, x0]) Tryd.func25 (by kernel_rfl) (by kernel_rfl) (Not_any (cmpl (S)) W) ?_
  rintro e W' ⟨rfl, b⟩
  exact ⟨_, rfl, hK _ _ ⟨_, rfl, congrArg (fun S => sv S) F.hcc⟩ (hI.step b) b⟩
theorem mg8_3 (F : Mg8 a0 w0 base B2 B3 B5 S T M N E) : PO (regionOps Tryd.f5 8) 42 a0 base w0 (mg8Cs S T M) 3 := by
  intro o ho u W hI hR
  obtain ⟨e1, e2, e3⟩ := ob_op ho (show ((regionOps Tryd.f5 8)[3]?).map (fun o => (o.op, o.dst, o.guard)) = some (.load 24 (.tmp 2), some 63, none) by kernel_rfl)
  rw [if_pos (plan_free e3 _)]
  intro K hK
  have x0 := ev_base (u := u) mg8_ok (by kernel_rfl) F.h2
  exact opw_load_set e1 x0 (F.b2.below hI.1 F.l2) (hK _ _ ⟨_, rfl, rfl⟩ hI (Below.refl _ _))
theorem mg8_4 (F : Mg8 a0 w0 base B2 B3 B5 S T M N E) : PO (regionOps Tryd.f5 8) 42 a0 base w0 (mg8Cs S T M) 4 := by
  intro o ho u W hI hR
  obtain ⟨e1, e2, e3⟩ := ob_op ho (show ((regionOps Tryd.f5 8)[4]?).map (fun o => (o.op, o.dst, o.guard)) = some (.binOp .eql 24 (.tmp 62) (.tmp 63) 24, some 64, none) by kernel_rfl)
  rw [if_pos (plan_free e3 _)]
  intro K hK
  have x0 := ev_val (v := sv (S)) (cs := (mg8Cs S T M)) mg8_ok hR ho (j := 2) (t := 62) (by rw [F.hz]; kernel_rfl) rfl
  have x1 := ev_val (v := sv (S)) (cs := (mg8Cs S T M)) mg8_ok hR ho (j := 3) (t := 63) (by rw [F.hz]; kernel_rfl) rfl
  exact opw_eqs e1 F.oS F.oS x0 x1 (decide_eq_true rfl) (hK _ _ ⟨_, rfl, rfl⟩ hI (Below.refl _ _))
theorem mg8_5 (F : Mg8 a0 w0 base B2 B3 B5 S T M N E) : PO (regionOps Tryd.f5 8) 42 a0 base w0 (mg8Cs S T M) 5 := by
  intro o ho u W hI hR
  obtain ⟨e1, e2, e3⟩ := ob_op ho (show ((regionOps Tryd.f5 8)[5]?).map (fun o => (o.op, o.dst, o.guard)) = some (.move (.tmp 64), some 65, none) by kernel_rfl)
  rw [if_pos (plan_free e3 _)]
  intro K hK
  have x0 := ev_val (v := .bool true) (cs := (mg8Cs S T M)) mg8_ok hR ho (j := 4) (t := 64) (by rw [F.hz]; kernel_rfl) rfl
  exact opw_move e1 x0 (hK _ _ ⟨_, rfl, rfl⟩ hI (Below.refl _ _))
theorem mg8_6 (F : Mg8 a0 w0 base B2 B3 B5 S T M N E) : PO (regionOps Tryd.f5 8) 42 a0 base w0 (mg8Cs S T M) 6 := by
  intro o ho u W hI hR
  obtain ⟨e1, e2, e3⟩ := ob_op ho (show ((regionOps Tryd.f5 8)[6]?).map (fun o => (o.op, o.dst, o.guard)) = some (.load 24 (.tmp 2), some 66, some (5, true)) by kernel_rfl)
  have xg := ev_val (v := .bool true) (cs := (mg8Cs S T M)) mg8_ok hR ho (j := 5) (t := 65) (by rw [F.hz]; kernel_rfl) rfl
  rw [if_pos (wanted_yes e3 (t := 65) (by kernel_rfl) xg)]
  intro K hK
  have x0 := ev_base (u := u) mg8_ok (by kernel_rfl) F.h2
  exact opw_load_set e1 x0 (F.b2.below hI.1 F.l2) (hK _ _ ⟨_, rfl, rfl⟩ hI (Below.refl _ _))
theorem mg8_7 (F : Mg8 a0 w0 base B2 B3 B5 S T M N E) : PO (regionOps Tryd.f5 8) 42 a0 base w0 (mg8Cs S T M) 7 := by
  intro o ho u W hI hR
  obtain ⟨e1, e2, e3⟩ := ob_op ho (show ((regionOps Tryd.f5 8)[7]?).map (fun o => (o.op, o.dst, o.guard)) = some (.call { callee := .value (.func 32), args := #[(.tmp 66)], argTypes := #[24] }, some 67, some (5, true)) by kernel_rfl)
  have xg := ev_val (v := .bool true) (cs := (mg8Cs S T M)) mg8_ok hR ho (j := 5) (t := 65) (by rw [F.hz]; kernel_rfl) rfl
  rw [if_pos (wanted_yes e3 (t := 65) (by kernel_rfl) xg)]
  intro K hK
  have x0 := ev_val (v := sv (S)) (cs := (mg8Cs S T M)) mg8_ok hR ho (j := 6) (t := 66) (by rw [F.hz]; kernel_rfl) rfl
  refine opw_call e1 (vs := #[sv (S)]) (by simp only [List.map_toArray, List.map_cons, List.map_nil, x0]) Tryd.func32 (by kernel_rfl) (by kernel_rfl) (Len_any (S) W) ?_
  rintro e W' ⟨rfl, b⟩
  exact ⟨_, rfl, hK _ _ ⟨_, rfl, rfl⟩ (hI.step b) b⟩
theorem mg8_8 (F : Mg8 a0 w0 base B2 B3 B5 S T M N E) : PO (regionOps Tryd.f5 8) 42 a0 base w0 (mg8Cs S T M) 8 := by
  intro o ho u W hI hR
  obtain ⟨e1, e2, e3⟩ := ob_op ho (show ((regionOps Tryd.f5 8)[8]?).map (fun o => (o.op, o.dst, o.guard)) = some (.load 24 (.tmp 2), some 68, some (5, true)) by kernel_rfl)
  have xg := ev_val (v := .bool true) (cs := (mg8Cs S T M)) mg8_ok hR ho (j := 5) (t := 65) (by rw [F.hz]; kernel_rfl) rfl
  rw [if_pos (wanted_yes e3 (t := 65) (by kernel_rfl) xg)]
  intro K hK
  have x0 := ev_base (u := u) mg8_ok (by kernel_rfl) F.h2
  exact opw_load_set e1 x0 (F.b2.below hI.1 F.l2) (hK _ _ ⟨_, rfl, rfl⟩ hI (Below.refl _ _))
theorem mg8_9 (F : Mg8 a0 w0 base B2 B3 B5 S T M N E) : PO (regionOps Tryd.f5 8) 42 a0 base w0 (mg8Cs S T M) 9 := by
  intro o ho u W hI hR
  obtain ⟨e1, e2, e3⟩ := ob_op ho (show ((regionOps Tryd.f5 8)[9]?).map (fun o => (o.op, o.dst, o.guard)) = some (.call { callee := .value (.func 25), args := #[(.tmp 68)], argTypes := #[24] }, some 69, some (5, true)) by kernel_rfl)
  have xg := ev_val (v := .bool true) (cs := (mg8Cs S T M)) mg8_ok hR ho (j := 5) (t := 65) (by rw [F.hz]; kernel_rfl) rfl
  rw [if_pos (wanted_yes e3 (t := 65) (by kernel_rfl) xg)]
  intro K hK
  have x0 := ev_val (v := sv (S)) (cs := (mg8Cs S T M)) mg8_ok hR ho (j := 8) (t := 68) (by rw [F.hz]; kernel_rfl) rfl
  refine opw_call e1 (vs := #[sv (S)]) (by simp only [List.map_toArray, List.map_cons, List.map_nil, x0]) Tryd.func25 (by kernel_rfl) (by kernel_rfl) (Not_any (S) W) ?_
  rintro e W' ⟨rfl, b⟩
  exact ⟨_, rfl, hK _ _ ⟨_, rfl, rfl⟩ (hI.step b) b⟩
theorem mg8_10 (F : Mg8 a0 w0 base B2 B3 B5 S T M N E) : PO (regionOps Tryd.f5 8) 42 a0 base w0 (mg8Cs S T M) 10 := by
  intro o ho u W hI hR
  obtain ⟨e1, e2, e3⟩ := ob_op ho (show ((regionOps Tryd.f5 8)[10]?).map (fun o => (o.op, o.dst, o.guard)) = some (.call { callee := .value (.func 32), args := #[(.tmp 69)], argTypes := #[24] }, some 70, some (5, true)) by kernel_rfl)
  have xg := ev_val (v := .bool true) (cs := (mg8Cs S T M)) mg8_ok hR ho (j := 5) (t := 65) (by rw [F.hz]; kernel_rfl) rfl
  rw [if_pos (wanted_yes e3 (t := 65) (by kernel_rfl) xg)]
  intro K hK
  have x0 := ev_val (v := sv (cmpl (S))) (cs := (mg8Cs S T M)) mg8_ok hR ho (j := 9) (t := 69) (by rw [F.hz]; kernel_rfl) rfl
  refine opw_call e1 (vs := #[sv (cmpl (S))]) (by simp only [List.map_toArray, List.map_cons, List.map_nil, x0]) Tryd.func32 (by kernel_rfl) (by kernel_rfl) (Len_any (cmpl (S)) W) ?_
  rintro e W' ⟨rfl, b⟩
  exact ⟨_, rfl, hK _ _ ⟨_, rfl, rfl⟩ (hI.step b) b⟩
theorem mg8_11 (F : Mg8 a0 w0 base B2 B3 B5 S T M N E) : PO (regionOps Tryd.f5 8) 42 a0 base w0 (mg8Cs S T M) 11 := by
  intro o ho u W hI hR
  obtain ⟨e1, e2, e3⟩ := ob_op ho (show ((regionOps Tryd.f5 8)[11]?).map (fun o => (o.op, o.dst, o.guard)) = some (.binOp .add 3 (.tmp 67) (.tmp 70) 3, some 71, some (5, true)) by kernel_rfl)
  have xg := ev_val (v := .bool true) (cs := (mg8Cs S T M)) mg8_ok hR ho (j := 5) (t := 65) (by rw [F.hz]; kernel_rfl) rfl
  rw [if_pos (wanted_yes e3 (t := 65) (by kernel_rfl) xg)]
  intro K hK
  have x0 := ev_val (v := .int .i64 ((cnt (S) : Nat))) (cs := (mg8Cs S T M)) mg8_ok hR ho (j := 7) (t := 67) (by rw [F.hz]; kernel_rfl) rfl
  have x1 := ev_val (v := .int .i64 ((cnt (cmpl (S)) : Nat))) (cs := (mg8Cs S T M)) mg8_ok hR ho (j := 10) (t := 70) (by rw [F.hz]; kernel_rfl) rfl
  exact opw_addi e1 x0 x1 F.hs1 (hK _ _ ⟨_, rfl, rfl⟩ hI (Below.refl _ _))
theorem mg8_12 (F : Mg8 a0 w0 base B2 B3 B5 S T M N E) : PO (regionOps Tryd.f5 8) 42 a0 base w0 (mg8Cs S T M) 12 := by
  intro o ho u W hI hR
  obtain ⟨e1, e2, e3⟩ := ob_op ho (show ((regionOps Tryd.f5 8)[12]?).map (fun o => (o.op, o.dst, o.guard)) = some (.binOp .eql 3 (.tmp 71) (.const (.int .i64 256)) 3, some 72, some (5, true)) by kernel_rfl)
  have xg := ev_val (v := .bool true) (cs := (mg8Cs S T M)) mg8_ok hR ho (j := 5) (t := 65) (by rw [F.hz]; kernel_rfl) rfl
  rw [if_pos (wanted_yes e3 (t := 65) (by kernel_rfl) xg)]
  intro K hK
  have x0 := ev_val (v := .int .i64 (256)) (cs := (mg8Cs S T M)) mg8_ok hR ho (j := 11) (t := 71) (by rw [F.hz]; kernel_rfl) rfl
  have x1 : (putL (planOf (regionOps Tryd.f5 8) (upto 42)) u a0).eval (.const (.int .i64 256)) = .int .i64 (256) := rfl
  exact opw_eqi e1 x0 x1 (beq_self_eq_true _) (hK _ _ ⟨_, rfl, rfl⟩ hI (Below.refl _ _))
theorem mg8_13 (F : Mg8 a0 w0 base B2 B3 B5 S T M N E) : PO (regionOps Tryd.f5 8) 42 a0 base w0 (mg8Cs S T M) 13 := by
  intro o ho u W hI hR
  obtain ⟨e1, e2, e3⟩ := ob_op ho (show ((regionOps Tryd.f5 8)[13]?).map (fun o => (o.op, o.dst, o.guard)) = some (.pick (.tmp 65) (.tmp 72) (.const (.bool false)), some 73, none) by kernel_rfl)
  rw [if_pos (plan_free e3 _)]
  intro K hK
  have x0 := ev_val (v := .bool true) (cs := (mg8Cs S T M)) mg8_ok hR ho (j := 5) (t := 65) (by rw [F.hz]; kernel_rfl) rfl
  have x1 := ev_val (v := .bool true) (cs := (mg8Cs S T M)) mg8_ok hR ho (j := 12) (t := 72) (by rw [F.hz]; kernel_rfl) rfl
  exact opw_pickT e1 x0 x1 (hK _ _ ⟨_, rfl, rfl⟩ hI (Below.refl _ _))
theorem mg8_14 (F : Mg8 a0 w0 base B2 B3 B5 S T M N E) : PO (regionOps Tryd.f5 8) 42 a0 base w0 (mg8Cs S T M) 14 := by
  intro o ho u W hI hR
  obtain ⟨e1, e2, e3⟩ := ob_op ho (show ((regionOps Tryd.f5 8)[14]?).map (fun o => (o.op, o.dst, o.guard)) = some (.move (.tmp 73), some 74, none) by kernel_rfl)
  rw [if_pos (plan_free e3 _)]
  intro K hK
  have x0 := ev_val (v := .bool true) (cs := (mg8Cs S T M)) mg8_ok hR ho (j := 13) (t := 73) (by rw [F.hz]; kernel_rfl) rfl
  exact opw_move e1 x0 (hK _ _ ⟨_, rfl, rfl⟩ hI (Below.refl _ _))
theorem mg8_15 (F : Mg8 a0 w0 base B2 B3 B5 S T M N E) : PO (regionOps Tryd.f5 8) 42 a0 base w0 (mg8Cs S T M) 15 := by
  intro o ho u W hI hR
  obtain ⟨e1, e2, e3⟩ := ob_op ho (show ((regionOps Tryd.f5 8)[15]?).map (fun o => (o.op, o.dst, o.guard)) = some (.load 24 (.tmp 2), some 75, some (14, true)) by kernel_rfl)
  have xg := ev_val (v := .bool true) (cs := (mg8Cs S T M)) mg8_ok hR ho (j := 14) (t := 74) (by rw [F.hz]; kernel_rfl) rfl
  rw [if_pos (wanted_yes e3 (t := 74) (by kernel_rfl) xg)]
  intro K hK
  have x0 := ev_base (u := u) mg8_ok (by kernel_rfl) F.h2
  exact opw_load_set e1 x0 (F.b2.below hI.1 F.l2) (hK _ _ ⟨_, rfl, rfl⟩ hI (Below.refl _ _))
theorem mg8_16 (F : Mg8 a0 w0 base B2 B3 B5 S T M N E) : PO (regionOps Tryd.f5 8) 42 a0 base w0 (mg8Cs S T M) 16 := by
  intro o ho u W hI hR
  obtain ⟨e1, e2, e3⟩ := ob_op ho (show ((regionOps Tryd.f5 8)[16]?).map (fun o => (o.op, o.dst, o.guard)) = some (.call { callee := .value (.func 34), args := #[(.tmp 75)], argTypes := #[24] }, some 76, some (14, true)) by kernel_rfl)
  have xg := ev_val (v := .bool true) (cs := (mg8Cs S T M)) mg8_ok hR ho (j := 14) (t := 74) (by rw [F.hz]; kernel_rfl) rfl
  rw [if_pos (wanted_yes e3 (t := 74) (by kernel_rfl) xg)]
  intro K hK
  have x0 := ev_val (v := sv (S)) (cs := (mg8Cs S T M)) mg8_ok hR ho (j := 15) (t := 75) (by rw [F.hz]; kernel_rfl) rfl
  refine opw_call e1 (vs := #[sv (S)]) (by simp only [List.map_toArray, List.map_cons, List.map_nil, x0]) Tryd.func34 (by kernel_rfl) (by kernel_rfl) (Bytes_any (S) W) ?_
  rintro e W' ⟨v, rfl, hv, b⟩
  obtain ⟨p, cap, rfl, hcap, hB, -⟩ := hv.hasB' (fun _ h => mem_lt h)
  exact ⟨_, rfl, hK _ _ ⟨_, rfl, p, cap, rfl, hcap, hB⟩ (hI.step b) b⟩
theorem mg8_17 (F : Mg8 a0 w0 base B2 B3 B5 S T M N E) : PO (regionOps Tryd.f5 8) 42 a0 base w0 (mg8Cs S T M) 17 := by
  intro o ho u W hI hR
  obtain ⟨e1, e2, e3⟩ := ob_op ho (show ((regionOps Tryd.f5 8)[17]?).map (fun o => (o.op, o.dst, o.guard)) = some (.convert 36 9 (.tmp 76), some 77, some (14, true)) by kernel_rfl)
  have xg := ev_val (v := .bool true) (cs := (mg8Cs S T M)) mg8_ok hR ho (j := 14) (t := 74) (by rw [F.hz]; kernel_rfl) rfl
  rw [if_pos (wanted_yes e3 (t := 74) (by kernel_rfl) xg)]
  intro K hK
  obtain ⟨x0, cx0, kx0, lx0⟩ := ev_cl mg8_ok hR ho (j := 16) (t := 76) (by rw [F.hz]; kernel_rfl)
  cases kx0
  obtain ⟨p0, cap0, ex0, hc0, hb0⟩ := lx0
  rw [ex0] at x0
  exact opw_conv e1 x0 hb0 (hK _ _ ⟨_, rfl, rfl⟩ hI (Below.refl _ _))
theorem mg8_18 (F : Mg8 a0 w0 base B2 B3 B5 S T M N E) : PO (regionOps Tryd.f5 8) 42 a0 base w0 (mg8Cs S T M) 18 := by
  intro o ho u W hI hR
  obtain ⟨e1, e2, e3⟩ := ob_op ho (show ((regionOps Tryd.f5 8)[18]?).map (fun o => (o.op, o.dst, o.guard)) = some (.call { callee := .value (.func 22), args := #[(.tmp 77)], argTypes := #[9] }, some 78, some (14, true)) by kernel_rfl)
  have xg := ev_val (v := .bool true) (cs := (mg8Cs S T M)) mg8_ok hR ho (j := 14) (t := 74) (by rw [F.hz]; kernel_rfl) rfl
  rw [if_pos (wanted_yes e3 (t := 74) (by kernel_rfl) xg)]
  intro K hK
  have x0 := ev_val (v := .string (toB (mem (S)))) (cs := (mg8Cs S T M)) mg8_ok hR ho (j := 17) (t := 77) (by rw [F.hz]; kernel_rfl) rfl
  refine opw_call e1 (vs := #[.string (toB (mem (S)))]) (by simp only [List.map_toArray, List.map_cons, List.map_nil, x0]) Tryd.func22 (by kernel_rfl) (by kernel_rfl) (Of_any (toB (mem (S))) W F.hsz) ?_
  rintro e W' ⟨rfl, b⟩
  exact ⟨_, rfl, hK _ _ ⟨_, rfl, congrArg (fun S => sv S) F.hof⟩ (hI.step b) b⟩
theorem mg8_19 (F : Mg8 a0 w0 base B2 B3 B5 S T M N E) : PO (regionOps Tryd.f5 8) 42 a0 base w0 (mg8Cs S T M) 19 := by
  intro o ho u W hI hR
  obtain ⟨e1, e2, e3⟩ := ob_op ho (show ((regionOps Tryd.f5 8)[19]?).map (fun o => (o.op, o.dst, o.guard)) = some (.load 24 (.tmp 2), some 79, some (14, true)) by kernel_rfl)
  have xg := ev_val (v := .bool true) (cs := (mg8Cs S T M)) mg8_ok hR ho (j := 14) (t := 74) (by rw [F.hz]; kernel_rfl) rfl
  rw [if_pos (wanted_yes e3 (t := 74) (by kernel_rfl) xg)]
  intro K hK
  have x0 := ev_base (u := u) mg8_ok (by kernel_rfl) F.h2
  exact opw_load_set e1 x0 (F.b2.below hI.1 F.l2) (hK _ _ ⟨_, rfl, rfl⟩ hI (Below.refl _ _))
theorem mg8_20 (F : Mg8 a0 w0 base B2 B3 B5 S T M N E) : PO (regionOps Tryd.f5 8) 42 a0 base w0 (mg8Cs S T M) 20 := by
  intro o ho u W hI hR
  obtain ⟨e1, e2, e3⟩ := ob_op ho (show ((regionOps Tryd.f5 8)[20]?).map (fun o => (o.op, o.dst, o.guard)) = some (.binOp .eql 24 (.tmp 78) (.tmp 79) 24, some 80, some (14, true)) by kernel_rfl)
  have xg := ev_val (v := .bool true) (cs := (mg8Cs S T M)) mg8_ok hR ho (j := 14) (t := 74) (by rw [F.hz]; kernel_rfl) rfl
  rw [if_pos (wanted_yes e3 (t := 74) (by kernel_rfl) xg)]
  intro K hK
  have x0 := ev_val (v := sv (S)) (cs := (mg8Cs S T M)) mg8_ok hR ho (j := 18) (t := 78) (by rw [F.hz]; kernel_rfl) rfl
  have x1 := ev_val (v := sv (S)) (cs := (mg8Cs S T M)) mg8_ok hR ho (j := 19) (t := 79) (by rw [F.hz]; kernel_rfl) rfl
  exact opw_eqs e1 F.oS F.oS x0 x1 (decide_eq_true rfl) (hK _ _ ⟨_, rfl, rfl⟩ hI (Below.refl _ _))
theorem mg8_21 (F : Mg8 a0 w0 base B2 B3 B5 S T M N E) : PO (regionOps Tryd.f5 8) 42 a0 base w0 (mg8Cs S T M) 21 := by
  intro o ho u W hI hR
  obtain ⟨e1, e2, e3⟩ := ob_op ho (show ((regionOps Tryd.f5 8)[21]?).map (fun o => (o.op, o.dst, o.guard)) = some (.pick (.tmp 74) (.tmp 80) (.const (.bool false)), some 81, none) by kernel_rfl)
  rw [if_pos (plan_free e3 _)]
  intro K hK
  have x0 := ev_val (v := .bool true) (cs := (mg8Cs S T M)) mg8_ok hR ho (j := 14) (t := 74) (by rw [F.hz]; kernel_rfl) rfl
  have x1 := ev_val (v := .bool true) (cs := (mg8Cs S T M)) mg8_ok hR ho (j := 20) (t := 80) (by rw [F.hz]; kernel_rfl) rfl
  exact opw_pickT e1 x0 x1 (hK _ _ ⟨_, rfl, rfl⟩ hI (Below.refl _ _))
theorem mg8_22 (F : Mg8 a0 w0 base B2 B3 B5 S T M N E) : PO (regionOps Tryd.f5 8) 42 a0 base w0 (mg8Cs S T M) 22 := by
  intro o ho u W hI hR
  obtain ⟨e1, e2, e3⟩ := ob_op ho (show ((regionOps Tryd.f5 8)[22]?).map (fun o => (o.op, o.dst, o.guard)) = some (.move (.tmp 81), some 82, none) by kernel_rfl)
  rw [if_pos (plan_free e3 _)]
  intro K hK
  have x0 := ev_val (v := .bool true) (cs := (mg8Cs S T M)) mg8_ok hR ho (j := 21) (t := 81) (by rw [F.hz]; kernel_rfl) rfl
  exact opw_move e1 x0 (hK _ _ ⟨_, rfl, rfl⟩ hI (Below.refl _ _))
theorem mg8_23 (F : Mg8 a0 w0 base B2 B3 B5 S T M N E) : PO (regionOps Tryd.f5 8) 42 a0 base w0 (mg8Cs S T M) 23 := by
  intro o ho u W hI hR
  obtain ⟨e1, e2, e3⟩ := ob_op ho (show ((regionOps Tryd.f5 8)[23]?).map (fun o => (o.op, o.dst, o.guard)) = some (.load 24 (.tmp 5), some 83, some (22, true)) by kernel_rfl)
  have xg := ev_val (v := .bool true) (cs := (mg8Cs S T M)) mg8_ok hR ho (j := 22) (t := 82) (by rw [F.hz]; kernel_rfl) rfl
  rw [if_pos (wanted_yes e3 (t := 82) (by kernel_rfl) xg)]
  intro K hK
  have x0 := ev_base (u := u) mg8_ok (by kernel_rfl) F.h5
  exact opw_load_set e1 x0 (F.b5.below hI.1 F.l5) (hK _ _ ⟨_, rfl, rfl⟩ hI (Below.refl _ _))
theorem mg8_24 (F : Mg8 a0 w0 base B2 B3 B5 S T M N E) : PO (regionOps Tryd.f5 8) 42 a0 base w0 (mg8Cs S T M) 24 := by
  intro o ho u W hI hR
  obtain ⟨e1, e2, e3⟩ := ob_op ho (show ((regionOps Tryd.f5 8)[24]?).map (fun o => (o.op, o.dst, o.guard)) = some (.call { callee := .value (.func 32), args := #[(.tmp 83)], argTypes := #[24] }, some 84, some (22, true)) by kernel_rfl)
  have xg := ev_val (v := .bool true) (cs := (mg8Cs S T M)) mg8_ok hR ho (j := 22) (t := 82) (by rw [F.hz]; kernel_rfl) rfl
  rw [if_pos (wanted_yes e3 (t := 82) (by kernel_rfl) xg)]
  intro K hK
  have x0 := ev_val (v := sv (M)) (cs := (mg8Cs S T M)) mg8_ok hR ho (j := 23) (t := 83) (by rw [F.hz]; kernel_rfl) rfl
  refine opw_call e1 (vs := #[sv (M)]) (by simp only [List.map_toArray, List.map_cons, List.map_nil, x0]) Tryd.func32 (by kernel_rfl) (by kernel_rfl) (Len_any (M) W) ?_
  rintro e W' ⟨rfl, b⟩
  exact ⟨_, rfl, hK _ _ ⟨_, rfl, rfl⟩ (hI.step b) b⟩
theorem mg8_25 (F : Mg8 a0 w0 base B2 B3 B5 S T M N E) : PO (regionOps Tryd.f5 8) 42 a0 base w0 (mg8Cs S T M) 25 := by
  intro o ho u W hI hR
  obtain ⟨e1, e2, e3⟩ := ob_op ho (show ((regionOps Tryd.f5 8)[25]?).map (fun o => (o.op, o.dst, o.guard)) = some (.load 24 (.tmp 2), some 85, some (22, true)) by kernel_rfl)
  have xg := ev_val (v := .bool true) (cs := (mg8Cs S T M)) mg8_ok hR ho (j := 22) (t := 82) (by rw [F.hz]; kernel_rfl) rfl
  rw [if_pos (wanted_yes e3 (t := 82) (by kernel_rfl) xg)]
  intro K hK
  have x0 := ev_base (u := u) mg8_ok (by kernel_rfl) F.h2
  exact opw_load_set e1 x0 (F.b2.below hI.1 F.l2) (hK _ _ ⟨_, rfl, rfl⟩ hI (Below.refl _ _))
theorem mg8_26 (F : Mg8 a0 w0 base B2 B3 B5 S T M N E) : PO (regionOps Tryd.f5 8) 42 a0 base w0 (mg8Cs S T M) 26 := by
  intro o ho u W hI hR
  obtain ⟨e1, e2, e3⟩ := ob_op ho (show ((regionOps Tryd.f5 8)[26]?).map (fun o => (o.op, o.dst, o.guard)) = some (.load 24 (.tmp 3), some 86, some (22, true)) by kernel_rfl)
  have xg := ev_val (v := .bool true) (cs := (mg8Cs S T M)) mg8_ok hR ho (j := 22) (t := 82) (by rw [F.hz]; kernel_rfl) rfl
  rw [if_pos (wanted_yes e3 (t := 82) (by kernel_rfl) xg)]
  intro K hK
  have x0 := ev_base (u := u) mg8_ok (by kernel_rfl) F.h3
  exact opw_load_set e1 x0 (F.b3.below hI.1 F.l3) (hK _ _ ⟨_, rfl, rfl⟩ hI (Below.refl _ _))
theorem mg8_27 (F : Mg8 a0 w0 base B2 B3 B5 S T M N E) : PO (regionOps Tryd.f5 8) 42 a0 base w0 (mg8Cs S T M) 27 := by
  intro o ho u W hI hR
  obtain ⟨e1, e2, e3⟩ := ob_op ho (show ((regionOps Tryd.f5 8)[27]?).map (fun o => (o.op, o.dst, o.guard)) = some (.buildSlice 79 2 #[(0, (.tmp 85)), (1, (.tmp 86))], some 87, some (22, true)) by kernel_rfl)
  have xg := ev_val (v := .bool true) (cs := (mg8Cs S T M)) mg8_ok hR ho (j := 22) (t := 82) (by rw [F.hz]; kernel_rfl) rfl
  rw [if_pos (wanted_yes e3 (t := 82) (by kernel_rfl) xg)]
  intro K hK
  have x0 := ev_val (v := sv (S)) (cs := (mg8Cs S T M)) mg8_ok hR ho (j := 25) (t := 85) (by rw [F.hz]; kernel_rfl) rfl
  have x1 := ev_val (v := sv (T)) (cs := (mg8Cs S T M)) mg8_ok hR ho (j := 26) (t := 86) (by rw [F.hz]; kernel_rfl) rfl
  have bb : Below W.heap.size W (W.alloc (.cells (scs2 (S) (T)) 24)) := (Below.refl _ _).alloc (Nat.le_refl _) _
  exact opw_two e1 x0 x1 (hK _ _ ⟨_, rfl, W.heap.size, rfl, heap_alloc_new W _⟩ (hI.step bb) bb)
theorem mg8_28 (F : Mg8 a0 w0 base B2 B3 B5 S T M N E) : PO (regionOps Tryd.f5 8) 42 a0 base w0 (mg8Cs S T M) 28 := by
  intro o ho u W hI hR
  obtain ⟨e1, e2, e3⟩ := ob_op ho (show ((regionOps Tryd.f5 8)[28]?).map (fun o => (o.op, o.dst, o.guard)) = some (.call { callee := .value (.func 27), args := #[(.tmp 87)], argTypes := #[79] }, some 88, some (22, true)) by kernel_rfl)
  have xg := ev_val (v := .bool true) (cs := (mg8Cs S T M)) mg8_ok hR ho (j := 22) (t := 82) (by rw [F.hz]; kernel_rfl) rfl
  rw [if_pos (wanted_yes e3 (t := 82) (by kernel_rfl) xg)]
  intro K hK
  obtain ⟨x0, cx0, kx0, lx0⟩ := ev_cl mg8_ok hR ho (j := 27) (t := 87) (by rw [F.hz]; kernel_rfl)
  cases kx0
  obtain ⟨b0, ex0, hb0⟩ := lx0
  rw [ex0] at x0
  refine opw_call e1 (vs := #[.slice (some ⟨b0, 0, none⟩) 2 2]) (by simp only [List.map_toArray, List.map_cons, List.map_nil, x0]) Tryd.func27 (by kernel_rfl) (by kernel_rfl) (union_at hb0) ?_
  rintro e W' ⟨rfl, b⟩
  exact ⟨_, rfl, hK _ _ ⟨_, rfl, rfl⟩ (hI.step b) b⟩
theorem mg8_29 (F : Mg8 a0 w0 base B2 B3 B5 S T M N E) : PO (regionOps Tryd.f5 8) 42 a0 base w0 (mg8Cs S T M) 29 := by
  intro o ho u W hI hR
  obtain ⟨e1, e2, e3⟩ := ob_op ho (show ((regionOps Tryd.f5 8)[29]?).map (fun o => (o.op, o.dst, o.guard)) = some (.call { callee := .value (.func 32), args := #[(.tmp 88)], argTypes := #[24] }, some 89, some (22, true)) by kernel_rfl)
  have xg := ev_val (v := .bool true) (cs := (mg8Cs S T M)) mg8_ok hR ho (j := 22) (t := 82) (by rw [F.hz]; kernel_rfl) rfl
  rw [if_pos (wanted_yes e3 (t := 82) (by kernel_rfl) xg)]
  intro K hK
  have x0 := ev_val (v := sv (unionL [S, T])) (cs := (mg8Cs S T M)) mg8_ok hR ho (j := 28) (t := 88) (by rw [F.hz]; kernel_rfl) rfl
  refine opw_call e1 (vs := #[sv (unionL [S, T])]) (by simp only [List.map_toArray, List.map_cons, List.map_nil, x0]) Tryd.func32 (by kernel_rfl) (by kernel_rfl) (Len_any (unionL [S, T]) W) ?_
  rintro e W' ⟨rfl, b⟩
  exact ⟨_, rfl, hK _ _ ⟨_, rfl, rfl⟩ (hI.step b) b⟩
theorem mg8_30 (F : Mg8 a0 w0 base B2 B3 B5 S T M N E) : PO (regionOps Tryd.f5 8) 42 a0 base w0 (mg8Cs S T M) 30 := by
  intro o ho u W hI hR
  obtain ⟨e1, e2, e3⟩ := ob_op ho (show ((regionOps Tryd.f5 8)[30]?).map (fun o => (o.op, o.dst, o.guard)) = some (.binOp .add 3 (.tmp 84) (.tmp 89) 3, some 90, some (22, true)) by kernel_rfl)
  have xg := ev_val (v := .bool true) (cs := (mg8Cs S T M)) mg8_ok hR ho (j := 22) (t := 82) (by rw [F.hz]; kernel_rfl) rfl
  rw [if_pos (wanted_yes e3 (t := 82) (by kernel_rfl) xg)]
  intro K hK
  have x0 := ev_val (v := .int .i64 ((cnt (M) : Nat))) (cs := (mg8Cs S T M)) mg8_ok hR ho (j := 24) (t := 84) (by rw [F.hz]; kernel_rfl) rfl
  have x1 := ev_val (v := .int .i64 ((cnt (unionL [S, T]) : Nat))) (cs := (mg8Cs S T M)) mg8_ok hR ho (j := 29) (t := 89) (by rw [F.hz]; kernel_rfl) rfl
  exact opw_addi e1 x0 x1 F.hs2 (hK _ _ ⟨_, rfl, rfl⟩ hI (Below.refl _ _))
theorem mg8_31 (F : Mg8 a0 w0 base B2 B3 B5 S T M N E) : PO (regionOps Tryd.f5 8) 42 a0 base w0 (mg8Cs S T M) 31 := by
  intro o ho u W hI hR
  obtain ⟨e1, e2, e3⟩ := ob_op ho (show ((regionOps Tryd.f5 8)[31]?).map (fun o => (o.op, o.dst, o.guard)) = some (.load 24 (.tmp 2), some 91, some (22, true)) by kernel_rfl)
  have xg := ev_val (v := .bool true) (cs := (mg8Cs S T M)) mg8_ok hR ho (j := 22) (t := 82) (by rw [F.hz]; kernel_rfl) rfl
  rw [if_pos (wanted_yes e3 (t := 82) (by kernel_rfl) xg)]
  intro K hK
  have x0 := ev_base (u := u) mg8_ok (by kernel_rfl) F.h2
  exact opw_load_set e1 x0 (F.b2.below hI.1 F.l2) (hK _ _ ⟨_, rfl, rfl⟩ hI (Below.refl _ _))
theorem mg8_32 (F : Mg8 a0 w0 base B2 B3 B5 S T M N E) : PO (regionOps Tryd.f5 8) 42 a0 base w0 (mg8Cs S T M) 32 := by
  intro o ho u W hI hR
  obtain ⟨e1, e2, e3⟩ := ob_op ho (show ((regionOps Tryd.f5 8)[32]?).map (fun o => (o.op, o.dst, o.guard)) = some (.call { callee := .value (.func 32), args := #[(.tmp 91)], argTypes := #[24] }, some 92, some (22, true)) by kernel_rfl)
  have xg := ev_val (v := .bool true) (cs := (mg8Cs S T M)) mg8_ok hR ho (j := 22) (t := 82) (by rw [F.hz]; kernel_rfl) rfl
  rw [if_pos (wanted_yes e3 (t := 82) (by kernel_rfl) xg)]
  intro K hK
  have x0 := ev_val (v := sv (S)) (cs := (mg8Cs S T M)) mg8_ok hR ho (j := 31) (t := 91) (by rw [F.hz]; kernel_rfl) rfl
  refine opw_call e1 (vs := #[sv (S)]) (by simp only [List.map_toArray, List.map_cons, List.map_nil, x0]) Tryd.func32 (by kernel_rfl) (by kernel_rfl) (Len_any (S) W) ?_
  rintro e W' ⟨rfl, b⟩
  exact ⟨_, rfl, hK _ _ ⟨_, rfl, rfl⟩ (hI.step b) b⟩
theorem mg8_33 (F : Mg8 a0 w0 base B2 B3 B5 S T M N E) : PO (regionOps Tryd.f5 8) 42 a0 base w0 (mg8Cs S T M) 33 := by
  intro o ho u W hI hR
  obtain ⟨e1, e2, e3⟩ := ob_op ho (show ((regionOps Tryd.f5 8)[33]?).map (fun o => (o.op, o.dst, o.guard)) = some (.load 24 (.tmp 3), some 93, some (22, true)) by kernel_rfl)
  have xg := ev_val (v := .bool true) (cs := (mg8Cs S T M)) mg8_ok hR ho (j := 22) (t := 82) (by rw [F.hz]; kernel_rfl) rfl
  rw [if_pos (wanted_yes e3 (t := 82) (by kernel_rfl) xg)]
  intro K hK
  have x0 := ev_base (u := u) mg8_ok (by kernel_rfl) F.h3
  exact opw_load_set e1 x0 (F.b3.below hI.1 F.l3) (hK _ _ ⟨_, rfl, rfl⟩ hI (Below.refl _ _))
theorem mg8_34 (F : Mg8 a0 w0 base B2 B3 B5 S T M N E) : PO (regionOps Tryd.f5 8) 42 a0 base w0 (mg8Cs S T M) 34 := by
  intro o ho u W hI hR
  obtain ⟨e1, e2, e3⟩ := ob_op ho (show ((regionOps Tryd.f5 8)[34]?).map (fun o => (o.op, o.dst, o.guard)) = some (.call { callee := .value (.func 32), args := #[(.tmp 93)], argTypes := #[24] }, some 94, some (22, true)) by kernel_rfl)
  have xg := ev_val (v := .bool true) (cs := (mg8Cs S T M)) mg8_ok hR ho (j := 22) (t := 82) (by rw [F.hz]; kernel_rfl) rfl
  rw [if_pos (wanted_yes e3 (t := 82) (by kernel_rfl) xg)]
  intro K hK
  have x0 := ev_val (v := sv (T)) (cs := (mg8Cs S T M)) mg8_ok hR ho (j := 33) (t := 93) (by rw [F.hz]; kernel_rfl) rfl
  refine opw_call e1 (vs := #[sv (T)]) (by simp only [List.map_toArray, List.map_cons, List.map_nil, x0]) Tryd.func32 (by kernel_rfl) (by kernel_rfl) (Len_any (T) W) ?_
  rintro e W' ⟨rfl, b⟩
  exact ⟨_, rfl, hK _ _ ⟨_, rfl, rfl⟩ (hI.step b) b⟩
theorem mg8_35 (F : Mg8 a0 w0 base B2 B3 B5 S T M N E) : PO (regionOps Tryd.f5 8) 42 a0 base w0 (mg8Cs S T M) 35 := by
  intro o ho u W hI hR
  obtain ⟨e1, e2, e3⟩ := ob_op ho (show ((regionOps Tryd.f5 8)[35]?).map (fun o => (o.op, o.dst, o.guard)) = some (.binOp .add 3 (.tmp 92) (.tmp 94) 3, some 95, some (22, true)) by kernel_rfl)
  have xg := ev_val (v := .bool true) (cs := (mg8Cs S T M)) mg8_ok hR ho (j := 22) (t := 82) (by rw [F.hz]; kernel_rfl) rfl
  rw [if_pos (wanted_yes e3 (t := 82) (by kernel_rfl) xg)]
  intro K hK
  have x0 := ev_val (v := .int .i64 ((cnt (S) : Nat))) (cs := (mg8Cs S T M)) mg8_ok hR ho (j := 32) (t := 92) (by rw [F.hz]; kernel_rfl) rfl
  have x1 := ev_val (v := .int .i64 ((cnt (T) : Nat))) (cs := (mg8Cs S T M)) mg8_ok hR ho (j := 34) (t := 94) (by rw [F.hz]; kernel_rfl) rfl
  exact opw_addi e1 x0 x1 F.hs3 (hK _ _ ⟨_, rfl, rfl⟩ hI (Below.refl _ _))
theorem mg8_36 (F : Mg8 a0 w0 base B2 B3 B5 S T M N E) : PO (regionOps Tryd.f5 8) 42 a0 base w0 (mg8Cs S T M) 36 := by
  intro o ho u W hI hR
  obtain ⟨e1, e2, e3⟩ := ob_op ho (show ((regionOps Tryd.f5 8)[36]?).map (fun o => (o.op, o.dst, o.guard)) = some (.binOp .eql 3 (.tmp 90) (.tmp 95) 3, some 96, some (22, true)) by kernel_rfl)
  have xg := ev_val (v := .bool true) (cs := (mg8Cs S T M)) mg8_ok hR ho (j := 22) (t := 82) (by rw [F.hz]; kernel_rfl) rfl
  rw [if_pos (wanted_yes e3 (t := 82) (by kernel_rfl) xg)]
  intro K hK
  have x0 := ev_val (v := .int .i64 ((cnt S + cnt T : Nat))) (cs := (mg8Cs S T M)) mg8_ok hR ho (j := 30) (t := 90) (by rw [F.hz]; kernel_rfl) rfl
  have x1 := ev_val (v := .int .i64 ((cnt S + cnt T : Nat))) (cs := (mg8Cs S T M)) mg8_ok hR ho (j := 35) (t := 95) (by rw [F.hz]; kernel_rfl) rfl
  exact opw_eqi e1 x0 x1 (beq_self_eq_true _) (hK _ _ ⟨_, rfl, rfl⟩ hI (Below.refl _ _))
theorem mg8_37 (F : Mg8 a0 w0 base B2 B3 B5 S T M N E) : PO (regionOps Tryd.f5 8) 42 a0 base w0 (mg8Cs S T M) 37 := by
  intro o ho u W hI hR
  obtain ⟨e1, e2, e3⟩ := ob_op ho (show ((regionOps Tryd.f5 8)[37]?).map (fun o => (o.op, o.dst, o.guard)) = some (.pick (.tmp 82) (.tmp 96) (.const (.bool false)), some 97, none) by kernel_rfl)
  rw [if_pos (plan_free e3 _)]
  intro K hK
  have x0 := ev_val (v := .bool true) (cs := (mg8Cs S T M)) mg8_ok hR ho (j := 22) (t := 82) (by rw [F.hz]; kernel_rfl) rfl
  have x1 := ev_val (v := .bool true) (cs := (mg8Cs S T M)) mg8_ok hR ho (j := 36) (t := 96) (by rw [F.hz]; kernel_rfl) rfl
  exact opw_pickT e1 x0 x1 (hK _ _ ⟨_, rfl, rfl⟩ hI (Below.refl _ _))
theorem mg8_38 (F : Mg8 a0 w0 base B2 B3 B5 S T M N E) : PO (regionOps Tryd.f5 8) 42 a0 base w0 (mg8Cs S T M) 38 := by
  intro o ho u W hI hR
  obtain ⟨e1, e2, e3⟩ := ob_op ho (show ((regionOps Tryd.f5 8)[38]?).map (fun o => (o.op, o.dst, o.guard)) = some (.move (.tmp 97), some 98, none) by kernel_rfl)
  rw [if_pos (plan_free e3 _)]
  intro K hK
  have x0 := ev_val (v := .bool true) (cs := (mg8Cs S T M)) mg8_ok hR ho (j := 37) (t := 97) (by rw [F.hz]; kernel_rfl) rfl
  exact opw_move e1 x0 (hK _ _ ⟨_, rfl, rfl⟩ hI (Below.refl _ _))
theorem mg8_39 (F : Mg8 a0 w0 base B2 B3 B5 S T M N E) : PO (regionOps Tryd.f5 8) 42 a0 base w0 (mg8Cs S T M) 39 := by
  intro o ho u W hI hR
  obtain ⟨e1, e2, e3⟩ := ob_op ho (show ((regionOps Tryd.f5 8)[39]?).map (fun o => (o.op, o.dst, o.guard)) = some (.call { callee := .value (.func 19), args := #[], argTypes := #[] }, some 99, some (38, true)) by kernel_rfl)
  have xg := ev_val (v := .bool true) (cs := (mg8Cs S T M)) mg8_ok hR ho (j := 38) (t := 98) (by rw [F.hz]; kernel_rfl) rfl
  rw [if_pos (wanted_yes e3 (t := 98) (by kernel_rfl) xg)]
  intro K hK
  refine opw_call e1 (vs := #[]) (by simp only [List.map_toArray, List.map_nil]) Tryd.func19 (by kernel_rfl) (by kernel_rfl) (awake_any (N := N) (E := E) W (F.hE.below hI.1 F.hN) (Nat.le_trans F.hN hI.2)) ?_
  rintro e W' ⟨rfl, b⟩
  exact ⟨_, rfl, hK _ _ ⟨_, rfl, rfl⟩ (hI.step b) b⟩
theorem mg8_40 (F : Mg8 a0 w0 base B2 B3 B5 S T M N E) : PO (regionOps Tryd.f5 8) 42 a0 base w0 (mg8Cs S T M) 40 := by
  intro o ho u W hI hR
  obtain ⟨e1, e2, e3⟩ := ob_op ho (show ((regionOps Tryd.f5 8)[40]?).map (fun o => (o.op, o.dst, o.guard)) = some (.pick (.tmp 98) (.tmp 99) (.const (.bool false)), some 100, none) by kernel_rfl)
  rw [if_pos (plan_free e3 _)]
  intro K hK
  have x0 := ev_val (v := .bool true) (cs := (mg8Cs S T M)) mg8_ok hR ho (j := 38) (t := 98) (by rw [F.hz]; kernel_rfl) rfl
  have x1 := ev_val (v := .bool true) (cs := (mg8Cs S T M)) mg8_ok hR ho (j := 39) (t := 99) (by rw [F.hz]; kernel_rfl) rfl
  exact opw_pickT e1 x0 x1 (hK _ _ ⟨_, rfl, rfl⟩ hI (Below.refl _ _))
theorem mg8_41 (F : Mg8 a0 w0 base B2 B3 B5 S T M N E) : PO (regionOps Tryd.f5 8) 42 a0 base w0 (mg8Cs S T M) 41 := by
  intro o ho u W hI hR
  obtain ⟨e1, e2, e3⟩ := ob_op ho (show ((regionOps Tryd.f5 8)[41]?).map (fun o => (o.op, o.dst, o.guard)) = some (.assign (.tmp 100), some 4, none) by kernel_rfl)
  rw [if_pos (plan_free e3 _)]
  intro K hK
  have x0 := ev_val (v := .bool true) (cs := (mg8Cs S T M)) mg8_ok hR ho (j := 40) (t := 100) (by rw [F.hz]; kernel_rfl) rfl
  exact opw_assign e1 x0 (hK _ _ ⟨_, rfl, rfl⟩ hI (Below.refl _ _))
theorem mg8_all (F : Mg8 a0 w0 base B2 B3 B5 S T M N E) : ∀ i, i < 42 → PO (regionOps Tryd.f5 8) 42 a0 base w0 (mg8Cs S T M) i
  | 0, _ => mg8_0 F
  | 1, _ => mg8_1 F
  | 2, _ => mg8_2 F
  | 3, _ => mg8_3 F
  | 4, _ => mg8_4 F
  | 5, _ => mg8_5 F
  | 6, _ => mg8_6 F
  | 7, _ => mg8_7 F
  | 8, _ => mg8_8 F
  | 9, _ => mg8_9 F
  | 10, _ => mg8_10 F
  | 11, _ => mg8_11 F
  | 12, _ => mg8_12 F
  | 13, _ => mg8_13 F
  | 14, _ => mg8_14 F
  | 15, _ => mg8_15 F
  | 16, _ => mg8_16 F
  | 17, _ => mg8_17 F
  | 18, _ => mg8_18 F
  | 19, _ => mg8_19 F
  | 20, _ => mg8_20 F
  | 21, _ => mg8_21 F
  | 22, _ => mg8_22 F
  | 23, _ => mg8_23 F
  | 24, _ => mg8_24 F
  | 25, _ => mg8_25 F
  | 26, _ => mg8_26 F
  | 27, _ => mg8_27 F
  | 28, _ => mg8_28 F
  | 29, _ => mg8_29 F
  | 30, _ => mg8_30 F
  | 31, _ => mg8_31 F
  | 32, _ => mg8_32 F
  | 33, _ => mg8_33 F
  | 34, _ => mg8_34 F
  | 35, _ => mg8_35 F
  | 36, _ => mg8_36 F
  | 37, _ => mg8_37 F
  | 38, _ => mg8_38 F
  | 39, _ => mg8_39 F
  | 40, _ => mg8_40 F
  | 41, _ => mg8_41 F
  | i + 42, h => absurd h (by omega)
theorem mg8_plan : planOf (regionOps Tryd.f5 8) (upto 42) = [(some 60, 0), (some 61, 1), (some 62, 2), (some 63, 3), (some 64, 4), (some 65, 5), (some 66, 6), (some 67, 7), (some 68, 8), (some 69, 9), (some 70, 10), (some 71, 11), (some 72, 12), (some 73, 13), (some 74, 14), (some 75, 15), (some 76, 16), (some 77, 17), (some 78, 18), (some 79, 19), (some 80, 20), (some 81, 21), (some 82, 22), (some 83, 23), (some 84, 24), (some 85, 25), (some 86, 26), (some 87, 27), (some 88, 28), (some 89, 29), (some 90, 30), (some 91, 31), (some 92, 32), (some 93, 33), (some 94, 34), (some 95, 35), (some 96, 36), (some 97, 37), (some 98, 38), (some 99, 39), (some 100, 40), (some 4, 41)] := by kernel_rfl
theorem mg8_wp {id : Nat} {Q : Exit → Act → World → Prop} (F : Mg8 a0 w0 base B2 B3 B5 S T M N E) (hb : base ≤ w0.heap.size)
    (hq : ∀ (u : Nat → Value) (W : World), u 41 = .bool true → Below base w0 W → Q .normal (putL (planOf (regionOps Tryd.f5 8) (upto 42)) u a0) W) :
    (Code.region id (regionOps Tryd.f5 8) true).wp Tryd.prog Q a0 w0 := by
  refine wp_plan_cl 42 0 (mg8Cs S T M) mg8_ok (by kernel_rfl) hb (mg8_all F) fun u W hI1 hI2 hR => ?_
  refine ⟨by kernel_rfl, hq u W ?_ hI1⟩
  obtain ⟨c, hc, h⟩ := hR 41 (of_decide_eq_true (by kernel_rfl)) (by decide)
  cases hc
  exact h
end Go.Proofs.YteeopjgfiojoiaaDoor
