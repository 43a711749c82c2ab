/- What SetTurned tells at its end: whatever order is drawn, it is true. Conditions: the sets lie in memory, and the errors' variables. -/
import Derived.Test.YteeopjgfiojoiaaDoorBk19
import Derived.Test.YteeopjgfiojoiaaDoorBrt
namespace Go.Proofs.YteeopjgfiojoiaaDoor
open Go Go.RowKit SN

structure Tn12 (a0 : Act) (w0 : World) (base B8 B11 B16 S k N : Nat) (E : Nat → Addr) : Prop where
  hz : a0.tmps.size = 119
  h8 : a0.eval (.tmp 8) = .pointer (some ⟨B8, 0, none⟩)
  h11 : a0.eval (.tmp 11) = .pointer (some ⟨B11, 0, none⟩)
  h16 : a0.eval (.tmp 16) = .pointer (some ⟨B16, 0, none⟩)
  h9 : a0.eval (.tmp 9) = .int .i64 ((k : Nat) : Int)
  h12 : a0.eval (.tmp 12) = .int .i64 ((k + 1 : Nat) : Int)
  h17 : a0.eval (.tmp 17) = .int .i64 ((k : Nat) : Int)
  h13 : a0.eval (.tmp 13) = .nilIface
  h18 : a0.eval (.tmp 18) = .nilIface
  b8 : IsSet 24 w0 B8 S
  b11 : IsSet 24 w0 B11 (cmpl S)
  b16 : IsSet 24 w0 B16 S
  l8 : B8 < base
  l11 : B11 < base
  l16 : B16 < base
  oS : Ok S
  hk : k < 10000000
  hE : Errs N E w0
  hN : N ≤ base
variable {a0 : Act} {w0 : World} {base B8 B11 B16 S k N : Nat} {E : Nat → Addr}
def tn12Cs (S k : Nat) : List Claim := [.val (.nilIface), .val (.bool true), .val (.bool true), .val (.nilIface), .val (.bool true), .val (.bool true), .val (.bool true), .val (sv (cmpl (S))), .val (sv (S)), .val (sv (cmpl (S))), .val (.bool true), .val (.bool true), .val (.bool true), .val (.int .i64 (((k + 1 : Nat) : Int))), .val (.int .i64 (((k : Nat) : Int))), .val (.int .i64 (((k + 1 : Nat) : Int))), .val (.bool true), .val (.bool true), .val (.bool true), .val (sv (S)), .val (sv (S)), .val (.bool true), .val (.bool true), .val (.bool true), .val (.int .i64 (((k : Nat) : Int))), .val (.int .i64 (((k : Nat) : Int))), .val (.bool true), .val (.bool true), .val (.bool true), .val (.bool true), .val (.bool true), .val (.bool true)]
theorem tn12_ok : planOk .any (regionOps Tryd.f12 12) (upto 32) = true := by kernel_rfl
theorem tn12_0 (F : Tn12 a0 w0 base B8 B11 B16 S k N E) : PO (regionOps Tryd.f12 12) 32 a0 base w0 (tn12Cs S k) 0 := by
  intro o ho u W hI hR
  obtain ⟨e1, e2, e3⟩ := ob_op ho (show ((regionOps Tryd.f12 12)[0]?).map (fun o => (o.op, o.dst, o.guard)) = some (.move (.tmp 13), some 88, none) by kernel_rfl)
  rw [if_pos (plan_free e3 _)]
  intro K hK
  have x0 := ev_base (u := u) tn12_ok (by kernel_rfl) F.h13
  exact opw_move e1 x0 (hK _ _ ⟨_, rfl, rfl⟩ hI (Below.refl _ _))
theorem tn12_1 (F : Tn12 a0 w0 base B8 B11 B16 S k N E) : PO (regionOps Tryd.f12 12) 32 a0 base w0 (tn12Cs S k) 1 := by
  intro o ho u W hI hR
  obtain ⟨e1, e2, e3⟩ := ob_op ho (show ((regionOps Tryd.f12 12)[1]?).map (fun o => (o.op, o.dst, o.guard)) = some (.binOp .eql 46 (.tmp 88) (.const .nilIface) 46, some 89, none) by kernel_rfl)
  rw [if_pos (plan_free e3 _)]
  intro K hK
  have x0 := ev_val (v := .nilIface) (cs := (tn12Cs S k)) tn12_ok hR ho (j := 0) (t := 88) (by rw [F.hz]; kernel_rfl) rfl
  have x1 : (putL (planOf (regionOps Tryd.f12 12) (upto 32)) u a0).eval (.const .nilIface) = .nilIface := rfl
  exact opw_bin e1 x0 x1 (eqnilGuard _ W) (run_eqnil W) (hK _ _ ⟨_, rfl, rfl⟩ hI (Below.refl _ _))
theorem tn12_2 (F : Tn12 a0 w0 base B8 B11 B16 S k N E) : PO (regionOps Tryd.f12 12) 32 a0 base w0 (tn12Cs S k) 2 := by
  intro o ho u W hI hR
  obtain ⟨e1, e2, e3⟩ := ob_op ho (show ((regionOps Tryd.f12 12)[2]?).map (fun o => (o.op, o.dst, o.guard)) = some (.move (.tmp 89), some 90, none) by kernel_rfl)
  rw [if_pos (plan_free e3 _)]
  intro K hK
  have x0 := ev_val (v := .bool true) (cs := (tn12Cs S k)) tn12_ok hR ho (j := 1) (t := 89) (by rw [F.hz]; kernel_rfl) rfl
  exact opw_move e1 x0 (hK _ _ ⟨_, rfl, rfl⟩ hI (Below.refl _ _))
theorem tn12_3 (F : Tn12 a0 w0 base B8 B11 B16 S k N E) : PO (regionOps Tryd.f12 12) 32 a0 base w0 (tn12Cs S k) 3 := by
  intro o ho u W hI hR
  obtain ⟨e1, e2, e3⟩ := ob_op ho (show ((regionOps Tryd.f12 12)[3]?).map (fun o => (o.op, o.dst, o.guard)) = some (.move (.tmp 18), some 91, some (2, true)) by kernel_rfl)
  have xg := ev_val (v := .bool true) (cs := (tn12Cs S k)) tn12_ok hR ho (j := 2) (t := 90) (by rw [F.hz]; kernel_rfl) rfl
  rw [if_pos (wanted_yes e3 (t := 90) (by kernel_rfl) xg)]
  intro K hK
  have x0 := ev_base (u := u) tn12_ok (by kernel_rfl) F.h18
  exact opw_move e1 x0 (hK _ _ ⟨_, rfl, rfl⟩ hI (Below.refl _ _))
theorem tn12_4 (F : Tn12 a0 w0 base B8 B11 B16 S k N E) : PO (regionOps Tryd.f12 12) 32 a0 base w0 (tn12Cs S k) 4 := by
  intro o ho u W hI hR
  obtain ⟨e1, e2, e3⟩ := ob_op ho (show ((regionOps Tryd.f12 12)[4]?).map (fun o => (o.op, o.dst, o.guard)) = some (.binOp .eql 46 (.tmp 91) (.const .nilIface) 46, some 92, some (2, true)) by kernel_rfl)
  have xg := ev_val (v := .bool true) (cs := (tn12Cs S k)) tn12_ok hR ho (j := 2) (t := 90) (by rw [F.hz]; kernel_rfl) rfl
  rw [if_pos (wanted_yes e3 (t := 90) (by kernel_rfl) xg)]
  intro K hK
  have x0 := ev_val (v := .nilIface) (cs := (tn12Cs S k)) tn12_ok hR ho (j := 3) (t := 91) (by rw [F.hz]; kernel_rfl) rfl
  have x1 : (putL (planOf (regionOps Tryd.f12 12) (upto 32)) u a0).eval (.const .nilIface) = .nilIface := rfl
  exact opw_bin e1 x0 x1 (eqnilGuard _ W) (run_eqnil W) (hK _ _ ⟨_, rfl, rfl⟩ hI (Below.refl _ _))
theorem tn12_5 (F : Tn12 a0 w0 base B8 B11 B16 S k N E) : PO (regionOps Tryd.f12 12) 32 a0 base w0 (tn12Cs S k) 5 := by
  intro o ho u W hI hR
  obtain ⟨e1, e2, e3⟩ := ob_op ho (show ((regionOps Tryd.f12 12)[5]?).map (fun o => (o.op, o.dst, o.guard)) = some (.pick (.tmp 90) (.tmp 92) (.const (.bool false)), some 93, none) by kernel_rfl)
  rw [if_pos (plan_free e3 _)]
  intro K hK
  have x0 := ev_val (v := .bool true) (cs := (tn12Cs S k)) tn12_ok hR ho (j := 2) (t := 90) (by rw [F.hz]; kernel_rfl) rfl
  have x1 := ev_val (v := .bool true) (cs := (tn12Cs S k)) tn12_ok hR ho (j := 4) (t := 92) (by rw [F.hz]; kernel_rfl) rfl
  exact opw_pickT e1 x0 x1 (hK _ _ ⟨_, rfl, rfl⟩ hI (Below.refl _ _))
theorem tn12_6 (F : Tn12 a0 w0 base B8 B11 B16 S k N E) : PO (regionOps Tryd.f12 12) 32 a0 base w0 (tn12Cs S k) 6 := by
  intro o ho u W hI hR
  obtain ⟨e1, e2, e3⟩ := ob_op ho (show ((regionOps Tryd.f12 12)[6]?).map (fun o => (o.op, o.dst, o.guard)) = some (.move (.tmp 93), some 94, none) by kernel_rfl)
  rw [if_pos (plan_free e3 _)]
  intro K hK
  have x0 := ev_val (v := .bool true) (cs := (tn12Cs S k)) tn12_ok hR ho (j := 5) (t := 93) (by rw [F.hz]; kernel_rfl) rfl
  exact opw_move e1 x0 (hK _ _ ⟨_, rfl, rfl⟩ hI (Below.refl _ _))
theorem tn12_7 (F : Tn12 a0 w0 base B8 B11 B16 S k N E) : PO (regionOps Tryd.f12 12) 32 a0 base w0 (tn12Cs S k) 7 := by
  intro o ho u W hI hR
  obtain ⟨e1, e2, e3⟩ := ob_op ho (show ((regionOps Tryd.f12 12)[7]?).map (fun o => (o.op, o.dst, o.guard)) = some (.load 24 (.tmp 11), some 95, some (6, true)) by kernel_rfl)
  have xg := ev_val (v := .bool true) (cs := (tn12Cs S k)) tn12_ok hR ho (j := 6) (t := 94) (by rw [F.hz]; kernel_rfl) rfl
  rw [if_pos (wanted_yes e3 (t := 94) (by kernel_rfl) xg)]
  intro K hK
  have x0 := ev_base (u := u) tn12_ok (by kernel_rfl) F.h11
  exact opw_load_set e1 x0 (F.b11.below hI.1 F.l11) (hK _ _ ⟨_, rfl, rfl⟩ hI (Below.refl _ _))
theorem tn12_8 (F : Tn12 a0 w0 base B8 B11 B16 S k N E) : PO (regionOps Tryd.f12 12) 32 a0 base w0 (tn12Cs S k) 8 := by
  intro o ho u W hI hR
  obtain ⟨e1, e2, e3⟩ := ob_op ho (show ((regionOps Tryd.f12 12)[8]?).map (fun o => (o.op, o.dst, o.guard)) = some (.load 24 (.tmp 8), some 96, some (6, true)) by kernel_rfl)
  have xg := ev_val (v := .bool true) (cs := (tn12Cs S k)) tn12_ok hR ho (j := 6) (t := 94) (by rw [F.hz]; kernel_rfl) rfl
  rw [if_pos (wanted_yes e3 (t := 94) (by kernel_rfl) xg)]
  intro K hK
  have x0 := ev_base (u := u) tn12_ok (by kernel_rfl) F.h8
  exact opw_load_set e1 x0 (F.b8.below hI.1 F.l8) (hK _ _ ⟨_, rfl, rfl⟩ hI (Below.refl _ _))
theorem tn12_9 (F : Tn12 a0 w0 base B8 B11 B16 S k N E) : PO (regionOps Tryd.f12 12) 32 a0 base w0 (tn12Cs S k) 9 := by
  intro o ho u W hI hR
  obtain ⟨e1, e2, e3⟩ := ob_op ho (show ((regionOps Tryd.f12 12)[9]?).map (fun o => (o.op, o.dst, o.guard)) = some (.call { callee := .value (.func 25), args := #[(.tmp 96)], argTypes := #[24] }, some 97, some (6, true)) by kernel_rfl)
  have xg := ev_val (v := .bool true) (cs := (tn12Cs S k)) tn12_ok hR ho (j := 6) (t := 94) (by rw [F.hz]; kernel_rfl) rfl
  rw [if_pos (wanted_yes e3 (t := 94) (by kernel_rfl) xg)]
  intro K hK
  have x0 := ev_val (v := sv (S)) (cs := (tn12Cs S k)) tn12_ok hR ho (j := 8) (t := 96) (by rw [F.hz]; kernel_rfl) rfl
  refine opw_call e1 (vs := #[sv (S)]) (by simp only [List.map_toArray, List.map_cons, List.map_nil, x0]) Tryd.func25 (by kernel_rfl) (by kernel_rfl) (Not_any (S) W) ?_
  rintro e W' ⟨rfl, b⟩
  exact ⟨_, rfl, hK _ _ ⟨_, rfl, rfl⟩ (hI.step b) b⟩
theorem tn12_10 (F : Tn12 a0 w0 base B8 B11 B16 S k N E) : PO (regionOps Tryd.f12 12) 32 a0 base w0 (tn12Cs S k) 10 := by
  intro o ho u W hI hR
  obtain ⟨e1, e2, e3⟩ := ob_op ho (show ((regionOps Tryd.f12 12)[10]?).map (fun o => (o.op, o.dst, o.guard)) = some (.binOp .eql 24 (.tmp 95) (.tmp 97) 24, some 98, some (6, true)) by kernel_rfl)
  have xg := ev_val (v := .bool true) (cs := (tn12Cs S k)) tn12_ok hR ho (j := 6) (t := 94) (by rw [F.hz]; kernel_rfl) rfl
  rw [if_pos (wanted_yes e3 (t := 94) (by kernel_rfl) xg)]
  intro K hK
  have x0 := ev_val (v := sv (cmpl (S))) (cs := (tn12Cs S k)) tn12_ok hR ho (j := 7) (t := 95) (by rw [F.hz]; kernel_rfl) rfl
  have x1 := ev_val (v := sv (cmpl (S))) (cs := (tn12Cs S k)) tn12_ok hR ho (j := 9) (t := 97) (by rw [F.hz]; kernel_rfl) rfl
  exact opw_eqs e1 (ok_cmpl F.oS) (ok_cmpl F.oS) x0 x1 (decide_eq_true rfl) (hK _ _ ⟨_, rfl, rfl⟩ hI (Below.refl _ _))
theorem tn12_11 (F : Tn12 a0 w0 base B8 B11 B16 S k N E) : PO (regionOps Tryd.f12 12) 32 a0 base w0 (tn12Cs S k) 11 := by
  intro o ho u W hI hR
  obtain ⟨e1, e2, e3⟩ := ob_op ho (show ((regionOps Tryd.f12 12)[11]?).map (fun o => (o.op, o.dst, o.guard)) = some (.pick (.tmp 94) (.tmp 98) (.const (.bool false)), some 99, none) by kernel_rfl)
  rw [if_pos (plan_free e3 _)]
  intro K hK
  have x0 := ev_val (v := .bool true) (cs := (tn12Cs S k)) tn12_ok hR ho (j := 6) (t := 94) (by rw [F.hz]; kernel_rfl) rfl
  have x1 := ev_val (v := .bool true) (cs := (tn12Cs S k)) tn12_ok hR ho (j := 10) (t := 98) (by rw [F.hz]; kernel_rfl) rfl
  exact opw_pickT e1 x0 x1 (hK _ _ ⟨_, rfl, rfl⟩ hI (Below.refl _ _))
theorem tn12_12 (F : Tn12 a0 w0 base B8 B11 B16 S k N E) : PO (regionOps Tryd.f12 12) 32 a0 base w0 (tn12Cs S k) 12 := by
  intro o ho u W hI hR
  obtain ⟨e1, e2, e3⟩ := ob_op ho (show ((regionOps Tryd.f12 12)[12]?).map (fun o => (o.op, o.dst, o.guard)) = some (.move (.tmp 99), some 100, none) by kernel_rfl)
  rw [if_pos (plan_free e3 _)]
  intro K hK
  have x0 := ev_val (v := .bool true) (cs := (tn12Cs S k)) tn12_ok hR ho (j := 11) (t := 99) (by rw [F.hz]; kernel_rfl) rfl
  exact opw_move e1 x0 (hK _ _ ⟨_, rfl, rfl⟩ hI (Below.refl _ _))
theorem tn12_13 (F : Tn12 a0 w0 base B8 B11 B16 S k N E) : PO (regionOps Tryd.f12 12) 32 a0 base w0 (tn12Cs S k) 13 := by
  intro o ho u W hI hR
  obtain ⟨e1, e2, e3⟩ := ob_op ho (show ((regionOps Tryd.f12 12)[13]?).map (fun o => (o.op, o.dst, o.guard)) = some (.move (.tmp 12), some 101, some (12, true)) by kernel_rfl)
  have xg := ev_val (v := .bool true) (cs := (tn12Cs S k)) tn12_ok hR ho (j := 12) (t := 100) (by rw [F.hz]; kernel_rfl) rfl
  rw [if_pos (wanted_yes e3 (t := 100) (by kernel_rfl) xg)]
  intro K hK
  have x0 := ev_base (u := u) tn12_ok (by kernel_rfl) F.h12
  exact opw_move e1 x0 (hK _ _ ⟨_, rfl, rfl⟩ hI (Below.refl _ _))
theorem tn12_14 (F : Tn12 a0 w0 base B8 B11 B16 S k N E) : PO (regionOps Tryd.f12 12) 32 a0 base w0 (tn12Cs S k) 14 := by
  intro o ho u W hI hR
  obtain ⟨e1, e2, e3⟩ := ob_op ho (show ((regionOps Tryd.f12 12)[14]?).map (fun o => (o.op, o.dst, o.guard)) = some (.move (.tmp 9), some 102, some (12, true)) by kernel_rfl)
  have xg := ev_val (v := .bool true) (cs := (tn12Cs S k)) tn12_ok hR ho (j := 12) (t := 100) (by rw [F.hz]; kernel_rfl) rfl
  rw [if_pos (wanted_yes e3 (t := 100) (by kernel_rfl) xg)]
  intro K hK
  have x0 := ev_base (u := u) tn12_ok (by kernel_rfl) F.h9
  exact opw_move e1 x0 (hK _ _ ⟨_, rfl, rfl⟩ hI (Below.refl _ _))
theorem tn12_15 (F : Tn12 a0 w0 base B8 B11 B16 S k N E) : PO (regionOps Tryd.f12 12) 32 a0 base w0 (tn12Cs S k) 15 := by
  intro o ho u W hI hR
  obtain ⟨e1, e2, e3⟩ := ob_op ho (show ((regionOps Tryd.f12 12)[15]?).map (fun o => (o.op, o.dst, o.guard)) = some (.binOp .add 3 (.tmp 102) (.const (.int .i64 1)) 3, some 103, some (12, true)) by kernel_rfl)
  have xg := ev_val (v := .bool true) (cs := (tn12Cs S k)) tn12_ok hR ho (j := 12) (t := 100) (by rw [F.hz]; kernel_rfl) rfl
  rw [if_pos (wanted_yes e3 (t := 100) (by kernel_rfl) xg)]
  intro K hK
  have x0 := ev_val (v := .int .i64 (((k : Nat) : Int))) (cs := (tn12Cs S k)) tn12_ok hR ho (j := 14) (t := 102) (by rw [F.hz]; kernel_rfl) rfl
  have x1 : (putL (planOf (regionOps Tryd.f12 12) (upto 32)) u a0).eval (.const (.int .i64 1)) = .int .i64 (1) := rfl
  exact opw_addi e1 x0 x1 (by have := F.hk; rw [IntKind.wrap_i64]; omega) (hK _ _ ⟨_, rfl, rfl⟩ hI (Below.refl _ _))
theorem tn12_16 (F : Tn12 a0 w0 base B8 B11 B16 S k N E) : PO (regionOps Tryd.f12 12) 32 a0 base w0 (tn12Cs S k) 16 := by
  intro o ho u W hI hR
  obtain ⟨e1, e2, e3⟩ := ob_op ho (show ((regionOps Tryd.f12 12)[16]?).map (fun o => (o.op, o.dst, o.guard)) = some (.binOp .eql 3 (.tmp 101) (.tmp 103) 3, some 104, some (12, true)) by kernel_rfl)
  have xg := ev_val (v := .bool true) (cs := (tn12Cs S k)) tn12_ok hR ho (j := 12) (t := 100) (by rw [F.hz]; kernel_rfl) rfl
  rw [if_pos (wanted_yes e3 (t := 100) (by kernel_rfl) xg)]
  intro K hK
  have x0 := ev_val (v := .int .i64 (((k + 1 : Nat) : Int))) (cs := (tn12Cs S k)) tn12_ok hR ho (j := 13) (t := 101) (by rw [F.hz]; kernel_rfl) rfl
  have x1 := ev_val (v := .int .i64 (((k + 1 : Nat) : Int))) (cs := (tn12Cs S k)) tn12_ok hR ho (j := 15) (t := 103) (by rw [F.hz]; kernel_rfl) rfl
  exact opw_eqi e1 x0 x1 (beq_self_eq_true _) (hK _ _ ⟨_, rfl, rfl⟩ hI (Below.refl _ _))
theorem tn12_17 (F : Tn12 a0 w0 base B8 B11 B16 S k N E) : PO (regionOps Tryd.f12 12) 32 a0 base w0 (tn12Cs S k) 17 := by
  intro o ho u W hI hR
  obtain ⟨e1, e2, e3⟩ := ob_op ho (show ((regionOps Tryd.f12 12)[17]?).map (fun o => (o.op, o.dst, o.guard)) = some (.pick (.tmp 100) (.tmp 104) (.const (.bool false)), some 105, none) by kernel_rfl)
  rw [if_pos (plan_free e3 _)]
  intro K hK
  have x0 := ev_val (v := .bool true) (cs := (tn12Cs S k)) tn12_ok hR ho (j := 12) (t := 100) (by rw [F.hz]; kernel_rfl) rfl
  have x1 := ev_val (v := .bool true) (cs := (tn12Cs S k)) tn12_ok hR ho (j := 16) (t := 104) (by rw [F.hz]; kernel_rfl) rfl
  exact opw_pickT e1 x0 x1 (hK _ _ ⟨_, rfl, rfl⟩ hI (Below.refl _ _))
theorem tn12_18 (F : Tn12 a0 w0 base B8 B11 B16 S k N E) : PO (regionOps Tryd.f12 12) 32 a0 base w0 (tn12Cs S k) 18 := by
  intro o ho u W hI hR
  obtain ⟨e1, e2, e3⟩ := ob_op ho (show ((regionOps Tryd.f12 12)[18]?).map (fun o => (o.op, o.dst, o.guard)) = some (.move (.tmp 105), some 106, none) by kernel_rfl)
  rw [if_pos (plan_free e3 _)]
  intro K hK
  have x0 := ev_val (v := .bool true) (cs := (tn12Cs S k)) tn12_ok hR ho (j := 17) (t := 105) (by rw [F.hz]; kernel_rfl) rfl
  exact opw_move e1 x0 (hK _ _ ⟨_, rfl, rfl⟩ hI (Below.refl _ _))
theorem tn12_19 (F : Tn12 a0 w0 base B8 B11 B16 S k N E) : PO (regionOps Tryd.f12 12) 32 a0 base w0 (tn12Cs S k) 19 := by
  intro o ho u W hI hR
  obtain ⟨e1, e2, e3⟩ := ob_op ho (show ((regionOps Tryd.f12 12)[19]?).map (fun o => (o.op, o.dst, o.guard)) = some (.load 24 (.tmp 16), some 107, some (18, true)) by kernel_rfl)
  have xg := ev_val (v := .bool true) (cs := (tn12Cs S k)) tn12_ok hR ho (j := 18) (t := 106) (by rw [F.hz]; kernel_rfl) rfl
  rw [if_pos (wanted_yes e3 (t := 106) (by kernel_rfl) xg)]
  intro K hK
  have x0 := ev_base (u := u) tn12_ok (by kernel_rfl) F.h16
  exact opw_load_set e1 x0 (F.b16.below hI.1 F.l16) (hK _ _ ⟨_, rfl, rfl⟩ hI (Below.refl _ _))
theorem tn12_20 (F : Tn12 a0 w0 base B8 B11 B16 S k N E) : PO (regionOps Tryd.f12 12) 32 a0 base w0 (tn12Cs S k) 20 := by
  intro o ho u W hI hR
  obtain ⟨e1, e2, e3⟩ := ob_op ho (show ((regionOps Tryd.f12 12)[20]?).map (fun o => (o.op, o.dst, o.guard)) = some (.load 24 (.tmp 8), some 108, some (18, true)) by kernel_rfl)
  have xg := ev_val (v := .bool true) (cs := (tn12Cs S k)) tn12_ok hR ho (j := 18) (t := 106) (by rw [F.hz]; kernel_rfl) rfl
  rw [if_pos (wanted_yes e3 (t := 106) (by kernel_rfl) xg)]
  intro K hK
  have x0 := ev_base (u := u) tn12_ok (by kernel_rfl) F.h8
  exact opw_load_set e1 x0 (F.b8.below hI.1 F.l8) (hK _ _ ⟨_, rfl, rfl⟩ hI (Below.refl _ _))
theorem tn12_21 (F : Tn12 a0 w0 base B8 B11 B16 S k N E) : PO (regionOps Tryd.f12 12) 32 a0 base w0 (tn12Cs S k) 21 := by
  intro o ho u W hI hR
  obtain ⟨e1, e2, e3⟩ := ob_op ho (show ((regionOps Tryd.f12 12)[21]?).map (fun o => (o.op, o.dst, o.guard)) = some (.binOp .eql 24 (.tmp 107) (.tmp 108) 24, some 109, some (18, true)) by kernel_rfl)
  have xg := ev_val (v := .bool true) (cs := (tn12Cs S k)) tn12_ok hR ho (j := 18) (t := 106) (by rw [F.hz]; kernel_rfl) rfl
  rw [if_pos (wanted_yes e3 (t := 106) (by kernel_rfl) xg)]
  intro K hK
  have x0 := ev_val (v := sv (S)) (cs := (tn12Cs S k)) tn12_ok hR ho (j := 19) (t := 107) (by rw [F.hz]; kernel_rfl) rfl
  have x1 := ev_val (v := sv (S)) (cs := (tn12Cs S k)) tn12_ok hR ho (j := 20) (t := 108) (by rw [F.hz]; kernel_rfl) rfl
  exact opw_eqs e1 F.oS F.oS x0 x1 (decide_eq_true rfl) (hK _ _ ⟨_, rfl, rfl⟩ hI (Below.refl _ _))
theorem tn12_22 (F : Tn12 a0 w0 base B8 B11 B16 S k N E) : PO (regionOps Tryd.f12 12) 32 a0 base w0 (tn12Cs S k) 22 := by
  intro o ho u W hI hR
  obtain ⟨e1, e2, e3⟩ := ob_op ho (show ((regionOps Tryd.f12 12)[22]?).map (fun o => (o.op, o.dst, o.guard)) = some (.pick (.tmp 106) (.tmp 109) (.const (.bool false)), some 110, none) by kernel_rfl)
  rw [if_pos (plan_free e3 _)]
  intro K hK
  have x0 := ev_val (v := .bool true) (cs := (tn12Cs S k)) tn12_ok hR ho (j := 18) (t := 106) (by rw [F.hz]; kernel_rfl) rfl
  have x1 := ev_val (v := .bool true) (cs := (tn12Cs S k)) tn12_ok hR ho (j := 21) (t := 109) (by rw [F.hz]; kernel_rfl) rfl
  exact opw_pickT e1 x0 x1 (hK _ _ ⟨_, rfl, rfl⟩ hI (Below.refl _ _))
theorem tn12_23 (F : Tn12 a0 w0 base B8 B11 B16 S k N E) : PO (regionOps Tryd.f12 12) 32 a0 base w0 (tn12Cs S k) 23 := by
  intro o ho u W hI hR
  obtain ⟨e1, e2, e3⟩ := ob_op ho (show ((regionOps Tryd.f12 12)[23]?).map (fun o => (o.op, o.dst, o.guard)) = some (.move (.tmp 110), some 111, none) by kernel_rfl)
  rw [if_pos (plan_free e3 _)]
  intro K hK
  have x0 := ev_val (v := .bool true) (cs := (tn12Cs S k)) tn12_ok hR ho (j := 22) (t := 110) (by rw [F.hz]; kernel_rfl) rfl
  exact opw_move e1 x0 (hK _ _ ⟨_, rfl, rfl⟩ hI (Below.refl _ _))
theorem tn12_24 (F : Tn12 a0 w0 base B8 B11 B16 S k N E) : PO (regionOps Tryd.f12 12) 32 a0 base w0 (tn12Cs S k) 24 := by
  intro o ho u W hI hR
  obtain ⟨e1, e2, e3⟩ := ob_op ho (show ((regionOps Tryd.f12 12)[24]?).map (fun o => (o.op, o.dst, o.guard)) = some (.move (.tmp 17), some 112, some (23, true)) by kernel_rfl)
  have xg := ev_val (v := .bool true) (cs := (tn12Cs S k)) tn12_ok hR ho (j := 23) (t := 111) (by rw [F.hz]; kernel_rfl) rfl
  rw [if_pos (wanted_yes e3 (t := 111) (by kernel_rfl) xg)]
  intro K hK
  have x0 := ev_base (u := u) tn12_ok (by kernel_rfl) F.h17
  exact opw_move e1 x0 (hK _ _ ⟨_, rfl, rfl⟩ hI (Below.refl _ _))
theorem tn12_25 (F : Tn12 a0 w0 base B8 B11 B16 S k N E) : PO (regionOps Tryd.f12 12) 32 a0 base w0 (tn12Cs S k) 25 := by
  intro o ho u W hI hR
  obtain ⟨e1, e2, e3⟩ := ob_op ho (show ((regionOps Tryd.f12 12)[25]?).map (fun o => (o.op, o.dst, o.guard)) = some (.move (.tmp 9), some 113, some (23, true)) by kernel_rfl)
  have xg := ev_val (v := .bool true) (cs := (tn12Cs S k)) tn12_ok hR ho (j := 23) (t := 111) (by rw [F.hz]; kernel_rfl) rfl
  rw [if_pos (wanted_yes e3 (t := 111) (by kernel_rfl) xg)]
  intro K hK
  have x0 := ev_base (u := u) tn12_ok (by kernel_rfl) F.h9
  exact opw_move e1 x0 (hK _ _ ⟨_, rfl, rfl⟩ hI (Below.refl _ _))
theorem tn12_26 (F : Tn12 a0 w0 base B8 B11 B16 S k N E) : PO (regionOps Tryd.f12 12) 32 a0 base w0 (tn12Cs S k) 26 := by
  intro o ho u W hI hR
  obtain ⟨e1, e2, e3⟩ := ob_op ho (show ((regionOps Tryd.f12 12)[26]?).map (fun o => (o.op, o.dst, o.guard)) = some (.binOp .eql 3 (.tmp 112) (.tmp 113) 3, some 114, some (23, true)) by kernel_rfl)
  have xg := ev_val (v := .bool true) (cs := (tn12Cs S k)) tn12_ok hR ho (j := 23) (t := 111) (by rw [F.hz]; kernel_rfl) rfl
  rw [if_pos (wanted_yes e3 (t := 111) (by kernel_rfl) xg)]
  intro K hK
  have x0 := ev_val (v := .int .i64 (((k : Nat) : Int))) (cs := (tn12Cs S k)) tn12_ok hR ho (j := 24) (t := 112) (by rw [F.hz]; kernel_rfl) rfl
  have x1 := ev_val (v := .int .i64 (((k : Nat) : Int))) (cs := (tn12Cs S k)) tn12_ok hR ho (j := 25) (t := 113) (by rw [F.hz]; kernel_rfl) rfl
  exact opw_eqi e1 x0 x1 (beq_self_eq_true _) (hK _ _ ⟨_, rfl, rfl⟩ hI (Below.refl _ _))
theorem tn12_27 (F : Tn12 a0 w0 base B8 B11 B16 S k N E) : PO (regionOps Tryd.f12 12) 32 a0 base w0 (tn12Cs S k) 27 := by
  intro o ho u W hI hR
  obtain ⟨e1, e2, e3⟩ := ob_op ho (show ((regionOps Tryd.f12 12)[27]?).map (fun o => (o.op, o.dst, o.guard)) = some (.pick (.tmp 111) (.tmp 114) (.const (.bool false)), some 115, none) by kernel_rfl)
  rw [if_pos (plan_free e3 _)]
  intro K hK
  have x0 := ev_val (v := .bool true) (cs := (tn12Cs S k)) tn12_ok hR ho (j := 23) (t := 111) (by rw [F.hz]; kernel_rfl) rfl
  have x1 := ev_val (v := .bool true) (cs := (tn12Cs S k)) tn12_ok hR ho (j := 26) (t := 114) (by rw [F.hz]; kernel_rfl) rfl
  exact opw_pickT e1 x0 x1 (hK _ _ ⟨_, rfl, rfl⟩ hI (Below.refl _ _))
theorem tn12_28 (F : Tn12 a0 w0 base B8 B11 B16 S k N E) : PO (regionOps Tryd.f12 12) 32 a0 base w0 (tn12Cs S k) 28 := by
  intro o ho u W hI hR
  obtain ⟨e1, e2, e3⟩ := ob_op ho (show ((regionOps Tryd.f12 12)[28]?).map (fun o => (o.op, o.dst, o.guard)) = some (.move (.tmp 115), some 116, none) by kernel_rfl)
  rw [if_pos (plan_free e3 _)]
  intro K hK
  have x0 := ev_val (v := .bool true) (cs := (tn12Cs S k)) tn12_ok hR ho (j := 27) (t := 115) (by rw [F.hz]; kernel_rfl) rfl
  exact opw_move e1 x0 (hK _ _ ⟨_, rfl, rfl⟩ hI (Below.refl _ _))
theorem tn12_29 (F : Tn12 a0 w0 base B8 B11 B16 S k N E) : PO (regionOps Tryd.f12 12) 32 a0 base w0 (tn12Cs S k) 29 := by
  intro o ho u W hI hR
  obtain ⟨e1, e2, e3⟩ := ob_op ho (show ((regionOps Tryd.f12 12)[29]?).map (fun o => (o.op, o.dst, o.guard)) = some (.call { callee := .value (.func 19), args := #[], argTypes := #[] }, some 117, some (28, true)) by kernel_rfl)
  have xg := ev_val (v := .bool true) (cs := (tn12Cs S k)) tn12_ok hR ho (j := 28) (t := 116) (by rw [F.hz]; kernel_rfl) rfl
  rw [if_pos (wanted_yes e3 (t := 116) (by kernel_rfl) xg)]
  intro K hK
  refine opw_call e1 (vs := #[]) (by simp only [List.map_toArray, List.map_nil]) Tryd.func19 (by kernel_rfl) (by kernel_rfl) (awake_any (N := N) (E := E) W (F.hE.below hI.1 F.hN) (Nat.le_trans F.hN hI.2)) ?_
  rintro e W' ⟨rfl, b⟩
  exact ⟨_, rfl, hK _ _ ⟨_, rfl, rfl⟩ (hI.step b) b⟩
theorem tn12_30 (F : Tn12 a0 w0 base B8 B11 B16 S k N E) : PO (regionOps Tryd.f12 12) 32 a0 base w0 (tn12Cs S k) 30 := by
  intro o ho u W hI hR
  obtain ⟨e1, e2, e3⟩ := ob_op ho (show ((regionOps Tryd.f12 12)[30]?).map (fun o => (o.op, o.dst, o.guard)) = some (.pick (.tmp 116) (.tmp 117) (.const (.bool false)), some 118, none) by kernel_rfl)
  rw [if_pos (plan_free e3 _)]
  intro K hK
  have x0 := ev_val (v := .bool true) (cs := (tn12Cs S k)) tn12_ok hR ho (j := 28) (t := 116) (by rw [F.hz]; kernel_rfl) rfl
  have x1 := ev_val (v := .bool true) (cs := (tn12Cs S k)) tn12_ok hR ho (j := 29) (t := 117) (by rw [F.hz]; kernel_rfl) rfl
  exact opw_pickT e1 x0 x1 (hK _ _ ⟨_, rfl, rfl⟩ hI (Below.refl _ _))
theorem tn12_31 (F : Tn12 a0 w0 base B8 B11 B16 S k N E) : PO (regionOps Tryd.f12 12) 32 a0 base w0 (tn12Cs S k) 31 := by
  intro o ho u W hI hR
  obtain ⟨e1, e2, e3⟩ := ob_op ho (show ((regionOps Tryd.f12 12)[31]?).map (fun o => (o.op, o.dst, o.guard)) = some (.assign (.tmp 118), some 6, none) by kernel_rfl)
  rw [if_pos (plan_free e3 _)]
  intro K hK
  have x0 := ev_val (v := .bool true) (cs := (tn12Cs S k)) tn12_ok hR ho (j := 30) (t := 118) (by rw [F.hz]; kernel_rfl) rfl
  exact opw_assign e1 x0 (hK _ _ ⟨_, rfl, rfl⟩ hI (Below.refl _ _))
theorem tn12_all (F : Tn12 a0 w0 base B8 B11 B16 S k N E) : ∀ i, i < 32 → PO (regionOps Tryd.f12 12) 32 a0 base w0 (tn12Cs S k) i
  | 0, _ => tn12_0 F
  | 1, _ => tn12_1 F
  | 2, _ => tn12_2 F
  | 3, _ => tn12_3 F
  | 4, _ => tn12_4 F
  | 5, _ => tn12_5 F
  | 6, _ => tn12_6 F
  | 7, _ => tn12_7 F
  | 8, _ => tn12_8 F
  | 9, _ => tn12_9 F
  | 10, _ => tn12_10 F
  | 11, _ => tn12_11 F
  | 12, _ => tn12_12 F
  | 13, _ => tn12_13 F
  | 14, _ => tn12_14 F
  | 15, _ => tn12_15 F
  | 16, _ => tn12_16 F
  | 17, _ => tn12_17 F
  | 18, _ => tn12_18 F
  | 19, _ => tn12_19 F
  | 20, _ => tn12_20 F
  | 21, _ => tn12_21 F
  | 22, _ => tn12_22 F
  | 23, _ => tn12_23 F
  | 24, _ => tn12_24 F
  | 25, _ => tn12_25 F
  | 26, _ => tn12_26 F
  | 27, _ => tn12_27 F
  | 28, _ => tn12_28 F
  | 29, _ => tn12_29 F
  | 30, _ => tn12_30 F
  | 31, _ => tn12_31 F
  | i + 32, h => absurd h (by omega)
theorem tn12_plan : planOf (regionOps Tryd.f12 12) (upto 32) = [(some 88, 0), (some 89, 1), (some 90, 2), (some 91, 3), (some 92, 4), (some 93, 5), (some 94, 6), (some 95, 7), (some 96, 8), (some 97, 9), (some 98, 10), (some 99, 11), (some 100, 12), (some 101, 13), (some 102, 14), (some 103, 15), (some 104, 16), (some 105, 17), (some 106, 18), (some 107, 19), (some 108, 20), (some 109, 21), (some 110, 22), (some 111, 23), (some 112, 24), (some 113, 25), (some 114, 26), (some 115, 27), (some 116, 28), (some 117, 29), (some 118, 30), (some 6, 31)] := by kernel_rfl
theorem tn12_wp {id : Nat} {Q : Exit → Act → World → Prop} (F : Tn12 a0 w0 base B8 B11 B16 S k N E) (hb : base ≤ w0.heap.size)
    (hq : ∀ (u : Nat → Value) (W : World), u 31 = .bool true → Below base w0 W → base ≤ W.heap.size → Q .normal (putL (planOf (regionOps Tryd.f12 12) (upto 32)) u a0) W) :
    (Code.region id (regionOps Tryd.f12 12) true).wp Tryd.prog Q a0 w0 := by
  refine wp_plan_cl 32 0 (tn12Cs S k) tn12_ok (by kernel_rfl) hb (tn12_all F) fun u W hI1 hI2 hR => ?_
  refine ⟨by kernel_rfl, hq u W ?_ hI1 hI2⟩
  obtain ⟨c, hc, h⟩ := hR 31 (of_decide_eq_true (by kernel_rfl)) (by decide)
  cases hc
  exact h
end Go.Proofs.YteeopjgfiojoiaaDoor
