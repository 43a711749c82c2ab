/- What SetBack tells at its end: whatever order is drawn, it is true. Conditions: the sets lie in memory, and the errors' variables. -/
import Derived.Test.YteeopjgfiojoiaaDoorPln
import Derived.Test.YteeopjgfiojoiaaDoorWTexts
namespace Go.Proofs.YteeopjgfiojoiaaDoor
open Go Go.RowKit SN

structure Bk19 (a0 : Act) (w0 : World) (base B6 B10 S n cap N : Nat) (p : Option Addr) (E : Nat → Addr) (t : ByteArray) : Prop where
  hz : a0.tmps.size = 97
  h5 : a0.eval (.tmp 5) = .slice p n cap
  h6 : a0.eval (.tmp 6) = .pointer (some ⟨B6, 0, none⟩)
  h10 : a0.eval (.tmp 10) = .pointer (some ⟨B10, 0, none⟩)
  h11 : a0.eval (.tmp 11) = .int .i64 ((n + 1 : Nat) : Int)
  h12 : a0.eval (.tmp 12) = .nilIface
  b6 : IsSet 24 w0 B6 S
  b10 : IsSet 24 w0 B10 S
  l6 : B6 < base
  l10 : B10 < base
  oS : Ok S
  hn : n < 1000000
  hT1 : ∀ W, Calls Tryd.prog 35 #[sv S] W fun e w' => e = .returned (.string t) ∧ Below W.heap.size W w'
  hE : Errs N E w0
  hN : N ≤ base
variable {a0 : Act} {w0 : World} {base B6 B10 S n cap N : Nat} {p : Option Addr} {E : Nat → Addr} {t : ByteArray}
theorem run_eqnil (W : World) : (binOp .eql 46 .nilIface .nilIface).run Tryd.prog W = .ok (.bool true) W := by kernel_rfl
theorem eqnilGuard (x : Operand) (W : World) : (eqGuard .eql 46 x (.const .nilIface) .nilIface .nilIface).run Tryd.prog W = .ok () W := by cases x <;> kernel_rfl
def bk19Cs (S n cap : Nat) (p : Option Addr) (t : ByteArray) : List Claim := [.val (.nilIface), .val (.bool true), .val (.bool true), .val (sv (S)), .val (sv (S)), .val (.bool true), .val (.bool true), .val (.bool true), .val (.int .i64 (((n + 1 : Nat) : Int))), .val (.slice p n cap), .val (.int .i64 ((n : Nat))), .val (.int .i64 (((n + 1 : Nat) : Int))), .val (.bool true), .val (.bool true), .val (.bool true), .val (sv (S)), .val (.string (t)), .val (sv (S)), .val (.string (t)), .val (.bool true), .val (.bool true), .val (.bool true), .val (.bool true), .val (.bool true), .val (.bool true)]
theorem bk19_ok : planOk .any (regionOps Tryd.f7 19) (upto 25) = true := by kernel_rfl
theorem bk19_0 (F : Bk19 a0 w0 base B6 B10 S n cap N p E t) : PO (regionOps Tryd.f7 19) 25 a0 base w0 (bk19Cs S n cap p t) 0 := by
  intro o ho u W hI hR
  obtain ⟨e1, e2, e3⟩ := ob_op ho (show ((regionOps Tryd.f7 19)[0]?).map (fun o => (o.op, o.dst, o.guard)) = some (.move (.tmp 12), some 73, none) by kernel_rfl)
  rw [if_pos (plan_free e3 _)]
  intro K hK
  have x0 := ev_base (u := u) bk19_ok (by kernel_rfl) F.h12
  exact opw_move e1 x0 (hK _ _ ⟨_, rfl, rfl⟩ hI (Below.refl _ _))
theorem bk19_1 (F : Bk19 a0 w0 base B6 B10 S n cap N p E t) : PO (regionOps Tryd.f7 19) 25 a0 base w0 (bk19Cs S n cap p t) 1 := by
  intro o ho u W hI hR
  obtain ⟨e1, e2, e3⟩ := ob_op ho (show ((regionOps Tryd.f7 19)[1]?).map (fun o => (o.op, o.dst, o.guard)) = some (.binOp .eql 46 (.tmp 73) (.const .nilIface) 46, some 74, none) by kernel_rfl)
  rw [if_pos (plan_free e3 _)]
  intro K hK
  have x0 := ev_val (v := .nilIface) (cs := (bk19Cs S n cap p t)) bk19_ok hR ho (j := 0) (t := 73) (by rw [F.hz]; kernel_rfl) rfl
  have x1 : (putL (planOf (regionOps Tryd.f7 19) (upto 25)) u a0).eval (.const .nilIface) = .nilIface := rfl
  exact opw_bin e1 x0 x1 (eqnilGuard _ W) (run_eqnil W) (hK _ _ ⟨_, rfl, rfl⟩ hI (Below.refl _ _))
theorem bk19_2 (F : Bk19 a0 w0 base B6 B10 S n cap N p E t) : PO (regionOps Tryd.f7 19) 25 a0 base w0 (bk19Cs S n cap p t) 2 := by
  intro o ho u W hI hR
  obtain ⟨e1, e2, e3⟩ := ob_op ho (show ((regionOps Tryd.f7 19)[2]?).map (fun o => (o.op, o.dst, o.guard)) = some (.move (.tmp 74), some 75, none) by kernel_rfl)
  rw [if_pos (plan_free e3 _)]
  intro K hK
  have x0 := ev_val (v := .bool true) (cs := (bk19Cs S n cap p t)) bk19_ok hR ho (j := 1) (t := 74) (by rw [F.hz]; kernel_rfl) rfl
  exact opw_move e1 x0 (hK _ _ ⟨_, rfl, rfl⟩ hI (Below.refl _ _))
theorem bk19_3 (F : Bk19 a0 w0 base B6 B10 S n cap N p E t) : PO (regionOps Tryd.f7 19) 25 a0 base w0 (bk19Cs S n cap p t) 3 := by
  intro o ho u W hI hR
  obtain ⟨e1, e2, e3⟩ := ob_op ho (show ((regionOps Tryd.f7 19)[3]?).map (fun o => (o.op, o.dst, o.guard)) = some (.load 24 (.tmp 10), some 76, some (2, true)) by kernel_rfl)
  have xg := ev_val (v := .bool true) (cs := (bk19Cs S n cap p t)) bk19_ok hR ho (j := 2) (t := 75) (by rw [F.hz]; kernel_rfl) rfl
  rw [if_pos (wanted_yes e3 (t := 75) (by kernel_rfl) xg)]
  intro K hK
  have x0 := ev_base (u := u) bk19_ok (by kernel_rfl) F.h10
  exact opw_load_set e1 x0 (F.b10.below hI.1 F.l10) (hK _ _ ⟨_, rfl, rfl⟩ hI (Below.refl _ _))
theorem bk19_4 (F : Bk19 a0 w0 base B6 B10 S n cap N p E t) : PO (regionOps Tryd.f7 19) 25 a0 base w0 (bk19Cs S n cap p t) 4 := by
  intro o ho u W hI hR
  obtain ⟨e1, e2, e3⟩ := ob_op ho (show ((regionOps Tryd.f7 19)[4]?).map (fun o => (o.op, o.dst, o.guard)) = some (.load 24 (.tmp 6), some 77, some (2, true)) by kernel_rfl)
  have xg := ev_val (v := .bool true) (cs := (bk19Cs S n cap p t)) bk19_ok hR ho (j := 2) (t := 75) (by rw [F.hz]; kernel_rfl) rfl
  rw [if_pos (wanted_yes e3 (t := 75) (by kernel_rfl) xg)]
  intro K hK
  have x0 := ev_base (u := u) bk19_ok (by kernel_rfl) F.h6
  exact opw_load_set e1 x0 (F.b6.below hI.1 F.l6) (hK _ _ ⟨_, rfl, rfl⟩ hI (Below.refl _ _))
theorem bk19_5 (F : Bk19 a0 w0 base B6 B10 S n cap N p E t) : PO (regionOps Tryd.f7 19) 25 a0 base w0 (bk19Cs S n cap p t) 5 := by
  intro o ho u W hI hR
  obtain ⟨e1, e2, e3⟩ := ob_op ho (show ((regionOps Tryd.f7 19)[5]?).map (fun o => (o.op, o.dst, o.guard)) = some (.binOp .eql 24 (.tmp 76) (.tmp 77) 24, some 78, some (2, true)) by kernel_rfl)
  have xg := ev_val (v := .bool true) (cs := (bk19Cs S n cap p t)) bk19_ok hR ho (j := 2) (t := 75) (by rw [F.hz]; kernel_rfl) rfl
  rw [if_pos (wanted_yes e3 (t := 75) (by kernel_rfl) xg)]
  intro K hK
  have x0 := ev_val (v := sv (S)) (cs := (bk19Cs S n cap p t)) bk19_ok hR ho (j := 3) (t := 76) (by rw [F.hz]; kernel_rfl) rfl
  have x1 := ev_val (v := sv (S)) (cs := (bk19Cs S n cap p t)) bk19_ok hR ho (j := 4) (t := 77) (by rw [F.hz]; kernel_rfl) rfl
  exact opw_eqs e1 F.oS F.oS x0 x1 (decide_eq_true rfl) (hK _ _ ⟨_, rfl, rfl⟩ hI (Below.refl _ _))
theorem bk19_6 (F : Bk19 a0 w0 base B6 B10 S n cap N p E t) : PO (regionOps Tryd.f7 19) 25 a0 base w0 (bk19Cs S n cap p t) 6 := by
  intro o ho u W hI hR
  obtain ⟨e1, e2, e3⟩ := ob_op ho (show ((regionOps Tryd.f7 19)[6]?).map (fun o => (o.op, o.dst, o.guard)) = some (.pick (.tmp 75) (.tmp 78) (.const (.bool false)), some 79, none) by kernel_rfl)
  rw [if_pos (plan_free e3 _)]
  intro K hK
  have x0 := ev_val (v := .bool true) (cs := (bk19Cs S n cap p t)) bk19_ok hR ho (j := 2) (t := 75) (by rw [F.hz]; kernel_rfl) rfl
  have x1 := ev_val (v := .bool true) (cs := (bk19Cs S n cap p t)) bk19_ok hR ho (j := 5) (t := 78) (by rw [F.hz]; kernel_rfl) rfl
  exact opw_pickT e1 x0 x1 (hK _ _ ⟨_, rfl, rfl⟩ hI (Below.refl _ _))
theorem bk19_7 (F : Bk19 a0 w0 base B6 B10 S n cap N p E t) : PO (regionOps Tryd.f7 19) 25 a0 base w0 (bk19Cs S n cap p t) 7 := by
  intro o ho u W hI hR
  obtain ⟨e1, e2, e3⟩ := ob_op ho (show ((regionOps Tryd.f7 19)[7]?).map (fun o => (o.op, o.dst, o.guard)) = some (.move (.tmp 79), some 80, none) by kernel_rfl)
  rw [if_pos (plan_free e3 _)]
  intro K hK
  have x0 := ev_val (v := .bool true) (cs := (bk19Cs S n cap p t)) bk19_ok hR ho (j := 6) (t := 79) (by rw [F.hz]; kernel_rfl) rfl
  exact opw_move e1 x0 (hK _ _ ⟨_, rfl, rfl⟩ hI (Below.refl _ _))
theorem bk19_8 (F : Bk19 a0 w0 base B6 B10 S n cap N p E t) : PO (regionOps Tryd.f7 19) 25 a0 base w0 (bk19Cs S n cap p t) 8 := by
  intro o ho u W hI hR
  obtain ⟨e1, e2, e3⟩ := ob_op ho (show ((regionOps Tryd.f7 19)[8]?).map (fun o => (o.op, o.dst, o.guard)) = some (.move (.tmp 11), some 81, some (7, true)) by kernel_rfl)
  have xg := ev_val (v := .bool true) (cs := (bk19Cs S n cap p t)) bk19_ok hR ho (j := 7) (t := 80) (by rw [F.hz]; kernel_rfl) rfl
  rw [if_pos (wanted_yes e3 (t := 80) (by kernel_rfl) xg)]
  intro K hK
  have x0 := ev_base (u := u) bk19_ok (by kernel_rfl) F.h11
  exact opw_move e1 x0 (hK _ _ ⟨_, rfl, rfl⟩ hI (Below.refl _ _))
theorem bk19_9 (F : Bk19 a0 w0 base B6 B10 S n cap N p E t) : PO (regionOps Tryd.f7 19) 25 a0 base w0 (bk19Cs S n cap p t) 9 := by
  intro o ho u W hI hR
  obtain ⟨e1, e2, e3⟩ := ob_op ho (show ((regionOps Tryd.f7 19)[9]?).map (fun o => (o.op, o.dst, o.guard)) = some (.move (.tmp 5), some 82, some (7, true)) by kernel_rfl)
  have xg := ev_val (v := .bool true) (cs := (bk19Cs S n cap p t)) bk19_ok hR ho (j := 7) (t := 80) (by rw [F.hz]; kernel_rfl) rfl
  rw [if_pos (wanted_yes e3 (t := 80) (by kernel_rfl) xg)]
  intro K hK
  have x0 := ev_base (u := u) bk19_ok (by kernel_rfl) F.h5
  exact opw_move e1 x0 (hK _ _ ⟨_, rfl, rfl⟩ hI (Below.refl _ _))
theorem bk19_10 (F : Bk19 a0 w0 base B6 B10 S n cap N p E t) : PO (regionOps Tryd.f7 19) 25 a0 base w0 (bk19Cs S n cap p t) 10 := by
  intro o ho u W hI hR
  obtain ⟨e1, e2, e3⟩ := ob_op ho (show ((regionOps Tryd.f7 19)[10]?).map (fun o => (o.op, o.dst, o.guard)) = some (.call { callee := .builtin .len, args := #[(.tmp 82)], argTypes := #[36] }, some 83, some (7, true)) by kernel_rfl)
  have xg := ev_val (v := .bool true) (cs := (bk19Cs S n cap p t)) bk19_ok hR ho (j := 7) (t := 80) (by rw [F.hz]; kernel_rfl) rfl
  rw [if_pos (wanted_yes e3 (t := 80) (by kernel_rfl) xg)]
  intro K hK
  have x0 := ev_val (v := .slice p n cap) (cs := (bk19Cs S n cap p t)) bk19_ok hR ho (j := 9) (t := 82) (by rw [F.hz]; kernel_rfl) rfl
  exact opw_len e1 x0 (fun ty => by kernel_rfl) (hK _ _ ⟨_, rfl, rfl⟩ hI (Below.refl _ _))
theorem bk19_11 (F : Bk19 a0 w0 base B6 B10 S n cap N p E t) : PO (regionOps Tryd.f7 19) 25 a0 base w0 (bk19Cs S n cap p t) 11 := by
  intro o ho u W hI hR
  obtain ⟨e1, e2, e3⟩ := ob_op ho (show ((regionOps Tryd.f7 19)[11]?).map (fun o => (o.op, o.dst, o.guard)) = some (.binOp .add 3 (.tmp 83) (.const (.int .i64 1)) 3, some 84, some (7, true)) by kernel_rfl)
  have xg := ev_val (v := .bool true) (cs := (bk19Cs S n cap p t)) bk19_ok hR ho (j := 7) (t := 80) (by rw [F.hz]; kernel_rfl) rfl
  rw [if_pos (wanted_yes e3 (t := 80) (by kernel_rfl) xg)]
  intro K hK
  have x0 := ev_val (v := .int .i64 ((n : Nat))) (cs := (bk19Cs S n cap p t)) bk19_ok hR ho (j := 10) (t := 83) (by rw [F.hz]; kernel_rfl) rfl
  have x1 : (putL (planOf (regionOps Tryd.f7 19) (upto 25)) u a0).eval (.const (.int .i64 1)) = .int .i64 (1) := rfl
  exact opw_addi e1 x0 x1 (by have := F.hn; rw [IntKind.wrap_i64]; omega) (hK _ _ ⟨_, rfl, rfl⟩ hI (Below.refl _ _))
theorem bk19_12 (F : Bk19 a0 w0 base B6 B10 S n cap N p E t) : PO (regionOps Tryd.f7 19) 25 a0 base w0 (bk19Cs S n cap p t) 12 := by
  intro o ho u W hI hR
  obtain ⟨e1, e2, e3⟩ := ob_op ho (show ((regionOps Tryd.f7 19)[12]?).map (fun o => (o.op, o.dst, o.guard)) = some (.binOp .eql 3 (.tmp 81) (.tmp 84) 3, some 85, some (7, true)) by kernel_rfl)
  have xg := ev_val (v := .bool true) (cs := (bk19Cs S n cap p t)) bk19_ok hR ho (j := 7) (t := 80) (by rw [F.hz]; kernel_rfl) rfl
  rw [if_pos (wanted_yes e3 (t := 80) (by kernel_rfl) xg)]
  intro K hK
  have x0 := ev_val (v := .int .i64 (((n + 1 : Nat) : Int))) (cs := (bk19Cs S n cap p t)) bk19_ok hR ho (j := 8) (t := 81) (by rw [F.hz]; kernel_rfl) rfl
  have x1 := ev_val (v := .int .i64 (((n + 1 : Nat) : Int))) (cs := (bk19Cs S n cap p t)) bk19_ok hR ho (j := 11) (t := 84) (by rw [F.hz]; kernel_rfl) rfl
  exact opw_eqi e1 x0 x1 (beq_self_eq_true _) (hK _ _ ⟨_, rfl, rfl⟩ hI (Below.refl _ _))
theorem bk19_13 (F : Bk19 a0 w0 base B6 B10 S n cap N p E t) : PO (regionOps Tryd.f7 19) 25 a0 base w0 (bk19Cs S n cap p t) 13 := by
  intro o ho u W hI hR
  obtain ⟨e1, e2, e3⟩ := ob_op ho (show ((regionOps Tryd.f7 19)[13]?).map (fun o => (o.op, o.dst, o.guard)) = some (.pick (.tmp 80) (.tmp 85) (.const (.bool false)), some 86, none) by kernel_rfl)
  rw [if_pos (plan_free e3 _)]
  intro K hK
  have x0 := ev_val (v := .bool true) (cs := (bk19Cs S n cap p t)) bk19_ok hR ho (j := 7) (t := 80) (by rw [F.hz]; kernel_rfl) rfl
  have x1 := ev_val (v := .bool true) (cs := (bk19Cs S n cap p t)) bk19_ok hR ho (j := 12) (t := 85) (by rw [F.hz]; kernel_rfl) rfl
  exact opw_pickT e1 x0 x1 (hK _ _ ⟨_, rfl, rfl⟩ hI (Below.refl _ _))
theorem bk19_14 (F : Bk19 a0 w0 base B6 B10 S n cap N p E t) : PO (regionOps Tryd.f7 19) 25 a0 base w0 (bk19Cs S n cap p t) 14 := by
  intro o ho u W hI hR
  obtain ⟨e1, e2, e3⟩ := ob_op ho (show ((regionOps Tryd.f7 19)[14]?).map (fun o => (o.op, o.dst, o.guard)) = some (.move (.tmp 86), some 87, none) by kernel_rfl)
  rw [if_pos (plan_free e3 _)]
  intro K hK
  have x0 := ev_val (v := .bool true) (cs := (bk19Cs S n cap p t)) bk19_ok hR ho (j := 13) (t := 86) (by rw [F.hz]; kernel_rfl) rfl
  exact opw_move e1 x0 (hK _ _ ⟨_, rfl, rfl⟩ hI (Below.refl _ _))
theorem bk19_15 (F : Bk19 a0 w0 base B6 B10 S n cap N p E t) : PO (regionOps Tryd.f7 19) 25 a0 base w0 (bk19Cs S n cap p t) 15 := by
  intro o ho u W hI hR
  obtain ⟨e1, e2, e3⟩ := ob_op ho (show ((regionOps Tryd.f7 19)[15]?).map (fun o => (o.op, o.dst, o.guard)) = some (.load 24 (.tmp 10), some 88, some (14, true)) by kernel_rfl)
  have xg := ev_val (v := .bool true) (cs := (bk19Cs S n cap p t)) bk19_ok hR ho (j := 14) (t := 87) (by rw [F.hz]; kernel_rfl) rfl
  rw [if_pos (wanted_yes e3 (t := 87) (by kernel_rfl) xg)]
  intro K hK
  have x0 := ev_base (u := u) bk19_ok (by kernel_rfl) F.h10
  exact opw_load_set e1 x0 (F.b10.below hI.1 F.l10) (hK _ _ ⟨_, rfl, rfl⟩ hI (Below.refl _ _))
theorem bk19_16 (F : Bk19 a0 w0 base B6 B10 S n cap N p E t) : PO (regionOps Tryd.f7 19) 25 a0 base w0 (bk19Cs S n cap p t) 16 := by
  intro o ho u W hI hR
  obtain ⟨e1, e2, e3⟩ := ob_op ho (show ((regionOps Tryd.f7 19)[16]?).map (fun o => (o.op, o.dst, o.guard)) = some (.call { callee := .value (.func 35), args := #[(.tmp 88)], argTypes := #[24] }, some 89, some (14, true)) by kernel_rfl)
  have xg := ev_val (v := .bool true) (cs := (bk19Cs S n cap p t)) bk19_ok hR ho (j := 14) (t := 87) (by rw [F.hz]; kernel_rfl) rfl
  rw [if_pos (wanted_yes e3 (t := 87) (by kernel_rfl) xg)]
  intro K hK
  have x0 := ev_val (v := sv (S)) (cs := (bk19Cs S n cap p t)) bk19_ok hR ho (j := 15) (t := 88) (by rw [F.hz]; kernel_rfl) rfl
  refine opw_call e1 (vs := #[sv (S)]) (by simp only [List.map_toArray, List.map_cons, List.map_nil, x0]) Tryd.func35 (by kernel_rfl) (by kernel_rfl) (F.hT1 W) ?_
  rintro e W' ⟨rfl, b⟩
  exact ⟨_, rfl, hK _ _ ⟨_, rfl, rfl⟩ (hI.step b) b⟩
theorem bk19_17 (F : Bk19 a0 w0 base B6 B10 S n cap N p E t) : PO (regionOps Tryd.f7 19) 25 a0 base w0 (bk19Cs S n cap p t) 17 := by
  intro o ho u W hI hR
  obtain ⟨e1, e2, e3⟩ := ob_op ho (show ((regionOps Tryd.f7 19)[17]?).map (fun o => (o.op, o.dst, o.guard)) = some (.load 24 (.tmp 6), some 90, some (14, true)) by kernel_rfl)
  have xg := ev_val (v := .bool true) (cs := (bk19Cs S n cap p t)) bk19_ok hR ho (j := 14) (t := 87) (by rw [F.hz]; kernel_rfl) rfl
  rw [if_pos (wanted_yes e3 (t := 87) (by kernel_rfl) xg)]
  intro K hK
  have x0 := ev_base (u := u) bk19_ok (by kernel_rfl) F.h6
  exact opw_load_set e1 x0 (F.b6.below hI.1 F.l6) (hK _ _ ⟨_, rfl, rfl⟩ hI (Below.refl _ _))
theorem bk19_18 (F : Bk19 a0 w0 base B6 B10 S n cap N p E t) : PO (regionOps Tryd.f7 19) 25 a0 base w0 (bk19Cs S n cap p t) 18 := by
  intro o ho u W hI hR
  obtain ⟨e1, e2, e3⟩ := ob_op ho (show ((regionOps Tryd.f7 19)[18]?).map (fun o => (o.op, o.dst, o.guard)) = some (.call { callee := .value (.func 35), args := #[(.tmp 90)], argTypes := #[24] }, some 91, some (14, true)) by kernel_rfl)
  have xg := ev_val (v := .bool true) (cs := (bk19Cs S n cap p t)) bk19_ok hR ho (j := 14) (t := 87) (by rw [F.hz]; kernel_rfl) rfl
  rw [if_pos (wanted_yes e3 (t := 87) (by kernel_rfl) xg)]
  intro K hK
  have x0 := ev_val (v := sv (S)) (cs := (bk19Cs S n cap p t)) bk19_ok hR ho (j := 17) (t := 90) (by rw [F.hz]; kernel_rfl) rfl
  refine opw_call e1 (vs := #[sv (S)]) (by simp only [List.map_toArray, List.map_cons, List.map_nil, x0]) Tryd.func35 (by kernel_rfl) (by kernel_rfl) (F.hT1 W) ?_
  rintro e W' ⟨rfl, b⟩
  exact ⟨_, rfl, hK _ _ ⟨_, rfl, rfl⟩ (hI.step b) b⟩
theorem bk19_19 (F : Bk19 a0 w0 base B6 B10 S n cap N p E t) : PO (regionOps Tryd.f7 19) 25 a0 base w0 (bk19Cs S n cap p t) 19 := by
  intro o ho u W hI hR
  obtain ⟨e1, e2, e3⟩ := ob_op ho (show ((regionOps Tryd.f7 19)[19]?).map (fun o => (o.op, o.dst, o.guard)) = some (.binOp .eql 9 (.tmp 89) (.tmp 91) 9, some 92, some (14, true)) by kernel_rfl)
  have xg := ev_val (v := .bool true) (cs := (bk19Cs S n cap p t)) bk19_ok hR ho (j := 14) (t := 87) (by rw [F.hz]; kernel_rfl) rfl
  rw [if_pos (wanted_yes e3 (t := 87) (by kernel_rfl) xg)]
  intro K hK
  have x0 := ev_val (v := .string (t)) (cs := (bk19Cs S n cap p t)) bk19_ok hR ho (j := 16) (t := 89) (by rw [F.hz]; kernel_rfl) rfl
  have x1 := ev_val (v := .string (t)) (cs := (bk19Cs S n cap p t)) bk19_ok hR ho (j := 18) (t := 91) (by rw [F.hz]; kernel_rfl) rfl
  exact opw_bin e1 x0 x1 (eqsGuard _ _ t t W) (run_eqs t t W) (hK _ _ ⟨_, rfl, congrArg Value.bool (beq_self_eq_true _)⟩ hI (Below.refl _ _))
theorem bk19_20 (F : Bk19 a0 w0 base B6 B10 S n cap N p E t) : PO (regionOps Tryd.f7 19) 25 a0 base w0 (bk19Cs S n cap p t) 20 := by
  intro o ho u W hI hR
  obtain ⟨e1, e2, e3⟩ := ob_op ho (show ((regionOps Tryd.f7 19)[20]?).map (fun o => (o.op, o.dst, o.guard)) = some (.pick (.tmp 87) (.tmp 92) (.const (.bool false)), some 93, none) by kernel_rfl)
  rw [if_pos (plan_free e3 _)]
  intro K hK
  have x0 := ev_val (v := .bool true) (cs := (bk19Cs S n cap p t)) bk19_ok hR ho (j := 14) (t := 87) (by rw [F.hz]; kernel_rfl) rfl
  have x1 := ev_val (v := .bool true) (cs := (bk19Cs S n cap p t)) bk19_ok hR ho (j := 19) (t := 92) (by rw [F.hz]; kernel_rfl) rfl
  exact opw_pickT e1 x0 x1 (hK _ _ ⟨_, rfl, rfl⟩ hI (Below.refl _ _))
theorem bk19_21 (F : Bk19 a0 w0 base B6 B10 S n cap N p E t) : PO (regionOps Tryd.f7 19) 25 a0 base w0 (bk19Cs S n cap p t) 21 := by
  intro o ho u W hI hR
  obtain ⟨e1, e2, e3⟩ := ob_op ho (show ((regionOps Tryd.f7 19)[21]?).map (fun o => (o.op, o.dst, o.guard)) = some (.move (.tmp 93), some 94, none) by kernel_rfl)
  rw [if_pos (plan_free e3 _)]
  intro K hK
  have x0 := ev_val (v := .bool true) (cs := (bk19Cs S n cap p t)) bk19_ok hR ho (j := 20) (t := 93) (by rw [F.hz]; kernel_rfl) rfl
  exact opw_move e1 x0 (hK _ _ ⟨_, rfl, rfl⟩ hI (Below.refl _ _))
theorem bk19_22 (F : Bk19 a0 w0 base B6 B10 S n cap N p E t) : PO (regionOps Tryd.f7 19) 25 a0 base w0 (bk19Cs S n cap p t) 22 := by
  intro o ho u W hI hR
  obtain ⟨e1, e2, e3⟩ := ob_op ho (show ((regionOps Tryd.f7 19)[22]?).map (fun o => (o.op, o.dst, o.guard)) = some (.call { callee := .value (.func 19), args := #[], argTypes := #[] }, some 95, some (21, true)) by kernel_rfl)
  have xg := ev_val (v := .bool true) (cs := (bk19Cs S n cap p t)) bk19_ok hR ho (j := 21) (t := 94) (by rw [F.hz]; kernel_rfl) rfl
  rw [if_pos (wanted_yes e3 (t := 94) (by kernel_rfl) xg)]
  intro K hK
  refine opw_call e1 (vs := #[]) (by simp only [List.map_toArray, List.map_nil]) Tryd.func19 (by kernel_rfl) (by kernel_rfl) (awake_any (N := N) (E := E) W (F.hE.below hI.1 F.hN) (Nat.le_trans F.hN hI.2)) ?_
  rintro e W' ⟨rfl, b⟩
  exact ⟨_, rfl, hK _ _ ⟨_, rfl, rfl⟩ (hI.step b) b⟩
theorem bk19_23 (F : Bk19 a0 w0 base B6 B10 S n cap N p E t) : PO (regionOps Tryd.f7 19) 25 a0 base w0 (bk19Cs S n cap p t) 23 := by
  intro o ho u W hI hR
  obtain ⟨e1, e2, e3⟩ := ob_op ho (show ((regionOps Tryd.f7 19)[23]?).map (fun o => (o.op, o.dst, o.guard)) = some (.pick (.tmp 94) (.tmp 95) (.const (.bool false)), some 96, none) by kernel_rfl)
  rw [if_pos (plan_free e3 _)]
  intro K hK
  have x0 := ev_val (v := .bool true) (cs := (bk19Cs S n cap p t)) bk19_ok hR ho (j := 21) (t := 94) (by rw [F.hz]; kernel_rfl) rfl
  have x1 := ev_val (v := .bool true) (cs := (bk19Cs S n cap p t)) bk19_ok hR ho (j := 22) (t := 95) (by rw [F.hz]; kernel_rfl) rfl
  exact opw_pickT e1 x0 x1 (hK _ _ ⟨_, rfl, rfl⟩ hI (Below.refl _ _))
theorem bk19_24 (F : Bk19 a0 w0 base B6 B10 S n cap N p E t) : PO (regionOps Tryd.f7 19) 25 a0 base w0 (bk19Cs S n cap p t) 24 := by
  intro o ho u W hI hR
  obtain ⟨e1, e2, e3⟩ := ob_op ho (show ((regionOps Tryd.f7 19)[24]?).map (fun o => (o.op, o.dst, o.guard)) = some (.assign (.tmp 96), some 4, none) by kernel_rfl)
  rw [if_pos (plan_free e3 _)]
  intro K hK
  have x0 := ev_val (v := .bool true) (cs := (bk19Cs S n cap p t)) bk19_ok hR ho (j := 23) (t := 96) (by rw [F.hz]; kernel_rfl) rfl
  exact opw_assign e1 x0 (hK _ _ ⟨_, rfl, rfl⟩ hI (Below.refl _ _))
theorem bk19_all (F : Bk19 a0 w0 base B6 B10 S n cap N p E t) : ∀ i, i < 25 → PO (regionOps Tryd.f7 19) 25 a0 base w0 (bk19Cs S n cap p t) i
  | 0, _ => bk19_0 F
  | 1, _ => bk19_1 F
  | 2, _ => bk19_2 F
  | 3, _ => bk19_3 F
  | 4, _ => bk19_4 F
  | 5, _ => bk19_5 F
  | 6, _ => bk19_6 F
  | 7, _ => bk19_7 F
  | 8, _ => bk19_8 F
  | 9, _ => bk19_9 F
  | 10, _ => bk19_10 F
  | 11, _ => bk19_11 F
  | 12, _ => bk19_12 F
  | 13, _ => bk19_13 F
  | 14, _ => bk19_14 F
  | 15, _ => bk19_15 F
  | 16, _ => bk19_16 F
  | 17, _ => bk19_17 F
  | 18, _ => bk19_18 F
  | 19, _ => bk19_19 F
  | 20, _ => bk19_20 F
  | 21, _ => bk19_21 F
  | 22, _ => bk19_22 F
  | 23, _ => bk19_23 F
  | 24, _ => bk19_24 F
  | i + 25, h => absurd h (by omega)
theorem bk19_plan : planOf (regionOps Tryd.f7 19) (upto 25) = [(some 73, 0), (some 74, 1), (some 75, 2), (some 76, 3), (some 77, 4), (some 78, 5), (some 79, 6), (some 80, 7), (some 81, 8), (some 82, 9), (some 83, 10), (some 84, 11), (some 85, 12), (some 86, 13), (some 87, 14), (some 88, 15), (some 89, 16), (some 90, 17), (some 91, 18), (some 92, 19), (some 93, 20), (some 94, 21), (some 95, 22), (some 96, 23), (some 4, 24)] := by kernel_rfl
theorem bk19_wp {id : Nat} {Q : Exit → Act → World → Prop} (F : Bk19 a0 w0 base B6 B10 S n cap N p E t) (hb : base ≤ w0.heap.size)
    (hq : ∀ (u : Nat → Value) (W : World), u 24 = .bool true → Below base w0 W → base ≤ W.heap.size → Q .normal (putL (planOf (regionOps Tryd.f7 19) (upto 25)) u a0) W) :
    (Code.region id (regionOps Tryd.f7 19) true).wp Tryd.prog Q a0 w0 := by
  refine wp_plan_cl 25 0 (bk19Cs S n cap p t) bk19_ok (by kernel_rfl) hb (bk19_all F) fun u W hI1 hI2 hR => ?_
  refine ⟨by kernel_rfl, hq u W ?_ hI1 hI2⟩
  obtain ⟨c, hc, h⟩ := hR 24 (of_decide_eq_true (by kernel_rfl)) (by decide)
  cases hc
  exact h
end Go.Proofs.YteeopjgfiojoiaaDoor
