/- What SetBrackets tells at its end: whatever order is drawn, it is true. Conditions: the sets and the fault lie in memory, and the errors' variables. -/
import Derived.Test.YteeopjgfiojoiaaDoorFlt
import Derived.Test.YteeopjgfiojoiaaDoorBk19
import Derived.Test.YteeopjgfiojoiaaDoorBrt
namespace Go.Proofs.YteeopjgfiojoiaaDoor
open Go Go.RowKit SN

structure Sb3 (a0 : Act) (w0 : World) (base B7 B10 B12 S : Nat) (n c p l : Int) (v : Value) (N : Nat) (E : Nat → Addr) : Prop where
  hz : a0.tmps.size = 46
  h7 : a0.eval (.tmp 7) = .pointer (some ⟨B7, 0, none⟩)
  h10 : a0.eval (.tmp 10) = .pointer (some ⟨B10, 0, none⟩)
  h12 : a0.eval (.tmp 12) = .pointer (some ⟨B12, 0, none⟩)
  h8 : a0.eval (.tmp 8) = .int .i64 n
  h11 : a0.eval (.tmp 11) = .int .i64 n
  h9 : a0.eval (.tmp 9) = v
  b7 : IsSet 24 w0 B7 S
  b10 : IsSet 24 w0 B10 S
  b12 : IsF w0 B12 c p l
  l7 : B7 < base
  l10 : B10 < base
  l12 : B12 < base
  oS : Ok S
  hT : ∀ W, Below base w0 W → base ≤ W.heap.size → Calls Tryd.prog 44 #[v] W fun e w' => e = .returned (fv c p l) ∧ Below W.heap.size W w'
  hE : Errs N E w0
  hN : N ≤ base
variable {a0 : Act} {w0 : World} {base B7 B10 B12 S N : Nat} {n c p l : Int} {v : Value} {E : Nat → Addr}
def sb3Cs (S : Nat) (n c p l : Int) (v : Value) : List Claim := [.val (sv (S)), .val (sv (S)), .val (.bool true), .val (.bool true), .val (.int .i64 (n)), .val (.int .i64 (n)), .val (.bool true), .val (.bool true), .val (.bool true), .val (v), .val (fv c p l), .val (fv c p l), .val (.bool true), .val (.bool true), .val (.bool true), .val (.bool true), .val (.bool true), .val (.bool true)]
theorem sb3_ok : planOk .any (regionOps Tryd.f11 3) (upto 18) = true := by kernel_rfl
theorem sb3_0 (F : Sb3 a0 w0 base B7 B10 B12 S n c p l v N E) : PO (regionOps Tryd.f11 3) 18 a0 base w0 (sb3Cs S n c p l v) 0 := by
  intro o ho u W hI hR
  obtain ⟨e1, e2, e3⟩ := ob_op ho (show ((regionOps Tryd.f11 3)[0]?).map (fun o => (o.op, o.dst, o.guard)) = some (.load 24 (.tmp 7), some 29, none) by kernel_rfl)
  rw [if_pos (plan_free e3 _)]
  intro K hK
  have x0 := ev_base (u := u) sb3_ok (by kernel_rfl) F.h7
  exact opw_load_set e1 x0 (F.b7.below hI.1 F.l7) (hK _ _ ⟨_, rfl, rfl⟩ hI (Below.refl _ _))
theorem sb3_1 (F : Sb3 a0 w0 base B7 B10 B12 S n c p l v N E) : PO (regionOps Tryd.f11 3) 18 a0 base w0 (sb3Cs S n c p l v) 1 := by
  intro o ho u W hI hR
  obtain ⟨e1, e2, e3⟩ := ob_op ho (show ((regionOps Tryd.f11 3)[1]?).map (fun o => (o.op, o.dst, o.guard)) = some (.load 24 (.tmp 10), some 30, none) by kernel_rfl)
  rw [if_pos (plan_free e3 _)]
  intro K hK
  have x0 := ev_base (u := u) sb3_ok (by kernel_rfl) F.h10
  exact opw_load_set e1 x0 (F.b10.below hI.1 F.l10) (hK _ _ ⟨_, rfl, rfl⟩ hI (Below.refl _ _))
theorem sb3_2 (F : Sb3 a0 w0 base B7 B10 B12 S n c p l v N E) : PO (regionOps Tryd.f11 3) 18 a0 base w0 (sb3Cs S n c p l v) 2 := by
  intro o ho u W hI hR
  obtain ⟨e1, e2, e3⟩ := ob_op ho (show ((regionOps Tryd.f11 3)[2]?).map (fun o => (o.op, o.dst, o.guard)) = some (.binOp .eql 24 (.tmp 29) (.tmp 30) 24, some 31, none) by kernel_rfl)
  rw [if_pos (plan_free e3 _)]
  intro K hK
  have x0 := ev_val (v := sv (S)) (cs := (sb3Cs S n c p l v)) sb3_ok hR ho (j := 0) (t := 29) (by rw [F.hz]; kernel_rfl) rfl
  have x1 := ev_val (v := sv (S)) (cs := (sb3Cs S n c p l v)) sb3_ok hR ho (j := 1) (t := 30) (by rw [F.hz]; kernel_rfl) rfl
  exact opw_eqs e1 F.oS F.oS x0 x1 (decide_eq_true rfl) (hK _ _ ⟨_, rfl, rfl⟩ hI (Below.refl _ _))
theorem sb3_3 (F : Sb3 a0 w0 base B7 B10 B12 S n c p l v N E) : PO (regionOps Tryd.f11 3) 18 a0 base w0 (sb3Cs S n c p l v) 3 := by
  intro o ho u W hI hR
  obtain ⟨e1, e2, e3⟩ := ob_op ho (show ((regionOps Tryd.f11 3)[3]?).map (fun o => (o.op, o.dst, o.guard)) = some (.move (.tmp 31), some 32, none) by kernel_rfl)
  rw [if_pos (plan_free e3 _)]
  intro K hK
  have x0 := ev_val (v := .bool true) (cs := (sb3Cs S n c p l v)) sb3_ok hR ho (j := 2) (t := 31) (by rw [F.hz]; kernel_rfl) rfl
  exact opw_move e1 x0 (hK _ _ ⟨_, rfl, rfl⟩ hI (Below.refl _ _))
theorem sb3_4 (F : Sb3 a0 w0 base B7 B10 B12 S n c p l v N E) : PO (regionOps Tryd.f11 3) 18 a0 base w0 (sb3Cs S n c p l v) 4 := by
  intro o ho u W hI hR
  obtain ⟨e1, e2, e3⟩ := ob_op ho (show ((regionOps Tryd.f11 3)[4]?).map (fun o => (o.op, o.dst, o.guard)) = some (.move (.tmp 8), some 33, some (3, true)) by kernel_rfl)
  have xg := ev_val (v := .bool true) (cs := (sb3Cs S n c p l v)) sb3_ok hR ho (j := 3) (t := 32) (by rw [F.hz]; kernel_rfl) rfl
  rw [if_pos (wanted_yes e3 (t := 32) (by kernel_rfl) xg)]
  intro K hK
  have x0 := ev_base (u := u) sb3_ok (by kernel_rfl) F.h8
  exact opw_move e1 x0 (hK _ _ ⟨_, rfl, rfl⟩ hI (Below.refl _ _))
theorem sb3_5 (F : Sb3 a0 w0 base B7 B10 B12 S n c p l v N E) : PO (regionOps Tryd.f11 3) 18 a0 base w0 (sb3Cs S n c p l v) 5 := by
  intro o ho u W hI hR
  obtain ⟨e1, e2, e3⟩ := ob_op ho (show ((regionOps Tryd.f11 3)[5]?).map (fun o => (o.op, o.dst, o.guard)) = some (.move (.tmp 11), some 34, some (3, true)) by kernel_rfl)
  have xg := ev_val (v := .bool true) (cs := (sb3Cs S n c p l v)) sb3_ok hR ho (j := 3) (t := 32) (by rw [F.hz]; kernel_rfl) rfl
  rw [if_pos (wanted_yes e3 (t := 32) (by kernel_rfl) xg)]
  intro K hK
  have x0 := ev_base (u := u) sb3_ok (by kernel_rfl) F.h11
  exact opw_move e1 x0 (hK _ _ ⟨_, rfl, rfl⟩ hI (Below.refl _ _))
theorem sb3_6 (F : Sb3 a0 w0 base B7 B10 B12 S n c p l v N E) : PO (regionOps Tryd.f11 3) 18 a0 base w0 (sb3Cs S n c p l v) 6 := by
  intro o ho u W hI hR
  obtain ⟨e1, e2, e3⟩ := ob_op ho (show ((regionOps Tryd.f11 3)[6]?).map (fun o => (o.op, o.dst, o.guard)) = some (.binOp .eql 3 (.tmp 33) (.tmp 34) 3, some 35, some (3, true)) by kernel_rfl)
  have xg := ev_val (v := .bool true) (cs := (sb3Cs S n c p l v)) sb3_ok hR ho (j := 3) (t := 32) (by rw [F.hz]; kernel_rfl) rfl
  rw [if_pos (wanted_yes e3 (t := 32) (by kernel_rfl) xg)]
  intro K hK
  have x0 := ev_val (v := .int .i64 (n)) (cs := (sb3Cs S n c p l v)) sb3_ok hR ho (j := 4) (t := 33) (by rw [F.hz]; kernel_rfl) rfl
  have x1 := ev_val (v := .int .i64 (n)) (cs := (sb3Cs S n c p l v)) sb3_ok hR ho (j := 5) (t := 34) (by rw [F.hz]; kernel_rfl) rfl
  exact opw_eqi e1 x0 x1 (beq_self_eq_true _) (hK _ _ ⟨_, rfl, rfl⟩ hI (Below.refl _ _))
theorem sb3_7 (F : Sb3 a0 w0 base B7 B10 B12 S n c p l v N E) : PO (regionOps Tryd.f11 3) 18 a0 base w0 (sb3Cs S n c p l v) 7 := by
  intro o ho u W hI hR
  obtain ⟨e1, e2, e3⟩ := ob_op ho (show ((regionOps Tryd.f11 3)[7]?).map (fun o => (o.op, o.dst, o.guard)) = some (.pick (.tmp 32) (.tmp 35) (.const (.bool false)), some 36, none) by kernel_rfl)
  rw [if_pos (plan_free e3 _)]
  intro K hK
  have x0 := ev_val (v := .bool true) (cs := (sb3Cs S n c p l v)) sb3_ok hR ho (j := 3) (t := 32) (by rw [F.hz]; kernel_rfl) rfl
  have x1 := ev_val (v := .bool true) (cs := (sb3Cs S n c p l v)) sb3_ok hR ho (j := 6) (t := 35) (by rw [F.hz]; kernel_rfl) rfl
  exact opw_pickT e1 x0 x1 (hK _ _ ⟨_, rfl, rfl⟩ hI (Below.refl _ _))
theorem sb3_8 (F : Sb3 a0 w0 base B7 B10 B12 S n c p l v N E) : PO (regionOps Tryd.f11 3) 18 a0 base w0 (sb3Cs S n c p l v) 8 := by
  intro o ho u W hI hR
  obtain ⟨e1, e2, e3⟩ := ob_op ho (show ((regionOps Tryd.f11 3)[8]?).map (fun o => (o.op, o.dst, o.guard)) = some (.move (.tmp 36), some 37, none) by kernel_rfl)
  rw [if_pos (plan_free e3 _)]
  intro K hK
  have x0 := ev_val (v := .bool true) (cs := (sb3Cs S n c p l v)) sb3_ok hR ho (j := 7) (t := 36) (by rw [F.hz]; kernel_rfl) rfl
  exact opw_move e1 x0 (hK _ _ ⟨_, rfl, rfl⟩ hI (Below.refl _ _))
theorem sb3_9 (F : Sb3 a0 w0 base B7 B10 B12 S n c p l v N E) : PO (regionOps Tryd.f11 3) 18 a0 base w0 (sb3Cs S n c p l v) 9 := by
  intro o ho u W hI hR
  obtain ⟨e1, e2, e3⟩ := ob_op ho (show ((regionOps Tryd.f11 3)[9]?).map (fun o => (o.op, o.dst, o.guard)) = some (.move (.tmp 9), some 38, some (8, true)) by kernel_rfl)
  have xg := ev_val (v := .bool true) (cs := (sb3Cs S n c p l v)) sb3_ok hR ho (j := 8) (t := 37) (by rw [F.hz]; kernel_rfl) rfl
  rw [if_pos (wanted_yes e3 (t := 37) (by kernel_rfl) xg)]
  intro K hK
  have x0 := ev_base (u := u) sb3_ok (by kernel_rfl) F.h9
  exact opw_move e1 x0 (hK _ _ ⟨_, rfl, rfl⟩ hI (Below.refl _ _))
theorem sb3_10 (F : Sb3 a0 w0 base B7 B10 B12 S n c p l v N E) : PO (regionOps Tryd.f11 3) 18 a0 base w0 (sb3Cs S n c p l v) 10 := by
  intro o ho u W hI hR
  obtain ⟨e1, e2, e3⟩ := ob_op ho (show ((regionOps Tryd.f11 3)[10]?).map (fun o => (o.op, o.dst, o.guard)) = some (.call { callee := .value (.func 44), args := #[(.tmp 38)], argTypes := #[46] }, some 39, some (8, true)) by kernel_rfl)
  have xg := ev_val (v := .bool true) (cs := (sb3Cs S n c p l v)) sb3_ok hR ho (j := 8) (t := 37) (by rw [F.hz]; kernel_rfl) rfl
  rw [if_pos (wanted_yes e3 (t := 37) (by kernel_rfl) xg)]
  intro K hK
  have x0 := ev_val (v := v) (cs := (sb3Cs S n c p l v)) sb3_ok hR ho (j := 9) (t := 38) (by rw [F.hz]; kernel_rfl) rfl
  refine opw_call e1 (vs := #[v]) (by simp only [List.map_toArray, List.map_cons, List.map_nil, x0]) Tryd.func44 (by kernel_rfl) (by kernel_rfl) (F.hT W hI.1 hI.2) ?_
  rintro e W' ⟨rfl, b⟩
  exact ⟨_, rfl, hK _ _ ⟨_, rfl, rfl⟩ (hI.step b) b⟩
theorem sb3_11 (F : Sb3 a0 w0 base B7 B10 B12 S n c p l v N E) : PO (regionOps Tryd.f11 3) 18 a0 base w0 (sb3Cs S n c p l v) 11 := by
  intro o ho u W hI hR
  obtain ⟨e1, e2, e3⟩ := ob_op ho (show ((regionOps Tryd.f11 3)[11]?).map (fun o => (o.op, o.dst, o.guard)) = some (.load 62 (.tmp 12), some 40, some (8, true)) by kernel_rfl)
  have xg := ev_val (v := .bool true) (cs := (sb3Cs S n c p l v)) sb3_ok hR ho (j := 8) (t := 37) (by rw [F.hz]; kernel_rfl) rfl
  rw [if_pos (wanted_yes e3 (t := 37) (by kernel_rfl) xg)]
  intro K hK
  have x0 := ev_base (u := u) sb3_ok (by kernel_rfl) F.h12
  exact opw_load_flt e1 x0 (row_below F.b12 hI.1 F.l12) (hK _ _ ⟨_, rfl, rfl⟩ hI (Below.refl _ _))
theorem sb3_12 (F : Sb3 a0 w0 base B7 B10 B12 S n c p l v N E) : PO (regionOps Tryd.f11 3) 18 a0 base w0 (sb3Cs S n c p l v) 12 := by
  intro o ho u W hI hR
  obtain ⟨e1, e2, e3⟩ := ob_op ho (show ((regionOps Tryd.f11 3)[12]?).map (fun o => (o.op, o.dst, o.guard)) = some (.binOp .eql 62 (.tmp 39) (.tmp 40) 62, some 41, some (8, true)) by kernel_rfl)
  have xg := ev_val (v := .bool true) (cs := (sb3Cs S n c p l v)) sb3_ok hR ho (j := 8) (t := 37) (by rw [F.hz]; kernel_rfl) rfl
  rw [if_pos (wanted_yes e3 (t := 37) (by kernel_rfl) xg)]
  intro K hK
  have x0 := ev_val (v := fv c p l) (cs := (sb3Cs S n c p l v)) sb3_ok hR ho (j := 10) (t := 39) (by rw [F.hz]; kernel_rfl) rfl
  have x1 := ev_val (v := fv c p l) (cs := (sb3Cs S n c p l v)) sb3_ok hR ho (j := 11) (t := 40) (by rw [F.hz]; kernel_rfl) rfl
  exact opw_bin e1 x0 x1 (fltGuard _ _ _ c p l W) (eql_flt c p l W) (hK _ _ ⟨_, rfl, rfl⟩ hI (Below.refl _ _))
theorem sb3_13 (F : Sb3 a0 w0 base B7 B10 B12 S n c p l v N E) : PO (regionOps Tryd.f11 3) 18 a0 base w0 (sb3Cs S n c p l v) 13 := by
  intro o ho u W hI hR
  obtain ⟨e1, e2, e3⟩ := ob_op ho (show ((regionOps Tryd.f11 3)[13]?).map (fun o => (o.op, o.dst, o.guard)) = some (.pick (.tmp 37) (.tmp 41) (.const (.bool false)), some 42, none) by kernel_rfl)
  rw [if_pos (plan_free e3 _)]
  intro K hK
  have x0 := ev_val (v := .bool true) (cs := (sb3Cs S n c p l v)) sb3_ok hR ho (j := 8) (t := 37) (by rw [F.hz]; kernel_rfl) rfl
  have x1 := ev_val (v := .bool true) (cs := (sb3Cs S n c p l v)) sb3_ok hR ho (j := 12) (t := 41) (by rw [F.hz]; kernel_rfl) rfl
  exact opw_pickT e1 x0 x1 (hK _ _ ⟨_, rfl, rfl⟩ hI (Below.refl _ _))
theorem sb3_14 (F : Sb3 a0 w0 base B7 B10 B12 S n c p l v N E) : PO (regionOps Tryd.f11 3) 18 a0 base w0 (sb3Cs S n c p l v) 14 := by
  intro o ho u W hI hR
  obtain ⟨e1, e2, e3⟩ := ob_op ho (show ((regionOps Tryd.f11 3)[14]?).map (fun o => (o.op, o.dst, o.guard)) = some (.move (.tmp 42), some 43, none) by kernel_rfl)
  rw [if_pos (plan_free e3 _)]
  intro K hK
  have x0 := ev_val (v := .bool true) (cs := (sb3Cs S n c p l v)) sb3_ok hR ho (j := 13) (t := 42) (by rw [F.hz]; kernel_rfl) rfl
  exact opw_move e1 x0 (hK _ _ ⟨_, rfl, rfl⟩ hI (Below.refl _ _))
theorem sb3_15 (F : Sb3 a0 w0 base B7 B10 B12 S n c p l v N E) : PO (regionOps Tryd.f11 3) 18 a0 base w0 (sb3Cs S n c p l v) 15 := by
  intro o ho u W hI hR
  obtain ⟨e1, e2, e3⟩ := ob_op ho (show ((regionOps Tryd.f11 3)[15]?).map (fun o => (o.op, o.dst, o.guard)) = some (.call { callee := .value (.func 19), args := #[], argTypes := #[] }, some 44, some (14, true)) by kernel_rfl)
  have xg := ev_val (v := .bool true) (cs := (sb3Cs S n c p l v)) sb3_ok hR ho (j := 14) (t := 43) (by rw [F.hz]; kernel_rfl) rfl
  rw [if_pos (wanted_yes e3 (t := 43) (by kernel_rfl) xg)]
  intro K hK
  refine opw_call e1 (vs := #[]) (by simp only [List.map_toArray, List.map_nil]) Tryd.func19 (by kernel_rfl) (by kernel_rfl) (awake_any (N := N) (E := E) W (F.hE.below hI.1 F.hN) (Nat.le_trans F.hN hI.2)) ?_
  rintro e W' ⟨rfl, b⟩
  exact ⟨_, rfl, hK _ _ ⟨_, rfl, rfl⟩ (hI.step b) b⟩
theorem sb3_16 (F : Sb3 a0 w0 base B7 B10 B12 S n c p l v N E) : PO (regionOps Tryd.f11 3) 18 a0 base w0 (sb3Cs S n c p l v) 16 := by
  intro o ho u W hI hR
  obtain ⟨e1, e2, e3⟩ := ob_op ho (show ((regionOps Tryd.f11 3)[16]?).map (fun o => (o.op, o.dst, o.guard)) = some (.pick (.tmp 43) (.tmp 44) (.const (.bool false)), some 45, none) by kernel_rfl)
  rw [if_pos (plan_free e3 _)]
  intro K hK
  have x0 := ev_val (v := .bool true) (cs := (sb3Cs S n c p l v)) sb3_ok hR ho (j := 14) (t := 43) (by rw [F.hz]; kernel_rfl) rfl
  have x1 := ev_val (v := .bool true) (cs := (sb3Cs S n c p l v)) sb3_ok hR ho (j := 15) (t := 44) (by rw [F.hz]; kernel_rfl) rfl
  exact opw_pickT e1 x0 x1 (hK _ _ ⟨_, rfl, rfl⟩ hI (Below.refl _ _))
theorem sb3_17 (F : Sb3 a0 w0 base B7 B10 B12 S n c p l v N E) : PO (regionOps Tryd.f11 3) 18 a0 base w0 (sb3Cs S n c p l v) 17 := by
  intro o ho u W hI hR
  obtain ⟨e1, e2, e3⟩ := ob_op ho (show ((regionOps Tryd.f11 3)[17]?).map (fun o => (o.op, o.dst, o.guard)) = some (.assign (.tmp 45), some 6, none) by kernel_rfl)
  rw [if_pos (plan_free e3 _)]
  intro K hK
  have x0 := ev_val (v := .bool true) (cs := (sb3Cs S n c p l v)) sb3_ok hR ho (j := 16) (t := 45) (by rw [F.hz]; kernel_rfl) rfl
  exact opw_assign e1 x0 (hK _ _ ⟨_, rfl, rfl⟩ hI (Below.refl _ _))
theorem sb3_all (F : Sb3 a0 w0 base B7 B10 B12 S n c p l v N E) : ∀ i, i < 18 → PO (regionOps Tryd.f11 3) 18 a0 base w0 (sb3Cs S n c p l v) i
  | 0, _ => sb3_0 F
  | 1, _ => sb3_1 F
  | 2, _ => sb3_2 F
  | 3, _ => sb3_3 F
  | 4, _ => sb3_4 F
  | 5, _ => sb3_5 F
  | 6, _ => sb3_6 F
  | 7, _ => sb3_7 F
  | 8, _ => sb3_8 F
  | 9, _ => sb3_9 F
  | 10, _ => sb3_10 F
  | 11, _ => sb3_11 F
  | 12, _ => sb3_12 F
  | 13, _ => sb3_13 F
  | 14, _ => sb3_14 F
  | 15, _ => sb3_15 F
  | 16, _ => sb3_16 F
  | 17, _ => sb3_17 F
  | i + 18, h => absurd h (by omega)
theorem sb3_plan : planOf (regionOps Tryd.f11 3) (upto 18) = [(some 29, 0), (some 30, 1), (some 31, 2), (some 32, 3), (some 33, 4), (some 34, 5), (some 35, 6), (some 36, 7), (some 37, 8), (some 38, 9), (some 39, 10), (some 40, 11), (some 41, 12), (some 42, 13), (some 43, 14), (some 44, 15), (some 45, 16), (some 6, 17)] := by kernel_rfl
theorem sb3_wp {id : Nat} {Q : Exit → Act → World → Prop} (F : Sb3 a0 w0 base B7 B10 B12 S n c p l v N E) (hb : base ≤ w0.heap.size)
    (hq : ∀ (u : Nat → Value) (W : World), u 17 = .bool true → Below base w0 W → base ≤ W.heap.size → Q .normal (putL (planOf (regionOps Tryd.f11 3) (upto 18)) u a0) W) :
    (Code.region id (regionOps Tryd.f11 3) true).wp Tryd.prog Q a0 w0 := by
  refine wp_plan_cl 18 0 (sb3Cs S n c p l v) sb3_ok (by kernel_rfl) hb (sb3_all F) fun u W hI1 hI2 hR => ?_
  refine ⟨by kernel_rfl, hq u W ?_ hI1 hI2⟩
  obtain ⟨c, hc, h⟩ := hR 17 (of_decide_eq_true (by kernel_rfl)) (by decide)
  cases hc
  exact h
end Go.Proofs.YteeopjgfiojoiaaDoor
