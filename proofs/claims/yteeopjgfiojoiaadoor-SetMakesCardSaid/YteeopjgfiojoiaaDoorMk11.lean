/- What SetMakes tells at its end: whatever order is drawn, it is true. Conditions: the set and its bytes lie in memory, and the errors' variables. -/
import Derived.Test.YteeopjgfiojoiaaDoorPlan2
import Derived.Test.YteeopjgfiojoiaaDoorSetR1
import Derived.Test.YteeopjgfiojoiaaDoorAwake
import Derived.Test.YteeopjgfiojoiaaDoorWRanges
namespace Go.Proofs.YteeopjgfiojoiaaDoor
open Go Go.RowKit SN

structure Mk11 (a0 : Act) (w0 : World) (base B8 S lo N cap : Nat) (p : Option Addr) (E : Nat → Addr) (s : Bool) : Prop where
  hz : a0.tmps.size = 87
  h1 : a0.eval (.tmp 1) = .int .u8 lo
  h8 : a0.eval (.tmp 8) = .pointer (some ⟨B8, 0, none⟩)
  h13 : a0.eval (.tmp 13) = .slice p (mem S).length cap
  b8 : IsSet 24 w0 B8 S
  l8 : B8 < base
  hB : HasB w0 p (toB (mem S))
  hbs : w0.heap.size ≤ base
  hl : lo < 256
  hbit : S.testBit lo = s
  hE : Errs N E w0
  hN : N ≤ base
variable {a0 : Act} {w0 : World} {base B8 S lo N cap : Nat} {p : Option Addr} {E : Nat → Addr}
theorem same_any {l : List Nat} {p q : Option Addr} {c d : Nat} {W : World} (hp : HasB W p (toB l)) (hq : HasB W q (toB l)) :
    Calls Tryd.prog 33 #[.slice p l.length c, .slice q l.length d] W fun e w' => e = .returned (.bool true) ∧ Below W.heap.size W w' := by
  have h := r1Bytes_any p q c d (toB l) (toB l) W hp hq
  rw [toB_size, beq_self_eq_true] at h
  exact h.mono fun e w' ⟨he, hw⟩ => ⟨he, hw ▸ Below.refl _ _⟩

def mk11tCs (S lo cap : Nat) (p : Option Addr) : List Claim := [.val (sv (S)), .val (.int .u8 (lo)), .val (.bool true), .val (sv (S)), .val (.int .u8 (lo)), .val (.bool true), .val (.bool true), .val (.bool true), .val (sv (S)), .val (.int .i64 ((cnt (S) : Nat))), .val (.slice p (mem S).length cap), .val (.int .i64 ((cnt (S) : Nat))), .val (.bool true), .val (.bool true), .val (.bool true), .val (sv (S)), .bytes (mem (S)), .val (.slice p (mem S).length cap), .val (.bool true), .val (.bool true), .val (.bool true), .val (.bool true), .val (.bool true), .val (.bool true)]
theorem mk11t_ok : planOk .any (regionOps Tryd.f4 11) (upto 24) = true := by kernel_rfl
theorem mk11t_0 (F : Mk11 a0 w0 base B8 S lo N cap p E true) : PO (regionOps Tryd.f4 11) 24 a0 base w0 (mk11tCs S lo cap p) 0 := by
  intro o ho u W hI hR
  obtain ⟨e1, e2, e3⟩ := ob_op ho (show ((regionOps Tryd.f4 11)[0]?).map (fun o => (o.op, o.dst, o.guard)) = some (.load 24 (.tmp 8), some 64, none) by kernel_rfl)
  rw [if_pos (plan_free e3 _)]
  intro K hK
  have x0 := ev_base (u := u) mk11t_ok (by kernel_rfl) F.h8
  exact opw_load_set e1 x0 (F.b8.below hI.1 F.l8) (hK _ _ ⟨_, rfl, rfl⟩ hI (Below.refl _ _))
theorem mk11t_1 (F : Mk11 a0 w0 base B8 S lo N cap p E true) : PO (regionOps Tryd.f4 11) 24 a0 base w0 (mk11tCs S lo cap p) 1 := by
  intro o ho u W hI hR
  obtain ⟨e1, e2, e3⟩ := ob_op ho (show ((regionOps Tryd.f4 11)[1]?).map (fun o => (o.op, o.dst, o.guard)) = some (.move (.tmp 1), some 65, none) by kernel_rfl)
  rw [if_pos (plan_free e3 _)]
  intro K hK
  have x0 := ev_base (u := u) mk11t_ok (by kernel_rfl) F.h1
  exact opw_move e1 x0 (hK _ _ ⟨_, rfl, rfl⟩ hI (Below.refl _ _))
theorem mk11t_2 (F : Mk11 a0 w0 base B8 S lo N cap p E true) : PO (regionOps Tryd.f4 11) 24 a0 base w0 (mk11tCs S lo cap p) 2 := by
  intro o ho u W hI hR
  obtain ⟨e1, e2, e3⟩ := ob_op ho (show ((regionOps Tryd.f4 11)[2]?).map (fun o => (o.op, o.dst, o.guard)) = some (.call { callee := .value (.func 30), args := #[(.tmp 64), (.tmp 65)], argTypes := #[24, 5] }, some 66, none) by kernel_rfl)
  rw [if_pos (plan_free e3 _)]
  intro K hK
  have x0 := ev_val (v := sv (S)) (cs := (mk11tCs S lo cap p)) mk11t_ok hR ho (j := 0) (t := 64) (by rw [F.hz]; kernel_rfl) rfl
  have x1 := ev_val (v := .int .u8 (lo)) (cs := (mk11tCs S lo cap p)) mk11t_ok hR ho (j := 1) (t := 65) (by rw [F.hz]; kernel_rfl) rfl
  refine opw_call e1 (vs := #[sv (S), .int .u8 lo]) (by simp only [List.map_toArray, List.map_cons, List.map_nil, x0, x1]) Tryd.func30 (by kernel_rfl) (by kernel_rfl) (Has_any (S) lo F.hl W) ?_
  rintro e W' ⟨rfl, b⟩
  exact ⟨_, rfl, hK _ _ ⟨_, rfl, congrArg Value.bool F.hbit⟩ (hI.step b) b⟩
theorem mk11t_3 (F : Mk11 a0 w0 base B8 S lo N cap p E true) : PO (regionOps Tryd.f4 11) 24 a0 base w0 (mk11tCs S lo cap p) 3 := by
  intro o ho u W hI hR
  obtain ⟨e1, e2, e3⟩ := ob_op ho (show ((regionOps Tryd.f4 11)[3]?).map (fun o => (o.op, o.dst, o.guard)) = some (.load 24 (.tmp 8), some 67, none) by kernel_rfl)
  rw [if_pos (plan_free e3 _)]
  intro K hK
  have x0 := ev_base (u := u) mk11t_ok (by kernel_rfl) F.h8
  exact opw_load_set e1 x0 (F.b8.below hI.1 F.l8) (hK _ _ ⟨_, rfl, rfl⟩ hI (Below.refl _ _))
theorem mk11t_4 (F : Mk11 a0 w0 base B8 S lo N cap p E true) : PO (regionOps Tryd.f4 11) 24 a0 base w0 (mk11tCs S lo cap p) 4 := by
  intro o ho u W hI hR
  obtain ⟨e1, e2, e3⟩ := ob_op ho (show ((regionOps Tryd.f4 11)[4]?).map (fun o => (o.op, o.dst, o.guard)) = some (.move (.tmp 1), some 68, none) by kernel_rfl)
  rw [if_pos (plan_free e3 _)]
  intro K hK
  have x0 := ev_base (u := u) mk11t_ok (by kernel_rfl) F.h1
  exact opw_move e1 x0 (hK _ _ ⟨_, rfl, rfl⟩ hI (Below.refl _ _))
theorem mk11t_5 (F : Mk11 a0 w0 base B8 S lo N cap p E true) : PO (regionOps Tryd.f4 11) 24 a0 base w0 (mk11tCs S lo cap p) 5 := by
  intro o ho u W hI hR
  obtain ⟨e1, e2, e3⟩ := ob_op ho (show ((regionOps Tryd.f4 11)[5]?).map (fun o => (o.op, o.dst, o.guard)) = some (.call { callee := .value (.func 31), args := #[(.tmp 67), (.tmp 68)], argTypes := #[24, 5] }, some 69, none) by kernel_rfl)
  rw [if_pos (plan_free e3 _)]
  intro K hK
  have x0 := ev_val (v := sv (S)) (cs := (mk11tCs S lo cap p)) mk11t_ok hR ho (j := 3) (t := 67) (by rw [F.hz]; kernel_rfl) rfl
  have x1 := ev_val (v := .int .u8 (lo)) (cs := (mk11tCs S lo cap p)) mk11t_ok hR ho (j := 4) (t := 68) (by rw [F.hz]; kernel_rfl) rfl
  refine opw_call e1 (vs := #[sv (S), .int .u8 lo]) (by simp only [List.map_toArray, List.map_cons, List.map_nil, x0, x1]) Tryd.func31 (by kernel_rfl) (by kernel_rfl) (r5Has_any (S) lo F.hl W) ?_
  rintro e W' ⟨rfl, b⟩
  exact ⟨_, rfl, hK _ _ ⟨_, rfl, congrArg Value.bool F.hbit⟩ (hI.step b) b⟩
theorem mk11t_6 (F : Mk11 a0 w0 base B8 S lo N cap p E true) : PO (regionOps Tryd.f4 11) 24 a0 base w0 (mk11tCs S lo cap p) 6 := by
  intro o ho u W hI hR
  obtain ⟨e1, e2, e3⟩ := ob_op ho (show ((regionOps Tryd.f4 11)[6]?).map (fun o => (o.op, o.dst, o.guard)) = some (.binOp .eql 4 (.tmp 66) (.tmp 69) 4, some 70, none) by kernel_rfl)
  rw [if_pos (plan_free e3 _)]
  intro K hK
  have x0 := ev_val (v := .bool true) (cs := (mk11tCs S lo cap p)) mk11t_ok hR ho (j := 2) (t := 66) (by rw [F.hz]; kernel_rfl) rfl
  have x1 := ev_val (v := .bool true) (cs := (mk11tCs S lo cap p)) mk11t_ok hR ho (j := 5) (t := 69) (by rw [F.hz]; kernel_rfl) rfl
  exact opw_eqb e1 x0 x1 (by decide) (hK _ _ ⟨_, rfl, rfl⟩ hI (Below.refl _ _))
theorem mk11t_7 (F : Mk11 a0 w0 base B8 S lo N cap p E true) : PO (regionOps Tryd.f4 11) 24 a0 base w0 (mk11tCs S lo cap p) 7 := by
  intro o ho u W hI hR
  obtain ⟨e1, e2, e3⟩ := ob_op ho (show ((regionOps Tryd.f4 11)[7]?).map (fun o => (o.op, o.dst, o.guard)) = some (.move (.tmp 70), some 71, none) by kernel_rfl)
  rw [if_pos (plan_free e3 _)]
  intro K hK
  have x0 := ev_val (v := .bool true) (cs := (mk11tCs S lo cap p)) mk11t_ok hR ho (j := 6) (t := 70) (by rw [F.hz]; kernel_rfl) rfl
  exact opw_move e1 x0 (hK _ _ ⟨_, rfl, rfl⟩ hI (Below.refl _ _))
theorem mk11t_8 (F : Mk11 a0 w0 base B8 S lo N cap p E true) : PO (regionOps Tryd.f4 11) 24 a0 base w0 (mk11tCs S lo cap p) 8 := by
  intro o ho u W hI hR
  obtain ⟨e1, e2, e3⟩ := ob_op ho (show ((regionOps Tryd.f4 11)[8]?).map (fun o => (o.op, o.dst, o.guard)) = some (.load 24 (.tmp 8), some 72, some (7, true)) by kernel_rfl)
  have xg := ev_val (v := .bool true) (cs := (mk11tCs S lo cap p)) mk11t_ok hR ho (j := 7) (t := 71) (by rw [F.hz]; kernel_rfl) rfl
  rw [if_pos (wanted_yes e3 (t := 71) (by kernel_rfl) xg)]
  intro K hK
  have x0 := ev_base (u := u) mk11t_ok (by kernel_rfl) F.h8
  exact opw_load_set e1 x0 (F.b8.below hI.1 F.l8) (hK _ _ ⟨_, rfl, rfl⟩ hI (Below.refl _ _))
theorem mk11t_9 (F : Mk11 a0 w0 base B8 S lo N cap p E true) : PO (regionOps Tryd.f4 11) 24 a0 base w0 (mk11tCs S lo cap p) 9 := by
  intro o ho u W hI hR
  obtain ⟨e1, e2, e3⟩ := ob_op ho (show ((regionOps Tryd.f4 11)[9]?).map (fun o => (o.op, o.dst, o.guard)) = some (.call { callee := .value (.func 32), args := #[(.tmp 72)], argTypes := #[24] }, some 73, some (7, true)) by kernel_rfl)
  have xg := ev_val (v := .bool true) (cs := (mk11tCs S lo cap p)) mk11t_ok hR ho (j := 7) (t := 71) (by rw [F.hz]; kernel_rfl) rfl
  rw [if_pos (wanted_yes e3 (t := 71) (by kernel_rfl) xg)]
  intro K hK
  have x0 := ev_val (v := sv (S)) (cs := (mk11tCs S lo cap p)) mk11t_ok hR ho (j := 8) (t := 72) (by rw [F.hz]; kernel_rfl) rfl
  refine opw_call e1 (vs := #[sv (S)]) (by simp only [List.map_toArray, List.map_cons, List.map_nil, x0]) Tryd.func32 (by kernel_rfl) (by kernel_rfl) (Len_any (S) W) ?_
  rintro e W' ⟨rfl, b⟩
  exact ⟨_, rfl, hK _ _ ⟨_, rfl, rfl⟩ (hI.step b) b⟩
theorem mk11t_10 (F : Mk11 a0 w0 base B8 S lo N cap p E true) : PO (regionOps Tryd.f4 11) 24 a0 base w0 (mk11tCs S lo cap p) 10 := by
  intro o ho u W hI hR
  obtain ⟨e1, e2, e3⟩ := ob_op ho (show ((regionOps Tryd.f4 11)[10]?).map (fun o => (o.op, o.dst, o.guard)) = some (.move (.tmp 13), some 74, some (7, true)) by kernel_rfl)
  have xg := ev_val (v := .bool true) (cs := (mk11tCs S lo cap p)) mk11t_ok hR ho (j := 7) (t := 71) (by rw [F.hz]; kernel_rfl) rfl
  rw [if_pos (wanted_yes e3 (t := 71) (by kernel_rfl) xg)]
  intro K hK
  have x0 := ev_base (u := u) mk11t_ok (by kernel_rfl) F.h13
  exact opw_move e1 x0 (hK _ _ ⟨_, rfl, rfl⟩ hI (Below.refl _ _))
theorem mk11t_11 (F : Mk11 a0 w0 base B8 S lo N cap p E true) : PO (regionOps Tryd.f4 11) 24 a0 base w0 (mk11tCs S lo cap p) 11 := by
  intro o ho u W hI hR
  obtain ⟨e1, e2, e3⟩ := ob_op ho (show ((regionOps Tryd.f4 11)[11]?).map (fun o => (o.op, o.dst, o.guard)) = some (.call { callee := .builtin .len, args := #[(.tmp 74)], argTypes := #[36] }, some 75, some (7, true)) by kernel_rfl)
  have xg := ev_val (v := .bool true) (cs := (mk11tCs S lo cap p)) mk11t_ok hR ho (j := 7) (t := 71) (by rw [F.hz]; kernel_rfl) rfl
  rw [if_pos (wanted_yes e3 (t := 71) (by kernel_rfl) xg)]
  intro K hK
  have x0 := ev_val (v := .slice p (mem S).length cap) (cs := (mk11tCs S lo cap p)) mk11t_ok hR ho (j := 10) (t := 74) (by rw [F.hz]; kernel_rfl) rfl
  exact opw_len e1 x0 (fun ty => by kernel_rfl) (hK _ _ ⟨_, rfl, rfl⟩ hI (Below.refl _ _))
theorem mk11t_12 (F : Mk11 a0 w0 base B8 S lo N cap p E true) : PO (regionOps Tryd.f4 11) 24 a0 base w0 (mk11tCs S lo cap p) 12 := by
  intro o ho u W hI hR
  obtain ⟨e1, e2, e3⟩ := ob_op ho (show ((regionOps Tryd.f4 11)[12]?).map (fun o => (o.op, o.dst, o.guard)) = some (.binOp .eql 3 (.tmp 73) (.tmp 75) 3, some 76, some (7, true)) by kernel_rfl)
  have xg := ev_val (v := .bool true) (cs := (mk11tCs S lo cap p)) mk11t_ok hR ho (j := 7) (t := 71) (by rw [F.hz]; kernel_rfl) rfl
  rw [if_pos (wanted_yes e3 (t := 71) (by kernel_rfl) xg)]
  intro K hK
  have x0 := ev_val (v := .int .i64 ((cnt (S) : Nat))) (cs := (mk11tCs S lo cap p)) mk11t_ok hR ho (j := 9) (t := 73) (by rw [F.hz]; kernel_rfl) rfl
  have x1 := ev_val (v := .int .i64 ((cnt (S) : Nat))) (cs := (mk11tCs S lo cap p)) mk11t_ok hR ho (j := 11) (t := 75) (by rw [F.hz]; kernel_rfl) rfl
  exact opw_eqi e1 x0 x1 (beq_self_eq_true _) (hK _ _ ⟨_, rfl, rfl⟩ hI (Below.refl _ _))
theorem mk11t_13 (F : Mk11 a0 w0 base B8 S lo N cap p E true) : PO (regionOps Tryd.f4 11) 24 a0 base w0 (mk11tCs S lo cap p) 13 := by
  intro o ho u W hI hR
  obtain ⟨e1, e2, e3⟩ := ob_op ho (show ((regionOps Tryd.f4 11)[13]?).map (fun o => (o.op, o.dst, o.guard)) = some (.pick (.tmp 71) (.tmp 76) (.const (.bool false)), some 77, none) by kernel_rfl)
  rw [if_pos (plan_free e3 _)]
  intro K hK
  have x0 := ev_val (v := .bool true) (cs := (mk11tCs S lo cap p)) mk11t_ok hR ho (j := 7) (t := 71) (by rw [F.hz]; kernel_rfl) rfl
  have x1 := ev_val (v := .bool true) (cs := (mk11tCs S lo cap p)) mk11t_ok hR ho (j := 12) (t := 76) (by rw [F.hz]; kernel_rfl) rfl
  exact opw_pickT e1 x0 x1 (hK _ _ ⟨_, rfl, rfl⟩ hI (Below.refl _ _))
theorem mk11t_14 (F : Mk11 a0 w0 base B8 S lo N cap p E true) : PO (regionOps Tryd.f4 11) 24 a0 base w0 (mk11tCs S lo cap p) 14 := by
  intro o ho u W hI hR
  obtain ⟨e1, e2, e3⟩ := ob_op ho (show ((regionOps Tryd.f4 11)[14]?).map (fun o => (o.op, o.dst, o.guard)) = some (.move (.tmp 77), some 78, none) by kernel_rfl)
  rw [if_pos (plan_free e3 _)]
  intro K hK
  have x0 := ev_val (v := .bool true) (cs := (mk11tCs S lo cap p)) mk11t_ok hR ho (j := 13) (t := 77) (by rw [F.hz]; kernel_rfl) rfl
  exact opw_move e1 x0 (hK _ _ ⟨_, rfl, rfl⟩ hI (Below.refl _ _))
theorem mk11t_15 (F : Mk11 a0 w0 base B8 S lo N cap p E true) : PO (regionOps Tryd.f4 11) 24 a0 base w0 (mk11tCs S lo cap p) 15 := by
  intro o ho u W hI hR
  obtain ⟨e1, e2, e3⟩ := ob_op ho (show ((regionOps Tryd.f4 11)[15]?).map (fun o => (o.op, o.dst, o.guard)) = some (.load 24 (.tmp 8), some 79, some (14, true)) by kernel_rfl)
  have xg := ev_val (v := .bool true) (cs := (mk11tCs S lo cap p)) mk11t_ok hR ho (j := 14) (t := 78) (by rw [F.hz]; kernel_rfl) rfl
  rw [if_pos (wanted_yes e3 (t := 78) (by kernel_rfl) xg)]
  intro K hK
  have x0 := ev_base (u := u) mk11t_ok (by kernel_rfl) F.h8
  exact opw_load_set e1 x0 (F.b8.below hI.1 F.l8) (hK _ _ ⟨_, rfl, rfl⟩ hI (Below.refl _ _))
theorem mk11t_16 (F : Mk11 a0 w0 base B8 S lo N cap p E true) : PO (regionOps Tryd.f4 11) 24 a0 base w0 (mk11tCs S lo cap p) 16 := by
  intro o ho u W hI hR
  obtain ⟨e1, e2, e3⟩ := ob_op ho (show ((regionOps Tryd.f4 11)[16]?).map (fun o => (o.op, o.dst, o.guard)) = some (.call { callee := .value (.func 34), args := #[(.tmp 79)], argTypes := #[24] }, some 80, some (14, true)) by kernel_rfl)
  have xg := ev_val (v := .bool true) (cs := (mk11tCs S lo cap p)) mk11t_ok hR ho (j := 14) (t := 78) (by rw [F.hz]; kernel_rfl) rfl
  rw [if_pos (wanted_yes e3 (t := 78) (by kernel_rfl) xg)]
  intro K hK
  have x0 := ev_val (v := sv (S)) (cs := (mk11tCs S lo cap p)) mk11t_ok hR ho (j := 15) (t := 79) (by rw [F.hz]; kernel_rfl) rfl
  refine opw_call e1 (vs := #[sv (S)]) (by simp only [List.map_toArray, List.map_cons, List.map_nil, x0]) Tryd.func34 (by kernel_rfl) (by kernel_rfl) (Bytes_any (S) W) ?_
  rintro e W' ⟨v, rfl, hv, b⟩
  obtain ⟨p, cap, rfl, hcap, hB, -⟩ := hv.hasB' (fun _ h => mem_lt h)
  exact ⟨_, rfl, hK _ _ ⟨_, rfl, p, cap, rfl, hcap, hB⟩ (hI.step b) b⟩
theorem mk11t_17 (F : Mk11 a0 w0 base B8 S lo N cap p E true) : PO (regionOps Tryd.f4 11) 24 a0 base w0 (mk11tCs S lo cap p) 17 := by
  intro o ho u W hI hR
  obtain ⟨e1, e2, e3⟩ := ob_op ho (show ((regionOps Tryd.f4 11)[17]?).map (fun o => (o.op, o.dst, o.guard)) = some (.move (.tmp 13), some 81, some (14, true)) by kernel_rfl)
  have xg := ev_val (v := .bool true) (cs := (mk11tCs S lo cap p)) mk11t_ok hR ho (j := 14) (t := 78) (by rw [F.hz]; kernel_rfl) rfl
  rw [if_pos (wanted_yes e3 (t := 78) (by kernel_rfl) xg)]
  intro K hK
  have x0 := ev_base (u := u) mk11t_ok (by kernel_rfl) F.h13
  exact opw_move e1 x0 (hK _ _ ⟨_, rfl, rfl⟩ hI (Below.refl _ _))
theorem mk11t_18 (F : Mk11 a0 w0 base B8 S lo N cap p E true) : PO (regionOps Tryd.f4 11) 24 a0 base w0 (mk11tCs S lo cap p) 18 := by
  intro o ho u W hI hR
  obtain ⟨e1, e2, e3⟩ := ob_op ho (show ((regionOps Tryd.f4 11)[18]?).map (fun o => (o.op, o.dst, o.guard)) = some (.call { callee := .value (.func 33), args := #[(.tmp 80), (.tmp 81)], argTypes := #[36, 36] }, some 82, some (14, true)) by kernel_rfl)
  have xg := ev_val (v := .bool true) (cs := (mk11tCs S lo cap p)) mk11t_ok hR ho (j := 14) (t := 78) (by rw [F.hz]; kernel_rfl) rfl
  rw [if_pos (wanted_yes e3 (t := 78) (by kernel_rfl) xg)]
  intro K hK
  obtain ⟨x0, cx0, kx0, lx0⟩ := ev_cl mk11t_ok hR ho (j := 16) (t := 80) (by rw [F.hz]; kernel_rfl)
  cases kx0
  have x1 := ev_val (v := .slice p (mem S).length cap) (cs := (mk11tCs S lo cap p)) mk11t_ok hR ho (j := 17) (t := 81) (by rw [F.hz]; kernel_rfl) rfl
  obtain ⟨p0, cap0, ex0, hc0, hb0⟩ := lx0
  rw [ex0] at x0
  refine opw_call e1 (vs := #[.slice p0 (mem (S)).length cap0, .slice p (mem S).length cap]) (by simp only [List.map_toArray, List.map_cons, List.map_nil, x0, x1]) Tryd.func33 (by kernel_rfl) (by kernel_rfl) (same_any hb0 (F.hB.below hI.1 F.hbs)) ?_
  rintro e W' ⟨rfl, b⟩
  exact ⟨_, rfl, hK _ _ ⟨_, rfl, rfl⟩ (hI.step b) b⟩
theorem mk11t_19 (F : Mk11 a0 w0 base B8 S lo N cap p E true) : PO (regionOps Tryd.f4 11) 24 a0 base w0 (mk11tCs S lo cap p) 19 := by
  intro o ho u W hI hR
  obtain ⟨e1, e2, e3⟩ := ob_op ho (show ((regionOps Tryd.f4 11)[19]?).map (fun o => (o.op, o.dst, o.guard)) = some (.pick (.tmp 78) (.tmp 82) (.const (.bool false)), some 83, none) by kernel_rfl)
  rw [if_pos (plan_free e3 _)]
  intro K hK
  have x0 := ev_val (v := .bool true) (cs := (mk11tCs S lo cap p)) mk11t_ok hR ho (j := 14) (t := 78) (by rw [F.hz]; kernel_rfl) rfl
  have x1 := ev_val (v := .bool true) (cs := (mk11tCs S lo cap p)) mk11t_ok hR ho (j := 18) (t := 82) (by rw [F.hz]; kernel_rfl) rfl
  exact opw_pickT e1 x0 x1 (hK _ _ ⟨_, rfl, rfl⟩ hI (Below.refl _ _))
theorem mk11t_20 (F : Mk11 a0 w0 base B8 S lo N cap p E true) : PO (regionOps Tryd.f4 11) 24 a0 base w0 (mk11tCs S lo cap p) 20 := by
  intro o ho u W hI hR
  obtain ⟨e1, e2, e3⟩ := ob_op ho (show ((regionOps Tryd.f4 11)[20]?).map (fun o => (o.op, o.dst, o.guard)) = some (.move (.tmp 83), some 84, none) by kernel_rfl)
  rw [if_pos (plan_free e3 _)]
  intro K hK
  have x0 := ev_val (v := .bool true) (cs := (mk11tCs S lo cap p)) mk11t_ok hR ho (j := 19) (t := 83) (by rw [F.hz]; kernel_rfl) rfl
  exact opw_move e1 x0 (hK _ _ ⟨_, rfl, rfl⟩ hI (Below.refl _ _))
theorem mk11t_21 (F : Mk11 a0 w0 base B8 S lo N cap p E true) : PO (regionOps Tryd.f4 11) 24 a0 base w0 (mk11tCs S lo cap p) 21 := by
  intro o ho u W hI hR
  obtain ⟨e1, e2, e3⟩ := ob_op ho (show ((regionOps Tryd.f4 11)[21]?).map (fun o => (o.op, o.dst, o.guard)) = some (.call { callee := .value (.func 19), args := #[], argTypes := #[] }, some 85, some (20, true)) by kernel_rfl)
  have xg := ev_val (v := .bool true) (cs := (mk11tCs S lo cap p)) mk11t_ok hR ho (j := 20) (t := 84) (by rw [F.hz]; kernel_rfl) rfl
  rw [if_pos (wanted_yes e3 (t := 84) (by kernel_rfl) xg)]
  intro K hK
  refine opw_call e1 (vs := #[]) (by simp only [List.map_toArray, List.map_nil]) Tryd.func19 (by kernel_rfl) (by kernel_rfl) (awake_any (N := N) (E := E) W (F.hE.below hI.1 F.hN) (Nat.le_trans F.hN hI.2)) ?_
  rintro e W' ⟨rfl, b⟩
  exact ⟨_, rfl, hK _ _ ⟨_, rfl, rfl⟩ (hI.step b) b⟩
theorem mk11t_22 (F : Mk11 a0 w0 base B8 S lo N cap p E true) : PO (regionOps Tryd.f4 11) 24 a0 base w0 (mk11tCs S lo cap p) 22 := by
  intro o ho u W hI hR
  obtain ⟨e1, e2, e3⟩ := ob_op ho (show ((regionOps Tryd.f4 11)[22]?).map (fun o => (o.op, o.dst, o.guard)) = some (.pick (.tmp 84) (.tmp 85) (.const (.bool false)), some 86, none) by kernel_rfl)
  rw [if_pos (plan_free e3 _)]
  intro K hK
  have x0 := ev_val (v := .bool true) (cs := (mk11tCs S lo cap p)) mk11t_ok hR ho (j := 20) (t := 84) (by rw [F.hz]; kernel_rfl) rfl
  have x1 := ev_val (v := .bool true) (cs := (mk11tCs S lo cap p)) mk11t_ok hR ho (j := 21) (t := 85) (by rw [F.hz]; kernel_rfl) rfl
  exact opw_pickT e1 x0 x1 (hK _ _ ⟨_, rfl, rfl⟩ hI (Below.refl _ _))
theorem mk11t_23 (F : Mk11 a0 w0 base B8 S lo N cap p E true) : PO (regionOps Tryd.f4 11) 24 a0 base w0 (mk11tCs S lo cap p) 23 := by
  intro o ho u W hI hR
  obtain ⟨e1, e2, e3⟩ := ob_op ho (show ((regionOps Tryd.f4 11)[23]?).map (fun o => (o.op, o.dst, o.guard)) = some (.assign (.tmp 86), some 10, none) by kernel_rfl)
  rw [if_pos (plan_free e3 _)]
  intro K hK
  have x0 := ev_val (v := .bool true) (cs := (mk11tCs S lo cap p)) mk11t_ok hR ho (j := 22) (t := 86) (by rw [F.hz]; kernel_rfl) rfl
  exact opw_assign e1 x0 (hK _ _ ⟨_, rfl, rfl⟩ hI (Below.refl _ _))
theorem mk11t_all (F : Mk11 a0 w0 base B8 S lo N cap p E true) : ∀ i, i < 24 → PO (regionOps Tryd.f4 11) 24 a0 base w0 (mk11tCs S lo cap p) i
  | 0, _ => mk11t_0 F
  | 1, _ => mk11t_1 F
  | 2, _ => mk11t_2 F
  | 3, _ => mk11t_3 F
  | 4, _ => mk11t_4 F
  | 5, _ => mk11t_5 F
  | 6, _ => mk11t_6 F
  | 7, _ => mk11t_7 F
  | 8, _ => mk11t_8 F
  | 9, _ => mk11t_9 F
  | 10, _ => mk11t_10 F
  | 11, _ => mk11t_11 F
  | 12, _ => mk11t_12 F
  | 13, _ => mk11t_13 F
  | 14, _ => mk11t_14 F
  | 15, _ => mk11t_15 F
  | 16, _ => mk11t_16 F
  | 17, _ => mk11t_17 F
  | 18, _ => mk11t_18 F
  | 19, _ => mk11t_19 F
  | 20, _ => mk11t_20 F
  | 21, _ => mk11t_21 F
  | 22, _ => mk11t_22 F
  | 23, _ => mk11t_23 F
  | i + 24, h => absurd h (by omega)
theorem mk11t_wp {id : Nat} {Q : Exit → Act → World → Prop} (F : Mk11 a0 w0 base B8 S lo N cap p E true) (hb : base ≤ w0.heap.size)
    (hq : ∀ (u : Nat → Value) (W : World), u 23 = .bool true → Below base w0 W → Q .normal (putL (planOf (regionOps Tryd.f4 11) (upto 24)) u a0) W) :
    (Code.region id (regionOps Tryd.f4 11) true).wp Tryd.prog Q a0 w0 := by
  refine wp_plan_cl 24 0 (mk11tCs S lo cap p) mk11t_ok (by kernel_rfl) hb (mk11t_all F) fun u W hI1 hI2 hR => ?_
  refine ⟨by kernel_rfl, hq u W ?_ hI1⟩
  obtain ⟨c, hc, h⟩ := hR 23 (of_decide_eq_true (by kernel_rfl)) (by decide)
  cases hc
  exact h
def mk11fCs (S lo cap : Nat) (p : Option Addr) : List Claim := [.val (sv (S)), .val (.int .u8 (lo)), .val (.bool false), .val (sv (S)), .val (.int .u8 (lo)), .val (.bool false), .val (.bool true), .val (.bool true), .val (sv (S)), .val (.int .i64 ((cnt (S) : Nat))), .val (.slice p (mem S).length cap), .val (.int .i64 ((cnt (S) : Nat))), .val (.bool true), .val (.bool true), .val (.bool true), .val (sv (S)), .bytes (mem (S)), .val (.slice p (mem S).length cap), .val (.bool true), .val (.bool true), .val (.bool true), .val (.bool true), .val (.bool true), .val (.bool true)]
theorem mk11f_ok : planOk .any (regionOps Tryd.f4 11) (upto 24) = true := by kernel_rfl
theorem mk11f_0 (F : Mk11 a0 w0 base B8 S lo N cap p E false) : PO (regionOps Tryd.f4 11) 24 a0 base w0 (mk11fCs S lo cap p) 0 := by
  intro o ho u W hI hR
  obtain ⟨e1, e2, e3⟩ := ob_op ho (show ((regionOps Tryd.f4 11)[0]?).map (fun o => (o.op, o.dst, o.guard)) = some (.load 24 (.tmp 8), some 64, none) by kernel_rfl)
  rw [if_pos (plan_free e3 _)]
  intro K hK
  have x0 := ev_base (u := u) mk11f_ok (by kernel_rfl) F.h8
  exact opw_load_set e1 x0 (F.b8.below hI.1 F.l8) (hK _ _ ⟨_, rfl, rfl⟩ hI (Below.refl _ _))
theorem mk11f_1 (F : Mk11 a0 w0 base B8 S lo N cap p E false) : PO (regionOps Tryd.f4 11) 24 a0 base w0 (mk11fCs S lo cap p) 1 := by
  intro o ho u W hI hR
  obtain ⟨e1, e2, e3⟩ := ob_op ho (show ((regionOps Tryd.f4 11)[1]?).map (fun o => (o.op, o.dst, o.guard)) = some (.move (.tmp 1), some 65, none) by kernel_rfl)
  rw [if_pos (plan_free e3 _)]
  intro K hK
  have x0 := ev_base (u := u) mk11f_ok (by kernel_rfl) F.h1
  exact opw_move e1 x0 (hK _ _ ⟨_, rfl, rfl⟩ hI (Below.refl _ _))
theorem mk11f_2 (F : Mk11 a0 w0 base B8 S lo N cap p E false) : PO (regionOps Tryd.f4 11) 24 a0 base w0 (mk11fCs S lo cap p) 2 := by
  intro o ho u W hI hR
  obtain ⟨e1, e2, e3⟩ := ob_op ho (show ((regionOps Tryd.f4 11)[2]?).map (fun o => (o.op, o.dst, o.guard)) = some (.call { callee := .value (.func 30), args := #[(.tmp 64), (.tmp 65)], argTypes := #[24, 5] }, some 66, none) by kernel_rfl)
  rw [if_pos (plan_free e3 _)]
  intro K hK
  have x0 := ev_val (v := sv (S)) (cs := (mk11fCs S lo cap p)) mk11f_ok hR ho (j := 0) (t := 64) (by rw [F.hz]; kernel_rfl) rfl
  have x1 := ev_val (v := .int .u8 (lo)) (cs := (mk11fCs S lo cap p)) mk11f_ok hR ho (j := 1) (t := 65) (by rw [F.hz]; kernel_rfl) rfl
  refine opw_call e1 (vs := #[sv (S), .int .u8 lo]) (by simp only [List.map_toArray, List.map_cons, List.map_nil, x0, x1]) Tryd.func30 (by kernel_rfl) (by kernel_rfl) (Has_any (S) lo F.hl W) ?_
  rintro e W' ⟨rfl, b⟩
  exact ⟨_, rfl, hK _ _ ⟨_, rfl, congrArg Value.bool F.hbit⟩ (hI.step b) b⟩
theorem mk11f_3 (F : Mk11 a0 w0 base B8 S lo N cap p E false) : PO (regionOps Tryd.f4 11) 24 a0 base w0 (mk11fCs S lo cap p) 3 := by
  intro o ho u W hI hR
  obtain ⟨e1, e2, e3⟩ := ob_op ho (show ((regionOps Tryd.f4 11)[3]?).map (fun o => (o.op, o.dst, o.guard)) = some (.load 24 (.tmp 8), some 67, none) by kernel_rfl)
  rw [if_pos (plan_free e3 _)]
  intro K hK
  have x0 := ev_base (u := u) mk11f_ok (by kernel_rfl) F.h8
  exact opw_load_set e1 x0 (F.b8.below hI.1 F.l8) (hK _ _ ⟨_, rfl, rfl⟩ hI (Below.refl _ _))
theorem mk11f_4 (F : Mk11 a0 w0 base B8 S lo N cap p E false) : PO (regionOps Tryd.f4 11) 24 a0 base w0 (mk11fCs S lo cap p) 4 := by
  intro o ho u W hI hR
  obtain ⟨e1, e2, e3⟩ := ob_op ho (show ((regionOps Tryd.f4 11)[4]?).map (fun o => (o.op, o.dst, o.guard)) = some (.move (.tmp 1), some 68, none) by kernel_rfl)
  rw [if_pos (plan_free e3 _)]
  intro K hK
  have x0 := ev_base (u := u) mk11f_ok (by kernel_rfl) F.h1
  exact opw_move e1 x0 (hK _ _ ⟨_, rfl, rfl⟩ hI (Below.refl _ _))
theorem mk11f_5 (F : Mk11 a0 w0 base B8 S lo N cap p E false) : PO (regionOps Tryd.f4 11) 24 a0 base w0 (mk11fCs S lo cap p) 5 := by
  intro o ho u W hI hR
  obtain ⟨e1, e2, e3⟩ := ob_op ho (show ((regionOps Tryd.f4 11)[5]?).map (fun o => (o.op, o.dst, o.guard)) = some (.call { callee := .value (.func 31), args := #[(.tmp 67), (.tmp 68)], argTypes := #[24, 5] }, some 69, none) by kernel_rfl)
  rw [if_pos (plan_free e3 _)]
  intro K hK
  have x0 := ev_val (v := sv (S)) (cs := (mk11fCs S lo cap p)) mk11f_ok hR ho (j := 3) (t := 67) (by rw [F.hz]; kernel_rfl) rfl
  have x1 := ev_val (v := .int .u8 (lo)) (cs := (mk11fCs S lo cap p)) mk11f_ok hR ho (j := 4) (t := 68) (by rw [F.hz]; kernel_rfl) rfl
  refine opw_call e1 (vs := #[sv (S), .int .u8 lo]) (by simp only [List.map_toArray, List.map_cons, List.map_nil, x0, x1]) Tryd.func31 (by kernel_rfl) (by kernel_rfl) (r5Has_any (S) lo F.hl W) ?_
  rintro e W' ⟨rfl, b⟩
  exact ⟨_, rfl, hK _ _ ⟨_, rfl, congrArg Value.bool F.hbit⟩ (hI.step b) b⟩
theorem mk11f_6 (F : Mk11 a0 w0 base B8 S lo N cap p E false) : PO (regionOps Tryd.f4 11) 24 a0 base w0 (mk11fCs S lo cap p) 6 := by
  intro o ho u W hI hR
  obtain ⟨e1, e2, e3⟩ := ob_op ho (show ((regionOps Tryd.f4 11)[6]?).map (fun o => (o.op, o.dst, o.guard)) = some (.binOp .eql 4 (.tmp 66) (.tmp 69) 4, some 70, none) by kernel_rfl)
  rw [if_pos (plan_free e3 _)]
  intro K hK
  have x0 := ev_val (v := .bool false) (cs := (mk11fCs S lo cap p)) mk11f_ok hR ho (j := 2) (t := 66) (by rw [F.hz]; kernel_rfl) rfl
  have x1 := ev_val (v := .bool false) (cs := (mk11fCs S lo cap p)) mk11f_ok hR ho (j := 5) (t := 69) (by rw [F.hz]; kernel_rfl) rfl
  exact opw_eqb e1 x0 x1 (by decide) (hK _ _ ⟨_, rfl, rfl⟩ hI (Below.refl _ _))
theorem mk11f_7 (F : Mk11 a0 w0 base B8 S lo N cap p E false) : PO (regionOps Tryd.f4 11) 24 a0 base w0 (mk11fCs S lo cap p) 7 := by
  intro o ho u W hI hR
  obtain ⟨e1, e2, e3⟩ := ob_op ho (show ((regionOps Tryd.f4 11)[7]?).map (fun o => (o.op, o.dst, o.guard)) = some (.move (.tmp 70), some 71, none) by kernel_rfl)
  rw [if_pos (plan_free e3 _)]
  intro K hK
  have x0 := ev_val (v := .bool true) (cs := (mk11fCs S lo cap p)) mk11f_ok hR ho (j := 6) (t := 70) (by rw [F.hz]; kernel_rfl) rfl
  exact opw_move e1 x0 (hK _ _ ⟨_, rfl, rfl⟩ hI (Below.refl _ _))
theorem mk11f_8 (F : Mk11 a0 w0 base B8 S lo N cap p E false) : PO (regionOps Tryd.f4 11) 24 a0 base w0 (mk11fCs S lo cap p) 8 := by
  intro o ho u W hI hR
  obtain ⟨e1, e2, e3⟩ := ob_op ho (show ((regionOps Tryd.f4 11)[8]?).map (fun o => (o.op, o.dst, o.guard)) = some (.load 24 (.tmp 8), some 72, some (7, true)) by kernel_rfl)
  have xg := ev_val (v := .bool true) (cs := (mk11fCs S lo cap p)) mk11f_ok hR ho (j := 7) (t := 71) (by rw [F.hz]; kernel_rfl) rfl
  rw [if_pos (wanted_yes e3 (t := 71) (by kernel_rfl) xg)]
  intro K hK
  have x0 := ev_base (u := u) mk11f_ok (by kernel_rfl) F.h8
  exact opw_load_set e1 x0 (F.b8.below hI.1 F.l8) (hK _ _ ⟨_, rfl, rfl⟩ hI (Below.refl _ _))
theorem mk11f_9 (F : Mk11 a0 w0 base B8 S lo N cap p E false) : PO (regionOps Tryd.f4 11) 24 a0 base w0 (mk11fCs S lo cap p) 9 := by
  intro o ho u W hI hR
  obtain ⟨e1, e2, e3⟩ := ob_op ho (show ((regionOps Tryd.f4 11)[9]?).map (fun o => (o.op, o.dst, o.guard)) = some (.call { callee := .value (.func 32), args := #[(.tmp 72)], argTypes := #[24] }, some 73, some (7, true)) by kernel_rfl)
  have xg := ev_val (v := .bool true) (cs := (mk11fCs S lo cap p)) mk11f_ok hR ho (j := 7) (t := 71) (by rw [F.hz]; kernel_rfl) rfl
  rw [if_pos (wanted_yes e3 (t := 71) (by kernel_rfl) xg)]
  intro K hK
  have x0 := ev_val (v := sv (S)) (cs := (mk11fCs S lo cap p)) mk11f_ok hR ho (j := 8) (t := 72) (by rw [F.hz]; kernel_rfl) rfl
  refine opw_call e1 (vs := #[sv (S)]) (by simp only [List.map_toArray, List.map_cons, List.map_nil, x0]) Tryd.func32 (by kernel_rfl) (by kernel_rfl) (Len_any (S) W) ?_
  rintro e W' ⟨rfl, b⟩
  exact ⟨_, rfl, hK _ _ ⟨_, rfl, rfl⟩ (hI.step b) b⟩
theorem mk11f_10 (F : Mk11 a0 w0 base B8 S lo N cap p E false) : PO (regionOps Tryd.f4 11) 24 a0 base w0 (mk11fCs S lo cap p) 10 := by
  intro o ho u W hI hR
  obtain ⟨e1, e2, e3⟩ := ob_op ho (show ((regionOps Tryd.f4 11)[10]?).map (fun o => (o.op, o.dst, o.guard)) = some (.move (.tmp 13), some 74, some (7, true)) by kernel_rfl)
  have xg := ev_val (v := .bool true) (cs := (mk11fCs S lo cap p)) mk11f_ok hR ho (j := 7) (t := 71) (by rw [F.hz]; kernel_rfl) rfl
  rw [if_pos (wanted_yes e3 (t := 71) (by kernel_rfl) xg)]
  intro K hK
  have x0 := ev_base (u := u) mk11f_ok (by kernel_rfl) F.h13
  exact opw_move e1 x0 (hK _ _ ⟨_, rfl, rfl⟩ hI (Below.refl _ _))
theorem mk11f_11 (F : Mk11 a0 w0 base B8 S lo N cap p E false) : PO (regionOps Tryd.f4 11) 24 a0 base w0 (mk11fCs S lo cap p) 11 := by
  intro o ho u W hI hR
  obtain ⟨e1, e2, e3⟩ := ob_op ho (show ((regionOps Tryd.f4 11)[11]?).map (fun o => (o.op, o.dst, o.guard)) = some (.call { callee := .builtin .len, args := #[(.tmp 74)], argTypes := #[36] }, some 75, some (7, true)) by kernel_rfl)
  have xg := ev_val (v := .bool true) (cs := (mk11fCs S lo cap p)) mk11f_ok hR ho (j := 7) (t := 71) (by rw [F.hz]; kernel_rfl) rfl
  rw [if_pos (wanted_yes e3 (t := 71) (by kernel_rfl) xg)]
  intro K hK
  have x0 := ev_val (v := .slice p (mem S).length cap) (cs := (mk11fCs S lo cap p)) mk11f_ok hR ho (j := 10) (t := 74) (by rw [F.hz]; kernel_rfl) rfl
  exact opw_len e1 x0 (fun ty => by kernel_rfl) (hK _ _ ⟨_, rfl, rfl⟩ hI (Below.refl _ _))
theorem mk11f_12 (F : Mk11 a0 w0 base B8 S lo N cap p E false) : PO (regionOps Tryd.f4 11) 24 a0 base w0 (mk11fCs S lo cap p) 12 := by
  intro o ho u W hI hR
  obtain ⟨e1, e2, e3⟩ := ob_op ho (show ((regionOps Tryd.f4 11)[12]?).map (fun o => (o.op, o.dst, o.guard)) = some (.binOp .eql 3 (.tmp 73) (.tmp 75) 3, some 76, some (7, true)) by kernel_rfl)
  have xg := ev_val (v := .bool true) (cs := (mk11fCs S lo cap p)) mk11f_ok hR ho (j := 7) (t := 71) (by rw [F.hz]; kernel_rfl) rfl
  rw [if_pos (wanted_yes e3 (t := 71) (by kernel_rfl) xg)]
  intro K hK
  have x0 := ev_val (v := .int .i64 ((cnt (S) : Nat))) (cs := (mk11fCs S lo cap p)) mk11f_ok hR ho (j := 9) (t := 73) (by rw [F.hz]; kernel_rfl) rfl
  have x1 := ev_val (v := .int .i64 ((cnt (S) : Nat))) (cs := (mk11fCs S lo cap p)) mk11f_ok hR ho (j := 11) (t := 75) (by rw [F.hz]; kernel_rfl) rfl
  exact opw_eqi e1 x0 x1 (beq_self_eq_true _) (hK _ _ ⟨_, rfl, rfl⟩ hI (Below.refl _ _))
theorem mk11f_13 (F : Mk11 a0 w0 base B8 S lo N cap p E false) : PO (regionOps Tryd.f4 11) 24 a0 base w0 (mk11fCs S lo cap p) 13 := by
  intro o ho u W hI hR
  obtain ⟨e1, e2, e3⟩ := ob_op ho (show ((regionOps Tryd.f4 11)[13]?).map (fun o => (o.op, o.dst, o.guard)) = some (.pick (.tmp 71) (.tmp 76) (.const (.bool false)), some 77, none) by kernel_rfl)
  rw [if_pos (plan_free e3 _)]
  intro K hK
  have x0 := ev_val (v := .bool true) (cs := (mk11fCs S lo cap p)) mk11f_ok hR ho (j := 7) (t := 71) (by rw [F.hz]; kernel_rfl) rfl
  have x1 := ev_val (v := .bool true) (cs := (mk11fCs S lo cap p)) mk11f_ok hR ho (j := 12) (t := 76) (by rw [F.hz]; kernel_rfl) rfl
  exact opw_pickT e1 x0 x1 (hK _ _ ⟨_, rfl, rfl⟩ hI (Below.refl _ _))
theorem mk11f_14 (F : Mk11 a0 w0 base B8 S lo N cap p E false) : PO (regionOps Tryd.f4 11) 24 a0 base w0 (mk11fCs S lo cap p) 14 := by
  intro o ho u W hI hR
  obtain ⟨e1, e2, e3⟩ := ob_op ho (show ((regionOps Tryd.f4 11)[14]?).map (fun o => (o.op, o.dst, o.guard)) = some (.move (.tmp 77), some 78, none) by kernel_rfl)
  rw [if_pos (plan_free e3 _)]
  intro K hK
  have x0 := ev_val (v := .bool true) (cs := (mk11fCs S lo cap p)) mk11f_ok hR ho (j := 13) (t := 77) (by rw [F.hz]; kernel_rfl) rfl
  exact opw_move e1 x0 (hK _ _ ⟨_, rfl, rfl⟩ hI (Below.refl _ _))
theorem mk11f_15 (F : Mk11 a0 w0 base B8 S lo N cap p E false) : PO (regionOps Tryd.f4 11) 24 a0 base w0 (mk11fCs S lo cap p) 15 := by
  intro o ho u W hI hR
  obtain ⟨e1, e2, e3⟩ := ob_op ho (show ((regionOps Tryd.f4 11)[15]?).map (fun o => (o.op, o.dst, o.guard)) = some (.load 24 (.tmp 8), some 79, some (14, true)) by kernel_rfl)
  have xg := ev_val (v := .bool true) (cs := (mk11fCs S lo cap p)) mk11f_ok hR ho (j := 14) (t := 78) (by rw [F.hz]; kernel_rfl) rfl
  rw [if_pos (wanted_yes e3 (t := 78) (by kernel_rfl) xg)]
  intro K hK
  have x0 := ev_base (u := u) mk11f_ok (by kernel_rfl) F.h8
  exact opw_load_set e1 x0 (F.b8.below hI.1 F.l8) (hK _ _ ⟨_, rfl, rfl⟩ hI (Below.refl _ _))
theorem mk11f_16 (F : Mk11 a0 w0 base B8 S lo N cap p E false) : PO (regionOps Tryd.f4 11) 24 a0 base w0 (mk11fCs S lo cap p) 16 := by
  intro o ho u W hI hR
  obtain ⟨e1, e2, e3⟩ := ob_op ho (show ((regionOps Tryd.f4 11)[16]?).map (fun o => (o.op, o.dst, o.guard)) = some (.call { callee := .value (.func 34), args := #[(.tmp 79)], argTypes := #[24] }, some 80, some (14, true)) by kernel_rfl)
  have xg := ev_val (v := .bool true) (cs := (mk11fCs S lo cap p)) mk11f_ok hR ho (j := 14) (t := 78) (by rw [F.hz]; kernel_rfl) rfl
  rw [if_pos (wanted_yes e3 (t := 78) (by kernel_rfl) xg)]
  intro K hK
  have x0 := ev_val (v := sv (S)) (cs := (mk11fCs S lo cap p)) mk11f_ok hR ho (j := 15) (t := 79) (by rw [F.hz]; kernel_rfl) rfl
  refine opw_call e1 (vs := #[sv (S)]) (by simp only [List.map_toArray, List.map_cons, List.map_nil, x0]) Tryd.func34 (by kernel_rfl) (by kernel_rfl) (Bytes_any (S) W) ?_
  rintro e W' ⟨v, rfl, hv, b⟩
  obtain ⟨p, cap, rfl, hcap, hB, -⟩ := hv.hasB' (fun _ h => mem_lt h)
  exact ⟨_, rfl, hK _ _ ⟨_, rfl, p, cap, rfl, hcap, hB⟩ (hI.step b) b⟩
theorem mk11f_17 (F : Mk11 a0 w0 base B8 S lo N cap p E false) : PO (regionOps Tryd.f4 11) 24 a0 base w0 (mk11fCs S lo cap p) 17 := by
  intro o ho u W hI hR
  obtain ⟨e1, e2, e3⟩ := ob_op ho (show ((regionOps Tryd.f4 11)[17]?).map (fun o => (o.op, o.dst, o.guard)) = some (.move (.tmp 13), some 81, some (14, true)) by kernel_rfl)
  have xg := ev_val (v := .bool true) (cs := (mk11fCs S lo cap p)) mk11f_ok hR ho (j := 14) (t := 78) (by rw [F.hz]; kernel_rfl) rfl
  rw [if_pos (wanted_yes e3 (t := 78) (by kernel_rfl) xg)]
  intro K hK
  have x0 := ev_base (u := u) mk11f_ok (by kernel_rfl) F.h13
  exact opw_move e1 x0 (hK _ _ ⟨_, rfl, rfl⟩ hI (Below.refl _ _))
theorem mk11f_18 (F : Mk11 a0 w0 base B8 S lo N cap p E false) : PO (regionOps Tryd.f4 11) 24 a0 base w0 (mk11fCs S lo cap p) 18 := by
  intro o ho u W hI hR
  obtain ⟨e1, e2, e3⟩ := ob_op ho (show ((regionOps Tryd.f4 11)[18]?).map (fun o => (o.op, o.dst, o.guard)) = some (.call { callee := .value (.func 33), args := #[(.tmp 80), (.tmp 81)], argTypes := #[36, 36] }, some 82, some (14, true)) by kernel_rfl)
  have xg := ev_val (v := .bool true) (cs := (mk11fCs S lo cap p)) mk11f_ok hR ho (j := 14) (t := 78) (by rw [F.hz]; kernel_rfl) rfl
  rw [if_pos (wanted_yes e3 (t := 78) (by kernel_rfl) xg)]
  intro K hK
  obtain ⟨x0, cx0, kx0, lx0⟩ := ev_cl mk11f_ok hR ho (j := 16) (t := 80) (by rw [F.hz]; kernel_rfl)
  cases kx0
  have x1 := ev_val (v := .slice p (mem S).length cap) (cs := (mk11fCs S lo cap p)) mk11f_ok hR ho (j := 17) (t := 81) (by rw [F.hz]; kernel_rfl) rfl
  obtain ⟨p0, cap0, ex0, hc0, hb0⟩ := lx0
  rw [ex0] at x0
  refine opw_call e1 (vs := #[.slice p0 (mem (S)).length cap0, .slice p (mem S).length cap]) (by simp only [List.map_toArray, List.map_cons, List.map_nil, x0, x1]) Tryd.func33 (by kernel_rfl) (by kernel_rfl) (same_any hb0 (F.hB.below hI.1 F.hbs)) ?_
  rintro e W' ⟨rfl, b⟩
  exact ⟨_, rfl, hK _ _ ⟨_, rfl, rfl⟩ (hI.step b) b⟩
theorem mk11f_19 (F : Mk11 a0 w0 base B8 S lo N cap p E false) : PO (regionOps Tryd.f4 11) 24 a0 base w0 (mk11fCs S lo cap p) 19 := by
  intro o ho u W hI hR
  obtain ⟨e1, e2, e3⟩ := ob_op ho (show ((regionOps Tryd.f4 11)[19]?).map (fun o => (o.op, o.dst, o.guard)) = some (.pick (.tmp 78) (.tmp 82) (.const (.bool false)), some 83, none) by kernel_rfl)
  rw [if_pos (plan_free e3 _)]
  intro K hK
  have x0 := ev_val (v := .bool true) (cs := (mk11fCs S lo cap p)) mk11f_ok hR ho (j := 14) (t := 78) (by rw [F.hz]; kernel_rfl) rfl
  have x1 := ev_val (v := .bool true) (cs := (mk11fCs S lo cap p)) mk11f_ok hR ho (j := 18) (t := 82) (by rw [F.hz]; kernel_rfl) rfl
  exact opw_pickT e1 x0 x1 (hK _ _ ⟨_, rfl, rfl⟩ hI (Below.refl _ _))
theorem mk11f_20 (F : Mk11 a0 w0 base B8 S lo N cap p E false) : PO (regionOps Tryd.f4 11) 24 a0 base w0 (mk11fCs S lo cap p) 20 := by
  intro o ho u W hI hR
  obtain ⟨e1, e2, e3⟩ := ob_op ho (show ((regionOps Tryd.f4 11)[20]?).map (fun o => (o.op, o.dst, o.guard)) = some (.move (.tmp 83), some 84, none) by kernel_rfl)
  rw [if_pos (plan_free e3 _)]
  intro K hK
  have x0 := ev_val (v := .bool true) (cs := (mk11fCs S lo cap p)) mk11f_ok hR ho (j := 19) (t := 83) (by rw [F.hz]; kernel_rfl) rfl
  exact opw_move e1 x0 (hK _ _ ⟨_, rfl, rfl⟩ hI (Below.refl _ _))
theorem mk11f_21 (F : Mk11 a0 w0 base B8 S lo N cap p E false) : PO (regionOps Tryd.f4 11) 24 a0 base w0 (mk11fCs S lo cap p) 21 := by
  intro o ho u W hI hR
  obtain ⟨e1, e2, e3⟩ := ob_op ho (show ((regionOps Tryd.f4 11)[21]?).map (fun o => (o.op, o.dst, o.guard)) = some (.call { callee := .value (.func 19), args := #[], argTypes := #[] }, some 85, some (20, true)) by kernel_rfl)
  have xg := ev_val (v := .bool true) (cs := (mk11fCs S lo cap p)) mk11f_ok hR ho (j := 20) (t := 84) (by rw [F.hz]; kernel_rfl) rfl
  rw [if_pos (wanted_yes e3 (t := 84) (by kernel_rfl) xg)]
  intro K hK
  refine opw_call e1 (vs := #[]) (by simp only [List.map_toArray, List.map_nil]) Tryd.func19 (by kernel_rfl) (by kernel_rfl) (awake_any (N := N) (E := E) W (F.hE.below hI.1 F.hN) (Nat.le_trans F.hN hI.2)) ?_
  rintro e W' ⟨rfl, b⟩
  exact ⟨_, rfl, hK _ _ ⟨_, rfl, rfl⟩ (hI.step b) b⟩
theorem mk11f_22 (F : Mk11 a0 w0 base B8 S lo N cap p E false) : PO (regionOps Tryd.f4 11) 24 a0 base w0 (mk11fCs S lo cap p) 22 := by
  intro o ho u W hI hR
  obtain ⟨e1, e2, e3⟩ := ob_op ho (show ((regionOps Tryd.f4 11)[22]?).map (fun o => (o.op, o.dst, o.guard)) = some (.pick (.tmp 84) (.tmp 85) (.const (.bool false)), some 86, none) by kernel_rfl)
  rw [if_pos (plan_free e3 _)]
  intro K hK
  have x0 := ev_val (v := .bool true) (cs := (mk11fCs S lo cap p)) mk11f_ok hR ho (j := 20) (t := 84) (by rw [F.hz]; kernel_rfl) rfl
  have x1 := ev_val (v := .bool true) (cs := (mk11fCs S lo cap p)) mk11f_ok hR ho (j := 21) (t := 85) (by rw [F.hz]; kernel_rfl) rfl
  exact opw_pickT e1 x0 x1 (hK _ _ ⟨_, rfl, rfl⟩ hI (Below.refl _ _))
theorem mk11f_23 (F : Mk11 a0 w0 base B8 S lo N cap p E false) : PO (regionOps Tryd.f4 11) 24 a0 base w0 (mk11fCs S lo cap p) 23 := by
  intro o ho u W hI hR
  obtain ⟨e1, e2, e3⟩ := ob_op ho (show ((regionOps Tryd.f4 11)[23]?).map (fun o => (o.op, o.dst, o.guard)) = some (.assign (.tmp 86), some 10, none) by kernel_rfl)
  rw [if_pos (plan_free e3 _)]
  intro K hK
  have x0 := ev_val (v := .bool true) (cs := (mk11fCs S lo cap p)) mk11f_ok hR ho (j := 22) (t := 86) (by rw [F.hz]; kernel_rfl) rfl
  exact opw_assign e1 x0 (hK _ _ ⟨_, rfl, rfl⟩ hI (Below.refl _ _))
theorem mk11f_all (F : Mk11 a0 w0 base B8 S lo N cap p E false) : ∀ i, i < 24 → PO (regionOps Tryd.f4 11) 24 a0 base w0 (mk11fCs S lo cap p) i
  | 0, _ => mk11f_0 F
  | 1, _ => mk11f_1 F
  | 2, _ => mk11f_2 F
  | 3, _ => mk11f_3 F
  | 4, _ => mk11f_4 F
  | 5, _ => mk11f_5 F
  | 6, _ => mk11f_6 F
  | 7, _ => mk11f_7 F
  | 8, _ => mk11f_8 F
  | 9, _ => mk11f_9 F
  | 10, _ => mk11f_10 F
  | 11, _ => mk11f_11 F
  | 12, _ => mk11f_12 F
  | 13, _ => mk11f_13 F
  | 14, _ => mk11f_14 F
  | 15, _ => mk11f_15 F
  | 16, _ => mk11f_16 F
  | 17, _ => mk11f_17 F
  | 18, _ => mk11f_18 F
  | 19, _ => mk11f_19 F
  | 20, _ => mk11f_20 F
  | 21, _ => mk11f_21 F
  | 22, _ => mk11f_22 F
  | 23, _ => mk11f_23 F
  | i + 24, h => absurd h (by omega)
theorem mk11f_wp {id : Nat} {Q : Exit → Act → World → Prop} (F : Mk11 a0 w0 base B8 S lo N cap p E false) (hb : base ≤ w0.heap.size)
    (hq : ∀ (u : Nat → Value) (W : World), u 23 = .bool true → Below base w0 W → Q .normal (putL (planOf (regionOps Tryd.f4 11) (upto 24)) u a0) W) :
    (Code.region id (regionOps Tryd.f4 11) true).wp Tryd.prog Q a0 w0 := by
  refine wp_plan_cl 24 0 (mk11fCs S lo cap p) mk11f_ok (by kernel_rfl) hb (mk11f_all F) fun u W hI1 hI2 hR => ?_
  refine ⟨by kernel_rfl, hq u W ?_ hI1⟩
  obtain ⟨c, hc, h⟩ := hR 23 (of_decide_eq_true (by kernel_rfl)) (by decide)
  cases hc
  exact h
theorem mk11_plan : planOf (regionOps Tryd.f4 11) (upto 24) = [(some 64, 0), (some 65, 1), (some 66, 2), (some 67, 3), (some 68, 4), (some 69, 5), (some 70, 6), (some 71, 7), (some 72, 8), (some 73, 9), (some 74, 10), (some 75, 11), (some 76, 12), (some 77, 13), (some 78, 14), (some 79, 15), (some 80, 16), (some 81, 17), (some 82, 18), (some 83, 19), (some 84, 20), (some 85, 21), (some 86, 22), (some 10, 23)] := by kernel_rfl
theorem mk11_wp {id : Nat} {Q : Exit → Act → World → Prop} {s : Bool} (F : Mk11 a0 w0 base B8 S lo N cap p E s) (hb : base ≤ w0.heap.size)
    (hq : ∀ (u : Nat → Value) (W : World), u 23 = .bool true → Below base w0 W → Q .normal (putL (planOf (regionOps Tryd.f4 11) (upto 24)) u a0) W) :
    (Code.region id (regionOps Tryd.f4 11) true).wp Tryd.prog Q a0 w0 := by
  cases s
  · exact mk11f_wp F hb hq
  · exact mk11t_wp F hb hq
end Go.Proofs.YteeopjgfiojoiaaDoor
