/- What SetMakes tells of sets made in two ways: whatever order is drawn, they are the same. Conditions: the sets lie in memory. -/
import Derived.Test.YteeopjgfiojoiaaDoorPlan2
import Derived.Test.YteeopjgfiojoiaaDoorSetR1
import Derived.Test.YteeopjgfiojoiaaDoorSetR2
import Derived.Test.YteeopjgfiojoiaaDoorMgP
namespace Go.Proofs.YteeopjgfiojoiaaDoor
open Go Go.RowKit SN

structure Mk8 (a0 : Act) (w0 : World) (base B8 B9 B11 S T L lo hi : Nat) (s : ByteArray) : Prop where
  hz : a0.tmps.size = 87
  h0 : a0.eval (.tmp 0) = .string s
  h1 : a0.eval (.tmp 1) = .int .u8 lo
  h2 : a0.eval (.tmp 2) = .int .u8 hi
  h8 : a0.eval (.tmp 8) = .pointer (some ⟨B8, 0, none⟩)
  h9 : a0.eval (.tmp 9) = .pointer (some ⟨B9, 0, none⟩)
  h11 : a0.eval (.tmp 11) = .pointer (some ⟨B11, 0, none⟩)
  b8 : IsSet 24 w0 B8 S
  b9 : IsSet 24 w0 B9 T
  b11 : IsSet 24 w0 B11 L
  l8 : B8 < base
  l9 : B9 < base
  l11 : B11 < base
  hs : s.size ≤ maxLen
  hl : lo < 256
  hh : hi < 256
  oS : Ok S
  oT : Ok T
  oL : Ok L
  hL : ofL s.data.toList = L
variable {a0 : Act} {w0 : World} {base B8 B9 B11 S T L lo hi : Nat} {s : ByteArray}
theorem union_none (W : World) : Calls Tryd.prog 27 #[.slice none 0 0] W fun e w' => e = .returned (sv 0) ∧ Below W.heap.size W w' :=
  Union_any [] none 0 W (by simp) (fun i hi => absurd hi (by simp))
def mk8Cs (S T L lo hi : Nat) (s : ByteArray) : List Claim := [.val (.string (s)), .val (sv (L)), .val (sv (L)), .val (.bool false), .val (.bool false), .val (.int .u8 (lo)), .val (.int .u8 (hi)), .val (sv (rng lo hi)), .val (.int .u8 (lo)), .val (.int .u8 (hi)), .val (sv (rng lo hi)), .val (.bool false), .val (.bool false), .val (.bool false), .val (sv (S)), .val (sv (cmpl (S))), .val (sv (S)), .val (sv (cmpl (S))), .val (.bool false), .val (.bool false), .val (.bool false), .val (sv (S)), .val (sv (T)), .two (S) (T), .val (sv (S ||| T)), .val (sv (S)), .val (sv (T)), .val (sv (S ||| T)), .val (.bool false), .val (.bool false), .val (.bool false), .val (sv (0)), .val (sv (0)), .val (.bool false), .val (.bool false)]
theorem mk8_ok : planOk .any (regionOps Tryd.f4 8) (upto 35) = true := by kernel_rfl
theorem mk8_0 (F : Mk8 a0 w0 base B8 B9 B11 S T L lo hi s) : PO (regionOps Tryd.f4 8) 35 a0 base w0 (mk8Cs S T L lo hi s) 0 := by
  intro o ho u W hI hR
  obtain ⟨e1, e2, e3⟩ := ob_op ho (show ((regionOps Tryd.f4 8)[0]?).map (fun o => (o.op, o.dst, o.guard)) = some (.move (.tmp 0), some 27, none) by kernel_rfl)
  rw [if_pos (plan_free e3 _)]
  intro K hK
  have x0 := ev_base (u := u) mk8_ok (by kernel_rfl) F.h0
  exact opw_move e1 x0 (hK _ _ ⟨_, rfl, rfl⟩ hI (Below.refl _ _))
theorem mk8_1 (F : Mk8 a0 w0 base B8 B9 B11 S T L lo hi s) : PO (regionOps Tryd.f4 8) 35 a0 base w0 (mk8Cs S T L lo hi s) 1 := by
  intro o ho u W hI hR
  obtain ⟨e1, e2, e3⟩ := ob_op ho (show ((regionOps Tryd.f4 8)[1]?).map (fun o => (o.op, o.dst, o.guard)) = some (.call { callee := .value (.func 22), args := #[(.tmp 27)], argTypes := #[9] }, some 28, none) by kernel_rfl)
  rw [if_pos (plan_free e3 _)]
  intro K hK
  have x0 := ev_val (v := .string (s)) (cs := (mk8Cs S T L lo hi s)) mk8_ok hR ho (j := 0) (t := 27) (by rw [F.hz]; kernel_rfl) rfl
  refine opw_call e1 (vs := #[.string (s)]) (by simp only [List.map_toArray, List.map_cons, List.map_nil, x0]) Tryd.func22 (by kernel_rfl) (by kernel_rfl) (Of_any (s) W F.hs) ?_
  rintro e W' ⟨rfl, b⟩
  exact ⟨_, rfl, hK _ _ ⟨_, rfl, congrArg (fun S => sv S) F.hL⟩ (hI.step b) b⟩
theorem mk8_2 (F : Mk8 a0 w0 base B8 B9 B11 S T L lo hi s) : PO (regionOps Tryd.f4 8) 35 a0 base w0 (mk8Cs S T L lo hi s) 2 := by
  intro o ho u W hI hR
  obtain ⟨e1, e2, e3⟩ := ob_op ho (show ((regionOps Tryd.f4 8)[2]?).map (fun o => (o.op, o.dst, o.guard)) = some (.load 24 (.tmp 11), some 29, none) by kernel_rfl)
  rw [if_pos (plan_free e3 _)]
  intro K hK
  have x0 := ev_base (u := u) mk8_ok (by kernel_rfl) F.h11
  exact opw_load_set e1 x0 (F.b11.below hI.1 F.l11) (hK _ _ ⟨_, rfl, rfl⟩ hI (Below.refl _ _))
theorem mk8_3 (F : Mk8 a0 w0 base B8 B9 B11 S T L lo hi s) : PO (regionOps Tryd.f4 8) 35 a0 base w0 (mk8Cs S T L lo hi s) 3 := by
  intro o ho u W hI hR
  obtain ⟨e1, e2, e3⟩ := ob_op ho (show ((regionOps Tryd.f4 8)[3]?).map (fun o => (o.op, o.dst, o.guard)) = some (.binOp .neq 24 (.tmp 28) (.tmp 29) 24, some 30, none) by kernel_rfl)
  rw [if_pos (plan_free e3 _)]
  intro K hK
  have x0 := ev_val (v := sv (L)) (cs := (mk8Cs S T L lo hi s)) mk8_ok hR ho (j := 1) (t := 28) (by rw [F.hz]; kernel_rfl) rfl
  have x1 := ev_val (v := sv (L)) (cs := (mk8Cs S T L lo hi s)) mk8_ok hR ho (j := 2) (t := 29) (by rw [F.hz]; kernel_rfl) rfl
  exact opw_nes e1 F.oL F.oL x0 x1 (by rw [(decide_eq_true rfl)]; rfl) (hK _ _ ⟨_, rfl, rfl⟩ hI (Below.refl _ _))
theorem mk8_4 (F : Mk8 a0 w0 base B8 B9 B11 S T L lo hi s) : PO (regionOps Tryd.f4 8) 35 a0 base w0 (mk8Cs S T L lo hi s) 4 := by
  intro o ho u W hI hR
  obtain ⟨e1, e2, e3⟩ := ob_op ho (show ((regionOps Tryd.f4 8)[4]?).map (fun o => (o.op, o.dst, o.guard)) = some (.move (.tmp 30), some 31, none) by kernel_rfl)
  rw [if_pos (plan_free e3 _)]
  intro K hK
  have x0 := ev_val (v := .bool false) (cs := (mk8Cs S T L lo hi s)) mk8_ok hR ho (j := 3) (t := 30) (by rw [F.hz]; kernel_rfl) rfl
  exact opw_move e1 x0 (hK _ _ ⟨_, rfl, rfl⟩ hI (Below.refl _ _))
theorem mk8_5 (F : Mk8 a0 w0 base B8 B9 B11 S T L lo hi s) : PO (regionOps Tryd.f4 8) 35 a0 base w0 (mk8Cs S T L lo hi s) 5 := by
  intro o ho u W hI hR
  obtain ⟨e1, e2, e3⟩ := ob_op ho (show ((regionOps Tryd.f4 8)[5]?).map (fun o => (o.op, o.dst, o.guard)) = some (.move (.tmp 1), some 32, some (4, false)) by kernel_rfl)
  have xg := ev_val (v := .bool false) (cs := (mk8Cs S T L lo hi s)) mk8_ok hR ho (j := 4) (t := 31) (by rw [F.hz]; kernel_rfl) rfl
  rw [if_pos (wanted_yes e3 (t := 31) (by kernel_rfl) xg)]
  intro K hK
  have x0 := ev_base (u := u) mk8_ok (by kernel_rfl) F.h1
  exact opw_move e1 x0 (hK _ _ ⟨_, rfl, rfl⟩ hI (Below.refl _ _))
theorem mk8_6 (F : Mk8 a0 w0 base B8 B9 B11 S T L lo hi s) : PO (regionOps Tryd.f4 8) 35 a0 base w0 (mk8Cs S T L lo hi s) 6 := by
  intro o ho u W hI hR
  obtain ⟨e1, e2, e3⟩ := ob_op ho (show ((regionOps Tryd.f4 8)[6]?).map (fun o => (o.op, o.dst, o.guard)) = some (.move (.tmp 2), some 33, some (4, false)) by kernel_rfl)
  have xg := ev_val (v := .bool false) (cs := (mk8Cs S T L lo hi s)) mk8_ok hR ho (j := 4) (t := 31) (by rw [F.hz]; kernel_rfl) rfl
  rw [if_pos (wanted_yes e3 (t := 31) (by kernel_rfl) xg)]
  intro K hK
  have x0 := ev_base (u := u) mk8_ok (by kernel_rfl) F.h2
  exact opw_move e1 x0 (hK _ _ ⟨_, rfl, rfl⟩ hI (Below.refl _ _))
theorem mk8_7 (F : Mk8 a0 w0 base B8 B9 B11 S T L lo hi s) : PO (regionOps Tryd.f4 8) 35 a0 base w0 (mk8Cs S T L lo hi s) 7 := by
  intro o ho u W hI hR
  obtain ⟨e1, e2, e3⟩ := ob_op ho (show ((regionOps Tryd.f4 8)[7]?).map (fun o => (o.op, o.dst, o.guard)) = some (.call { callee := .value (.func 23), args := #[(.tmp 32), (.tmp 33)], argTypes := #[5, 5] }, some 34, some (4, false)) by kernel_rfl)
  have xg := ev_val (v := .bool false) (cs := (mk8Cs S T L lo hi s)) mk8_ok hR ho (j := 4) (t := 31) (by rw [F.hz]; kernel_rfl) rfl
  rw [if_pos (wanted_yes e3 (t := 31) (by kernel_rfl) xg)]
  intro K hK
  have x0 := ev_val (v := .int .u8 (lo)) (cs := (mk8Cs S T L lo hi s)) mk8_ok hR ho (j := 5) (t := 32) (by rw [F.hz]; kernel_rfl) rfl
  have x1 := ev_val (v := .int .u8 (hi)) (cs := (mk8Cs S T L lo hi s)) mk8_ok hR ho (j := 6) (t := 33) (by rw [F.hz]; kernel_rfl) rfl
  refine opw_call e1 (vs := #[.int .u8 lo, .int .u8 hi]) (by simp only [List.map_toArray, List.map_cons, List.map_nil, x0, x1]) Tryd.func23 (by kernel_rfl) (by kernel_rfl) (Range_any lo hi F.hl F.hh W) ?_
  rintro e W' ⟨rfl, b⟩
  exact ⟨_, rfl, hK _ _ ⟨_, rfl, rfl⟩ (hI.step b) b⟩
theorem mk8_8 (F : Mk8 a0 w0 base B8 B9 B11 S T L lo hi s) : PO (regionOps Tryd.f4 8) 35 a0 base w0 (mk8Cs S T L lo hi s) 8 := by
  intro o ho u W hI hR
  obtain ⟨e1, e2, e3⟩ := ob_op ho (show ((regionOps Tryd.f4 8)[8]?).map (fun o => (o.op, o.dst, o.guard)) = some (.move (.tmp 1), some 35, some (4, false)) by kernel_rfl)
  have xg := ev_val (v := .bool false) (cs := (mk8Cs S T L lo hi s)) mk8_ok hR ho (j := 4) (t := 31) (by rw [F.hz]; kernel_rfl) rfl
  rw [if_pos (wanted_yes e3 (t := 31) (by kernel_rfl) xg)]
  intro K hK
  have x0 := ev_base (u := u) mk8_ok (by kernel_rfl) F.h1
  exact opw_move e1 x0 (hK _ _ ⟨_, rfl, rfl⟩ hI (Below.refl _ _))
theorem mk8_9 (F : Mk8 a0 w0 base B8 B9 B11 S T L lo hi s) : PO (regionOps Tryd.f4 8) 35 a0 base w0 (mk8Cs S T L lo hi s) 9 := by
  intro o ho u W hI hR
  obtain ⟨e1, e2, e3⟩ := ob_op ho (show ((regionOps Tryd.f4 8)[9]?).map (fun o => (o.op, o.dst, o.guard)) = some (.move (.tmp 2), some 36, some (4, false)) by kernel_rfl)
  have xg := ev_val (v := .bool false) (cs := (mk8Cs S T L lo hi s)) mk8_ok hR ho (j := 4) (t := 31) (by rw [F.hz]; kernel_rfl) rfl
  rw [if_pos (wanted_yes e3 (t := 31) (by kernel_rfl) xg)]
  intro K hK
  have x0 := ev_base (u := u) mk8_ok (by kernel_rfl) F.h2
  exact opw_move e1 x0 (hK _ _ ⟨_, rfl, rfl⟩ hI (Below.refl _ _))
theorem mk8_10 (F : Mk8 a0 w0 base B8 B9 B11 S T L lo hi s) : PO (regionOps Tryd.f4 8) 35 a0 base w0 (mk8Cs S T L lo hi s) 10 := by
  intro o ho u W hI hR
  obtain ⟨e1, e2, e3⟩ := ob_op ho (show ((regionOps Tryd.f4 8)[10]?).map (fun o => (o.op, o.dst, o.guard)) = some (.call { callee := .value (.func 24), args := #[(.tmp 35), (.tmp 36)], argTypes := #[5, 5] }, some 37, some (4, false)) by kernel_rfl)
  have xg := ev_val (v := .bool false) (cs := (mk8Cs S T L lo hi s)) mk8_ok hR ho (j := 4) (t := 31) (by rw [F.hz]; kernel_rfl) rfl
  rw [if_pos (wanted_yes e3 (t := 31) (by kernel_rfl) xg)]
  intro K hK
  have x0 := ev_val (v := .int .u8 (lo)) (cs := (mk8Cs S T L lo hi s)) mk8_ok hR ho (j := 8) (t := 35) (by rw [F.hz]; kernel_rfl) rfl
  have x1 := ev_val (v := .int .u8 (hi)) (cs := (mk8Cs S T L lo hi s)) mk8_ok hR ho (j := 9) (t := 36) (by rw [F.hz]; kernel_rfl) rfl
  refine opw_call e1 (vs := #[.int .u8 lo, .int .u8 hi]) (by simp only [List.map_toArray, List.map_cons, List.map_nil, x0, x1]) Tryd.func24 (by kernel_rfl) (by kernel_rfl) (r5Range_any lo hi W) ?_
  rintro e W' ⟨rfl, b⟩
  exact ⟨_, rfl, hK _ _ ⟨_, rfl, rfl⟩ (hI.step b) b⟩
theorem mk8_11 (F : Mk8 a0 w0 base B8 B9 B11 S T L lo hi s) : PO (regionOps Tryd.f4 8) 35 a0 base w0 (mk8Cs S T L lo hi s) 11 := by
  intro o ho u W hI hR
  obtain ⟨e1, e2, e3⟩ := ob_op ho (show ((regionOps Tryd.f4 8)[11]?).map (fun o => (o.op, o.dst, o.guard)) = some (.binOp .neq 24 (.tmp 34) (.tmp 37) 24, some 38, some (4, false)) by kernel_rfl)
  have xg := ev_val (v := .bool false) (cs := (mk8Cs S T L lo hi s)) mk8_ok hR ho (j := 4) (t := 31) (by rw [F.hz]; kernel_rfl) rfl
  rw [if_pos (wanted_yes e3 (t := 31) (by kernel_rfl) xg)]
  intro K hK
  have x0 := ev_val (v := sv (rng lo hi)) (cs := (mk8Cs S T L lo hi s)) mk8_ok hR ho (j := 7) (t := 34) (by rw [F.hz]; kernel_rfl) rfl
  have x1 := ev_val (v := sv (rng lo hi)) (cs := (mk8Cs S T L lo hi s)) mk8_ok hR ho (j := 10) (t := 37) (by rw [F.hz]; kernel_rfl) rfl
  exact opw_nes e1 (ok_ofP _) (ok_ofP _) x0 x1 (by rw [(decide_eq_true rfl)]; rfl) (hK _ _ ⟨_, rfl, rfl⟩ hI (Below.refl _ _))
theorem mk8_12 (F : Mk8 a0 w0 base B8 B9 B11 S T L lo hi s) : PO (regionOps Tryd.f4 8) 35 a0 base w0 (mk8Cs S T L lo hi s) 12 := by
  intro o ho u W hI hR
  obtain ⟨e1, e2, e3⟩ := ob_op ho (show ((regionOps Tryd.f4 8)[12]?).map (fun o => (o.op, o.dst, o.guard)) = some (.pick (.tmp 31) (.const (.bool true)) (.tmp 38), some 39, none) by kernel_rfl)
  rw [if_pos (plan_free e3 _)]
  intro K hK
  have x0 := ev_val (v := .bool false) (cs := (mk8Cs S T L lo hi s)) mk8_ok hR ho (j := 4) (t := 31) (by rw [F.hz]; kernel_rfl) rfl
  have x2 := ev_val (v := .bool false) (cs := (mk8Cs S T L lo hi s)) mk8_ok hR ho (j := 11) (t := 38) (by rw [F.hz]; kernel_rfl) rfl
  exact opw_pickF e1 x0 x2 (hK _ _ ⟨_, rfl, rfl⟩ hI (Below.refl _ _))
theorem mk8_13 (F : Mk8 a0 w0 base B8 B9 B11 S T L lo hi s) : PO (regionOps Tryd.f4 8) 35 a0 base w0 (mk8Cs S T L lo hi s) 13 := by
  intro o ho u W hI hR
  obtain ⟨e1, e2, e3⟩ := ob_op ho (show ((regionOps Tryd.f4 8)[13]?).map (fun o => (o.op, o.dst, o.guard)) = some (.move (.tmp 39), some 40, none) by kernel_rfl)
  rw [if_pos (plan_free e3 _)]
  intro K hK
  have x0 := ev_val (v := .bool false) (cs := (mk8Cs S T L lo hi s)) mk8_ok hR ho (j := 12) (t := 39) (by rw [F.hz]; kernel_rfl) rfl
  exact opw_move e1 x0 (hK _ _ ⟨_, rfl, rfl⟩ hI (Below.refl _ _))
theorem mk8_14 (F : Mk8 a0 w0 base B8 B9 B11 S T L lo hi s) : PO (regionOps Tryd.f4 8) 35 a0 base w0 (mk8Cs S T L lo hi s) 14 := by
  intro o ho u W hI hR
  obtain ⟨e1, e2, e3⟩ := ob_op ho (show ((regionOps Tryd.f4 8)[14]?).map (fun o => (o.op, o.dst, o.guard)) = some (.load 24 (.tmp 8), some 41, some (13, false)) by kernel_rfl)
  have xg := ev_val (v := .bool false) (cs := (mk8Cs S T L lo hi s)) mk8_ok hR ho (j := 13) (t := 40) (by rw [F.hz]; kernel_rfl) rfl
  rw [if_pos (wanted_yes e3 (t := 40) (by kernel_rfl) xg)]
  intro K hK
  have x0 := ev_base (u := u) mk8_ok (by kernel_rfl) F.h8
  exact opw_load_set e1 x0 (F.b8.below hI.1 F.l8) (hK _ _ ⟨_, rfl, rfl⟩ hI (Below.refl _ _))
theorem mk8_15 (F : Mk8 a0 w0 base B8 B9 B11 S T L lo hi s) : PO (regionOps Tryd.f4 8) 35 a0 base w0 (mk8Cs S T L lo hi s) 15 := by
  intro o ho u W hI hR
  obtain ⟨e1, e2, e3⟩ := ob_op ho (show ((regionOps Tryd.f4 8)[15]?).map (fun o => (o.op, o.dst, o.guard)) = some (.call { callee := .value (.func 25), args := #[(.tmp 41)], argTypes := #[24] }, some 42, some (13, false)) by kernel_rfl)
  have xg := ev_val (v := .bool false) (cs := (mk8Cs S T L lo hi s)) mk8_ok hR ho (j := 13) (t := 40) (by rw [F.hz]; kernel_rfl) rfl
  rw [if_pos (wanted_yes e3 (t := 40) (by kernel_rfl) xg)]
  intro K hK
  have x0 := ev_val (v := sv (S)) (cs := (mk8Cs S T L lo hi s)) mk8_ok hR ho (j := 14) (t := 41) (by rw [F.hz]; kernel_rfl) rfl
  refine opw_call e1 (vs := #[sv (S)]) (by simp only [List.map_toArray, List.map_cons, List.map_nil, x0]) Tryd.func25 (by kernel_rfl) (by kernel_rfl) (Not_any (S) W) ?_
  rintro e W' ⟨rfl, b⟩
  exact ⟨_, rfl, hK _ _ ⟨_, rfl, rfl⟩ (hI.step b) b⟩
theorem mk8_16 (F : Mk8 a0 w0 base B8 B9 B11 S T L lo hi s) : PO (regionOps Tryd.f4 8) 35 a0 base w0 (mk8Cs S T L lo hi s) 16 := by
  intro o ho u W hI hR
  obtain ⟨e1, e2, e3⟩ := ob_op ho (show ((regionOps Tryd.f4 8)[16]?).map (fun o => (o.op, o.dst, o.guard)) = some (.load 24 (.tmp 8), some 43, some (13, false)) by kernel_rfl)
  have xg := ev_val (v := .bool false) (cs := (mk8Cs S T L lo hi s)) mk8_ok hR ho (j := 13) (t := 40) (by rw [F.hz]; kernel_rfl) rfl
  rw [if_pos (wanted_yes e3 (t := 40) (by kernel_rfl) xg)]
  intro K hK
  have x0 := ev_base (u := u) mk8_ok (by kernel_rfl) F.h8
  exact opw_load_set e1 x0 (F.b8.below hI.1 F.l8) (hK _ _ ⟨_, rfl, rfl⟩ hI (Below.refl _ _))
theorem mk8_17 (F : Mk8 a0 w0 base B8 B9 B11 S T L lo hi s) : PO (regionOps Tryd.f4 8) 35 a0 base w0 (mk8Cs S T L lo hi s) 17 := by
  intro o ho u W hI hR
  obtain ⟨e1, e2, e3⟩ := ob_op ho (show ((regionOps Tryd.f4 8)[17]?).map (fun o => (o.op, o.dst, o.guard)) = some (.call { callee := .value (.func 26), args := #[(.tmp 43)], argTypes := #[24] }, some 44, some (13, false)) by kernel_rfl)
  have xg := ev_val (v := .bool false) (cs := (mk8Cs S T L lo hi s)) mk8_ok hR ho (j := 13) (t := 40) (by rw [F.hz]; kernel_rfl) rfl
  rw [if_pos (wanted_yes e3 (t := 40) (by kernel_rfl) xg)]
  intro K hK
  have x0 := ev_val (v := sv (S)) (cs := (mk8Cs S T L lo hi s)) mk8_ok hR ho (j := 16) (t := 43) (by rw [F.hz]; kernel_rfl) rfl
  refine opw_call e1 (vs := #[sv (S)]) (by simp only [List.map_toArray, List.map_cons, List.map_nil, x0]) Tryd.func26 (by kernel_rfl) (by kernel_rfl) (r5Not_any (S) W) ?_
  rintro e W' ⟨rfl, b⟩
  exact ⟨_, rfl, hK _ _ ⟨_, rfl, rfl⟩ (hI.step b) b⟩
theorem mk8_18 (F : Mk8 a0 w0 base B8 B9 B11 S T L lo hi s) : PO (regionOps Tryd.f4 8) 35 a0 base w0 (mk8Cs S T L lo hi s) 18 := by
  intro o ho u W hI hR
  obtain ⟨e1, e2, e3⟩ := ob_op ho (show ((regionOps Tryd.f4 8)[18]?).map (fun o => (o.op, o.dst, o.guard)) = some (.binOp .neq 24 (.tmp 42) (.tmp 44) 24, some 45, some (13, false)) by kernel_rfl)
  have xg := ev_val (v := .bool false) (cs := (mk8Cs S T L lo hi s)) mk8_ok hR ho (j := 13) (t := 40) (by rw [F.hz]; kernel_rfl) rfl
  rw [if_pos (wanted_yes e3 (t := 40) (by kernel_rfl) xg)]
  intro K hK
  have x0 := ev_val (v := sv (cmpl (S))) (cs := (mk8Cs S T L lo hi s)) mk8_ok hR ho (j := 15) (t := 42) (by rw [F.hz]; kernel_rfl) rfl
  have x1 := ev_val (v := sv (cmpl (S))) (cs := (mk8Cs S T L lo hi s)) mk8_ok hR ho (j := 17) (t := 44) (by rw [F.hz]; kernel_rfl) rfl
  exact opw_nes e1 (ok_cmpl F.oS) (ok_cmpl F.oS) x0 x1 (by rw [(decide_eq_true rfl)]; rfl) (hK _ _ ⟨_, rfl, rfl⟩ hI (Below.refl _ _))
theorem mk8_19 (F : Mk8 a0 w0 base B8 B9 B11 S T L lo hi s) : PO (regionOps Tryd.f4 8) 35 a0 base w0 (mk8Cs S T L lo hi s) 19 := by
  intro o ho u W hI hR
  obtain ⟨e1, e2, e3⟩ := ob_op ho (show ((regionOps Tryd.f4 8)[19]?).map (fun o => (o.op, o.dst, o.guard)) = some (.pick (.tmp 40) (.const (.bool true)) (.tmp 45), some 46, none) by kernel_rfl)
  rw [if_pos (plan_free e3 _)]
  intro K hK
  have x0 := ev_val (v := .bool false) (cs := (mk8Cs S T L lo hi s)) mk8_ok hR ho (j := 13) (t := 40) (by rw [F.hz]; kernel_rfl) rfl
  have x2 := ev_val (v := .bool false) (cs := (mk8Cs S T L lo hi s)) mk8_ok hR ho (j := 18) (t := 45) (by rw [F.hz]; kernel_rfl) rfl
  exact opw_pickF e1 x0 x2 (hK _ _ ⟨_, rfl, rfl⟩ hI (Below.refl _ _))
theorem mk8_20 (F : Mk8 a0 w0 base B8 B9 B11 S T L lo hi s) : PO (regionOps Tryd.f4 8) 35 a0 base w0 (mk8Cs S T L lo hi s) 20 := by
  intro o ho u W hI hR
  obtain ⟨e1, e2, e3⟩ := ob_op ho (show ((regionOps Tryd.f4 8)[20]?).map (fun o => (o.op, o.dst, o.guard)) = some (.move (.tmp 46), some 47, none) by kernel_rfl)
  rw [if_pos (plan_free e3 _)]
  intro K hK
  have x0 := ev_val (v := .bool false) (cs := (mk8Cs S T L lo hi s)) mk8_ok hR ho (j := 19) (t := 46) (by rw [F.hz]; kernel_rfl) rfl
  exact opw_move e1 x0 (hK _ _ ⟨_, rfl, rfl⟩ hI (Below.refl _ _))
theorem mk8_21 (F : Mk8 a0 w0 base B8 B9 B11 S T L lo hi s) : PO (regionOps Tryd.f4 8) 35 a0 base w0 (mk8Cs S T L lo hi s) 21 := by
  intro o ho u W hI hR
  obtain ⟨e1, e2, e3⟩ := ob_op ho (show ((regionOps Tryd.f4 8)[21]?).map (fun o => (o.op, o.dst, o.guard)) = some (.load 24 (.tmp 8), some 48, some (20, false)) by kernel_rfl)
  have xg := ev_val (v := .bool false) (cs := (mk8Cs S T L lo hi s)) mk8_ok hR ho (j := 20) (t := 47) (by rw [F.hz]; kernel_rfl) rfl
  rw [if_pos (wanted_yes e3 (t := 47) (by kernel_rfl) xg)]
  intro K hK
  have x0 := ev_base (u := u) mk8_ok (by kernel_rfl) F.h8
  exact opw_load_set e1 x0 (F.b8.below hI.1 F.l8) (hK _ _ ⟨_, rfl, rfl⟩ hI (Below.refl _ _))
theorem mk8_22 (F : Mk8 a0 w0 base B8 B9 B11 S T L lo hi s) : PO (regionOps Tryd.f4 8) 35 a0 base w0 (mk8Cs S T L lo hi s) 22 := by
  intro o ho u W hI hR
  obtain ⟨e1, e2, e3⟩ := ob_op ho (show ((regionOps Tryd.f4 8)[22]?).map (fun o => (o.op, o.dst, o.guard)) = some (.load 24 (.tmp 9), some 49, some (20, false)) by kernel_rfl)
  have xg := ev_val (v := .bool false) (cs := (mk8Cs S T L lo hi s)) mk8_ok hR ho (j := 20) (t := 47) (by rw [F.hz]; kernel_rfl) rfl
  rw [if_pos (wanted_yes e3 (t := 47) (by kernel_rfl) xg)]
  intro K hK
  have x0 := ev_base (u := u) mk8_ok (by kernel_rfl) F.h9
  exact opw_load_set e1 x0 (F.b9.below hI.1 F.l9) (hK _ _ ⟨_, rfl, rfl⟩ hI (Below.refl _ _))
theorem mk8_23 (F : Mk8 a0 w0 base B8 B9 B11 S T L lo hi s) : PO (regionOps Tryd.f4 8) 35 a0 base w0 (mk8Cs S T L lo hi s) 23 := by
  intro o ho u W hI hR
  obtain ⟨e1, e2, e3⟩ := ob_op ho (show ((regionOps Tryd.f4 8)[23]?).map (fun o => (o.op, o.dst, o.guard)) = some (.buildSlice 79 2 #[(0, (.tmp 48)), (1, (.tmp 49))], some 50, some (20, false)) by kernel_rfl)
  have xg := ev_val (v := .bool false) (cs := (mk8Cs S T L lo hi s)) mk8_ok hR ho (j := 20) (t := 47) (by rw [F.hz]; kernel_rfl) rfl
  rw [if_pos (wanted_yes e3 (t := 47) (by kernel_rfl) xg)]
  intro K hK
  have x0 := ev_val (v := sv (S)) (cs := (mk8Cs S T L lo hi s)) mk8_ok hR ho (j := 21) (t := 48) (by rw [F.hz]; kernel_rfl) rfl
  have x1 := ev_val (v := sv (T)) (cs := (mk8Cs S T L lo hi s)) mk8_ok hR ho (j := 22) (t := 49) (by rw [F.hz]; kernel_rfl) rfl
  have bb : Below W.heap.size W (W.alloc (.cells (scs2 (S) (T)) 24)) := (Below.refl _ _).alloc (Nat.le_refl _) _
  exact opw_two e1 x0 x1 (hK _ _ ⟨_, rfl, W.heap.size, rfl, heap_alloc_new W _⟩ (hI.step bb) bb)
theorem mk8_24 (F : Mk8 a0 w0 base B8 B9 B11 S T L lo hi s) : PO (regionOps Tryd.f4 8) 35 a0 base w0 (mk8Cs S T L lo hi s) 24 := by
  intro o ho u W hI hR
  obtain ⟨e1, e2, e3⟩ := ob_op ho (show ((regionOps Tryd.f4 8)[24]?).map (fun o => (o.op, o.dst, o.guard)) = some (.call { callee := .value (.func 27), args := #[(.tmp 50)], argTypes := #[79] }, some 51, some (20, false)) by kernel_rfl)
  have xg := ev_val (v := .bool false) (cs := (mk8Cs S T L lo hi s)) mk8_ok hR ho (j := 20) (t := 47) (by rw [F.hz]; kernel_rfl) rfl
  rw [if_pos (wanted_yes e3 (t := 47) (by kernel_rfl) xg)]
  intro K hK
  obtain ⟨x0, cx0, kx0, lx0⟩ := ev_cl mk8_ok hR ho (j := 23) (t := 50) (by rw [F.hz]; kernel_rfl)
  cases kx0
  obtain ⟨b0, ex0, hb0⟩ := lx0
  rw [ex0] at x0
  refine opw_call e1 (vs := #[.slice (some ⟨b0, 0, none⟩) 2 2]) (by simp only [List.map_toArray, List.map_cons, List.map_nil, x0]) Tryd.func27 (by kernel_rfl) (by kernel_rfl) (union_at hb0) ?_
  rintro e W' ⟨rfl, b⟩
  exact ⟨_, rfl, hK _ _ ⟨_, rfl, congrArg (fun S => sv S) (union2_eq S T)⟩ (hI.step b) b⟩
theorem mk8_25 (F : Mk8 a0 w0 base B8 B9 B11 S T L lo hi s) : PO (regionOps Tryd.f4 8) 35 a0 base w0 (mk8Cs S T L lo hi s) 25 := by
  intro o ho u W hI hR
  obtain ⟨e1, e2, e3⟩ := ob_op ho (show ((regionOps Tryd.f4 8)[25]?).map (fun o => (o.op, o.dst, o.guard)) = some (.load 24 (.tmp 8), some 52, some (20, false)) by kernel_rfl)
  have xg := ev_val (v := .bool false) (cs := (mk8Cs S T L lo hi s)) mk8_ok hR ho (j := 20) (t := 47) (by rw [F.hz]; kernel_rfl) rfl
  rw [if_pos (wanted_yes e3 (t := 47) (by kernel_rfl) xg)]
  intro K hK
  have x0 := ev_base (u := u) mk8_ok (by kernel_rfl) F.h8
  exact opw_load_set e1 x0 (F.b8.below hI.1 F.l8) (hK _ _ ⟨_, rfl, rfl⟩ hI (Below.refl _ _))
theorem mk8_26 (F : Mk8 a0 w0 base B8 B9 B11 S T L lo hi s) : PO (regionOps Tryd.f4 8) 35 a0 base w0 (mk8Cs S T L lo hi s) 26 := by
  intro o ho u W hI hR
  obtain ⟨e1, e2, e3⟩ := ob_op ho (show ((regionOps Tryd.f4 8)[26]?).map (fun o => (o.op, o.dst, o.guard)) = some (.load 24 (.tmp 9), some 53, some (20, false)) by kernel_rfl)
  have xg := ev_val (v := .bool false) (cs := (mk8Cs S T L lo hi s)) mk8_ok hR ho (j := 20) (t := 47) (by rw [F.hz]; kernel_rfl) rfl
  rw [if_pos (wanted_yes e3 (t := 47) (by kernel_rfl) xg)]
  intro K hK
  have x0 := ev_base (u := u) mk8_ok (by kernel_rfl) F.h9
  exact opw_load_set e1 x0 (F.b9.below hI.1 F.l9) (hK _ _ ⟨_, rfl, rfl⟩ hI (Below.refl _ _))
theorem mk8_27 (F : Mk8 a0 w0 base B8 B9 B11 S T L lo hi s) : PO (regionOps Tryd.f4 8) 35 a0 base w0 (mk8Cs S T L lo hi s) 27 := by
  intro o ho u W hI hR
  obtain ⟨e1, e2, e3⟩ := ob_op ho (show ((regionOps Tryd.f4 8)[27]?).map (fun o => (o.op, o.dst, o.guard)) = some (.call { callee := .value (.func 28), args := #[(.tmp 52), (.tmp 53)], argTypes := #[24, 24] }, some 54, some (20, false)) by kernel_rfl)
  have xg := ev_val (v := .bool false) (cs := (mk8Cs S T L lo hi s)) mk8_ok hR ho (j := 20) (t := 47) (by rw [F.hz]; kernel_rfl) rfl
  rw [if_pos (wanted_yes e3 (t := 47) (by kernel_rfl) xg)]
  intro K hK
  have x0 := ev_val (v := sv (S)) (cs := (mk8Cs S T L lo hi s)) mk8_ok hR ho (j := 25) (t := 52) (by rw [F.hz]; kernel_rfl) rfl
  have x1 := ev_val (v := sv (T)) (cs := (mk8Cs S T L lo hi s)) mk8_ok hR ho (j := 26) (t := 53) (by rw [F.hz]; kernel_rfl) rfl
  refine opw_call e1 (vs := #[sv (S), sv (T)]) (by simp only [List.map_toArray, List.map_cons, List.map_nil, x0, x1]) Tryd.func28 (by kernel_rfl) (by kernel_rfl) (r5Or_any (S) (T) W) ?_
  rintro e W' ⟨rfl, b⟩
  exact ⟨_, rfl, hK _ _ ⟨_, rfl, rfl⟩ (hI.step b) b⟩
theorem mk8_28 (F : Mk8 a0 w0 base B8 B9 B11 S T L lo hi s) : PO (regionOps Tryd.f4 8) 35 a0 base w0 (mk8Cs S T L lo hi s) 28 := by
  intro o ho u W hI hR
  obtain ⟨e1, e2, e3⟩ := ob_op ho (show ((regionOps Tryd.f4 8)[28]?).map (fun o => (o.op, o.dst, o.guard)) = some (.binOp .neq 24 (.tmp 51) (.tmp 54) 24, some 55, some (20, false)) by kernel_rfl)
  have xg := ev_val (v := .bool false) (cs := (mk8Cs S T L lo hi s)) mk8_ok hR ho (j := 20) (t := 47) (by rw [F.hz]; kernel_rfl) rfl
  rw [if_pos (wanted_yes e3 (t := 47) (by kernel_rfl) xg)]
  intro K hK
  have x0 := ev_val (v := sv (S ||| T)) (cs := (mk8Cs S T L lo hi s)) mk8_ok hR ho (j := 24) (t := 51) (by rw [F.hz]; kernel_rfl) rfl
  have x1 := ev_val (v := sv (S ||| T)) (cs := (mk8Cs S T L lo hi s)) mk8_ok hR ho (j := 27) (t := 54) (by rw [F.hz]; kernel_rfl) rfl
  exact opw_nes e1 (ok_or F.oS F.oT) (ok_or F.oS F.oT) x0 x1 (by rw [(decide_eq_true rfl)]; rfl) (hK _ _ ⟨_, rfl, rfl⟩ hI (Below.refl _ _))
theorem mk8_29 (F : Mk8 a0 w0 base B8 B9 B11 S T L lo hi s) : PO (regionOps Tryd.f4 8) 35 a0 base w0 (mk8Cs S T L lo hi s) 29 := by
  intro o ho u W hI hR
  obtain ⟨e1, e2, e3⟩ := ob_op ho (show ((regionOps Tryd.f4 8)[29]?).map (fun o => (o.op, o.dst, o.guard)) = some (.pick (.tmp 47) (.const (.bool true)) (.tmp 55), some 56, none) by kernel_rfl)
  rw [if_pos (plan_free e3 _)]
  intro K hK
  have x0 := ev_val (v := .bool false) (cs := (mk8Cs S T L lo hi s)) mk8_ok hR ho (j := 20) (t := 47) (by rw [F.hz]; kernel_rfl) rfl
  have x2 := ev_val (v := .bool false) (cs := (mk8Cs S T L lo hi s)) mk8_ok hR ho (j := 28) (t := 55) (by rw [F.hz]; kernel_rfl) rfl
  exact opw_pickF e1 x0 x2 (hK _ _ ⟨_, rfl, rfl⟩ hI (Below.refl _ _))
theorem mk8_30 (F : Mk8 a0 w0 base B8 B9 B11 S T L lo hi s) : PO (regionOps Tryd.f4 8) 35 a0 base w0 (mk8Cs S T L lo hi s) 30 := by
  intro o ho u W hI hR
  obtain ⟨e1, e2, e3⟩ := ob_op ho (show ((regionOps Tryd.f4 8)[30]?).map (fun o => (o.op, o.dst, o.guard)) = some (.move (.tmp 56), some 57, none) by kernel_rfl)
  rw [if_pos (plan_free e3 _)]
  intro K hK
  have x0 := ev_val (v := .bool false) (cs := (mk8Cs S T L lo hi s)) mk8_ok hR ho (j := 29) (t := 56) (by rw [F.hz]; kernel_rfl) rfl
  exact opw_move e1 x0 (hK _ _ ⟨_, rfl, rfl⟩ hI (Below.refl _ _))
theorem mk8_31 (F : Mk8 a0 w0 base B8 B9 B11 S T L lo hi s) : PO (regionOps Tryd.f4 8) 35 a0 base w0 (mk8Cs S T L lo hi s) 31 := by
  intro o ho u W hI hR
  obtain ⟨e1, e2, e3⟩ := ob_op ho (show ((regionOps Tryd.f4 8)[31]?).map (fun o => (o.op, o.dst, o.guard)) = some (.call { callee := .value (.func 27), args := #[(.const (.slice none 0 0))], argTypes := #[79] }, some 58, some (30, false)) by kernel_rfl)
  have xg := ev_val (v := .bool false) (cs := (mk8Cs S T L lo hi s)) mk8_ok hR ho (j := 30) (t := 57) (by rw [F.hz]; kernel_rfl) rfl
  rw [if_pos (wanted_yes e3 (t := 57) (by kernel_rfl) xg)]
  intro K hK
  have x0 : (putL (planOf (regionOps Tryd.f4 8) (upto 35)) u a0).eval (.const (.slice none 0 0)) = .slice none 0 0 := rfl
  refine opw_call e1 (vs := #[.slice none 0 0]) (by simp only [List.map_toArray, List.map_cons, List.map_nil, x0]) Tryd.func27 (by kernel_rfl) (by kernel_rfl) (union_none W) ?_
  rintro e W' ⟨rfl, b⟩
  exact ⟨_, rfl, hK _ _ ⟨_, rfl, rfl⟩ (hI.step b) b⟩
theorem mk8_32 (F : Mk8 a0 w0 base B8 B9 B11 S T L lo hi s) : PO (regionOps Tryd.f4 8) 35 a0 base w0 (mk8Cs S T L lo hi s) 32 := by
  intro o ho u W hI hR
  obtain ⟨e1, e2, e3⟩ := ob_op ho (show ((regionOps Tryd.f4 8)[32]?).map (fun o => (o.op, o.dst, o.guard)) = some (.build 24 #[], some 59, some (30, false)) by kernel_rfl)
  have xg := ev_val (v := .bool false) (cs := (mk8Cs S T L lo hi s)) mk8_ok hR ho (j := 30) (t := 57) (by rw [F.hz]; kernel_rfl) rfl
  rw [if_pos (wanted_yes e3 (t := 57) (by kernel_rfl) xg)]
  intro K hK
  exact opw_build e1 (vs := #[]) (by simp only [List.map_toArray, List.map_nil]) (show (Instr.build 24 #[]).run Tryd.prog W = .ok (sv 0) W by kernel_rfl) (hK _ _ ⟨_, rfl, rfl⟩ hI (Below.refl _ _))
theorem mk8_33 (F : Mk8 a0 w0 base B8 B9 B11 S T L lo hi s) : PO (regionOps Tryd.f4 8) 35 a0 base w0 (mk8Cs S T L lo hi s) 33 := by
  intro o ho u W hI hR
  obtain ⟨e1, e2, e3⟩ := ob_op ho (show ((regionOps Tryd.f4 8)[33]?).map (fun o => (o.op, o.dst, o.guard)) = some (.binOp .neq 24 (.tmp 58) (.tmp 59) 24, some 60, some (30, false)) by kernel_rfl)
  have xg := ev_val (v := .bool false) (cs := (mk8Cs S T L lo hi s)) mk8_ok hR ho (j := 30) (t := 57) (by rw [F.hz]; kernel_rfl) rfl
  rw [if_pos (wanted_yes e3 (t := 57) (by kernel_rfl) xg)]
  intro K hK
  have x0 := ev_val (v := sv (0)) (cs := (mk8Cs S T L lo hi s)) mk8_ok hR ho (j := 31) (t := 58) (by rw [F.hz]; kernel_rfl) rfl
  have x1 := ev_val (v := sv (0)) (cs := (mk8Cs S T L lo hi s)) mk8_ok hR ho (j := 32) (t := 59) (by rw [F.hz]; kernel_rfl) rfl
  exact opw_nes e1 ok_zero ok_zero x0 x1 (by rw [(decide_eq_true rfl)]; rfl) (hK _ _ ⟨_, rfl, rfl⟩ hI (Below.refl _ _))
theorem mk8_34 (F : Mk8 a0 w0 base B8 B9 B11 S T L lo hi s) : PO (regionOps Tryd.f4 8) 35 a0 base w0 (mk8Cs S T L lo hi s) 34 := by
  intro o ho u W hI hR
  obtain ⟨e1, e2, e3⟩ := ob_op ho (show ((regionOps Tryd.f4 8)[34]?).map (fun o => (o.op, o.dst, o.guard)) = some (.pick (.tmp 57) (.const (.bool true)) (.tmp 60), some 61, none) by kernel_rfl)
  rw [if_pos (plan_free e3 _)]
  intro K hK
  have x0 := ev_val (v := .bool false) (cs := (mk8Cs S T L lo hi s)) mk8_ok hR ho (j := 30) (t := 57) (by rw [F.hz]; kernel_rfl) rfl
  have x2 := ev_val (v := .bool false) (cs := (mk8Cs S T L lo hi s)) mk8_ok hR ho (j := 33) (t := 60) (by rw [F.hz]; kernel_rfl) rfl
  exact opw_pickF e1 x0 x2 (hK _ _ ⟨_, rfl, rfl⟩ hI (Below.refl _ _))
theorem mk8_all (F : Mk8 a0 w0 base B8 B9 B11 S T L lo hi s) : ∀ i, i < 35 → PO (regionOps Tryd.f4 8) 35 a0 base w0 (mk8Cs S T L lo hi s) i
  | 0, _ => mk8_0 F
  | 1, _ => mk8_1 F
  | 2, _ => mk8_2 F
  | 3, _ => mk8_3 F
  | 4, _ => mk8_4 F
  | 5, _ => mk8_5 F
  | 6, _ => mk8_6 F
  | 7, _ => mk8_7 F
  | 8, _ => mk8_8 F
  | 9, _ => mk8_9 F
  | 10, _ => mk8_10 F
  | 11, _ => mk8_11 F
  | 12, _ => mk8_12 F
  | 13, _ => mk8_13 F
  | 14, _ => mk8_14 F
  | 15, _ => mk8_15 F
  | 16, _ => mk8_16 F
  | 17, _ => mk8_17 F
  | 18, _ => mk8_18 F
  | 19, _ => mk8_19 F
  | 20, _ => mk8_20 F
  | 21, _ => mk8_21 F
  | 22, _ => mk8_22 F
  | 23, _ => mk8_23 F
  | 24, _ => mk8_24 F
  | 25, _ => mk8_25 F
  | 26, _ => mk8_26 F
  | 27, _ => mk8_27 F
  | 28, _ => mk8_28 F
  | 29, _ => mk8_29 F
  | 30, _ => mk8_30 F
  | 31, _ => mk8_31 F
  | 32, _ => mk8_32 F
  | 33, _ => mk8_33 F
  | 34, _ => mk8_34 F
  | i + 35, h => absurd h (by omega)
theorem mk8_plan : planOf (regionOps Tryd.f4 8) (upto 35) = [(some 27, 0), (some 28, 1), (some 29, 2), (some 30, 3), (some 31, 4), (some 32, 5), (some 33, 6), (some 34, 7), (some 35, 8), (some 36, 9), (some 37, 10), (some 38, 11), (some 39, 12), (some 40, 13), (some 41, 14), (some 42, 15), (some 43, 16), (some 44, 17), (some 45, 18), (some 46, 19), (some 47, 20), (some 48, 21), (some 49, 22), (some 50, 23), (some 51, 24), (some 52, 25), (some 53, 26), (some 54, 27), (some 55, 28), (some 56, 29), (some 57, 30), (some 58, 31), (some 59, 32), (some 60, 33), (some 61, 34)] := by kernel_rfl
theorem mk8_wp {id : Nat} {Q : Exit → Act → World → Prop} (F : Mk8 a0 w0 base B8 B9 B11 S T L lo hi s) (hb : base ≤ w0.heap.size)
    (hq : ∀ (u : Nat → Value) (W : World), u 34 = .bool false → Below base w0 W → base ≤ W.heap.size → Q .normal (putL (planOf (regionOps Tryd.f4 8) (upto 35)) u a0) W) :
    (Code.region id (regionOps Tryd.f4 8) true).wp Tryd.prog Q a0 w0 := by
  refine wp_plan_cl 35 0 (mk8Cs S T L lo hi s) mk8_ok (by kernel_rfl) hb (mk8_all F) fun u W hI1 hI2 hR => ?_
  refine ⟨by kernel_rfl, hq u W ?_ hI1 hI2⟩
  obtain ⟨c, hc, h⟩ := hR 34 (of_decide_eq_true (by kernel_rfl)) (by decide)
  cases hc
  exact h
end Go.Proofs.YteeopjgfiojoiaaDoor
