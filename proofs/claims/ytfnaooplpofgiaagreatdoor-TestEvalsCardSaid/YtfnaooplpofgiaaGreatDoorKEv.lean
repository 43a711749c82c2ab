/- test.eval's statements that draw their order: two operands, three operands. Conditions: the operands lie in memory. -/
import Derived.Test.YtfnaooplpofgiaaGreatDoorKPln
namespace Go.Proofs.YtfnaooplpofgiaaGreatDoor
open Go Go.RowKit SN

structure Ev9 (a0 : Act) (w0 : World) (base b f n c : Nat) (tv : Value) (s0 s1 : ByteArray) (x y : Bool) : Prop where
  hz : a0.tmps.size = 142
  h0 : a0.eval (.tmp 0) = .slice (some ⟨b, f, none⟩) n c
  h1 : a0.eval (.tmp 1) = tv
  hn : 2 ≤ n
  lb : b < base
  c0 : w0.cell? ⟨b, f + 0, none⟩ = some (.string s0)
  c1 : w0.cell? ⟨b, f + 1, none⟩ = some (.string s1)
  hC : ∀ W, Below base w0 W → base ≤ W.heap.size → Calls Tryz.prog 30 #[.string s0, .string s1, tv] W fun e w' => e = .returned (.tuple #[.bool x, .bool y]) ∧ Below W.heap.size W w'
structure Ev14 (a0 : Act) (w0 : World) (base b f n c : Nat) (s0 s1 s2 : ByteArray) (x y : Bool) (p : Value → World → Prop) : Prop where
  hz : a0.tmps.size = 142
  h0 : a0.eval (.tmp 0) = .slice (some ⟨b, f, none⟩) n c
  hn : 3 ≤ n
  lb : b < base
  c0 : w0.cell? ⟨b, f + 0, none⟩ = some (.string s0)
  c1 : w0.cell? ⟨b, f + 1, none⟩ = some (.string s1)
  c2 : w0.cell? ⟨b, f + 2, none⟩ = some (.string s2)
  hC : ∀ W, Below base w0 W → base ≤ W.heap.size → Calls Tryz.prog 31 #[.string s0, .string s1, .string s2] W fun e w' => ∃ v, e = .returned (.tuple #[.bool x, .bool y, v]) ∧ p v w' ∧ Below W.heap.size W w'
variable {a0 : Act} {w0 : World} {base b f n c : Nat} {s0 s1 s2 : ByteArray} {x y : Bool} {tv : Value} {p : Value → World → Prop} {hp : ∀ v W W', p v W → Below W.heap.size W W' → p v W'}
def ev9Cs (b f n c : Nat) (tv : Value) (s0 s1 : ByteArray) (x y : Bool) : List Claim := [.val (.slice (some ⟨b, f, none⟩) n c), .val (.pointer (some ⟨b, f + 0, none⟩)), .val (.string (s0)), .val (.slice (some ⟨b, f, none⟩) n c), .val (.pointer (some ⟨b, f + 1, none⟩)), .val (.string (s1)), .val (tv), .val (.tuple #[.bool x, .bool y]), .val (.tuple #[.bool x, .bool y]), .val (.bool x), .val (.bool y), .val (.bool x), .val (.bool y)]
theorem ev9_ok : planOk .any (regionOps Tryz.f15 9) (upto 13) = true := by kernel_rfl
theorem ev9_0 (F : Ev9 a0 w0 base b f n c tv s0 s1 x y) : PO (regionOps Tryz.f15 9) 13 a0 base w0 (ev9Cs b f n c tv s0 s1 x y) 0 := by
  intro o ho u W hI hR
  obtain ⟨e1, e2, e3⟩ := ob_op ho (show ((regionOps Tryz.f15 9)[0]?).map (fun o => (o.op, o.dst, o.guard)) = some (.move (.tmp 0), some 36, none) by kernel_rfl)
  rw [if_pos (plan_free e3 _)]
  intro K hK
  have x0 := ev_base (u := u) ev9_ok (by kernel_rfl) F.h0
  exact opw_move e1 x0 (hK _ _ ⟨_, rfl, rfl⟩ hI (Below.refl _ _))
theorem ev9_1 (F : Ev9 a0 w0 base b f n c tv s0 s1 x y) : PO (regionOps Tryz.f15 9) 13 a0 base w0 (ev9Cs b f n c tv s0 s1 x y) 1 := by
  intro o ho u W hI hR
  obtain ⟨e1, e2, e3⟩ := ob_op ho (show ((regionOps Tryz.f15 9)[1]?).map (fun o => (o.op, o.dst, o.guard)) = some (.indexAddr 22 (.tmp 36) (.const (.int .i64 0)), some 37, none) by kernel_rfl)
  rw [if_pos (plan_free e3 _)]
  intro K hK
  have x0 := ev_val (v := .slice (some ⟨b, f, none⟩) n c) (cs := (ev9Cs b f n c tv s0 s1 x y)) ev9_ok hR ho (j := 0) (t := 36) (by rw [F.hz]; kernel_rfl) rfl
  have x1 : (putL (planOf (regionOps Tryz.f15 9) (upto 13)) u a0).eval (.const (.int .i64 0)) = .int .i64 (0) := rfl
  exact opw_index (k := 0) (by have := F.hn; omega) e1 x0 x1 (hK _ _ ⟨_, rfl, rfl⟩ hI (Below.refl _ _))
theorem ev9_2 (F : Ev9 a0 w0 base b f n c tv s0 s1 x y) : PO (regionOps Tryz.f15 9) 13 a0 base w0 (ev9Cs b f n c tv s0 s1 x y) 2 := by
  intro o ho u W hI hR
  obtain ⟨e1, e2, e3⟩ := ob_op ho (show ((regionOps Tryz.f15 9)[2]?).map (fun o => (o.op, o.dst, o.guard)) = some (.load 9 (.tmp 37), some 38, none) by kernel_rfl)
  rw [if_pos (plan_free e3 _)]
  intro K hK
  have x0 := ev_val (v := .pointer (some ⟨b, f + 0, none⟩)) (cs := (ev9Cs b f n c tv s0 s1 x y)) ev9_ok hR ho (j := 1) (t := 37) (by rw [F.hz]; kernel_rfl) rfl
  exact opw_load_str e1 x0 ((hI.1.cell F.lb).trans F.c0) (hK _ _ ⟨_, rfl, rfl⟩ hI (Below.refl _ _))
theorem ev9_3 (F : Ev9 a0 w0 base b f n c tv s0 s1 x y) : PO (regionOps Tryz.f15 9) 13 a0 base w0 (ev9Cs b f n c tv s0 s1 x y) 3 := by
  intro o ho u W hI hR
  obtain ⟨e1, e2, e3⟩ := ob_op ho (show ((regionOps Tryz.f15 9)[3]?).map (fun o => (o.op, o.dst, o.guard)) = some (.move (.tmp 0), some 39, none) by kernel_rfl)
  rw [if_pos (plan_free e3 _)]
  intro K hK
  have x0 := ev_base (u := u) ev9_ok (by kernel_rfl) F.h0
  exact opw_move e1 x0 (hK _ _ ⟨_, rfl, rfl⟩ hI (Below.refl _ _))
theorem ev9_4 (F : Ev9 a0 w0 base b f n c tv s0 s1 x y) : PO (regionOps Tryz.f15 9) 13 a0 base w0 (ev9Cs b f n c tv s0 s1 x y) 4 := by
  intro o ho u W hI hR
  obtain ⟨e1, e2, e3⟩ := ob_op ho (show ((regionOps Tryz.f15 9)[4]?).map (fun o => (o.op, o.dst, o.guard)) = some (.indexAddr 22 (.tmp 39) (.const (.int .i64 1)), some 40, none) by kernel_rfl)
  rw [if_pos (plan_free e3 _)]
  intro K hK
  have x0 := ev_val (v := .slice (some ⟨b, f, none⟩) n c) (cs := (ev9Cs b f n c tv s0 s1 x y)) ev9_ok hR ho (j := 3) (t := 39) (by rw [F.hz]; kernel_rfl) rfl
  have x1 : (putL (planOf (regionOps Tryz.f15 9) (upto 13)) u a0).eval (.const (.int .i64 1)) = .int .i64 (1) := rfl
  exact opw_index (k := 1) (by have := F.hn; omega) e1 x0 x1 (hK _ _ ⟨_, rfl, rfl⟩ hI (Below.refl _ _))
theorem ev9_5 (F : Ev9 a0 w0 base b f n c tv s0 s1 x y) : PO (regionOps Tryz.f15 9) 13 a0 base w0 (ev9Cs b f n c tv s0 s1 x y) 5 := by
  intro o ho u W hI hR
  obtain ⟨e1, e2, e3⟩ := ob_op ho (show ((regionOps Tryz.f15 9)[5]?).map (fun o => (o.op, o.dst, o.guard)) = some (.load 9 (.tmp 40), some 41, none) by kernel_rfl)
  rw [if_pos (plan_free e3 _)]
  intro K hK
  have x0 := ev_val (v := .pointer (some ⟨b, f + 1, none⟩)) (cs := (ev9Cs b f n c tv s0 s1 x y)) ev9_ok hR ho (j := 4) (t := 40) (by rw [F.hz]; kernel_rfl) rfl
  exact opw_load_str e1 x0 ((hI.1.cell F.lb).trans F.c1) (hK _ _ ⟨_, rfl, rfl⟩ hI (Below.refl _ _))
theorem ev9_6 (F : Ev9 a0 w0 base b f n c tv s0 s1 x y) : PO (regionOps Tryz.f15 9) 13 a0 base w0 (ev9Cs b f n c tv s0 s1 x y) 6 := by
  intro o ho u W hI hR
  obtain ⟨e1, e2, e3⟩ := ob_op ho (show ((regionOps Tryz.f15 9)[6]?).map (fun o => (o.op, o.dst, o.guard)) = some (.move (.tmp 1), some 42, none) by kernel_rfl)
  rw [if_pos (plan_free e3 _)]
  intro K hK
  have x0 := ev_base (u := u) ev9_ok (by kernel_rfl) F.h1
  exact opw_move e1 x0 (hK _ _ ⟨_, rfl, rfl⟩ hI (Below.refl _ _))
theorem ev9_7 (F : Ev9 a0 w0 base b f n c tv s0 s1 x y) : PO (regionOps Tryz.f15 9) 13 a0 base w0 (ev9Cs b f n c tv s0 s1 x y) 7 := by
  intro o ho u W hI hR
  obtain ⟨e1, e2, e3⟩ := ob_op ho (show ((regionOps Tryz.f15 9)[7]?).map (fun o => (o.op, o.dst, o.guard)) = some (.call { callee := .value (.func 30), args := #[(.tmp 38), (.tmp 41), (.tmp 42)], argTypes := #[9, 9, 34] }, some 43, none) by kernel_rfl)
  rw [if_pos (plan_free e3 _)]
  intro K hK
  have x0 := ev_val (v := .string (s0)) (cs := (ev9Cs b f n c tv s0 s1 x y)) ev9_ok hR ho (j := 2) (t := 38) (by rw [F.hz]; kernel_rfl) rfl
  have x1 := ev_val (v := .string (s1)) (cs := (ev9Cs b f n c tv s0 s1 x y)) ev9_ok hR ho (j := 5) (t := 41) (by rw [F.hz]; kernel_rfl) rfl
  have x2 := ev_val (v := tv) (cs := (ev9Cs b f n c tv s0 s1 x y)) ev9_ok hR ho (j := 6) (t := 42) (by rw [F.hz]; kernel_rfl) rfl
  refine opw_call e1 (vs := #[.string (s0), .string (s1), tv]) (by simp only [List.map_toArray, List.map_cons, List.map_nil, x0, x1, x2]) Tryz.func30 (by kernel_rfl) (by kernel_rfl) (F.hC W hI.1 hI.2) ?_
  rintro e W' ⟨rfl, b⟩
  exact ⟨_, rfl, hK _ _ ⟨_, rfl, rfl⟩ (hI.step b) b⟩
theorem ev9_8 (F : Ev9 a0 w0 base b f n c tv s0 s1 x y) : PO (regionOps Tryz.f15 9) 13 a0 base w0 (ev9Cs b f n c tv s0 s1 x y) 8 := by
  intro o ho u W hI hR
  obtain ⟨e1, e2, e3⟩ := ob_op ho (show ((regionOps Tryz.f15 9)[8]?).map (fun o => (o.op, o.dst, o.guard)) = some (.move (.tmp 43), some 35, none) by kernel_rfl)
  rw [if_pos (plan_free e3 _)]
  intro K hK
  have x0 := ev_val (v := .tuple #[.bool x, .bool y]) (cs := (ev9Cs b f n c tv s0 s1 x y)) ev9_ok hR ho (j := 7) (t := 43) (by rw [F.hz]; kernel_rfl) rfl
  exact opw_move e1 x0 (hK _ _ ⟨_, rfl, rfl⟩ hI (Below.refl _ _))
theorem ev9_9 (F : Ev9 a0 w0 base b f n c tv s0 s1 x y) : PO (regionOps Tryz.f15 9) 13 a0 base w0 (ev9Cs b f n c tv s0 s1 x y) 9 := by
  intro o ho u W hI hR
  obtain ⟨e1, e2, e3⟩ := ob_op ho (show ((regionOps Tryz.f15 9)[9]?).map (fun o => (o.op, o.dst, o.guard)) = some (.extract (.tmp 35) 0, some 44, none) by kernel_rfl)
  rw [if_pos (plan_free e3 _)]
  intro K hK
  have x0 := ev_val (v := .tuple #[.bool x, .bool y]) (cs := (ev9Cs b f n c tv s0 s1 x y)) ev9_ok hR ho (j := 8) (t := 35) (by rw [F.hz]; kernel_rfl) rfl
  exact opw_extract e1 x0 rfl (hK _ _ ⟨_, rfl, rfl⟩ hI (Below.refl _ _))
theorem ev9_10 (F : Ev9 a0 w0 base b f n c tv s0 s1 x y) : PO (regionOps Tryz.f15 9) 13 a0 base w0 (ev9Cs b f n c tv s0 s1 x y) 10 := by
  intro o ho u W hI hR
  obtain ⟨e1, e2, e3⟩ := ob_op ho (show ((regionOps Tryz.f15 9)[10]?).map (fun o => (o.op, o.dst, o.guard)) = some (.extract (.tmp 35) 1, some 45, none) by kernel_rfl)
  rw [if_pos (plan_free e3 _)]
  intro K hK
  have x0 := ev_val (v := .tuple #[.bool x, .bool y]) (cs := (ev9Cs b f n c tv s0 s1 x y)) ev9_ok hR ho (j := 8) (t := 35) (by rw [F.hz]; kernel_rfl) rfl
  exact opw_extract e1 x0 rfl (hK _ _ ⟨_, rfl, rfl⟩ hI (Below.refl _ _))
theorem ev9_11 (F : Ev9 a0 w0 base b f n c tv s0 s1 x y) : PO (regionOps Tryz.f15 9) 13 a0 base w0 (ev9Cs b f n c tv s0 s1 x y) 11 := by
  intro o ho u W hI hR
  obtain ⟨e1, e2, e3⟩ := ob_op ho (show ((regionOps Tryz.f15 9)[11]?).map (fun o => (o.op, o.dst, o.guard)) = some (.assign (.tmp 44), some 6, none) by kernel_rfl)
  rw [if_pos (plan_free e3 _)]
  intro K hK
  have x0 := ev_val (v := .bool x) (cs := (ev9Cs b f n c tv s0 s1 x y)) ev9_ok hR ho (j := 9) (t := 44) (by rw [F.hz]; kernel_rfl) rfl
  exact opw_assign e1 x0 (hK _ _ ⟨_, rfl, rfl⟩ hI (Below.refl _ _))
theorem ev9_12 (F : Ev9 a0 w0 base b f n c tv s0 s1 x y) : PO (regionOps Tryz.f15 9) 13 a0 base w0 (ev9Cs b f n c tv s0 s1 x y) 12 := by
  intro o ho u W hI hR
  obtain ⟨e1, e2, e3⟩ := ob_op ho (show ((regionOps Tryz.f15 9)[12]?).map (fun o => (o.op, o.dst, o.guard)) = some (.assign (.tmp 45), some 7, none) by kernel_rfl)
  rw [if_pos (plan_free e3 _)]
  intro K hK
  have x0 := ev_val (v := .bool y) (cs := (ev9Cs b f n c tv s0 s1 x y)) ev9_ok hR ho (j := 10) (t := 45) (by rw [F.hz]; kernel_rfl) rfl
  exact opw_assign e1 x0 (hK _ _ ⟨_, rfl, rfl⟩ hI (Below.refl _ _))
theorem ev9_all (F : Ev9 a0 w0 base b f n c tv s0 s1 x y) : ∀ i, i < 13 → PO (regionOps Tryz.f15 9) 13 a0 base w0 (ev9Cs b f n c tv s0 s1 x y) i
  | 0, _ => ev9_0 F
  | 1, _ => ev9_1 F
  | 2, _ => ev9_2 F
  | 3, _ => ev9_3 F
  | 4, _ => ev9_4 F
  | 5, _ => ev9_5 F
  | 6, _ => ev9_6 F
  | 7, _ => ev9_7 F
  | 8, _ => ev9_8 F
  | 9, _ => ev9_9 F
  | 10, _ => ev9_10 F
  | 11, _ => ev9_11 F
  | 12, _ => ev9_12 F
  | i + 13, h => absurd h (by omega)
theorem ev9_plan : planOf (regionOps Tryz.f15 9) (upto 13) = [(some 36, 0), (some 37, 1), (some 38, 2), (some 39, 3), (some 40, 4), (some 41, 5), (some 42, 6), (some 43, 7), (some 35, 8), (some 44, 9), (some 45, 10), (some 6, 11), (some 7, 12)] := by kernel_rfl
theorem ev9_wp {id : Nat} {Q : Exit → Act → World → Prop} (F : Ev9 a0 w0 base b f n c tv s0 s1 x y) (hb : base ≤ w0.heap.size)
    (hq : ∀ (u : Nat → Value) (W : World), u 11 = .bool x → u 12 = .bool y → Below base w0 W → base ≤ W.heap.size → Q .normal (putL (planOf (regionOps Tryz.f15 9) (upto 13)) u a0) W) :
    (Code.region id (regionOps Tryz.f15 9) true).wp Tryz.prog Q a0 w0 := by
  refine wp_plan_cl 13 0 (ev9Cs b f n c tv s0 s1 x y) ev9_ok (by kernel_rfl) hb (ev9_all F) fun u W hI1 hI2 hR => ?_
  refine ⟨by kernel_rfl, hq u W ?_ ?_ hI1 hI2⟩
  · obtain ⟨cc, hc, h⟩ := hR 11 (of_decide_eq_true (by kernel_rfl)) (by decide)
    cases hc
    exact h
  · obtain ⟨cc, hc, h⟩ := hR 12 (of_decide_eq_true (by kernel_rfl)) (by decide)
    cases hc
    exact h
def ev14Cs (b f n c : Nat) (s0 s1 s2 : ByteArray) (x y : Bool) (p : Value → World → Prop) (hp : ∀ v W W', p v W → Below W.heap.size W W' → p v W') : List Claim := [.val (.slice (some ⟨b, f, none⟩) n c), .val (.pointer (some ⟨b, f + 0, none⟩)), .val (.string (s0)), .val (.slice (some ⟨b, f, none⟩) n c), .val (.pointer (some ⟨b, f + 1, none⟩)), .val (.string (s1)), .val (.slice (some ⟨b, f, none⟩) n c), .val (.pointer (some ⟨b, f + 2, none⟩)), .val (.string (s2)), .tup3 (.bool x) (.bool y) p hp, .tup3 (.bool x) (.bool y) p hp, .val (.bool x), .val (.bool y), .any p hp, .val (.bool x), .val (.bool y), .any p hp]
theorem ev14_ok : planOk .any (regionOps Tryz.f15 14) (upto 17) = true := by kernel_rfl
theorem ev14_0 (F : Ev14 a0 w0 base b f n c s0 s1 s2 x y p) : PO (regionOps Tryz.f15 14) 17 a0 base w0 (ev14Cs b f n c s0 s1 s2 x y p hp) 0 := by
  intro o ho u W hI hR
  obtain ⟨e1, e2, e3⟩ := ob_op ho (show ((regionOps Tryz.f15 14)[0]?).map (fun o => (o.op, o.dst, o.guard)) = some (.move (.tmp 0), some 54, none) by kernel_rfl)
  rw [if_pos (plan_free e3 _)]
  intro K hK
  have x0 := ev_base (u := u) ev14_ok (by kernel_rfl) F.h0
  exact opw_move e1 x0 (hK _ _ ⟨_, rfl, rfl⟩ hI (Below.refl _ _))
theorem ev14_1 (F : Ev14 a0 w0 base b f n c s0 s1 s2 x y p) : PO (regionOps Tryz.f15 14) 17 a0 base w0 (ev14Cs b f n c s0 s1 s2 x y p hp) 1 := by
  intro o ho u W hI hR
  obtain ⟨e1, e2, e3⟩ := ob_op ho (show ((regionOps Tryz.f15 14)[1]?).map (fun o => (o.op, o.dst, o.guard)) = some (.indexAddr 22 (.tmp 54) (.const (.int .i64 0)), some 55, none) by kernel_rfl)
  rw [if_pos (plan_free e3 _)]
  intro K hK
  have x0 := ev_val (v := .slice (some ⟨b, f, none⟩) n c) (cs := (ev14Cs b f n c s0 s1 s2 x y p hp)) ev14_ok hR ho (j := 0) (t := 54) (by rw [F.hz]; kernel_rfl) rfl
  have x1 : (putL (planOf (regionOps Tryz.f15 14) (upto 17)) u a0).eval (.const (.int .i64 0)) = .int .i64 (0) := rfl
  exact opw_index (k := 0) (by have := F.hn; omega) e1 x0 x1 (hK _ _ ⟨_, rfl, rfl⟩ hI (Below.refl _ _))
theorem ev14_2 (F : Ev14 a0 w0 base b f n c s0 s1 s2 x y p) : PO (regionOps Tryz.f15 14) 17 a0 base w0 (ev14Cs b f n c s0 s1 s2 x y p hp) 2 := by
  intro o ho u W hI hR
  obtain ⟨e1, e2, e3⟩ := ob_op ho (show ((regionOps Tryz.f15 14)[2]?).map (fun o => (o.op, o.dst, o.guard)) = some (.load 9 (.tmp 55), some 56, none) by kernel_rfl)
  rw [if_pos (plan_free e3 _)]
  intro K hK
  have x0 := ev_val (v := .pointer (some ⟨b, f + 0, none⟩)) (cs := (ev14Cs b f n c s0 s1 s2 x y p hp)) ev14_ok hR ho (j := 1) (t := 55) (by rw [F.hz]; kernel_rfl) rfl
  exact opw_load_str e1 x0 ((hI.1.cell F.lb).trans F.c0) (hK _ _ ⟨_, rfl, rfl⟩ hI (Below.refl _ _))
theorem ev14_3 (F : Ev14 a0 w0 base b f n c s0 s1 s2 x y p) : PO (regionOps Tryz.f15 14) 17 a0 base w0 (ev14Cs b f n c s0 s1 s2 x y p hp) 3 := by
  intro o ho u W hI hR
  obtain ⟨e1, e2, e3⟩ := ob_op ho (show ((regionOps Tryz.f15 14)[3]?).map (fun o => (o.op, o.dst, o.guard)) = some (.move (.tmp 0), some 57, none) by kernel_rfl)
  rw [if_pos (plan_free e3 _)]
  intro K hK
  have x0 := ev_base (u := u) ev14_ok (by kernel_rfl) F.h0
  exact opw_move e1 x0 (hK _ _ ⟨_, rfl, rfl⟩ hI (Below.refl _ _))
theorem ev14_4 (F : Ev14 a0 w0 base b f n c s0 s1 s2 x y p) : PO (regionOps Tryz.f15 14) 17 a0 base w0 (ev14Cs b f n c s0 s1 s2 x y p hp) 4 := by
  intro o ho u W hI hR
  obtain ⟨e1, e2, e3⟩ := ob_op ho (show ((regionOps Tryz.f15 14)[4]?).map (fun o => (o.op, o.dst, o.guard)) = some (.indexAddr 22 (.tmp 57) (.const (.int .i64 1)), some 58, none) by kernel_rfl)
  rw [if_pos (plan_free e3 _)]
  intro K hK
  have x0 := ev_val (v := .slice (some ⟨b, f, none⟩) n c) (cs := (ev14Cs b f n c s0 s1 s2 x y p hp)) ev14_ok hR ho (j := 3) (t := 57) (by rw [F.hz]; kernel_rfl) rfl
  have x1 : (putL (planOf (regionOps Tryz.f15 14) (upto 17)) u a0).eval (.const (.int .i64 1)) = .int .i64 (1) := rfl
  exact opw_index (k := 1) (by have := F.hn; omega) e1 x0 x1 (hK _ _ ⟨_, rfl, rfl⟩ hI (Below.refl _ _))
theorem ev14_5 (F : Ev14 a0 w0 base b f n c s0 s1 s2 x y p) : PO (regionOps Tryz.f15 14) 17 a0 base w0 (ev14Cs b f n c s0 s1 s2 x y p hp) 5 := by
  intro o ho u W hI hR
  obtain ⟨e1, e2, e3⟩ := ob_op ho (show ((regionOps Tryz.f15 14)[5]?).map (fun o => (o.op, o.dst, o.guard)) = some (.load 9 (.tmp 58), some 59, none) by kernel_rfl)
  rw [if_pos (plan_free e3 _)]
  intro K hK
  have x0 := ev_val (v := .pointer (some ⟨b, f + 1, none⟩)) (cs := (ev14Cs b f n c s0 s1 s2 x y p hp)) ev14_ok hR ho (j := 4) (t := 58) (by rw [F.hz]; kernel_rfl) rfl
  exact opw_load_str e1 x0 ((hI.1.cell F.lb).trans F.c1) (hK _ _ ⟨_, rfl, rfl⟩ hI (Below.refl _ _))
theorem ev14_6 (F : Ev14 a0 w0 base b f n c s0 s1 s2 x y p) : PO (regionOps Tryz.f15 14) 17 a0 base w0 (ev14Cs b f n c s0 s1 s2 x y p hp) 6 := by
  intro o ho u W hI hR
  obtain ⟨e1, e2, e3⟩ := ob_op ho (show ((regionOps Tryz.f15 14)[6]?).map (fun o => (o.op, o.dst, o.guard)) = some (.move (.tmp 0), some 60, none) by kernel_rfl)
  rw [if_pos (plan_free e3 _)]
  intro K hK
  have x0 := ev_base (u := u) ev14_ok (by kernel_rfl) F.h0
  exact opw_move e1 x0 (hK _ _ ⟨_, rfl, rfl⟩ hI (Below.refl _ _))
theorem ev14_7 (F : Ev14 a0 w0 base b f n c s0 s1 s2 x y p) : PO (regionOps Tryz.f15 14) 17 a0 base w0 (ev14Cs b f n c s0 s1 s2 x y p hp) 7 := by
  intro o ho u W hI hR
  obtain ⟨e1, e2, e3⟩ := ob_op ho (show ((regionOps Tryz.f15 14)[7]?).map (fun o => (o.op, o.dst, o.guard)) = some (.indexAddr 22 (.tmp 60) (.const (.int .i64 2)), some 61, none) by kernel_rfl)
  rw [if_pos (plan_free e3 _)]
  intro K hK
  have x0 := ev_val (v := .slice (some ⟨b, f, none⟩) n c) (cs := (ev14Cs b f n c s0 s1 s2 x y p hp)) ev14_ok hR ho (j := 6) (t := 60) (by rw [F.hz]; kernel_rfl) rfl
  have x1 : (putL (planOf (regionOps Tryz.f15 14) (upto 17)) u a0).eval (.const (.int .i64 2)) = .int .i64 (2) := rfl
  exact opw_index (k := 2) (by have := F.hn; omega) e1 x0 x1 (hK _ _ ⟨_, rfl, rfl⟩ hI (Below.refl _ _))
theorem ev14_8 (F : Ev14 a0 w0 base b f n c s0 s1 s2 x y p) : PO (regionOps Tryz.f15 14) 17 a0 base w0 (ev14Cs b f n c s0 s1 s2 x y p hp) 8 := by
  intro o ho u W hI hR
  obtain ⟨e1, e2, e3⟩ := ob_op ho (show ((regionOps Tryz.f15 14)[8]?).map (fun o => (o.op, o.dst, o.guard)) = some (.load 9 (.tmp 61), some 62, none) by kernel_rfl)
  rw [if_pos (plan_free e3 _)]
  intro K hK
  have x0 := ev_val (v := .pointer (some ⟨b, f + 2, none⟩)) (cs := (ev14Cs b f n c s0 s1 s2 x y p hp)) ev14_ok hR ho (j := 7) (t := 61) (by rw [F.hz]; kernel_rfl) rfl
  exact opw_load_str e1 x0 ((hI.1.cell F.lb).trans F.c2) (hK _ _ ⟨_, rfl, rfl⟩ hI (Below.refl _ _))
theorem ev14_9 (F : Ev14 a0 w0 base b f n c s0 s1 s2 x y p) : PO (regionOps Tryz.f15 14) 17 a0 base w0 (ev14Cs b f n c s0 s1 s2 x y p hp) 9 := by
  intro o ho u W hI hR
  obtain ⟨e1, e2, e3⟩ := ob_op ho (show ((regionOps Tryz.f15 14)[9]?).map (fun o => (o.op, o.dst, o.guard)) = some (.call { callee := .value (.func 31), args := #[(.tmp 56), (.tmp 59), (.tmp 62)], argTypes := #[9, 9, 9] }, some 63, none) by kernel_rfl)
  rw [if_pos (plan_free e3 _)]
  intro K hK
  have x0 := ev_val (v := .string (s0)) (cs := (ev14Cs b f n c s0 s1 s2 x y p hp)) ev14_ok hR ho (j := 2) (t := 56) (by rw [F.hz]; kernel_rfl) rfl
  have x1 := ev_val (v := .string (s1)) (cs := (ev14Cs b f n c s0 s1 s2 x y p hp)) ev14_ok hR ho (j := 5) (t := 59) (by rw [F.hz]; kernel_rfl) rfl
  have x2 := ev_val (v := .string (s2)) (cs := (ev14Cs b f n c s0 s1 s2 x y p hp)) ev14_ok hR ho (j := 8) (t := 62) (by rw [F.hz]; kernel_rfl) rfl
  refine opw_call e1 (vs := #[.string (s0), .string (s1), .string (s2)]) (by simp only [List.map_toArray, List.map_cons, List.map_nil, x0, x1, x2]) Tryz.func31 (by kernel_rfl) (by kernel_rfl) (F.hC W hI.1 hI.2) ?_
  rintro e W' ⟨v, rfl, hv, b⟩
  exact ⟨_, rfl, hK _ _ ⟨_, rfl, v, rfl, hv⟩ (hI.step b) b⟩
theorem ev14_10 (F : Ev14 a0 w0 base b f n c s0 s1 s2 x y p) : PO (regionOps Tryz.f15 14) 17 a0 base w0 (ev14Cs b f n c s0 s1 s2 x y p hp) 10 := by
  intro o ho u W hI hR
  obtain ⟨e1, e2, e3⟩ := ob_op ho (show ((regionOps Tryz.f15 14)[10]?).map (fun o => (o.op, o.dst, o.guard)) = some (.move (.tmp 63), some 53, none) by kernel_rfl)
  rw [if_pos (plan_free e3 _)]
  intro K hK
  obtain ⟨x0, cx0, kx0, lx0⟩ := ev_cl ev14_ok hR ho (j := 9) (t := 63) (by rw [F.hz]; kernel_rfl)
  cases kx0
  exact opw_move e1 x0 (hK _ _ ⟨_, rfl, lx0⟩ hI (Below.refl _ _))
theorem ev14_11 (F : Ev14 a0 w0 base b f n c s0 s1 s2 x y p) : PO (regionOps Tryz.f15 14) 17 a0 base w0 (ev14Cs b f n c s0 s1 s2 x y p hp) 11 := by
  intro o ho u W hI hR
  obtain ⟨e1, e2, e3⟩ := ob_op ho (show ((regionOps Tryz.f15 14)[11]?).map (fun o => (o.op, o.dst, o.guard)) = some (.extract (.tmp 53) 0, some 64, none) by kernel_rfl)
  rw [if_pos (plan_free e3 _)]
  intro K hK
  obtain ⟨x0, cx0, kx0, lx0⟩ := ev_cl ev14_ok hR ho (j := 10) (t := 53) (by rw [F.hz]; kernel_rfl)
  cases kx0
  obtain ⟨vx, ex, -⟩ := lx0
  rw [ex] at x0
  exact opw_extract e1 x0 rfl (hK _ _ ⟨_, rfl, rfl⟩ hI (Below.refl _ _))
theorem ev14_12 (F : Ev14 a0 w0 base b f n c s0 s1 s2 x y p) : PO (regionOps Tryz.f15 14) 17 a0 base w0 (ev14Cs b f n c s0 s1 s2 x y p hp) 12 := by
  intro o ho u W hI hR
  obtain ⟨e1, e2, e3⟩ := ob_op ho (show ((regionOps Tryz.f15 14)[12]?).map (fun o => (o.op, o.dst, o.guard)) = some (.extract (.tmp 53) 1, some 65, none) by kernel_rfl)
  rw [if_pos (plan_free e3 _)]
  intro K hK
  obtain ⟨x0, cx0, kx0, lx0⟩ := ev_cl ev14_ok hR ho (j := 10) (t := 53) (by rw [F.hz]; kernel_rfl)
  cases kx0
  obtain ⟨vx, ex, -⟩ := lx0
  rw [ex] at x0
  exact opw_extract e1 x0 rfl (hK _ _ ⟨_, rfl, rfl⟩ hI (Below.refl _ _))
theorem ev14_13 (F : Ev14 a0 w0 base b f n c s0 s1 s2 x y p) : PO (regionOps Tryz.f15 14) 17 a0 base w0 (ev14Cs b f n c s0 s1 s2 x y p hp) 13 := by
  intro o ho u W hI hR
  obtain ⟨e1, e2, e3⟩ := ob_op ho (show ((regionOps Tryz.f15 14)[13]?).map (fun o => (o.op, o.dst, o.guard)) = some (.extract (.tmp 53) 2, some 66, none) by kernel_rfl)
  rw [if_pos (plan_free e3 _)]
  intro K hK
  obtain ⟨x0, cx0, kx0, lx0⟩ := ev_cl ev14_ok hR ho (j := 10) (t := 53) (by rw [F.hz]; kernel_rfl)
  cases kx0
  obtain ⟨vx, ex, hvx⟩ := lx0
  rw [ex] at x0
  exact opw_extract e1 x0 rfl (hK _ _ ⟨_, rfl, hvx⟩ hI (Below.refl _ _))
theorem ev14_14 (F : Ev14 a0 w0 base b f n c s0 s1 s2 x y p) : PO (regionOps Tryz.f15 14) 17 a0 base w0 (ev14Cs b f n c s0 s1 s2 x y p hp) 14 := by
  intro o ho u W hI hR
  obtain ⟨e1, e2, e3⟩ := ob_op ho (show ((regionOps Tryz.f15 14)[14]?).map (fun o => (o.op, o.dst, o.guard)) = some (.assign (.tmp 64), some 8, none) by kernel_rfl)
  rw [if_pos (plan_free e3 _)]
  intro K hK
  have x0 := ev_val (v := .bool x) (cs := (ev14Cs b f n c s0 s1 s2 x y p hp)) ev14_ok hR ho (j := 11) (t := 64) (by rw [F.hz]; kernel_rfl) rfl
  exact opw_assign e1 x0 (hK _ _ ⟨_, rfl, rfl⟩ hI (Below.refl _ _))
theorem ev14_15 (F : Ev14 a0 w0 base b f n c s0 s1 s2 x y p) : PO (regionOps Tryz.f15 14) 17 a0 base w0 (ev14Cs b f n c s0 s1 s2 x y p hp) 15 := by
  intro o ho u W hI hR
  obtain ⟨e1, e2, e3⟩ := ob_op ho (show ((regionOps Tryz.f15 14)[15]?).map (fun o => (o.op, o.dst, o.guard)) = some (.assign (.tmp 65), some 9, none) by kernel_rfl)
  rw [if_pos (plan_free e3 _)]
  intro K hK
  have x0 := ev_val (v := .bool y) (cs := (ev14Cs b f n c s0 s1 s2 x y p hp)) ev14_ok hR ho (j := 12) (t := 65) (by rw [F.hz]; kernel_rfl) rfl
  exact opw_assign e1 x0 (hK _ _ ⟨_, rfl, rfl⟩ hI (Below.refl _ _))
theorem ev14_16 (F : Ev14 a0 w0 base b f n c s0 s1 s2 x y p) : PO (regionOps Tryz.f15 14) 17 a0 base w0 (ev14Cs b f n c s0 s1 s2 x y p hp) 16 := by
  intro o ho u W hI hR
  obtain ⟨e1, e2, e3⟩ := ob_op ho (show ((regionOps Tryz.f15 14)[16]?).map (fun o => (o.op, o.dst, o.guard)) = some (.assign (.tmp 66), some 10, none) by kernel_rfl)
  rw [if_pos (plan_free e3 _)]
  intro K hK
  obtain ⟨x0, cx0, kx0, lx0⟩ := ev_cl ev14_ok hR ho (j := 13) (t := 66) (by rw [F.hz]; kernel_rfl)
  cases kx0
  exact opw_assign e1 x0 (hK _ _ ⟨_, rfl, lx0⟩ hI (Below.refl _ _))
theorem ev14_all (F : Ev14 a0 w0 base b f n c s0 s1 s2 x y p) : ∀ i, i < 17 → PO (regionOps Tryz.f15 14) 17 a0 base w0 (ev14Cs b f n c s0 s1 s2 x y p hp) i
  | 0, _ => ev14_0 F
  | 1, _ => ev14_1 F
  | 2, _ => ev14_2 F
  | 3, _ => ev14_3 F
  | 4, _ => ev14_4 F
  | 5, _ => ev14_5 F
  | 6, _ => ev14_6 F
  | 7, _ => ev14_7 F
  | 8, _ => ev14_8 F
  | 9, _ => ev14_9 F
  | 10, _ => ev14_10 F
  | 11, _ => ev14_11 F
  | 12, _ => ev14_12 F
  | 13, _ => ev14_13 F
  | 14, _ => ev14_14 F
  | 15, _ => ev14_15 F
  | 16, _ => ev14_16 F
  | i + 17, h => absurd h (by omega)
theorem ev14_plan : planOf (regionOps Tryz.f15 14) (upto 17) = [(some 54, 0), (some 55, 1), (some 56, 2), (some 57, 3), (some 58, 4), (some 59, 5), (some 60, 6), (some 61, 7), (some 62, 8), (some 63, 9), (some 53, 10), (some 64, 11), (some 65, 12), (some 66, 13), (some 8, 14), (some 9, 15), (some 10, 16)] := by kernel_rfl
theorem ev14_wp {id : Nat} {Q : Exit → Act → World → Prop} (hp : ∀ v W W', p v W → Below W.heap.size W W' → p v W') (F : Ev14 a0 w0 base b f n c s0 s1 s2 x y p) (hb : base ≤ w0.heap.size)
    (hq : ∀ (u : Nat → Value) (W : World), u 14 = .bool x → u 15 = .bool y → p (u 16) W → Below base w0 W → base ≤ W.heap.size → Q .normal (putL (planOf (regionOps Tryz.f15 14) (upto 17)) u a0) W) :
    (Code.region id (regionOps Tryz.f15 14) true).wp Tryz.prog Q a0 w0 := by
  refine wp_plan_cl 17 0 (ev14Cs b f n c s0 s1 s2 x y p hp) ev14_ok (by kernel_rfl) hb (ev14_all F) fun u W hI1 hI2 hR => ?_
  refine ⟨by kernel_rfl, hq u W ?_ ?_ ?_ hI1 hI2⟩
  · obtain ⟨cc, hc, h⟩ := hR 14 (of_decide_eq_true (by kernel_rfl)) (by decide)
    cases hc
    exact h
  · obtain ⟨cc, hc, h⟩ := hR 15 (of_decide_eq_true (by kernel_rfl)) (by decide)
    cases hc
    exact h
  · obtain ⟨cc, hc, h⟩ := hR 16 (of_decide_eq_true (by kernel_rfl)) (by decide)
    cases hc
    exact h
end Go.Proofs.YtfnaooplpofgiaaGreatDoor
