/- What GlobParses and GlobPlain tell in statements that draw their order. Conditions: the fault lies in memory, and the errors' variables. -/
import Derived.Test.YteeopjgfiojoiaaDoorFlt
import Derived.Test.YteeopjgfiojoiaaDoorGlobB
import Derived.Test.YteeopjgfiojoiaaDoorRQt
namespace Go.Proofs.YteeopjgfiojoiaaDoor
open Go Go.RowKit SN

theorem run_nei (a b : Int) (w : World) : (binOp .neq 3 (.int .i64 a) (.int .i64 b)).run Tryd.prog w = .ok (.bool (a != b)) w := by kernel_rfl
theorem neGuard_i (x y : Operand) (a b : Int) (w : World) : (eqGuard .neq 3 x y (.int .i64 a) (.int .i64 b)).run Tryd.prog w = .ok () w := by kernel_rfl
theorem run_nilp (w : World) : (binOp .eql 51 (.pointer none) (.pointer none)).run Tryd.prog w = .ok (.bool true) w := by kernel_rfl
theorem nilpGuard (x y : Operand) (w : World) : (eqGuard .eql 51 x y (.pointer none) (.pointer none)).run Tryd.prog w = .ok () w := by kernel_rfl
theorem nestrGuard (x y : Operand) (s t : ByteArray) (w : World) : (eqGuard .neq 9 x y (.string s) (.string t)).run Tryd.prog w = .ok () w := by kernel_rfl
theorem run_nestr (s : ByteArray) (w : World) : (binOp .neq 9 (.string s) (.string s)).run Tryd.prog w = .ok (.bool false) w := by
  have hu := Tryd.underlying9
  go_simp
  try simp [bne]
section
variable {o : Oper} {a : Act} {w : World} {K : Act → World → Prop} {Q : Exit → Act → World → Prop}
theorem opw_fieldAddr0 {x : Operand} {B : Nat} (ho : o.op = .fieldAddr 62 x 0) (hx : a.eval x = .pointer (some ⟨B, 0, none⟩)) (h : K (a.put o.dst (.pointer (some ⟨B, 0, none⟩))) w) : o.wp Tryd.prog a w K Q :=
  opw_run (by unfold execOp; simp only [ho, hx]; kernel_rfl) h
theorem opw_load_int {x : Operand} {B : Nat} {c : Int} (ho : o.op = .load 3 x) (hx : a.eval x = .pointer (some ⟨B, 0, none⟩)) (hS : w.cell? ⟨B, 0, none⟩ = some (.int .i64 c)) (h : K (a.put o.dst (.int .i64 c)) w) : o.wp Tryd.prog a w K Q :=
  opw_run (by have hu := Tryd.underlying3; unfold execOp; simp only [ho, hx]; go_simp) h
theorem opw_nei {x y : Operand} {A B : Int} {v : Bool} (ho : o.op = .binOp .neq 3 x y 3) (hx : a.eval x = .int .i64 A) (hy : a.eval y = .int .i64 B) (hv : (A != B) = v) (h : K (a.put o.dst (.bool v)) w) : o.wp Tryd.prog a w K Q :=
  opw_bin ho hx hy (neGuard_i _ _ _ _ _) (run_nei A B w) (hv ▸ h)
end
structure Gp (a0 : Act) (w0 : World) (base B6 : Nat) (c p l : Int) (v : Value) (sz t4 t6 : Nat) (N : Nat) (E : Nat → Addr) : Prop where
  hz : a0.tmps.size = sz
  h4 : a0.eval (.tmp t4) = v
  h6 : a0.eval (.tmp t6) = .pointer (some ⟨B6, 0, none⟩)
  b6 : IsF w0 B6 c p l
  l6 : B6 < base
  hT : ∀ W, Below base w0 W → base ≤ W.heap.size → Calls Tryd.prog 44 #[v] W fun e w' => e = .returned (fv c p l) ∧ Below W.heap.size W w'
  hE : Errs N E w0
  hN : N ≤ base
structure Gp3 (a0 : Act) (w0 : World) (base B6 : Nat) (c p l : Int) (v : Value) (b : Bool) (N : Nat) (E : Nat → Addr) : Prop extends Gp a0 w0 base B6 c p l v 55 4 6 N E where
  hc : (c != 0) = b
structure Gp4 (a0 : Act) (w0 : World) (base B6 : Nat) (c p l : Int) (v : Value) (N : Nat) (E : Nat → Addr) : Prop extends Gp a0 w0 base B6 c p l v 55 4 6 N E where
  h3 : a0.eval (.tmp 3) = .pointer none
structure Gq3 (a0 : Act) (w0 : World) (base B6 : Nat) (c p l : Int) (v : Value) (s : ByteArray) (N : Nat) (E : Nat → Addr) : Prop extends Gp a0 w0 base B6 c p l v 59 6 8 N E where
  h1 : a0.eval (.tmp 1) = .string s
  hs : s.size ≤ 1048576
variable {a0 : Act} {w0 : World} {base B6 N : Nat} {c p l : Int} {v : Value} {E : Nat → Addr} {s : ByteArray}
def gp3aCs (B6 : Nat) (c p l : Int) (v : Value) : List Claim := [.val (v), .val (fv c p l), .val (fv c p l), .val (.bool false), .val (.bool false), .val (.pointer (some ⟨B6, 0, none⟩)), .val (.int .i64 (c)), .val (.bool false), .val (.bool false)]
theorem gp3a_ok : planOk .any (regionOps Tryd.f15 3) (upto 9) = true := by kernel_rfl
theorem gp3a_0 (F : Gp3 a0 w0 base B6 c p l v false N E) : PO (regionOps Tryd.f15 3) 9 a0 base w0 (gp3aCs B6 c p l v) 0 := by
  intro o ho u W hI hR
  obtain ⟨e1, e2, e3⟩ := ob_op ho (show ((regionOps Tryd.f15 3)[0]?).map (fun o => (o.op, o.dst, o.guard)) = some (.move (.tmp 4), some 17, none) by kernel_rfl)
  rw [if_pos (plan_free e3 _)]
  intro K hK
  have x0 := ev_base (u := u) gp3a_ok (by kernel_rfl) F.h4
  exact opw_move e1 x0 (hK _ _ ⟨_, rfl, rfl⟩ hI (Below.refl _ _))
theorem gp3a_1 (F : Gp3 a0 w0 base B6 c p l v false N E) : PO (regionOps Tryd.f15 3) 9 a0 base w0 (gp3aCs B6 c p l v) 1 := by
  intro o ho u W hI hR
  obtain ⟨e1, e2, e3⟩ := ob_op ho (show ((regionOps Tryd.f15 3)[1]?).map (fun o => (o.op, o.dst, o.guard)) = some (.call { callee := .value (.func 44), args := #[(.tmp 17)], argTypes := #[46] }, some 18, none) by kernel_rfl)
  rw [if_pos (plan_free e3 _)]
  intro K hK
  have x0 := ev_val (v := v) (cs := (gp3aCs B6 c p l v)) gp3a_ok hR ho (j := 0) (t := 17) (by rw [F.hz]; kernel_rfl) rfl
  refine opw_call e1 (vs := #[v]) (by simp only [List.map_toArray, List.map_cons, List.map_nil, x0]) Tryd.func44 (by kernel_rfl) (by kernel_rfl) (F.hT W hI.1 hI.2) ?_
  rintro e W' ⟨rfl, b⟩
  exact ⟨_, rfl, hK _ _ ⟨_, rfl, rfl⟩ (hI.step b) b⟩
theorem gp3a_2 (F : Gp3 a0 w0 base B6 c p l v false N E) : PO (regionOps Tryd.f15 3) 9 a0 base w0 (gp3aCs B6 c p l v) 2 := by
  intro o ho u W hI hR
  obtain ⟨e1, e2, e3⟩ := ob_op ho (show ((regionOps Tryd.f15 3)[2]?).map (fun o => (o.op, o.dst, o.guard)) = some (.load 62 (.tmp 6), some 19, none) by kernel_rfl)
  rw [if_pos (plan_free e3 _)]
  intro K hK
  have x0 := ev_base (u := u) gp3a_ok (by kernel_rfl) F.h6
  exact opw_load_flt e1 x0 (row_below F.b6 hI.1 F.l6) (hK _ _ ⟨_, rfl, rfl⟩ hI (Below.refl _ _))
theorem gp3a_3 (F : Gp3 a0 w0 base B6 c p l v false N E) : PO (regionOps Tryd.f15 3) 9 a0 base w0 (gp3aCs B6 c p l v) 3 := by
  intro o ho u W hI hR
  obtain ⟨e1, e2, e3⟩ := ob_op ho (show ((regionOps Tryd.f15 3)[3]?).map (fun o => (o.op, o.dst, o.guard)) = some (.binOp .neq 62 (.tmp 18) (.tmp 19) 62, some 20, none) by kernel_rfl)
  rw [if_pos (plan_free e3 _)]
  intro K hK
  have x0 := ev_val (v := fv c p l) (cs := (gp3aCs B6 c p l v)) gp3a_ok hR ho (j := 1) (t := 18) (by rw [F.hz]; kernel_rfl) rfl
  have x1 := ev_val (v := fv c p l) (cs := (gp3aCs B6 c p l v)) gp3a_ok hR ho (j := 2) (t := 19) (by rw [F.hz]; kernel_rfl) rfl
  exact opw_bin e1 x0 x1 (fltGuard _ _ _ c p l W) (neq_flt c p l W) (hK _ _ ⟨_, rfl, rfl⟩ hI (Below.refl _ _))
theorem gp3a_4 (F : Gp3 a0 w0 base B6 c p l v false N E) : PO (regionOps Tryd.f15 3) 9 a0 base w0 (gp3aCs B6 c p l v) 4 := by
  intro o ho u W hI hR
  obtain ⟨e1, e2, e3⟩ := ob_op ho (show ((regionOps Tryd.f15 3)[4]?).map (fun o => (o.op, o.dst, o.guard)) = some (.move (.tmp 20), some 21, none) by kernel_rfl)
  rw [if_pos (plan_free e3 _)]
  intro K hK
  have x0 := ev_val (v := .bool false) (cs := (gp3aCs B6 c p l v)) gp3a_ok hR ho (j := 3) (t := 20) (by rw [F.hz]; kernel_rfl) rfl
  exact opw_move e1 x0 (hK _ _ ⟨_, rfl, rfl⟩ hI (Below.refl _ _))
theorem gp3a_5 (F : Gp3 a0 w0 base B6 c p l v false N E) : PO (regionOps Tryd.f15 3) 9 a0 base w0 (gp3aCs B6 c p l v) 5 := by
  intro o ho u W hI hR
  obtain ⟨e1, e2, e3⟩ := ob_op ho (show ((regionOps Tryd.f15 3)[5]?).map (fun o => (o.op, o.dst, o.guard)) = some (.fieldAddr 62 (.tmp 6) 0, some 22, some (4, false)) by kernel_rfl)
  have xg := ev_val (v := .bool false) (cs := (gp3aCs B6 c p l v)) gp3a_ok hR ho (j := 4) (t := 21) (by rw [F.hz]; kernel_rfl) rfl
  rw [if_pos (wanted_yes e3 (t := 21) (by kernel_rfl) xg)]
  intro K hK
  have x0 := ev_base (u := u) gp3a_ok (by kernel_rfl) F.h6
  exact opw_fieldAddr0 e1 x0 (hK _ _ ⟨_, rfl, rfl⟩ hI (Below.refl _ _))
theorem gp3a_6 (F : Gp3 a0 w0 base B6 c p l v false N E) : PO (regionOps Tryd.f15 3) 9 a0 base w0 (gp3aCs B6 c p l v) 6 := by
  intro o ho u W hI hR
  obtain ⟨e1, e2, e3⟩ := ob_op ho (show ((regionOps Tryd.f15 3)[6]?).map (fun o => (o.op, o.dst, o.guard)) = some (.load 3 (.tmp 22), some 23, some (4, false)) by kernel_rfl)
  have xg := ev_val (v := .bool false) (cs := (gp3aCs B6 c p l v)) gp3a_ok hR ho (j := 4) (t := 21) (by rw [F.hz]; kernel_rfl) rfl
  rw [if_pos (wanted_yes e3 (t := 21) (by kernel_rfl) xg)]
  intro K hK
  have x0 := ev_val (v := .pointer (some ⟨B6, 0, none⟩)) (cs := (gp3aCs B6 c p l v)) gp3a_ok hR ho (j := 5) (t := 22) (by rw [F.hz]; kernel_rfl) rfl
  exact opw_load_int e1 x0 (row_cell (row_below F.b6 hI.1 F.l6) rfl) (hK _ _ ⟨_, rfl, rfl⟩ hI (Below.refl _ _))
theorem gp3a_7 (F : Gp3 a0 w0 base B6 c p l v false N E) : PO (regionOps Tryd.f15 3) 9 a0 base w0 (gp3aCs B6 c p l v) 7 := by
  intro o ho u W hI hR
  obtain ⟨e1, e2, e3⟩ := ob_op ho (show ((regionOps Tryd.f15 3)[7]?).map (fun o => (o.op, o.dst, o.guard)) = some (.binOp .neq 3 (.tmp 23) (.const (.int .i64 0)) 3, some 24, some (4, false)) by kernel_rfl)
  have xg := ev_val (v := .bool false) (cs := (gp3aCs B6 c p l v)) gp3a_ok hR ho (j := 4) (t := 21) (by rw [F.hz]; kernel_rfl) rfl
  rw [if_pos (wanted_yes e3 (t := 21) (by kernel_rfl) xg)]
  intro K hK
  have x0 := ev_val (v := .int .i64 (c)) (cs := (gp3aCs B6 c p l v)) gp3a_ok hR ho (j := 6) (t := 23) (by rw [F.hz]; kernel_rfl) rfl
  have x1 : (putL (planOf (regionOps Tryd.f15 3) (upto 9)) u a0).eval (.const (.int .i64 0)) = .int .i64 (0) := rfl
  exact opw_nei e1 x0 x1 F.hc (hK _ _ ⟨_, rfl, rfl⟩ hI (Below.refl _ _))
theorem gp3a_8 (F : Gp3 a0 w0 base B6 c p l v false N E) : PO (regionOps Tryd.f15 3) 9 a0 base w0 (gp3aCs B6 c p l v) 8 := by
  intro o ho u W hI hR
  obtain ⟨e1, e2, e3⟩ := ob_op ho (show ((regionOps Tryd.f15 3)[8]?).map (fun o => (o.op, o.dst, o.guard)) = some (.pick (.tmp 21) (.const (.bool true)) (.tmp 24), some 25, none) by kernel_rfl)
  rw [if_pos (plan_free e3 _)]
  intro K hK
  have x0 := ev_val (v := .bool false) (cs := (gp3aCs B6 c p l v)) gp3a_ok hR ho (j := 4) (t := 21) (by rw [F.hz]; kernel_rfl) rfl
  have x2 := ev_val (v := .bool false) (cs := (gp3aCs B6 c p l v)) gp3a_ok hR ho (j := 7) (t := 24) (by rw [F.hz]; kernel_rfl) rfl
  exact opw_pickF e1 x0 x2 (hK _ _ ⟨_, rfl, rfl⟩ hI (Below.refl _ _))
theorem gp3a_all (F : Gp3 a0 w0 base B6 c p l v false N E) : ∀ i, i < 9 → PO (regionOps Tryd.f15 3) 9 a0 base w0 (gp3aCs B6 c p l v) i
  | 0, _ => gp3a_0 F
  | 1, _ => gp3a_1 F
  | 2, _ => gp3a_2 F
  | 3, _ => gp3a_3 F
  | 4, _ => gp3a_4 F
  | 5, _ => gp3a_5 F
  | 6, _ => gp3a_6 F
  | 7, _ => gp3a_7 F
  | 8, _ => gp3a_8 F
  | i + 9, h => absurd h (by omega)
theorem gp3a_plan : planOf (regionOps Tryd.f15 3) (upto 9) = [(some 17, 0), (some 18, 1), (some 19, 2), (some 20, 3), (some 21, 4), (some 22, 5), (some 23, 6), (some 24, 7), (some 25, 8)] := by kernel_rfl
theorem gp3a_wp {id : Nat} {Q : Exit → Act → World → Prop} (F : Gp3 a0 w0 base B6 c p l v false N E) (hb : base ≤ w0.heap.size)
    (hq : ∀ (u : Nat → Value) (W : World), u 8 = .bool false → Below base w0 W → base ≤ W.heap.size → Q .normal (putL (planOf (regionOps Tryd.f15 3) (upto 9)) u a0) W) :
    (Code.region id (regionOps Tryd.f15 3) true).wp Tryd.prog Q a0 w0 := by
  refine wp_plan_cl 9 0 (gp3aCs B6 c p l v) gp3a_ok (by kernel_rfl) hb (gp3a_all F) fun u W hI1 hI2 hR => ?_
  refine ⟨by kernel_rfl, hq u W ?_ hI1 hI2⟩
  obtain ⟨c, hc, h⟩ := hR 8 (of_decide_eq_true (by kernel_rfl)) (by decide)
  cases hc
  exact h
def gp3bCs (B6 : Nat) (c p l : Int) (v : Value) : List Claim := [.val (v), .val (fv c p l), .val (fv c p l), .val (.bool false), .val (.bool false), .val (.pointer (some ⟨B6, 0, none⟩)), .val (.int .i64 (c)), .val (.bool true), .val (.bool true)]
theorem gp3b_ok : planOk .any (regionOps Tryd.f15 3) (upto 9) = true := by kernel_rfl
theorem gp3b_0 (F : Gp3 a0 w0 base B6 c p l v true N E) : PO (regionOps Tryd.f15 3) 9 a0 base w0 (gp3bCs B6 c p l v) 0 := by
  intro o ho u W hI hR
  obtain ⟨e1, e2, e3⟩ := ob_op ho (show ((regionOps Tryd.f15 3)[0]?).map (fun o => (o.op, o.dst, o.guard)) = some (.move (.tmp 4), some 17, none) by kernel_rfl)
  rw [if_pos (plan_free e3 _)]
  intro K hK
  have x0 := ev_base (u := u) gp3b_ok (by kernel_rfl) F.h4
  exact opw_move e1 x0 (hK _ _ ⟨_, rfl, rfl⟩ hI (Below.refl _ _))
theorem gp3b_1 (F : Gp3 a0 w0 base B6 c p l v true N E) : PO (regionOps Tryd.f15 3) 9 a0 base w0 (gp3bCs B6 c p l v) 1 := by
  intro o ho u W hI hR
  obtain ⟨e1, e2, e3⟩ := ob_op ho (show ((regionOps Tryd.f15 3)[1]?).map (fun o => (o.op, o.dst, o.guard)) = some (.call { callee := .value (.func 44), args := #[(.tmp 17)], argTypes := #[46] }, some 18, none) by kernel_rfl)
  rw [if_pos (plan_free e3 _)]
  intro K hK
  have x0 := ev_val (v := v) (cs := (gp3bCs B6 c p l v)) gp3b_ok hR ho (j := 0) (t := 17) (by rw [F.hz]; kernel_rfl) rfl
  refine opw_call e1 (vs := #[v]) (by simp only [List.map_toArray, List.map_cons, List.map_nil, x0]) Tryd.func44 (by kernel_rfl) (by kernel_rfl) (F.hT W hI.1 hI.2) ?_
  rintro e W' ⟨rfl, b⟩
  exact ⟨_, rfl, hK _ _ ⟨_, rfl, rfl⟩ (hI.step b) b⟩
theorem gp3b_2 (F : Gp3 a0 w0 base B6 c p l v true N E) : PO (regionOps Tryd.f15 3) 9 a0 base w0 (gp3bCs B6 c p l v) 2 := by
  intro o ho u W hI hR
  obtain ⟨e1, e2, e3⟩ := ob_op ho (show ((regionOps Tryd.f15 3)[2]?).map (fun o => (o.op, o.dst, o.guard)) = some (.load 62 (.tmp 6), some 19, none) by kernel_rfl)
  rw [if_pos (plan_free e3 _)]
  intro K hK
  have x0 := ev_base (u := u) gp3b_ok (by kernel_rfl) F.h6
  exact opw_load_flt e1 x0 (row_below F.b6 hI.1 F.l6) (hK _ _ ⟨_, rfl, rfl⟩ hI (Below.refl _ _))
theorem gp3b_3 (F : Gp3 a0 w0 base B6 c p l v true N E) : PO (regionOps Tryd.f15 3) 9 a0 base w0 (gp3bCs B6 c p l v) 3 := by
  intro o ho u W hI hR
  obtain ⟨e1, e2, e3⟩ := ob_op ho (show ((regionOps Tryd.f15 3)[3]?).map (fun o => (o.op, o.dst, o.guard)) = some (.binOp .neq 62 (.tmp 18) (.tmp 19) 62, some 20, none) by kernel_rfl)
  rw [if_pos (plan_free e3 _)]
  intro K hK
  have x0 := ev_val (v := fv c p l) (cs := (gp3bCs B6 c p l v)) gp3b_ok hR ho (j := 1) (t := 18) (by rw [F.hz]; kernel_rfl) rfl
  have x1 := ev_val (v := fv c p l) (cs := (gp3bCs B6 c p l v)) gp3b_ok hR ho (j := 2) (t := 19) (by rw [F.hz]; kernel_rfl) rfl
  exact opw_bin e1 x0 x1 (fltGuard _ _ _ c p l W) (neq_flt c p l W) (hK _ _ ⟨_, rfl, rfl⟩ hI (Below.refl _ _))
theorem gp3b_4 (F : Gp3 a0 w0 base B6 c p l v true N E) : PO (regionOps Tryd.f15 3) 9 a0 base w0 (gp3bCs B6 c p l v) 4 := by
  intro o ho u W hI hR
  obtain ⟨e1, e2, e3⟩ := ob_op ho (show ((regionOps Tryd.f15 3)[4]?).map (fun o => (o.op, o.dst, o.guard)) = some (.move (.tmp 20), some 21, none) by kernel_rfl)
  rw [if_pos (plan_free e3 _)]
  intro K hK
  have x0 := ev_val (v := .bool false) (cs := (gp3bCs B6 c p l v)) gp3b_ok hR ho (j := 3) (t := 20) (by rw [F.hz]; kernel_rfl) rfl
  exact opw_move e1 x0 (hK _ _ ⟨_, rfl, rfl⟩ hI (Below.refl _ _))
theorem gp3b_5 (F : Gp3 a0 w0 base B6 c p l v true N E) : PO (regionOps Tryd.f15 3) 9 a0 base w0 (gp3bCs B6 c p l v) 5 := by
  intro o ho u W hI hR
  obtain ⟨e1, e2, e3⟩ := ob_op ho (show ((regionOps Tryd.f15 3)[5]?).map (fun o => (o.op, o.dst, o.guard)) = some (.fieldAddr 62 (.tmp 6) 0, some 22, some (4, false)) by kernel_rfl)
  have xg := ev_val (v := .bool false) (cs := (gp3bCs B6 c p l v)) gp3b_ok hR ho (j := 4) (t := 21) (by rw [F.hz]; kernel_rfl) rfl
  rw [if_pos (wanted_yes e3 (t := 21) (by kernel_rfl) xg)]
  intro K hK
  have x0 := ev_base (u := u) gp3b_ok (by kernel_rfl) F.h6
  exact opw_fieldAddr0 e1 x0 (hK _ _ ⟨_, rfl, rfl⟩ hI (Below.refl _ _))
theorem gp3b_6 (F : Gp3 a0 w0 base B6 c p l v true N E) : PO (regionOps Tryd.f15 3) 9 a0 base w0 (gp3bCs B6 c p l v) 6 := by
  intro o ho u W hI hR
  obtain ⟨e1, e2, e3⟩ := ob_op ho (show ((regionOps Tryd.f15 3)[6]?).map (fun o => (o.op, o.dst, o.guard)) = some (.load 3 (.tmp 22), some 23, some (4, false)) by kernel_rfl)
  have xg := ev_val (v := .bool false) (cs := (gp3bCs B6 c p l v)) gp3b_ok hR ho (j := 4) (t := 21) (by rw [F.hz]; kernel_rfl) rfl
  rw [if_pos (wanted_yes e3 (t := 21) (by kernel_rfl) xg)]
  intro K hK
  have x0 := ev_val (v := .pointer (some ⟨B6, 0, none⟩)) (cs := (gp3bCs B6 c p l v)) gp3b_ok hR ho (j := 5) (t := 22) (by rw [F.hz]; kernel_rfl) rfl
  exact opw_load_int e1 x0 (row_cell (row_below F.b6 hI.1 F.l6) rfl) (hK _ _ ⟨_, rfl, rfl⟩ hI (Below.refl _ _))
theorem gp3b_7 (F : Gp3 a0 w0 base B6 c p l v true N E) : PO (regionOps Tryd.f15 3) 9 a0 base w0 (gp3bCs B6 c p l v) 7 := by
  intro o ho u W hI hR
  obtain ⟨e1, e2, e3⟩ := ob_op ho (show ((regionOps Tryd.f15 3)[7]?).map (fun o => (o.op, o.dst, o.guard)) = some (.binOp .neq 3 (.tmp 23) (.const (.int .i64 0)) 3, some 24, some (4, false)) by kernel_rfl)
  have xg := ev_val (v := .bool false) (cs := (gp3bCs B6 c p l v)) gp3b_ok hR ho (j := 4) (t := 21) (by rw [F.hz]; kernel_rfl) rfl
  rw [if_pos (wanted_yes e3 (t := 21) (by kernel_rfl) xg)]
  intro K hK
  have x0 := ev_val (v := .int .i64 (c)) (cs := (gp3bCs B6 c p l v)) gp3b_ok hR ho (j := 6) (t := 23) (by rw [F.hz]; kernel_rfl) rfl
  have x1 : (putL (planOf (regionOps Tryd.f15 3) (upto 9)) u a0).eval (.const (.int .i64 0)) = .int .i64 (0) := rfl
  exact opw_nei e1 x0 x1 F.hc (hK _ _ ⟨_, rfl, rfl⟩ hI (Below.refl _ _))
theorem gp3b_8 (F : Gp3 a0 w0 base B6 c p l v true N E) : PO (regionOps Tryd.f15 3) 9 a0 base w0 (gp3bCs B6 c p l v) 8 := by
  intro o ho u W hI hR
  obtain ⟨e1, e2, e3⟩ := ob_op ho (show ((regionOps Tryd.f15 3)[8]?).map (fun o => (o.op, o.dst, o.guard)) = some (.pick (.tmp 21) (.const (.bool true)) (.tmp 24), some 25, none) by kernel_rfl)
  rw [if_pos (plan_free e3 _)]
  intro K hK
  have x0 := ev_val (v := .bool false) (cs := (gp3bCs B6 c p l v)) gp3b_ok hR ho (j := 4) (t := 21) (by rw [F.hz]; kernel_rfl) rfl
  have x2 := ev_val (v := .bool true) (cs := (gp3bCs B6 c p l v)) gp3b_ok hR ho (j := 7) (t := 24) (by rw [F.hz]; kernel_rfl) rfl
  exact opw_pickF e1 x0 x2 (hK _ _ ⟨_, rfl, rfl⟩ hI (Below.refl _ _))
theorem gp3b_all (F : Gp3 a0 w0 base B6 c p l v true N E) : ∀ i, i < 9 → PO (regionOps Tryd.f15 3) 9 a0 base w0 (gp3bCs B6 c p l v) i
  | 0, _ => gp3b_0 F
  | 1, _ => gp3b_1 F
  | 2, _ => gp3b_2 F
  | 3, _ => gp3b_3 F
  | 4, _ => gp3b_4 F
  | 5, _ => gp3b_5 F
  | 6, _ => gp3b_6 F
  | 7, _ => gp3b_7 F
  | 8, _ => gp3b_8 F
  | i + 9, h => absurd h (by omega)
theorem gp3b_plan : planOf (regionOps Tryd.f15 3) (upto 9) = [(some 17, 0), (some 18, 1), (some 19, 2), (some 20, 3), (some 21, 4), (some 22, 5), (some 23, 6), (some 24, 7), (some 25, 8)] := by kernel_rfl
theorem gp3b_wp {id : Nat} {Q : Exit → Act → World → Prop} (F : Gp3 a0 w0 base B6 c p l v true N E) (hb : base ≤ w0.heap.size)
    (hq : ∀ (u : Nat → Value) (W : World), u 8 = .bool true → Below base w0 W → base ≤ W.heap.size → Q .normal (putL (planOf (regionOps Tryd.f15 3) (upto 9)) u a0) W) :
    (Code.region id (regionOps Tryd.f15 3) true).wp Tryd.prog Q a0 w0 := by
  refine wp_plan_cl 9 0 (gp3bCs B6 c p l v) gp3b_ok (by kernel_rfl) hb (gp3b_all F) fun u W hI1 hI2 hR => ?_
  refine ⟨by kernel_rfl, hq u W ?_ hI1 hI2⟩
  obtain ⟨c, hc, h⟩ := hR 8 (of_decide_eq_true (by kernel_rfl)) (by decide)
  cases hc
  exact h
def gp4Cs (c p l : Int) (v : Value) : List Claim := [.val (v), .val (fv c p l), .val (fv c p l), .val (.bool true), .val (.bool true), .val (.pointer none), .val (.bool true), .val (.bool true), .val (.bool true), .val (.bool true), .val (.bool true), .val (.bool true)]
theorem gp4_ok : planOk .any (regionOps Tryd.f15 4) (upto 12) = true := by kernel_rfl
theorem gp4_0 (F : Gp4 a0 w0 base B6 c p l v N E) : PO (regionOps Tryd.f15 4) 12 a0 base w0 (gp4Cs c p l v) 0 := by
  intro o ho u W hI hR
  obtain ⟨e1, e2, e3⟩ := ob_op ho (show ((regionOps Tryd.f15 4)[0]?).map (fun o => (o.op, o.dst, o.guard)) = some (.move (.tmp 4), some 26, none) by kernel_rfl)
  rw [if_pos (plan_free e3 _)]
  intro K hK
  have x0 := ev_base (u := u) gp4_ok (by kernel_rfl) F.h4
  exact opw_move e1 x0 (hK _ _ ⟨_, rfl, rfl⟩ hI (Below.refl _ _))
theorem gp4_1 (F : Gp4 a0 w0 base B6 c p l v N E) : PO (regionOps Tryd.f15 4) 12 a0 base w0 (gp4Cs c p l v) 1 := by
  intro o ho u W hI hR
  obtain ⟨e1, e2, e3⟩ := ob_op ho (show ((regionOps Tryd.f15 4)[1]?).map (fun o => (o.op, o.dst, o.guard)) = some (.call { callee := .value (.func 44), args := #[(.tmp 26)], argTypes := #[46] }, some 27, none) by kernel_rfl)
  rw [if_pos (plan_free e3 _)]
  intro K hK
  have x0 := ev_val (v := v) (cs := (gp4Cs c p l v)) gp4_ok hR ho (j := 0) (t := 26) (by rw [F.hz]; kernel_rfl) rfl
  refine opw_call e1 (vs := #[v]) (by simp only [List.map_toArray, List.map_cons, List.map_nil, x0]) Tryd.func44 (by kernel_rfl) (by kernel_rfl) (F.hT W hI.1 hI.2) ?_
  rintro e W' ⟨rfl, b⟩
  exact ⟨_, rfl, hK _ _ ⟨_, rfl, rfl⟩ (hI.step b) b⟩
theorem gp4_2 (F : Gp4 a0 w0 base B6 c p l v N E) : PO (regionOps Tryd.f15 4) 12 a0 base w0 (gp4Cs c p l v) 2 := by
  intro o ho u W hI hR
  obtain ⟨e1, e2, e3⟩ := ob_op ho (show ((regionOps Tryd.f15 4)[2]?).map (fun o => (o.op, o.dst, o.guard)) = some (.load 62 (.tmp 6), some 28, none) by kernel_rfl)
  rw [if_pos (plan_free e3 _)]
  intro K hK
  have x0 := ev_base (u := u) gp4_ok (by kernel_rfl) F.h6
  exact opw_load_flt e1 x0 (row_below F.b6 hI.1 F.l6) (hK _ _ ⟨_, rfl, rfl⟩ hI (Below.refl _ _))
theorem gp4_3 (F : Gp4 a0 w0 base B6 c p l v N E) : PO (regionOps Tryd.f15 4) 12 a0 base w0 (gp4Cs c p l v) 3 := by
  intro o ho u W hI hR
  obtain ⟨e1, e2, e3⟩ := ob_op ho (show ((regionOps Tryd.f15 4)[3]?).map (fun o => (o.op, o.dst, o.guard)) = some (.binOp .eql 62 (.tmp 27) (.tmp 28) 62, some 29, none) by kernel_rfl)
  rw [if_pos (plan_free e3 _)]
  intro K hK
  have x0 := ev_val (v := fv c p l) (cs := (gp4Cs c p l v)) gp4_ok hR ho (j := 1) (t := 27) (by rw [F.hz]; kernel_rfl) rfl
  have x1 := ev_val (v := fv c p l) (cs := (gp4Cs c p l v)) gp4_ok hR ho (j := 2) (t := 28) (by rw [F.hz]; kernel_rfl) rfl
  exact opw_bin e1 x0 x1 (fltGuard _ _ _ c p l W) (eql_flt c p l W) (hK _ _ ⟨_, rfl, rfl⟩ hI (Below.refl _ _))
theorem gp4_4 (F : Gp4 a0 w0 base B6 c p l v N E) : PO (regionOps Tryd.f15 4) 12 a0 base w0 (gp4Cs c p l v) 4 := by
  intro o ho u W hI hR
  obtain ⟨e1, e2, e3⟩ := ob_op ho (show ((regionOps Tryd.f15 4)[4]?).map (fun o => (o.op, o.dst, o.guard)) = some (.move (.tmp 29), some 30, none) by kernel_rfl)
  rw [if_pos (plan_free e3 _)]
  intro K hK
  have x0 := ev_val (v := .bool true) (cs := (gp4Cs c p l v)) gp4_ok hR ho (j := 3) (t := 29) (by rw [F.hz]; kernel_rfl) rfl
  exact opw_move e1 x0 (hK _ _ ⟨_, rfl, rfl⟩ hI (Below.refl _ _))
theorem gp4_5 (F : Gp4 a0 w0 base B6 c p l v N E) : PO (regionOps Tryd.f15 4) 12 a0 base w0 (gp4Cs c p l v) 5 := by
  intro o ho u W hI hR
  obtain ⟨e1, e2, e3⟩ := ob_op ho (show ((regionOps Tryd.f15 4)[5]?).map (fun o => (o.op, o.dst, o.guard)) = some (.move (.tmp 3), some 31, some (4, true)) by kernel_rfl)
  have xg := ev_val (v := .bool true) (cs := (gp4Cs c p l v)) gp4_ok hR ho (j := 4) (t := 30) (by rw [F.hz]; kernel_rfl) rfl
  rw [if_pos (wanted_yes e3 (t := 30) (by kernel_rfl) xg)]
  intro K hK
  have x0 := ev_base (u := u) gp4_ok (by kernel_rfl) F.h3
  exact opw_move e1 x0 (hK _ _ ⟨_, rfl, rfl⟩ hI (Below.refl _ _))
theorem gp4_6 (F : Gp4 a0 w0 base B6 c p l v N E) : PO (regionOps Tryd.f15 4) 12 a0 base w0 (gp4Cs c p l v) 6 := by
  intro o ho u W hI hR
  obtain ⟨e1, e2, e3⟩ := ob_op ho (show ((regionOps Tryd.f15 4)[6]?).map (fun o => (o.op, o.dst, o.guard)) = some (.binOp .eql 51 (.tmp 31) (.const (.pointer none)) 51, some 32, some (4, true)) by kernel_rfl)
  have xg := ev_val (v := .bool true) (cs := (gp4Cs c p l v)) gp4_ok hR ho (j := 4) (t := 30) (by rw [F.hz]; kernel_rfl) rfl
  rw [if_pos (wanted_yes e3 (t := 30) (by kernel_rfl) xg)]
  intro K hK
  have x0 := ev_val (v := .pointer none) (cs := (gp4Cs c p l v)) gp4_ok hR ho (j := 5) (t := 31) (by rw [F.hz]; kernel_rfl) rfl
  have x1 : (putL (planOf (regionOps Tryd.f15 4) (upto 12)) u a0).eval (.const (.pointer none)) = .pointer none := rfl
  exact opw_bin e1 x0 x1 (nilpGuard _ _ W) (run_nilp W) (hK _ _ ⟨_, rfl, rfl⟩ hI (Below.refl _ _))
theorem gp4_7 (F : Gp4 a0 w0 base B6 c p l v N E) : PO (regionOps Tryd.f15 4) 12 a0 base w0 (gp4Cs c p l v) 7 := by
  intro o ho u W hI hR
  obtain ⟨e1, e2, e3⟩ := ob_op ho (show ((regionOps Tryd.f15 4)[7]?).map (fun o => (o.op, o.dst, o.guard)) = some (.pick (.tmp 30) (.tmp 32) (.const (.bool false)), some 33, none) by kernel_rfl)
  rw [if_pos (plan_free e3 _)]
  intro K hK
  have x0 := ev_val (v := .bool true) (cs := (gp4Cs c p l v)) gp4_ok hR ho (j := 4) (t := 30) (by rw [F.hz]; kernel_rfl) rfl
  have x1 := ev_val (v := .bool true) (cs := (gp4Cs c p l v)) gp4_ok hR ho (j := 6) (t := 32) (by rw [F.hz]; kernel_rfl) rfl
  exact opw_pickT e1 x0 x1 (hK _ _ ⟨_, rfl, rfl⟩ hI (Below.refl _ _))
theorem gp4_8 (F : Gp4 a0 w0 base B6 c p l v N E) : PO (regionOps Tryd.f15 4) 12 a0 base w0 (gp4Cs c p l v) 8 := by
  intro o ho u W hI hR
  obtain ⟨e1, e2, e3⟩ := ob_op ho (show ((regionOps Tryd.f15 4)[8]?).map (fun o => (o.op, o.dst, o.guard)) = some (.move (.tmp 33), some 34, none) by kernel_rfl)
  rw [if_pos (plan_free e3 _)]
  intro K hK
  have x0 := ev_val (v := .bool true) (cs := (gp4Cs c p l v)) gp4_ok hR ho (j := 7) (t := 33) (by rw [F.hz]; kernel_rfl) rfl
  exact opw_move e1 x0 (hK _ _ ⟨_, rfl, rfl⟩ hI (Below.refl _ _))
theorem gp4_9 (F : Gp4 a0 w0 base B6 c p l v N E) : PO (regionOps Tryd.f15 4) 12 a0 base w0 (gp4Cs c p l v) 9 := by
  intro o ho u W hI hR
  obtain ⟨e1, e2, e3⟩ := ob_op ho (show ((regionOps Tryd.f15 4)[9]?).map (fun o => (o.op, o.dst, o.guard)) = some (.call { callee := .value (.func 38), args := #[], argTypes := #[] }, some 35, some (8, true)) by kernel_rfl)
  have xg := ev_val (v := .bool true) (cs := (gp4Cs c p l v)) gp4_ok hR ho (j := 8) (t := 34) (by rw [F.hz]; kernel_rfl) rfl
  rw [if_pos (wanted_yes e3 (t := 34) (by kernel_rfl) xg)]
  intro K hK
  refine opw_call e1 (vs := #[]) (by simp only [List.map_toArray, List.map_nil]) Tryd.func38 (by kernel_rfl) (by kernel_rfl) (awake6_any (N := N) (E := E) W (F.hE.below hI.1 F.hN) (Nat.le_trans F.hN hI.2)) ?_
  rintro e W' ⟨rfl, b⟩
  exact ⟨_, rfl, hK _ _ ⟨_, rfl, rfl⟩ (hI.step b) b⟩
theorem gp4_10 (F : Gp4 a0 w0 base B6 c p l v N E) : PO (regionOps Tryd.f15 4) 12 a0 base w0 (gp4Cs c p l v) 10 := by
  intro o ho u W hI hR
  obtain ⟨e1, e2, e3⟩ := ob_op ho (show ((regionOps Tryd.f15 4)[10]?).map (fun o => (o.op, o.dst, o.guard)) = some (.pick (.tmp 34) (.tmp 35) (.const (.bool false)), some 36, none) by kernel_rfl)
  rw [if_pos (plan_free e3 _)]
  intro K hK
  have x0 := ev_val (v := .bool true) (cs := (gp4Cs c p l v)) gp4_ok hR ho (j := 8) (t := 34) (by rw [F.hz]; kernel_rfl) rfl
  have x1 := ev_val (v := .bool true) (cs := (gp4Cs c p l v)) gp4_ok hR ho (j := 9) (t := 35) (by rw [F.hz]; kernel_rfl) rfl
  exact opw_pickT e1 x0 x1 (hK _ _ ⟨_, rfl, rfl⟩ hI (Below.refl _ _))
theorem gp4_11 (F : Gp4 a0 w0 base B6 c p l v N E) : PO (regionOps Tryd.f15 4) 12 a0 base w0 (gp4Cs c p l v) 11 := by
  intro o ho u W hI hR
  obtain ⟨e1, e2, e3⟩ := ob_op ho (show ((regionOps Tryd.f15 4)[11]?).map (fun o => (o.op, o.dst, o.guard)) = some (.assign (.tmp 36), some 2, none) by kernel_rfl)
  rw [if_pos (plan_free e3 _)]
  intro K hK
  have x0 := ev_val (v := .bool true) (cs := (gp4Cs c p l v)) gp4_ok hR ho (j := 10) (t := 36) (by rw [F.hz]; kernel_rfl) rfl
  exact opw_assign e1 x0 (hK _ _ ⟨_, rfl, rfl⟩ hI (Below.refl _ _))
theorem gp4_all (F : Gp4 a0 w0 base B6 c p l v N E) : ∀ i, i < 12 → PO (regionOps Tryd.f15 4) 12 a0 base w0 (gp4Cs c p l v) i
  | 0, _ => gp4_0 F
  | 1, _ => gp4_1 F
  | 2, _ => gp4_2 F
  | 3, _ => gp4_3 F
  | 4, _ => gp4_4 F
  | 5, _ => gp4_5 F
  | 6, _ => gp4_6 F
  | 7, _ => gp4_7 F
  | 8, _ => gp4_8 F
  | 9, _ => gp4_9 F
  | 10, _ => gp4_10 F
  | 11, _ => gp4_11 F
  | i + 12, h => absurd h (by omega)
theorem gp4_plan : planOf (regionOps Tryd.f15 4) (upto 12) = [(some 26, 0), (some 27, 1), (some 28, 2), (some 29, 3), (some 30, 4), (some 31, 5), (some 32, 6), (some 33, 7), (some 34, 8), (some 35, 9), (some 36, 10), (some 2, 11)] := by kernel_rfl
theorem gp4_wp {id : Nat} {Q : Exit → Act → World → Prop} (F : Gp4 a0 w0 base B6 c p l v N E) (hb : base ≤ w0.heap.size)
    (hq : ∀ (u : Nat → Value) (W : World), u 11 = .bool true → Below base w0 W → base ≤ W.heap.size → Q .normal (putL (planOf (regionOps Tryd.f15 4) (upto 12)) u a0) W) :
    (Code.region id (regionOps Tryd.f15 4) true).wp Tryd.prog Q a0 w0 := by
  refine wp_plan_cl 12 0 (gp4Cs c p l v) gp4_ok (by kernel_rfl) hb (gp4_all F) fun u W hI1 hI2 hR => ?_
  refine ⟨by kernel_rfl, hq u W ?_ hI1 hI2⟩
  obtain ⟨c, hc, h⟩ := hR 11 (of_decide_eq_true (by kernel_rfl)) (by decide)
  cases hc
  exact h
def gq3Cs (c p l : Int) (v : Value) (s : ByteArray) : List Claim := [.val (v), .val (fv c p l), .val (fv c p l), .val (.bool false), .val (.bool false), .val (.string (s)), .val (.string (⟨(qt s.data.toList).toArray⟩)), .val (.string (s)), .val (.string (⟨(qt s.data.toList).toArray⟩)), .val (.bool false), .val (.bool false)]
theorem gq3_ok : planOk .any (regionOps Tryd.f16 3) (upto 11) = true := by kernel_rfl
theorem gq3_0 (F : Gq3 a0 w0 base B6 c p l v s N E) : PO (regionOps Tryd.f16 3) 11 a0 base w0 (gq3Cs c p l v s) 0 := by
  intro o ho u W hI hR
  obtain ⟨e1, e2, e3⟩ := ob_op ho (show ((regionOps Tryd.f16 3)[0]?).map (fun o => (o.op, o.dst, o.guard)) = some (.move (.tmp 6), some 23, none) by kernel_rfl)
  rw [if_pos (plan_free e3 _)]
  intro K hK
  have x0 := ev_base (u := u) gq3_ok (by kernel_rfl) F.h4
  exact opw_move e1 x0 (hK _ _ ⟨_, rfl, rfl⟩ hI (Below.refl _ _))
theorem gq3_1 (F : Gq3 a0 w0 base B6 c p l v s N E) : PO (regionOps Tryd.f16 3) 11 a0 base w0 (gq3Cs c p l v s) 1 := by
  intro o ho u W hI hR
  obtain ⟨e1, e2, e3⟩ := ob_op ho (show ((regionOps Tryd.f16 3)[1]?).map (fun o => (o.op, o.dst, o.guard)) = some (.call { callee := .value (.func 44), args := #[(.tmp 23)], argTypes := #[46] }, some 24, none) by kernel_rfl)
  rw [if_pos (plan_free e3 _)]
  intro K hK
  have x0 := ev_val (v := v) (cs := (gq3Cs c p l v s)) gq3_ok hR ho (j := 0) (t := 23) (by rw [F.hz]; kernel_rfl) rfl
  refine opw_call e1 (vs := #[v]) (by simp only [List.map_toArray, List.map_cons, List.map_nil, x0]) Tryd.func44 (by kernel_rfl) (by kernel_rfl) (F.hT W hI.1 hI.2) ?_
  rintro e W' ⟨rfl, b⟩
  exact ⟨_, rfl, hK _ _ ⟨_, rfl, rfl⟩ (hI.step b) b⟩
theorem gq3_2 (F : Gq3 a0 w0 base B6 c p l v s N E) : PO (regionOps Tryd.f16 3) 11 a0 base w0 (gq3Cs c p l v s) 2 := by
  intro o ho u W hI hR
  obtain ⟨e1, e2, e3⟩ := ob_op ho (show ((regionOps Tryd.f16 3)[2]?).map (fun o => (o.op, o.dst, o.guard)) = some (.load 62 (.tmp 8), some 25, none) by kernel_rfl)
  rw [if_pos (plan_free e3 _)]
  intro K hK
  have x0 := ev_base (u := u) gq3_ok (by kernel_rfl) F.h6
  exact opw_load_flt e1 x0 (row_below F.b6 hI.1 F.l6) (hK _ _ ⟨_, rfl, rfl⟩ hI (Below.refl _ _))
theorem gq3_3 (F : Gq3 a0 w0 base B6 c p l v s N E) : PO (regionOps Tryd.f16 3) 11 a0 base w0 (gq3Cs c p l v s) 3 := by
  intro o ho u W hI hR
  obtain ⟨e1, e2, e3⟩ := ob_op ho (show ((regionOps Tryd.f16 3)[3]?).map (fun o => (o.op, o.dst, o.guard)) = some (.binOp .neq 62 (.tmp 24) (.tmp 25) 62, some 26, none) by kernel_rfl)
  rw [if_pos (plan_free e3 _)]
  intro K hK
  have x0 := ev_val (v := fv c p l) (cs := (gq3Cs c p l v s)) gq3_ok hR ho (j := 1) (t := 24) (by rw [F.hz]; kernel_rfl) rfl
  have x1 := ev_val (v := fv c p l) (cs := (gq3Cs c p l v s)) gq3_ok hR ho (j := 2) (t := 25) (by rw [F.hz]; kernel_rfl) rfl
  exact opw_bin e1 x0 x1 (fltGuard _ _ _ c p l W) (neq_flt c p l W) (hK _ _ ⟨_, rfl, rfl⟩ hI (Below.refl _ _))
theorem gq3_4 (F : Gq3 a0 w0 base B6 c p l v s N E) : PO (regionOps Tryd.f16 3) 11 a0 base w0 (gq3Cs c p l v s) 4 := by
  intro o ho u W hI hR
  obtain ⟨e1, e2, e3⟩ := ob_op ho (show ((regionOps Tryd.f16 3)[4]?).map (fun o => (o.op, o.dst, o.guard)) = some (.move (.tmp 26), some 27, none) by kernel_rfl)
  rw [if_pos (plan_free e3 _)]
  intro K hK
  have x0 := ev_val (v := .bool false) (cs := (gq3Cs c p l v s)) gq3_ok hR ho (j := 3) (t := 26) (by rw [F.hz]; kernel_rfl) rfl
  exact opw_move e1 x0 (hK _ _ ⟨_, rfl, rfl⟩ hI (Below.refl _ _))
theorem gq3_5 (F : Gq3 a0 w0 base B6 c p l v s N E) : PO (regionOps Tryd.f16 3) 11 a0 base w0 (gq3Cs c p l v s) 5 := by
  intro o ho u W hI hR
  obtain ⟨e1, e2, e3⟩ := ob_op ho (show ((regionOps Tryd.f16 3)[5]?).map (fun o => (o.op, o.dst, o.guard)) = some (.move (.tmp 1), some 28, some (4, false)) by kernel_rfl)
  have xg := ev_val (v := .bool false) (cs := (gq3Cs c p l v s)) gq3_ok hR ho (j := 4) (t := 27) (by rw [F.hz]; kernel_rfl) rfl
  rw [if_pos (wanted_yes e3 (t := 27) (by kernel_rfl) xg)]
  intro K hK
  have x0 := ev_base (u := u) gq3_ok (by kernel_rfl) F.h1
  exact opw_move e1 x0 (hK _ _ ⟨_, rfl, rfl⟩ hI (Below.refl _ _))
theorem gq3_6 (F : Gq3 a0 w0 base B6 c p l v s N E) : PO (regionOps Tryd.f16 3) 11 a0 base w0 (gq3Cs c p l v s) 6 := by
  intro o ho u W hI hR
  obtain ⟨e1, e2, e3⟩ := ob_op ho (show ((regionOps Tryd.f16 3)[6]?).map (fun o => (o.op, o.dst, o.guard)) = some (.call { callee := .value (.func 46), args := #[(.tmp 28)], argTypes := #[9] }, some 29, some (4, false)) by kernel_rfl)
  have xg := ev_val (v := .bool false) (cs := (gq3Cs c p l v s)) gq3_ok hR ho (j := 4) (t := 27) (by rw [F.hz]; kernel_rfl) rfl
  rw [if_pos (wanted_yes e3 (t := 27) (by kernel_rfl) xg)]
  intro K hK
  have x0 := ev_val (v := .string (s)) (cs := (gq3Cs c p l v s)) gq3_ok hR ho (j := 5) (t := 28) (by rw [F.hz]; kernel_rfl) rfl
  refine opw_call e1 (vs := #[.string s]) (by simp only [List.map_toArray, List.map_cons, List.map_nil, x0]) Tryd.func46 (by kernel_rfl) (by kernel_rfl) (quote_any s F.hs W) ?_
  rintro e W' ⟨rfl, b⟩
  exact ⟨_, rfl, hK _ _ ⟨_, rfl, rfl⟩ (hI.step b) b⟩
theorem gq3_7 (F : Gq3 a0 w0 base B6 c p l v s N E) : PO (regionOps Tryd.f16 3) 11 a0 base w0 (gq3Cs c p l v s) 7 := by
  intro o ho u W hI hR
  obtain ⟨e1, e2, e3⟩ := ob_op ho (show ((regionOps Tryd.f16 3)[7]?).map (fun o => (o.op, o.dst, o.guard)) = some (.move (.tmp 1), some 30, some (4, false)) by kernel_rfl)
  have xg := ev_val (v := .bool false) (cs := (gq3Cs c p l v s)) gq3_ok hR ho (j := 4) (t := 27) (by rw [F.hz]; kernel_rfl) rfl
  rw [if_pos (wanted_yes e3 (t := 27) (by kernel_rfl) xg)]
  intro K hK
  have x0 := ev_base (u := u) gq3_ok (by kernel_rfl) F.h1
  exact opw_move e1 x0 (hK _ _ ⟨_, rfl, rfl⟩ hI (Below.refl _ _))
theorem gq3_8 (F : Gq3 a0 w0 base B6 c p l v s N E) : PO (regionOps Tryd.f16 3) 11 a0 base w0 (gq3Cs c p l v s) 8 := by
  intro o ho u W hI hR
  obtain ⟨e1, e2, e3⟩ := ob_op ho (show ((regionOps Tryd.f16 3)[8]?).map (fun o => (o.op, o.dst, o.guard)) = some (.call { callee := .value (.func 49), args := #[(.tmp 30)], argTypes := #[9] }, some 31, some (4, false)) by kernel_rfl)
  have xg := ev_val (v := .bool false) (cs := (gq3Cs c p l v s)) gq3_ok hR ho (j := 4) (t := 27) (by rw [F.hz]; kernel_rfl) rfl
  rw [if_pos (wanted_yes e3 (t := 27) (by kernel_rfl) xg)]
  intro K hK
  have x0 := ev_val (v := .string (s)) (cs := (gq3Cs c p l v s)) gq3_ok hR ho (j := 7) (t := 30) (by rw [F.hz]; kernel_rfl) rfl
  refine opw_call e1 (vs := #[.string s]) (by simp only [List.map_toArray, List.map_cons, List.map_nil, x0]) Tryd.func49 (by kernel_rfl) (by kernel_rfl) (r5quote_any s F.hs W) ?_
  rintro e W' ⟨rfl, b⟩
  exact ⟨_, rfl, hK _ _ ⟨_, rfl, rfl⟩ (hI.step b) b⟩
theorem gq3_9 (F : Gq3 a0 w0 base B6 c p l v s N E) : PO (regionOps Tryd.f16 3) 11 a0 base w0 (gq3Cs c p l v s) 9 := by
  intro o ho u W hI hR
  obtain ⟨e1, e2, e3⟩ := ob_op ho (show ((regionOps Tryd.f16 3)[9]?).map (fun o => (o.op, o.dst, o.guard)) = some (.binOp .neq 9 (.tmp 29) (.tmp 31) 9, some 32, some (4, false)) by kernel_rfl)
  have xg := ev_val (v := .bool false) (cs := (gq3Cs c p l v s)) gq3_ok hR ho (j := 4) (t := 27) (by rw [F.hz]; kernel_rfl) rfl
  rw [if_pos (wanted_yes e3 (t := 27) (by kernel_rfl) xg)]
  intro K hK
  have x0 := ev_val (v := .string (⟨(qt s.data.toList).toArray⟩)) (cs := (gq3Cs c p l v s)) gq3_ok hR ho (j := 6) (t := 29) (by rw [F.hz]; kernel_rfl) rfl
  have x1 := ev_val (v := .string (⟨(qt s.data.toList).toArray⟩)) (cs := (gq3Cs c p l v s)) gq3_ok hR ho (j := 8) (t := 31) (by rw [F.hz]; kernel_rfl) rfl
  exact opw_bin e1 x0 x1 (nestrGuard _ _ _ _ W) (run_nestr _ W) (hK _ _ ⟨_, rfl, rfl⟩ hI (Below.refl _ _))
theorem gq3_10 (F : Gq3 a0 w0 base B6 c p l v s N E) : PO (regionOps Tryd.f16 3) 11 a0 base w0 (gq3Cs c p l v s) 10 := by
  intro o ho u W hI hR
  obtain ⟨e1, e2, e3⟩ := ob_op ho (show ((regionOps Tryd.f16 3)[10]?).map (fun o => (o.op, o.dst, o.guard)) = some (.pick (.tmp 27) (.const (.bool true)) (.tmp 32), some 33, none) by kernel_rfl)
  rw [if_pos (plan_free e3 _)]
  intro K hK
  have x0 := ev_val (v := .bool false) (cs := (gq3Cs c p l v s)) gq3_ok hR ho (j := 4) (t := 27) (by rw [F.hz]; kernel_rfl) rfl
  have x2 := ev_val (v := .bool false) (cs := (gq3Cs c p l v s)) gq3_ok hR ho (j := 9) (t := 32) (by rw [F.hz]; kernel_rfl) rfl
  exact opw_pickF e1 x0 x2 (hK _ _ ⟨_, rfl, rfl⟩ hI (Below.refl _ _))
theorem gq3_all (F : Gq3 a0 w0 base B6 c p l v s N E) : ∀ i, i < 11 → PO (regionOps Tryd.f16 3) 11 a0 base w0 (gq3Cs c p l v s) i
  | 0, _ => gq3_0 F
  | 1, _ => gq3_1 F
  | 2, _ => gq3_2 F
  | 3, _ => gq3_3 F
  | 4, _ => gq3_4 F
  | 5, _ => gq3_5 F
  | 6, _ => gq3_6 F
  | 7, _ => gq3_7 F
  | 8, _ => gq3_8 F
  | 9, _ => gq3_9 F
  | 10, _ => gq3_10 F
  | i + 11, h => absurd h (by omega)
theorem gq3_plan : planOf (regionOps Tryd.f16 3) (upto 11) = [(some 23, 0), (some 24, 1), (some 25, 2), (some 26, 3), (some 27, 4), (some 28, 5), (some 29, 6), (some 30, 7), (some 31, 8), (some 32, 9), (some 33, 10)] := by kernel_rfl
theorem gq3_wp {id : Nat} {Q : Exit → Act → World → Prop} (F : Gq3 a0 w0 base B6 c p l v s N E) (hb : base ≤ w0.heap.size)
    (hq : ∀ (u : Nat → Value) (W : World), u 10 = .bool false → Below base w0 W → base ≤ W.heap.size → Q .normal (putL (planOf (regionOps Tryd.f16 3) (upto 11)) u a0) W) :
    (Code.region id (regionOps Tryd.f16 3) true).wp Tryd.prog Q a0 w0 := by
  refine wp_plan_cl 11 0 (gq3Cs c p l v s) gq3_ok (by kernel_rfl) hb (gq3_all F) fun u W hI1 hI2 hR => ?_
  refine ⟨by kernel_rfl, hq u W ?_ hI1 hI2⟩
  obtain ⟨c, hc, h⟩ := hR 10 (of_decide_eq_true (by kernel_rfl)) (by decide)
  cases hc
  exact h
end Go.Proofs.YteeopjgfiojoiaaDoor
