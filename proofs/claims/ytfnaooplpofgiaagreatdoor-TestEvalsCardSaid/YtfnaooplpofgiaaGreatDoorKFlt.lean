/- Faults as values: their comparing, their loads in a region that draws its order. No conditions but that the fault lies in memory. -/
import Derived.Test.YtfnaooplpofgiaaGreatDoorKTel
import Derived.Test.YtfnaooplpofgiaaGreatDoorKPln
import Derived.Laws.StructEq
namespace Go.Proofs.YtfnaooplpofgiaaGreatDoor
open Go Go.RowKit SN

theorem run_eqb (a b : Bool) (w : World) : (binOp .eql 4 (.bool a) (.bool b)).run Tryz.prog w = .ok (.bool (a == b)) w := by cases a <;> cases b <;> kernel_rfl
theorem run_neb (a b : Bool) (w : World) : (binOp .neq 4 (.bool a) (.bool b)).run Tryz.prog w = .ok (.bool (a != b)) w := by cases a <;> cases b <;> kernel_rfl
theorem eqGuard_b (x y : Operand) (a b : Bool) (w : World) : (eqGuard .eql 4 x y (.bool a) (.bool b)).run Tryz.prog w = .ok () w := by kernel_rfl
theorem neGuard_b (x y : Operand) (a b : Bool) (w : World) : (eqGuard .neq 4 x y (.bool a) (.bool b)).run Tryz.prog w = .ok () w := by kernel_rfl
section
variable {o : Oper} {a : Act} {w : World} {K : Act → World → Prop} {Q : Exit → Act → World → Prop}
theorem opw_eqb {x y : Operand} {A B v : Bool} (ho : o.op = .binOp .eql 4 x y 4) (hx : a.eval x = .bool A) (hy : a.eval y = .bool B) (hv : (A == B) = v) (h : K (a.put o.dst (.bool v)) w) : o.wp Tryz.prog a w K Q :=
  opw_bin ho hx hy (eqGuard_b _ _ _ _ _) (run_eqb A B w) (hv ▸ h)
theorem opw_neb {x y : Operand} {A B v : Bool} (ho : o.op = .binOp .neq 4 x y 4) (hx : a.eval x = .bool A) (hy : a.eval y = .bool B) (hv : (A != B) = v) (h : K (a.put o.dst (.bool v)) w) : o.wp Tryz.prog a w K Q :=
  opw_bin ho hx hy (neGuard_b _ _ _ _ _) (run_neb A B w) (hv ▸ h)
theorem opw_pickT {x y z : Operand} {v : Value} (ho : o.op = .pick x y z) (hx : a.eval x = .bool true) (hv : a.eval y = v) (h : K (a.put o.dst v) w) : o.wp Tryz.prog a w K Q := opw_pick ho hx (if_pos rfl) (hv ▸ h)
theorem opw_pickF {x y z : Operand} {v : Value} (ho : o.op = .pick x y z) (hx : a.eval x = .bool false) (hv : a.eval z = v) (h : K (a.put o.dst v) w) : o.wp Tryz.prog a w K Q := opw_pick ho hx (if_neg (by decide)) (hv ▸ h)
end
theorem run_addi (a b : Int) (w : World) : (binOp .add 3 (.int .i64 a) (.int .i64 b)).run Tryz.prog w = .ok (.int .i64 (IntKind.i64.wrap (a + b))) w := by kernel_rfl
theorem run_eqi (a b : Int) (w : World) : (binOp .eql 3 (.int .i64 a) (.int .i64 b)).run Tryz.prog w = .ok (.bool (a == b)) w := by kernel_rfl
theorem addGuard_i (x y : Operand) (a b : Int) (w : World) : (eqGuard .add 3 x y (.int .i64 a) (.int .i64 b)).run Tryz.prog w = .ok () w := by kernel_rfl
theorem eqGuard_i (x y : Operand) (a b : Int) (w : World) : (eqGuard .eql 3 x y (.int .i64 a) (.int .i64 b)).run Tryz.prog w = .ok () w := by kernel_rfl
section
variable {o : Oper} {a : Act} {w : World} {K : Act → World → Prop} {Q : Exit → Act → World → Prop}
theorem opw_addi {x y : Operand} {A B v : Int} (ho : o.op = .binOp .add 3 x y 3) (hx : a.eval x = .int .i64 A) (hy : a.eval y = .int .i64 B) (hv : IntKind.i64.wrap (A + B) = v) (h : K (a.put o.dst (.int .i64 v)) w) : o.wp Tryz.prog a w K Q :=
  opw_bin ho hx hy (addGuard_i _ _ _ _ _) (run_addi A B w) (hv ▸ h)
theorem opw_eqi {x y : Operand} {A B : Int} {v : Bool} (ho : o.op = .binOp .eql 3 x y 3) (hx : a.eval x = .int .i64 A) (hy : a.eval y = .int .i64 B) (hv : (A == B) = v) (h : K (a.put o.dst (.bool v)) w) : o.wp Tryz.prog a w K Q :=
  opw_bin ho hx hy (eqGuard_i _ _ _ _ _) (run_eqi A B w) (hv ▸ h)
end
theorem fields_flt : ((Tryz.prog.fieldsOf 28).toList.map fun f => (f.name, f.type, f.offset)) = [("Code", 3, 0), ("Pos", 3, 1), ("Lang", 3, 2)] := by kernel_rfl
theorem part_f0 (c p l : Int) (w : World) : (part 3 #[.int .i64 c, .int .i64 p, .int .i64 l] 0).run Tryz.prog w = .ok (.int .i64 c) w := by kernel_rfl
theorem part_f1 (c p l : Int) (w : World) : (part 3 #[.int .i64 c, .int .i64 p, .int .i64 l] 1).run Tryz.prog w = .ok (.int .i64 p) w := by kernel_rfl
theorem part_f2 (c p l : Int) (w : World) : (part 3 #[.int .i64 c, .int .i64 p, .int .i64 l] 2).run Tryz.prog w = .ok (.int .i64 l) w := by kernel_rfl
theorem under_flt : Tryz.prog.underlying 28 = some (.struct (Tryz.prog.fieldsOf 28)) := by kernel_rfl
theorem eqIn_flt (c p l : Int) (w : World) : (Op.equalIn 10000 28 (fv c p l) (fv c p l)).run Tryz.prog w = .ok true w := by
  unfold fv
  rw [run_equalIn_struct w 9999 28 _ _ under_flt (by kernel_rfl)]
  have hf := fields_flt
  generalize (Tryz.prog.fieldsOf 28).toList = fs at hf
  rcases fs with _ | ⟨f, _ | ⟨g, _ | ⟨h, _ | ⟨_, _⟩⟩⟩⟩ <;> simp at hf
  obtain ⟨⟨f1, f2, f3⟩, ⟨g1, g2, g3⟩, ⟨h1, h2, h3⟩⟩ := hf
  have ek : ∀ k : Int, (Op.equalIn 9999 3 (.int .i64 k) (.int .i64 k)).run Tryz.prog w = .ok true w := fun k => by
    rw [show (9999 : Nat) = 9998 + 1 from rfl, run_equalIn_int w 9998 3 .i64 .i64 _ _ Tryz.underlying3]
    simp
  simp only [Op.eqFields, f1, f2, f3, g1, g2, g3, h1, h2, h3, Sem.run_bind, Sem.run_ite, part_f0, part_f1, part_f2, Result.andThen_ok, ek]
  simp
theorem eql_flt (c p l : Int) (w : World) : (binOp .eql 28 (fv c p l) (fv c p l)).run Tryz.prog w = .ok (.bool true) w := by
  have h := eqIn_flt c p l w
  unfold fv at h ⊢
  rw [run_eql_struct, h]
  rfl
theorem neq_flt (c p l : Int) (w : World) : (binOp .neq 28 (fv c p l) (fv c p l)).run Tryz.prog w = .ok (.bool false) w := by
  have h := eqIn_flt c p l w
  unfold fv at h ⊢
  rw [run_neq_struct, h]
  rfl
theorem fltGuard (op : BinOp) (x y : Operand) (c p l : Int) (w : World) : (eqGuard op 28 x y (fv c p l) (fv c p l)).run Tryz.prog w = .ok () w := run_eqGuard_agg w op _ x y _ _ (by kernel_rfl)
section
variable {o : Oper} {a : Act} {w : World} {K : Act → World → Prop} {Q : Exit → Act → World → Prop}
theorem opw_load_flt {x : Operand} {B : Nat} {c p l : Int} (ho : o.op = .load 28 x) (hx : a.eval x = .pointer (some ⟨B, 0, none⟩)) (hS : IsF w B c p l) (h : K (a.put o.dst (fv c p l)) w) : o.wp Tryz.prog a w K Q :=
  wp_load_row 28 x ho B hx 28 (fc c p l) (0, 0) _ hS Tryz.underlying28 (by rfl) (by rw [size3]; rfl) h
end
end Go.Proofs.YtfnaooplpofgiaaGreatDoor
