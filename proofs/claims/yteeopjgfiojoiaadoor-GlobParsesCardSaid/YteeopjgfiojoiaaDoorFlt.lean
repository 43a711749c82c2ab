/- Faults as values: their comparing, their loads in a region that draws its order. No conditions but that the fault lies in memory. -/
import Derived.Test.YteeopjgfiojoiaaDoorTel
import Derived.Test.YteeopjgfiojoiaaDoorPln
import Derived.Laws.StructEq
namespace Go.Proofs.YteeopjgfiojoiaaDoor
open Go Go.RowKit SN

theorem fields_flt : ((Tryd.prog.fieldsOf 62).toList.map fun f => (f.name, f.type, f.offset)) = [("Code", 3, 0), ("Pos", 3, 1), ("Lang", 3, 2)] := by kernel_rfl
theorem part_f0 (c p l : Int) (w : World) : (part 3 #[.int .i64 c, .int .i64 p, .int .i64 l] 0).run Tryd.prog w = .ok (.int .i64 c) w := by kernel_rfl
theorem part_f1 (c p l : Int) (w : World) : (part 3 #[.int .i64 c, .int .i64 p, .int .i64 l] 1).run Tryd.prog w = .ok (.int .i64 p) w := by kernel_rfl
theorem part_f2 (c p l : Int) (w : World) : (part 3 #[.int .i64 c, .int .i64 p, .int .i64 l] 2).run Tryd.prog w = .ok (.int .i64 l) w := by kernel_rfl
theorem under_flt : Tryd.prog.underlying 62 = some (.struct (Tryd.prog.fieldsOf 62)) := by kernel_rfl
theorem eqIn_flt (c p l : Int) (w : World) : (Op.equalIn 10000 62 (fv c p l) (fv c p l)).run Tryd.prog w = .ok true w := by
  unfold fv
  rw [run_equalIn_struct w 9999 62 _ _ under_flt (by kernel_rfl)]
  have hf := fields_flt
  generalize (Tryd.prog.fieldsOf 62).toList = fs at hf
  rcases fs with _ | ⟨f, _ | ⟨g, _ | ⟨h, _ | ⟨_, _⟩⟩⟩⟩ <;> simp at hf
  obtain ⟨⟨f1, f2, f3⟩, ⟨g1, g2, g3⟩, ⟨h1, h2, h3⟩⟩ := hf
  have ek : ∀ k : Int, (Op.equalIn 9999 3 (.int .i64 k) (.int .i64 k)).run Tryd.prog w = .ok true w := fun k => by
    rw [show (9999 : Nat) = 9998 + 1 from rfl, run_equalIn_int w 9998 3 .i64 .i64 _ _ Tryd.underlying3]
    simp
  simp only [Op.eqFields, f1, f2, f3, g1, g2, g3, h1, h2, h3, Sem.run_bind, Sem.run_ite, part_f0, part_f1, part_f2, Result.andThen_ok, ek]
  simp
theorem eql_flt (c p l : Int) (w : World) : (binOp .eql 62 (fv c p l) (fv c p l)).run Tryd.prog w = .ok (.bool true) w := by
  have h := eqIn_flt c p l w
  unfold fv at h ⊢
  rw [run_eql_struct, h]
  rfl
theorem neq_flt (c p l : Int) (w : World) : (binOp .neq 62 (fv c p l) (fv c p l)).run Tryd.prog w = .ok (.bool false) w := by
  have h := eqIn_flt c p l w
  unfold fv at h ⊢
  rw [run_neq_struct, h]
  rfl
theorem fltGuard (op : BinOp) (x y : Operand) (c p l : Int) (w : World) : (eqGuard op 62 x y (fv c p l) (fv c p l)).run Tryd.prog w = .ok () w := run_eqGuard_agg w op _ x y _ _ (by kernel_rfl)
section
variable {o : Oper} {a : Act} {w : World} {K : Act → World → Prop} {Q : Exit → Act → World → Prop}
theorem opw_load_flt {x : Operand} {B : Nat} {c p l : Int} (ho : o.op = .load 62 x) (hx : a.eval x = .pointer (some ⟨B, 0, none⟩)) (hS : IsF w B c p l) (h : K (a.put o.dst (fv c p l)) w) : o.wp Tryd.prog a w K Q :=
  wp_load_row 62 x ho B hx 62 (fc c p l) (0, 0) _ hS Tryd.underlying62 (by rfl) (by rw [size3]; rfl) h
end
end Go.Proofs.YteeopjgfiojoiaaDoor
