/- One operation behind '&&' or '||': rules for loads, comparisons and builds of sets where the operation is wanted. Lemmas for walks; no conditions. -/
import Derived.Test.YteeopjgfiojoiaaDoorSetE
import Derived.Test.YteeopjgfiojoiaaDoorSetL
import Derived.Test.YteeopjgfiojoiaaDoorSetC0
import Derived.Laws.StructEq
namespace Go.Proofs.YteeopjgfiojoiaaDoor
open Go Go.RowKit SN

theorem eqGuard_set (op : BinOp) (x y : Operand) (A B : Nat) (w : World) : (eqGuard op 24 x y (sv A) (sv B)).run Tryd.prog w = .ok () w := run_eqGuard_agg w op _ x y _ _ (by kernel_rfl)
theorem neq_of_eql (xs ys : Array Value) (v : Bool) (w : World) (h : (binOp .eql 24 (.agg xs) (.agg ys)).run Tryd.prog w = .ok (.bool v) w) : (binOp .neq 24 (.agg xs) (.agg ys)).run Tryd.prog w = .ok (.bool (!v)) w := by
  rw [run_eql_struct] at h
  rw [run_neq_struct]
  cases he : (Op.equalIn 10000 24 (.agg xs) (.agg ys)).run Tryd.prog w with
  | ok b w' =>
    rw [he] at h
    simp only [Result.andThen_ok, Result.ok.injEq, Value.bool.injEq] at h ⊢
    obtain ⟨rfl, rfl⟩ := h
    exact ⟨rfl, rfl⟩
  | _ => rw [he] at h; cases h
theorem run_neq_set (A B : Nat) (hA : Ok A) (hB : Ok B) (w : World) : (binOp .neq 24 (sv A) (sv B)).run Tryd.prog w = .ok (.bool (!decide (A = B))) w := neq_of_eql _ _ _ w (run_eql_set A B hA hB w)
section
variable {ops : Array Oper} {Q : Exit → Act → World → Prop} {a : Act} {w : World} {rest : List Oper} {o : Oper}
theorem wpList_wanted (hw : Region.wanted o (yielded ops a.tmps) = true)
    (h : ∀ K : Act → World → Prop, (∀ a w, wpList Tryd.prog ops Q rest a w → K a w) → o.wp Tryd.prog a w K Q) : wpList Tryd.prog ops Q (o :: rest) a w :=
  wpList_step fun K hK => by rw [if_pos hw]; exact h K hK
theorem eq_setsg (hw : Region.wanted o (yielded ops a.tmps) = true) (x y : Operand) (ho : o.op = .binOp .eql 24 x y 24) (A B : Nat) (hx : a.eval x = sv A) (hy : a.eval y = sv B) (v : Bool) (h : (binOp .eql 24 (sv A) (sv B)).run Tryd.prog w = .ok (.bool v) w)
    (hk : wpList Tryd.prog ops Q rest (a.put o.dst (.bool v)) w) : wpList Tryd.prog ops Q (o :: rest) a w :=
  wpList_wanted hw fun K hK => by
    unfold Oper.wp execOp
    simp only [ho, hx, hy, Sem.run_bind, eqGuard_set, h, Result.andThen_ok]
    exact hK _ _ hk
theorem neq_setsg (hw : Region.wanted o (yielded ops a.tmps) = true) (x y : Operand) (ho : o.op = .binOp .neq 24 x y 24) (A B : Nat) (hx : a.eval x = sv A) (hy : a.eval y = sv B) (v : Bool) (h : (binOp .neq 24 (sv A) (sv B)).run Tryd.prog w = .ok (.bool v) w)
    (hk : wpList Tryd.prog ops Q rest (a.put o.dst (.bool v)) w) : wpList Tryd.prog ops Q (o :: rest) a w :=
  wpList_wanted hw fun K hK => by
    unfold Oper.wp execOp
    simp only [ho, hx, hy, Sem.run_bind, eqGuard_set, h, Result.andThen_ok]
    exact hK _ _ hk
theorem build_sets2g (hw : Region.wanted o (yielded ops a.tmps) = true) (x y : Operand) (ho : o.op = .buildSlice 79 2 #[(0, x), (1, y)]) (A B : Nat) (hx : a.eval x = sv A) (hy : a.eval y = sv B)
    (hk : wpList Tryd.prog ops Q rest (a.put o.dst (.slice (some ⟨w.heap.size, 0, none⟩) 2 2)) (w.alloc (.cells (scs2 A B) 24))) : wpList Tryd.prog ops Q (o :: rest) a w :=
  wpList_wanted hw fun K hK => by
    unfold Oper.wp execOp
    simp only [ho, List.map_toArray, List.map_cons, List.map_nil, hx, hy, Sem.run_bind, run_build2, Result.andThen_ok]
    exact hK _ _ hk
theorem load_setg (hw : Region.wanted o (yielded ops a.tmps) = true) (x : Operand) (ho : o.op = .load 24 x) (B : Nat) (hx : a.eval x = .pointer (some ⟨B, 0, none⟩)) 
    (h : ∃ S, IsSet 24 w B S ∧ wpList Tryd.prog ops Q rest (a.put o.dst (sv S)) w) : wpList Tryd.prog ops Q (o :: rest) a w := by
  obtain ⟨S, h, hk⟩ := h
  exact wpList_wanted hw fun K hK => wp_load_row 24 x ho B hx 24 (sc S) (0, 0) _ h Tryd.underlying24 (by rfl) (by rw [size24]; rfl) (hK _ _ hk)
end
end Go.Proofs.YteeopjgfiojoiaaDoor
