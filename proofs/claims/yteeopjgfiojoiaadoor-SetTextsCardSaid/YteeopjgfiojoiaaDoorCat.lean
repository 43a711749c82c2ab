/- Two texts joined by +: a rule for walks. Its condition: the length is one that an int holds. -/
import Derived.Test.YteeopjgfiojoiaaDoorGrd
namespace Go.Proofs.YteeopjgfiojoiaaDoor
open Go Go.RowKit SN

theorem ba_append (a b : List UInt8) : (⟨a.toArray⟩ ++ ⟨b.toArray⟩ : ByteArray) = ⟨(a ++ b).toArray⟩ := by
  apply ByteArray.ext
  simp
theorem run_cat (a b : List UInt8) (h : a.length + b.length ≤ 9223372036854775807) (W : World) : (binOp .add 9 (.string ⟨a.toArray⟩) (.string ⟨b.toArray⟩)).run Tryd.prog W = .ok (.string ⟨(a ++ b).toArray⟩) W := by
  rw [← ba_append]
  have hu := Tryd.underlying9
  have hs : ¬ 9223372036854775807 < a.length + b.length := by omega
  go_simp
theorem catGuard (x y : Operand) (s t : ByteArray) (w : World) : (eqGuard .add 9 x y (.string s) (.string t)).run Tryd.prog w = .ok () w := by kernel_rfl
section
variable {ops : Array Oper} {Q : Exit → Act → World → Prop} {a : Act} {w : World} {rest : List Oper} {o : Oper}
theorem cat_arm (hw : Region.wanted o (yielded ops a.tmps) = true) (x y : Operand) (ho : o.op = .binOp .add 9 x y 9) (s t : List UInt8) (hx : a.eval x = .string ⟨s.toArray⟩) (hy : a.eval y = .string ⟨t.toArray⟩) (h : s.length + t.length ≤ 9223372036854775807)
    (hk : wpList Tryd.prog ops Q rest (a.put o.dst (.string ⟨(s ++ t).toArray⟩)) w) : wpList Tryd.prog ops Q (o :: rest) a w :=
  wpList_wanted hw fun K hK => by
    unfold Oper.wp execOp
    simp only [ho, hx, hy, Sem.run_bind, catGuard, run_cat s t h, Result.andThen_ok]
    exact hK _ _ hk
end
end Go.Proofs.YteeopjgfiojoiaaDoor
