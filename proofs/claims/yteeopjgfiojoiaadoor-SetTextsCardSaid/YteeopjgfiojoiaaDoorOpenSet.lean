/- A set handed in by value, opened: its four words are one number below 2^256, and it reads the same in every world. No conditions. -/
import Derived.Test.YteeopjgfiojoiaaDoorSetW1
import Derived.Laws.IdiomArrays
import Derived.OpenShut
namespace Go.Proofs.YteeopjgfiojoiaaDoor
open Go Go.RowKit SN
open Go.ChangeShapes Go.WideShapes

/-- The set as data. -/
def setD (H : Type) (S : Nat) : DataW H := .agg [.lit (.int .u64 (word S 0)), .lit (.int .u64 (word S 1)), .lit (.int .u64 (word S 2)), .lit (.int .u64 (word S 3))]
theorem cells_set : Tryd.prog.cellsOf 24 = 4 := by kernel_rfl
theorem cells_u64 : Tryd.prog.cellsOf 22 = 1 := by kernel_rfl
theorem under_u64 : Tryd.prog.underlying 22 = some (.int .u64) := by kernel_rfl
theorem under_set : Tryd.prog.underlying 24 = some (.array 4 22) := by kernel_rfl
theorem wf_word (S k : Nat) : (Lit.int .u64 (word S k)).wf = true := by
  have := word_lt' S k
  simp [Lit.wf, IntKind.min, IntKind.max, IntKind.signed, IntKind.bits]
  omega
theorem list4 {α : Type} (l : List α) (h : l.length = 4) : ∃ a b c d, l = [a, b, c, d] := by
  match l, h with
  | [a, b, c, d], _ => exact ⟨a, b, c, d, rfl⟩
theorem shut_set {H : Type} {enc : TypeId × Value → H} {w : World} {base : Nat} {spare : Nat → Bool} {held : Bool} (S : Nat) : DataW.Trod enc Tryd.prog w base spare held 24 (sv S) (setD H S) [] :=
  ⟨2, by simp [DataW.trod, sv, setD, Value.cells, cells_set, cells_u64, wf_word, show List.range 4 = [0, 1, 2, 3] from rfl]⟩
set_option maxRecDepth 100000 in
theorem open_set {H : Type} {enc : TypeId × Value → H} {w : World} {base : Nat} {spare : Nat → Bool} {held : Bool} {r : Reach} {b0 : Nat} {v : Value} {d : DataW H} {ps : List MemPlace}
    (hval : Value.okWide Tryd.prog w r b0 24 v) (hd : DataW.Trod enc Tryd.prog w base spare held 24 v d ps) : ∃ S, Ok S ∧ v = sv S ∧ d = setD H S ∧ ps = [] := by
  obtain ⟨cs, rfl, hsz, -⟩ : ∃ cs, v = .agg cs ∧ cs.size = Tryd.prog.cellsOf 24 ∧ Row.okWide Tryd.prog w r b0 24 cs := by
    unfold Value.okWide at hval
    rw [under_set] at hval
    exact hval
  rw [cells_set] at hsz
  obtain ⟨l⟩ := cs
  obtain ⟨c0, c1, c2, c3, rfl⟩ := list4 l hsz
  obtain ⟨fuel, hf⟩ := hd
  obtain ⟨y0, y1, y2, y3, m, hx, hy0, hy1, hy2, hy3⟩ := Go.ChangeShapes.trod_array4 under_set cells_u64 hf
  obtain ⟨x0, e0, rfl, w0⟩ := DataW.trod_int under_u64 hy0
  obtain ⟨x1, e1, rfl, w1⟩ := DataW.trod_int under_u64 hy1
  obtain ⟨x2, e2, rfl, w2⟩ := DataW.trod_int under_u64 hy2
  obtain ⟨x3, e3, rfl, w3⟩ := DataW.trod_int under_u64 hy3
  simp only [List.cons.injEq, and_true] at e0 e1 e2 e3
  subst e0 e1 e2 e3
  simp only [Prod.mk.injEq] at hx
  obtain ⟨rfl, rfl⟩ := hx
  have q0 := bounds_u64 w0
  have q1 := bounds_u64 w1
  have q2 := bounds_u64 w2
  have q3 := bounds_u64 w3
  obtain ⟨n0, rfl⟩ := Int.eq_ofNat_of_zero_le q0.1
  obtain ⟨n1, rfl⟩ := Int.eq_ofNat_of_zero_le q1.1
  obtain ⟨n2, rfl⟩ := Int.eq_ofNat_of_zero_le q2.1
  obtain ⟨n3, rfl⟩ := Int.eq_ofNat_of_zero_le q3.1
  have z0 : n0 < 18446744073709551616 := by omega
  have z1 : n1 < 18446744073709551616 := by omega
  have z2 : n2 < 18446744073709551616 := by omega
  have z3 : n3 < 18446744073709551616 := by omega
  obtain ⟨k0, k1, k2, k3⟩ := word_mk4 z0 z1 z2 z3
  refine ⟨mk4 n0 n1 n2 n3, mk4_ok z0 z1 z2 z3, ?_, ?_, rfl⟩
  · simp only [sv, k0, k1, k2, k3]
  · simp only [setD, k0, k1, k2, k3]
end Go.Proofs.YteeopjgfiojoiaaDoor
