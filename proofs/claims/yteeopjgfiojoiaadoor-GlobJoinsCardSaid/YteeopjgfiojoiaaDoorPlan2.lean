/- The law on statements that leave their order open, for statements on sets of bytes: what may be claimed of an operation's value, and how an operation reads its operands. No conditions beyond the closed checks. -/
import Derived.Test.YteeopjgfiojoiaaDoorPlan
import Derived.Test.YteeopjgfiojoiaaDoorSetE
import Derived.Test.YteeopjgfiojoiaaDoorSetL
import Derived.Test.YteeopjgfiojoiaaDoorGrd
import Derived.Test.YteeopjgfiojoiaaDoorByt
namespace Go.Proofs.YteeopjgfiojoiaaDoor
open Go Go.RowKit SN

/-- What is claimed of an operation's value. -/
inductive Claim where
  | val (v : Value)
  | two (A B : Nat)
  | bytes (l : List Nat)
  | fresh (base S : Nat)
def Claim.holds : Claim → Value → World → Prop
  | .val x, v, _ => v = x
  | .two A B, v, W => ∃ b, v = .slice (some ⟨b, 0, none⟩) 2 2 ∧ W.heap[b]? = some (.cells (scs2 A B) 24 (0, 0))
  | .bytes l, v, W => ∃ p cap, v = .slice p l.length cap ∧ l.length ≤ cap ∧ HasB W p (toB l)
  | .fresh base S, v, W => ∃ b, v = .pointer (some ⟨b, 0, none⟩) ∧ base ≤ b ∧ IsSet 24 W b S
def cl (cs : List Claim) (j : Nat) (v : Value) (W : World) : Prop := ∃ c, cs[j]? = some c ∧ c.holds v W
theorem cl_st (cs : List Claim) (j : Nat) (v : Value) (W W' : World) (h : cl cs j v W) (hs : Below W.heap.size W W') : cl cs j v W' := by
  obtain ⟨c, hc, h⟩ := h
  refine ⟨c, hc, ?_⟩
  cases c with
  | val x => exact h
  | two A B => obtain ⟨b, e, h⟩ := h; exact ⟨b, e, row_below h hs (row_lt h)⟩
  | bytes l => obtain ⟨p, cap, e, hl, h⟩ := h; exact ⟨p, cap, e, hl, h.below hs (Nat.le_refl _)⟩
  | fresh base S => obtain ⟨b, e, hb, h⟩ := h; exact ⟨b, e, hb, row_below h hs (row_lt h)⟩
/-- The world as the statement goes on. -/
def Inv (base : Nat) (w0 W : World) : Prop := Below base w0 W ∧ base ≤ W.heap.size
def Stp (W W' : World) : Prop := Below W.heap.size W W'
theorem Inv.step {base : Nat} {w0 W W' : World} (h : Inv base w0 W) (hs : Below W.heap.size W W') : Inv base w0 W' := ⟨h.1.trans (hs.mono h.2), Nat.le_trans h.2 hs.size⟩
def upto (n : Nat) : Nat → Bool := fun j => decide (j < n)
def PO (ops : Array Oper) (n : Nat) (a0 : Act) (base : Nat) (w0 : World) (cs : List Claim) (i : Nat) : Prop :=
  ∀ o, ops[i]? = some o → PlanOb Tryd.prog ops (upto n) a0 (Inv base w0) Stp (cl cs) i o
def slotOk (ops : Array Oper) (n sz i j : Nat) (t : Tmp) : Bool :=
  decide (j < ops.size) && decide (j < n) && decide (t < sz) && ((ops[j]?).bind (·.dst) == some t) && ((ops[i]?).map (fun o => looksOn ops o j) == some true)
section
variable {ops : Array Oper} {n : Nat} {a0 : Act} {u : Nat → Value} {cs : List Claim} {W : World} {i j : Nat} {o : Oper} {t : Tmp}
theorem ev_cl (hok : planOk .any ops (upto n) = true) (hR : ∀ j, j < ops.size → upto n j = true → looksOn ops o j = true → cl cs j (u j) W) (ho : ops[i]? = some o) (hs : slotOk ops n a0.tmps.size i j t = true) : (putL (planOf ops (upto n)) u a0).eval (.tmp t) = u j ∧ cl cs j (u j) W := by
  unfold slotOk at hs
  simp only [Bool.and_eq_true, beq_iff_eq, decide_eq_true_eq] at hs
  obtain ⟨⟨⟨⟨h1, h2⟩, h3⟩, h4⟩, h5⟩ := hs
  exact ⟨plan_eval hok h4 (decide_eq_true h2) h3, hR j h1 (decide_eq_true h2) (ob_look ho h5)⟩
theorem ev_val {v : Value} (hok : planOk .any ops (upto n) = true) (hR : ∀ j, j < ops.size → upto n j = true → looksOn ops o j = true → cl cs j (u j) W) (ho : ops[i]? = some o) (hs : slotOk ops n a0.tmps.size i j t = true) (hc : cs[j]? = some (.val v)) : (putL (planOf ops (upto n)) u a0).eval (.tmp t) = v := by
  obtain ⟨e, c, h1, h2⟩ := ev_cl hok hR ho hs
  rw [hc] at h1
  cases h1
  exact e.trans h2
theorem ev_base (hok : planOk .any ops (upto n) = true) (h : ownAt (planOf ops (upto n)) t = none) {v : Value} (hv : a0.eval (.tmp t) = v) : (putL (planOf ops (upto n)) u a0).eval (.tmp t) = v := (plan_eval0 hok h).trans hv
theorem wanted_yes {g : Nat} {want : Bool} (h : o.guard = some (g, want)) (hg : (ops[g]?).bind (·.dst) = some t) {a : Act} (hv : a.eval (.tmp t) = .bool want) : Region.wanted o (yielded ops a.tmps) = true := by
  rw [plan_wanted h hg hv]; simp
theorem wanted_no {g : Nat} {want : Bool} (h : o.guard = some (g, want)) (hg : (ops[g]?).bind (·.dst) = some t) {a : Act} (hv : a.eval (.tmp t) = .bool (!want)) : ¬Region.wanted o (yielded ops a.tmps) = true := by
  rw [plan_wanted h hg hv]; cases want <;> simp
end
/-- Each operation keeps its claim: then the statement ends with all claims true. -/
theorem wp_plan_cl {id : Nat} {ops : Array Oper} {a0 : Act} {base : Nat} {w0 : World} {Q : Exit → Act → World → Prop} (n fD : Nat) (cs : List Claim) (hok : planOk .any ops (upto n) = true) (hfD : decide (fD + unl ops (upto n) (Array.replicate ops.size false) ≤ ops.size) = true) (hb : base ≤ w0.heap.size)
    (hob : ∀ i, i < n → PO ops n a0 base w0 cs i)
    (hend : ∀ u W, Below base w0 W → base ≤ W.heap.size → (∀ j, j < ops.size → j < n → cl cs j (u j) W) → wpAny Tryd.prog .any ops Q fD (listedOf ops (upto n)) (putL (planOf ops (upto n)) u a0) W) : (Code.region id ops true).wp Tryd.prog Q a0 w0 :=
  wp_region_plan (upto n) (Inv base w0) Stp (cl cs) fD (by kernel_rfl) hok hfD (cl_st cs) ⟨(Below.refl base w0).drew, hb⟩ (fun i o ho hd => hob i (of_decide_eq_true hd) o ho)
    (fun u W hI hR => hend u W hI.1 hI.2 fun j hj hn => hR j hj (decide_eq_true hn))
section
variable {o : Oper} {a : Act} {w : World} {K : Act → World → Prop} {Q : Exit → Act → World → Prop}
theorem opw_load_set {x : Operand} {B S : Nat} (ho : o.op = .load 24 x) (hx : a.eval x = .pointer (some ⟨B, 0, none⟩)) (hS : IsSet 24 w B S) (h : K (a.put o.dst (sv S)) w) : o.wp Tryd.prog a w K Q :=
  wp_load_row 24 x ho B hx 24 (sc S) (0, 0) _ hS Tryd.underlying24 (by rfl) (by rw [size24]; rfl) h
theorem opw_two {x y : Operand} {A B : Nat} (ho : o.op = .buildSlice 79 2 #[(0, x), (1, y)]) (hx : a.eval x = sv A) (hy : a.eval y = sv B)
    (h : K (a.put o.dst (.slice (some ⟨w.heap.size, 0, none⟩) 2 2)) (w.alloc (.cells (scs2 A B) 24))) : o.wp Tryd.prog a w K Q :=
  opw_buildSlice ho (by simp only [List.map_toArray, List.map_cons, List.map_nil, hx, hy]) (run_build2 A B w) h
theorem opw_eqs {x y : Operand} {A B : Nat} {v : Bool} (ho : o.op = .binOp .eql 24 x y 24) (hA : Ok A) (hB : Ok B) (hx : a.eval x = sv A) (hy : a.eval y = sv B) (hv : decide (A = B) = v) (h : K (a.put o.dst (.bool v)) w) : o.wp Tryd.prog a w K Q :=
  opw_bin ho hx hy (eqGuard_set _ _ _ _ _ _) (run_eql_set A B hA hB w) (hv ▸ h)
theorem opw_nes {x y : Operand} {A B : Nat} {v : Bool} (ho : o.op = .binOp .neq 24 x y 24) (hA : Ok A) (hB : Ok B) (hx : a.eval x = sv A) (hy : a.eval y = sv B) (hv : (!decide (A = B)) = v) (h : K (a.put o.dst (.bool v)) w) : o.wp Tryd.prog a w K Q :=
  opw_bin ho hx hy (eqGuard_set _ _ _ _ _ _) (run_neq_set A B hA hB w) (hv ▸ h)
end
theorem run_eqb (a b : Bool) (w : World) : (binOp .eql 4 (.bool a) (.bool b)).run Tryd.prog w = .ok (.bool (a == b)) w := by cases a <;> cases b <;> kernel_rfl
theorem run_neb (a b : Bool) (w : World) : (binOp .neq 4 (.bool a) (.bool b)).run Tryd.prog w = .ok (.bool (a != b)) w := by cases a <;> cases b <;> kernel_rfl
theorem eqGuard_b (x y : Operand) (a b : Bool) (w : World) : (eqGuard .eql 4 x y (.bool a) (.bool b)).run Tryd.prog w = .ok () w := by kernel_rfl
theorem neGuard_b (x y : Operand) (a b : Bool) (w : World) : (eqGuard .neq 4 x y (.bool a) (.bool b)).run Tryd.prog w = .ok () w := by kernel_rfl
section
variable {o : Oper} {a : Act} {w : World} {K : Act → World → Prop} {Q : Exit → Act → World → Prop}
theorem opw_eqb {x y : Operand} {A B v : Bool} (ho : o.op = .binOp .eql 4 x y 4) (hx : a.eval x = .bool A) (hy : a.eval y = .bool B) (hv : (A == B) = v) (h : K (a.put o.dst (.bool v)) w) : o.wp Tryd.prog a w K Q :=
  opw_bin ho hx hy (eqGuard_b _ _ _ _ _) (run_eqb A B w) (hv ▸ h)
theorem opw_neb {x y : Operand} {A B v : Bool} (ho : o.op = .binOp .neq 4 x y 4) (hx : a.eval x = .bool A) (hy : a.eval y = .bool B) (hv : (A != B) = v) (h : K (a.put o.dst (.bool v)) w) : o.wp Tryd.prog a w K Q :=
  opw_bin ho hx hy (neGuard_b _ _ _ _ _) (run_neb A B w) (hv ▸ h)
theorem opw_pickT {x y z : Operand} {v : Value} (ho : o.op = .pick x y z) (hx : a.eval x = .bool true) (hv : a.eval y = v) (h : K (a.put o.dst v) w) : o.wp Tryd.prog a w K Q := opw_pick ho hx (if_pos rfl) (hv ▸ h)
theorem opw_pickF {x y z : Operand} {v : Value} (ho : o.op = .pick x y z) (hx : a.eval x = .bool false) (hv : a.eval z = v) (h : K (a.put o.dst v) w) : o.wp Tryd.prog a w K Q := opw_pick ho hx (if_neg (by decide)) (hv ▸ h)
end
theorem run_addi (a b : Int) (w : World) : (binOp .add 3 (.int .i64 a) (.int .i64 b)).run Tryd.prog w = .ok (.int .i64 (IntKind.i64.wrap (a + b))) w := by kernel_rfl
theorem run_eqi (a b : Int) (w : World) : (binOp .eql 3 (.int .i64 a) (.int .i64 b)).run Tryd.prog w = .ok (.bool (a == b)) w := by kernel_rfl
theorem addGuard_i (x y : Operand) (a b : Int) (w : World) : (eqGuard .add 3 x y (.int .i64 a) (.int .i64 b)).run Tryd.prog w = .ok () w := by kernel_rfl
theorem eqGuard_i (x y : Operand) (a b : Int) (w : World) : (eqGuard .eql 3 x y (.int .i64 a) (.int .i64 b)).run Tryd.prog w = .ok () w := by kernel_rfl
section
variable {o : Oper} {a : Act} {w : World} {K : Act → World → Prop} {Q : Exit → Act → World → Prop}
theorem opw_addi {x y : Operand} {A B v : Int} (ho : o.op = .binOp .add 3 x y 3) (hx : a.eval x = .int .i64 A) (hy : a.eval y = .int .i64 B) (hv : IntKind.i64.wrap (A + B) = v) (h : K (a.put o.dst (.int .i64 v)) w) : o.wp Tryd.prog a w K Q :=
  opw_bin ho hx hy (addGuard_i _ _ _ _ _) (run_addi A B w) (hv ▸ h)
theorem opw_eqi {x y : Operand} {A B : Int} {v : Bool} (ho : o.op = .binOp .eql 3 x y 3) (hx : a.eval x = .int .i64 A) (hy : a.eval y = .int .i64 B) (hv : (A == B) = v) (h : K (a.put o.dst (.bool v)) w) : o.wp Tryd.prog a w K Q :=
  opw_bin ho hx hy (eqGuard_i _ _ _ _ _) (run_eqi A B w) (hv ▸ h)
theorem opw_alloc_set (ho : o.op = .alloc 24) (h : K (a.put o.dst (.pointer (some ⟨w.heap.size, 0, none⟩))) (w.alloc (.cells #[.int .u64 0, .int .u64 0, .int .u64 0, .int .u64 0] 24))) : o.wp Tryd.prog a w K Q := by
  refine opw_run (v := .pointer (some ⟨w.heap.size, 0, none⟩)) (w' := w.alloc (.cells #[.int .u64 0, .int .u64 0, .int .u64 0, .int .u64 0] 24)) ?_ h
  unfold execOp; simp only [ho]; kernel_rfl
theorem opw_conv {x : Operand} {l : List Nat} {p : Option Addr} {cap : Nat} (ho : o.op = .convert 36 9 x) (hx : a.eval x = .slice p l.length cap) (hB : HasB w p (toB l)) (h : K (a.put o.dst (.string (toB l))) w) : o.wp Tryd.prog a w K Q := by
  have := conv_any p cap (toB l) w hB
  rw [toB_size] at this
  exact opw_convert ho hx this h
end
theorem union_at {A B b : Nat} {W : World} (h : W.heap[b]? = some (.cells (scs2 A B) 24 (0, 0))) :
    Calls Tryd.prog 27 #[.slice (some ⟨b, 0, none⟩) 2 2] W fun e w' => e = .returned (sv (unionL [A, B])) ∧ Below W.heap.size W w' := by
  refine Union_any [A, B] (some ⟨b, 0, none⟩) 2 W (by simp) fun i hi => ⟨b, rfl, row_lt h, fun k hk => row_cell h ?_⟩
  have h1 : i = 0 ∨ i = 1 := by simp at hi; omega
  have h2 : k = 0 ∨ k = 1 ∨ k = 2 ∨ k = 3 := by omega
  rcases h1 with rfl | rfl <;> rcases h2 with rfl | rfl | rfl | rfl <;> rfl
end Go.Proofs.YteeopjgfiojoiaaDoor
