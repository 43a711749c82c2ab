/- The walk over SetTexts: the two texts are one: it returns true. Conditions: the set is a set of bytes, the errors' variables lie in memory. -/
import Derived.Test.YteeopjgfiojoiaaDoorTxtAll
import Derived.Test.YteeopjgfiojoiaaDoorBrt
import Derived.Test.YteeopjgfiojoiaaDoorPln
import Derived.Deep.Cut
import Derived.Handy
import Derived.Outline
namespace Go.Proofs.YteeopjgfiojoiaaDoor
open Go Go.RowKit SN

theorem run_eqs (s t : ByteArray) (W : World) : (binOp .eql 9 (.string s) (.string t)).run Tryd.prog W = .ok (.bool (s.toList == t.toList)) W := by
  have hu := Tryd.underlying9
  go_simp
theorem eqsGuard (x y : Operand) (s t : ByteArray) (w : World) : (eqGuard .eql 9 x y (.string s) (.string t)).run Tryd.prog w = .ok () w := by kernel_rfl
structure Tx1 (a0 : Act) (w0 : World) (base B1 S N : Nat) (E : Nat → Addr) (t : ByteArray) : Prop where
  hz : a0.tmps.size = 11
  h1 : a0.eval (.tmp 1) = .pointer (some ⟨B1, 0, none⟩)
  b1 : IsSet 24 w0 B1 S
  l1 : B1 < base
  hT1 : ∀ W, Calls Tryd.prog 35 #[sv S] W fun e w' => e = .returned (.string t) ∧ Below W.heap.size W w'
  hT2 : ∀ W, Calls Tryd.prog 36 #[sv S] W fun e w' => e = .returned (.string t) ∧ Below W.heap.size W w'
  hE : Errs N E w0
  hN : N ≤ base
variable {a0 : Act} {w0 : World} {base B1 S N : Nat} {E : Nat → Addr} {t : ByteArray}
def tx1Cs (S : Nat) (t : ByteArray) : List Claim := [.val (sv (S)), .val (.string (t)), .val (sv (S)), .val (.string (t)), .val (.bool true), .val (.bool true), .val (.bool true), .val (.bool true), .val (.bool true)]
theorem tx1_ok : planOk .any (regionOps Tryd.f6 1) (upto 9) = true := by kernel_rfl
theorem tx1_0 (F : Tx1 a0 w0 base B1 S N E t) : PO (regionOps Tryd.f6 1) 9 a0 base w0 (tx1Cs S t) 0 := by
  intro o ho u W hI hR
  obtain ⟨e1, e2, e3⟩ := ob_op ho (show ((regionOps Tryd.f6 1)[0]?).map (fun o => (o.op, o.dst, o.guard)) = some (.load 24 (.tmp 1), some 3, none) by kernel_rfl)
  rw [if_pos (plan_free e3 _)]
  intro K hK
  have x0 := ev_base (u := u) tx1_ok (by kernel_rfl) F.h1
  exact opw_load_set e1 x0 (F.b1.below hI.1 F.l1) (hK _ _ ⟨_, rfl, rfl⟩ hI (Below.refl _ _))
theorem tx1_1 (F : Tx1 a0 w0 base B1 S N E t) : PO (regionOps Tryd.f6 1) 9 a0 base w0 (tx1Cs S t) 1 := by
  intro o ho u W hI hR
  obtain ⟨e1, e2, e3⟩ := ob_op ho (show ((regionOps Tryd.f6 1)[1]?).map (fun o => (o.op, o.dst, o.guard)) = some (.call { callee := .value (.func 35), args := #[(.tmp 3)], argTypes := #[24] }, some 4, none) by kernel_rfl)
  rw [if_pos (plan_free e3 _)]
  intro K hK
  have x0 := ev_val (v := sv (S)) (cs := (tx1Cs S t)) tx1_ok hR ho (j := 0) (t := 3) (by rw [F.hz]; kernel_rfl) rfl
  refine opw_call e1 (vs := #[sv (S)]) (by simp only [List.map_toArray, List.map_cons, List.map_nil, x0]) Tryd.func35 (by kernel_rfl) (by kernel_rfl) (F.hT1 W) ?_
  rintro e W' ⟨rfl, b⟩
  exact ⟨_, rfl, hK _ _ ⟨_, rfl, rfl⟩ (hI.step b) b⟩
theorem tx1_2 (F : Tx1 a0 w0 base B1 S N E t) : PO (regionOps Tryd.f6 1) 9 a0 base w0 (tx1Cs S t) 2 := by
  intro o ho u W hI hR
  obtain ⟨e1, e2, e3⟩ := ob_op ho (show ((regionOps Tryd.f6 1)[2]?).map (fun o => (o.op, o.dst, o.guard)) = some (.load 24 (.tmp 1), some 5, none) by kernel_rfl)
  rw [if_pos (plan_free e3 _)]
  intro K hK
  have x0 := ev_base (u := u) tx1_ok (by kernel_rfl) F.h1
  exact opw_load_set e1 x0 (F.b1.below hI.1 F.l1) (hK _ _ ⟨_, rfl, rfl⟩ hI (Below.refl _ _))
theorem tx1_3 (F : Tx1 a0 w0 base B1 S N E t) : PO (regionOps Tryd.f6 1) 9 a0 base w0 (tx1Cs S t) 3 := by
  intro o ho u W hI hR
  obtain ⟨e1, e2, e3⟩ := ob_op ho (show ((regionOps Tryd.f6 1)[3]?).map (fun o => (o.op, o.dst, o.guard)) = some (.call { callee := .value (.func 36), args := #[(.tmp 5)], argTypes := #[24] }, some 6, none) by kernel_rfl)
  rw [if_pos (plan_free e3 _)]
  intro K hK
  have x0 := ev_val (v := sv (S)) (cs := (tx1Cs S t)) tx1_ok hR ho (j := 2) (t := 5) (by rw [F.hz]; kernel_rfl) rfl
  refine opw_call e1 (vs := #[sv (S)]) (by simp only [List.map_toArray, List.map_cons, List.map_nil, x0]) Tryd.func36 (by kernel_rfl) (by kernel_rfl) (F.hT2 W) ?_
  rintro e W' ⟨rfl, b⟩
  exact ⟨_, rfl, hK _ _ ⟨_, rfl, rfl⟩ (hI.step b) b⟩
theorem tx1_4 (F : Tx1 a0 w0 base B1 S N E t) : PO (regionOps Tryd.f6 1) 9 a0 base w0 (tx1Cs S t) 4 := by
  intro o ho u W hI hR
  obtain ⟨e1, e2, e3⟩ := ob_op ho (show ((regionOps Tryd.f6 1)[4]?).map (fun o => (o.op, o.dst, o.guard)) = some (.binOp .eql 9 (.tmp 4) (.tmp 6) 9, some 7, none) by kernel_rfl)
  rw [if_pos (plan_free e3 _)]
  intro K hK
  have x0 := ev_val (v := .string (t)) (cs := (tx1Cs S t)) tx1_ok hR ho (j := 1) (t := 4) (by rw [F.hz]; kernel_rfl) rfl
  have x1 := ev_val (v := .string (t)) (cs := (tx1Cs S t)) tx1_ok hR ho (j := 3) (t := 6) (by rw [F.hz]; kernel_rfl) rfl
  exact opw_bin e1 x0 x1 (eqsGuard _ _ t t W) (run_eqs t t W) (hK _ _ ⟨_, rfl, congrArg Value.bool (beq_self_eq_true _)⟩ hI (Below.refl _ _))
theorem tx1_5 (F : Tx1 a0 w0 base B1 S N E t) : PO (regionOps Tryd.f6 1) 9 a0 base w0 (tx1Cs S t) 5 := by
  intro o ho u W hI hR
  obtain ⟨e1, e2, e3⟩ := ob_op ho (show ((regionOps Tryd.f6 1)[5]?).map (fun o => (o.op, o.dst, o.guard)) = some (.move (.tmp 7), some 8, none) by kernel_rfl)
  rw [if_pos (plan_free e3 _)]
  intro K hK
  have x0 := ev_val (v := .bool true) (cs := (tx1Cs S t)) tx1_ok hR ho (j := 4) (t := 7) (by rw [F.hz]; kernel_rfl) rfl
  exact opw_move e1 x0 (hK _ _ ⟨_, rfl, rfl⟩ hI (Below.refl _ _))
theorem tx1_6 (F : Tx1 a0 w0 base B1 S N E t) : PO (regionOps Tryd.f6 1) 9 a0 base w0 (tx1Cs S t) 6 := by
  intro o ho u W hI hR
  obtain ⟨e1, e2, e3⟩ := ob_op ho (show ((regionOps Tryd.f6 1)[6]?).map (fun o => (o.op, o.dst, o.guard)) = some (.call { callee := .value (.func 19), args := #[], argTypes := #[] }, some 9, some (5, true)) by kernel_rfl)
  have xg := ev_val (v := .bool true) (cs := (tx1Cs S t)) tx1_ok hR ho (j := 5) (t := 8) (by rw [F.hz]; kernel_rfl) rfl
  rw [if_pos (wanted_yes e3 (t := 8) (by kernel_rfl) xg)]
  intro K hK
  refine opw_call e1 (vs := #[]) (by simp only [List.map_toArray, List.map_nil]) Tryd.func19 (by kernel_rfl) (by kernel_rfl) (awake_any (N := N) (E := E) W (F.hE.below hI.1 F.hN) (Nat.le_trans F.hN hI.2)) ?_
  rintro e W' ⟨rfl, b⟩
  exact ⟨_, rfl, hK _ _ ⟨_, rfl, rfl⟩ (hI.step b) b⟩
theorem tx1_7 (F : Tx1 a0 w0 base B1 S N E t) : PO (regionOps Tryd.f6 1) 9 a0 base w0 (tx1Cs S t) 7 := by
  intro o ho u W hI hR
  obtain ⟨e1, e2, e3⟩ := ob_op ho (show ((regionOps Tryd.f6 1)[7]?).map (fun o => (o.op, o.dst, o.guard)) = some (.pick (.tmp 8) (.tmp 9) (.const (.bool false)), some 10, none) by kernel_rfl)
  rw [if_pos (plan_free e3 _)]
  intro K hK
  have x0 := ev_val (v := .bool true) (cs := (tx1Cs S t)) tx1_ok hR ho (j := 5) (t := 8) (by rw [F.hz]; kernel_rfl) rfl
  have x1 := ev_val (v := .bool true) (cs := (tx1Cs S t)) tx1_ok hR ho (j := 6) (t := 9) (by rw [F.hz]; kernel_rfl) rfl
  exact opw_pickT e1 x0 x1 (hK _ _ ⟨_, rfl, rfl⟩ hI (Below.refl _ _))
theorem tx1_8 (F : Tx1 a0 w0 base B1 S N E t) : PO (regionOps Tryd.f6 1) 9 a0 base w0 (tx1Cs S t) 8 := by
  intro o ho u W hI hR
  obtain ⟨e1, e2, e3⟩ := ob_op ho (show ((regionOps Tryd.f6 1)[8]?).map (fun o => (o.op, o.dst, o.guard)) = some (.assign (.tmp 10), some 2, none) by kernel_rfl)
  rw [if_pos (plan_free e3 _)]
  intro K hK
  have x0 := ev_val (v := .bool true) (cs := (tx1Cs S t)) tx1_ok hR ho (j := 7) (t := 10) (by rw [F.hz]; kernel_rfl) rfl
  exact opw_assign e1 x0 (hK _ _ ⟨_, rfl, rfl⟩ hI (Below.refl _ _))
theorem tx1_all (F : Tx1 a0 w0 base B1 S N E t) : ∀ i, i < 9 → PO (regionOps Tryd.f6 1) 9 a0 base w0 (tx1Cs S t) i
  | 0, _ => tx1_0 F
  | 1, _ => tx1_1 F
  | 2, _ => tx1_2 F
  | 3, _ => tx1_3 F
  | 4, _ => tx1_4 F
  | 5, _ => tx1_5 F
  | 6, _ => tx1_6 F
  | 7, _ => tx1_7 F
  | 8, _ => tx1_8 F
  | i + 9, h => absurd h (by omega)
theorem tx1_plan : planOf (regionOps Tryd.f6 1) (upto 9) = [(some 3, 0), (some 4, 1), (some 5, 2), (some 6, 3), (some 7, 4), (some 8, 5), (some 9, 6), (some 10, 7), (some 2, 8)] := by kernel_rfl
theorem tx1_wp {id : Nat} {Q : Exit → Act → World → Prop} (F : Tx1 a0 w0 base B1 S N E t) (hb : base ≤ w0.heap.size)
    (hq : ∀ (u : Nat → Value) (W : World), u 8 = .bool true → Below base w0 W → base ≤ W.heap.size → Q .normal (putL (planOf (regionOps Tryd.f6 1) (upto 9)) u a0) W) :
    (Code.region id (regionOps Tryd.f6 1) true).wp Tryd.prog Q a0 w0 := by
  refine wp_plan_cl 9 0 (tx1Cs S t) tx1_ok (by kernel_rfl) hb (tx1_all F) fun u W hI1 hI2 hR => ?_
  refine ⟨by kernel_rfl, hq u W ?_ hI1 hI2⟩
  obtain ⟨c, hc, h⟩ := hR 8 (of_decide_eq_true (by kernel_rfl)) (by decide)
  cases hc
  exact h
set_option maxHeartbeats 4000000 in
set_option maxRecDepth 100000 in
theorem texts_any {N : Nat} {E : Nat → Addr} (S : Nat) (oS : Ok S) (w : World) (hE : Errs N E w) (hN : N ≤ w.heap.size) :
    Calls Tryd.prog 6 #[sv S] w fun e w' => e = .returned (.bool true) ∧ Below w.heap.size w w' := by
  show Calls Tryd.prog 6 #[.agg #[.int .u64 (word S 0), .int .u64 (word S 1), .int .u64 (word S 2), .int .u64 (word S 3)]] w _
  have hE' := Lib.hid hE
  clear hE
  obtain ⟨t, ht⟩ : ∃ t : ByteArray, t = ⟨(txt S).toArray⟩ := ⟨_, rfl⟩
  have hT1 := Lib.hid (show ∀ W, Calls Tryd.prog 35 #[sv S] W fun e w' => e = .returned (.string t) ∧ Below W.heap.size W w' from fun W => by rw [ht]; exact Text_any S oS W)
  have hT2 := Lib.hid (show ∀ W, Calls Tryd.prog 36 #[sv S] W fun e w' => e = .returned (.string t) ∧ Below W.heap.size W w' from fun W => by rw [ht]; exact r5Text_any S W)
  clear ht
  have i1 := IsSet.new' 24 w S _ rfl
  have b1 := (Below.refl w.heap.size w).alloc (Nat.le_refl _) (.cells #[.int .u64 (word S 0), .int .u64 (word S 1), .int .u64 (word S 2), .int .u64 (word S 3)] 24)
  have i1' := Lib.hid i1
  have b1' := Lib.hid b1
  clear i1 b1
  go_enter Tryd.func6, Tryd.ntmps6
  go_wp2_with fail
  refine wp_region_swap (o' := regionOps Tryd.f6 1) (by kernel_rfl) ?_
  refine tx1_wp (base := w.heap.size + 1) (B1 := w.heap.size) (S := S) (N := N) (E := E) (t := t) ⟨by rfl, by rfl, i1'.out, by omega, hT1.out, hT2.out, hE'.out.below b1'.out hN, by omega⟩ (by simp) ?_
  intro u W e8 bW hsz
  have j4 := b1'.out.trans (bW.mono (by omega))
  rw [tx1_plan]
  simp only [putL, Act.put, List.setIfInBounds_toArray, List.set_cons_succ, List.set_cons_zero, e8]
  go_wp2_with fail
  go_ret
  exact ⟨rfl, j4⟩
end Go.Proofs.YteeopjgfiojoiaaDoor
