/- pidginref5.Bracket's statement that draws its order: a range put to the set. Conditions: the set lies in memory. -/
import Derived.Test.YteeopjgfiojoiaaDoorPln
import Derived.Test.YteeopjgfiojoiaaDoorSetR
namespace Go.Proofs.YteeopjgfiojoiaaDoor
open Go Go.RowKit SN

structure Rb31 (a0 : Act) (w0 : World) (base B S c d : Nat) : Prop where
  hz : a0.tmps.size = 183
  h9 : a0.eval (.tmp 9) = .pointer (some ⟨B, 0, none⟩)
  h14 : a0.eval (.tmp 14) = .int .i64 c
  h19 : a0.eval (.tmp 19) = .int .i64 d
  b9 : IsSet 24 w0 B S
  l9 : B < base
  hc : c < 256
  hd : d < 256
variable {a0 : Act} {w0 : World} {base B S c d : Nat}
theorem conv_i8 (c : Nat) (hc : c < 256) (w : World) : (convert 3 5 (.int .i64 c)).run Tryd.prog w = .ok (.int .u8 c) w := by
  have h : (convert 3 5 (.int .i64 c)).run Tryd.prog w = .ok (.int .u8 (IntKind.u8.wrap c)) w := by kernel_rfl
  rw [h, show IntKind.u8.wrap (c : Int) = c by rw [IntKind.wrap_u8]; omega]
def rb31Cs (S c d : Nat) : List Claim := [.val (sv (S)), .val (.int .i64 (c)), .val (.int .u8 (c)), .val (.int .i64 (d)), .val (.int .u8 (d)), .val (sv (rng c d)), .val (sv (S ||| rng c d))]
theorem rb31_ok : planOk .any (regionOps Tryd.f43 31) (upto 7) = true := by kernel_rfl
theorem rb31_0 (F : Rb31 a0 w0 base B S c d) : PO (regionOps Tryd.f43 31) 7 a0 base w0 (rb31Cs S c d) 0 := by
  intro o ho u W hI hR
  obtain ⟨e1, e2, e3⟩ := ob_op ho (show ((regionOps Tryd.f43 31)[0]?).map (fun o => (o.op, o.dst, o.guard)) = some (.load 24 (.tmp 9), some 175, none) by kernel_rfl)
  rw [if_pos (plan_free e3 _)]
  intro K hK
  have x0 := ev_base (u := u) rb31_ok (by kernel_rfl) F.h9
  exact opw_load_set e1 x0 (F.b9.below hI.1 F.l9) (hK _ _ ⟨_, rfl, rfl⟩ hI (Below.refl _ _))
theorem rb31_1 (F : Rb31 a0 w0 base B S c d) : PO (regionOps Tryd.f43 31) 7 a0 base w0 (rb31Cs S c d) 1 := by
  intro o ho u W hI hR
  obtain ⟨e1, e2, e3⟩ := ob_op ho (show ((regionOps Tryd.f43 31)[1]?).map (fun o => (o.op, o.dst, o.guard)) = some (.move (.tmp 14), some 176, none) by kernel_rfl)
  rw [if_pos (plan_free e3 _)]
  intro K hK
  have x0 := ev_base (u := u) rb31_ok (by kernel_rfl) F.h14
  exact opw_move e1 x0 (hK _ _ ⟨_, rfl, rfl⟩ hI (Below.refl _ _))
theorem rb31_2 (F : Rb31 a0 w0 base B S c d) : PO (regionOps Tryd.f43 31) 7 a0 base w0 (rb31Cs S c d) 2 := by
  intro o ho u W hI hR
  obtain ⟨e1, e2, e3⟩ := ob_op ho (show ((regionOps Tryd.f43 31)[2]?).map (fun o => (o.op, o.dst, o.guard)) = some (.convert 3 5 (.tmp 176), some 177, none) by kernel_rfl)
  rw [if_pos (plan_free e3 _)]
  intro K hK
  have x0 := ev_val (v := .int .i64 (c)) (cs := (rb31Cs S c d)) rb31_ok hR ho (j := 1) (t := 176) (by rw [F.hz]; kernel_rfl) rfl
  exact opw_convert e1 x0 (conv_i8 c F.hc W) (hK _ _ ⟨_, rfl, rfl⟩ hI (Below.refl _ _))
theorem rb31_3 (F : Rb31 a0 w0 base B S c d) : PO (regionOps Tryd.f43 31) 7 a0 base w0 (rb31Cs S c d) 3 := by
  intro o ho u W hI hR
  obtain ⟨e1, e2, e3⟩ := ob_op ho (show ((regionOps Tryd.f43 31)[3]?).map (fun o => (o.op, o.dst, o.guard)) = some (.move (.tmp 19), some 178, none) by kernel_rfl)
  rw [if_pos (plan_free e3 _)]
  intro K hK
  have x0 := ev_base (u := u) rb31_ok (by kernel_rfl) F.h19
  exact opw_move e1 x0 (hK _ _ ⟨_, rfl, rfl⟩ hI (Below.refl _ _))
theorem rb31_4 (F : Rb31 a0 w0 base B S c d) : PO (regionOps Tryd.f43 31) 7 a0 base w0 (rb31Cs S c d) 4 := by
  intro o ho u W hI hR
  obtain ⟨e1, e2, e3⟩ := ob_op ho (show ((regionOps Tryd.f43 31)[4]?).map (fun o => (o.op, o.dst, o.guard)) = some (.convert 3 5 (.tmp 178), some 179, none) by kernel_rfl)
  rw [if_pos (plan_free e3 _)]
  intro K hK
  have x0 := ev_val (v := .int .i64 (d)) (cs := (rb31Cs S c d)) rb31_ok hR ho (j := 3) (t := 178) (by rw [F.hz]; kernel_rfl) rfl
  exact opw_convert e1 x0 (conv_i8 d F.hd W) (hK _ _ ⟨_, rfl, rfl⟩ hI (Below.refl _ _))
theorem rb31_5 (F : Rb31 a0 w0 base B S c d) : PO (regionOps Tryd.f43 31) 7 a0 base w0 (rb31Cs S c d) 5 := by
  intro o ho u W hI hR
  obtain ⟨e1, e2, e3⟩ := ob_op ho (show ((regionOps Tryd.f43 31)[5]?).map (fun o => (o.op, o.dst, o.guard)) = some (.call { callee := .value (.func 24), args := #[(.tmp 177), (.tmp 179)], argTypes := #[5, 5] }, some 180, none) by kernel_rfl)
  rw [if_pos (plan_free e3 _)]
  intro K hK
  have x0 := ev_val (v := .int .u8 (c)) (cs := (rb31Cs S c d)) rb31_ok hR ho (j := 2) (t := 177) (by rw [F.hz]; kernel_rfl) rfl
  have x1 := ev_val (v := .int .u8 (d)) (cs := (rb31Cs S c d)) rb31_ok hR ho (j := 4) (t := 179) (by rw [F.hz]; kernel_rfl) rfl
  refine opw_call e1 (vs := #[.int .u8 c, .int .u8 d]) (by simp only [List.map_toArray, List.map_cons, List.map_nil, x0, x1]) Tryd.func24 (by kernel_rfl) (by kernel_rfl) (r5Range_any c d W) ?_
  rintro e W' ⟨rfl, b⟩
  exact ⟨_, rfl, hK _ _ ⟨_, rfl, rfl⟩ (hI.step b) b⟩
theorem rb31_6 (F : Rb31 a0 w0 base B S c d) : PO (regionOps Tryd.f43 31) 7 a0 base w0 (rb31Cs S c d) 6 := by
  intro o ho u W hI hR
  obtain ⟨e1, e2, e3⟩ := ob_op ho (show ((regionOps Tryd.f43 31)[6]?).map (fun o => (o.op, o.dst, o.guard)) = some (.call { callee := .value (.func 28), args := #[(.tmp 175), (.tmp 180)], argTypes := #[24, 24] }, some 181, none) by kernel_rfl)
  rw [if_pos (plan_free e3 _)]
  intro K hK
  have x0 := ev_val (v := sv (S)) (cs := (rb31Cs S c d)) rb31_ok hR ho (j := 0) (t := 175) (by rw [F.hz]; kernel_rfl) rfl
  have x1 := ev_val (v := sv (rng c d)) (cs := (rb31Cs S c d)) rb31_ok hR ho (j := 5) (t := 180) (by rw [F.hz]; kernel_rfl) rfl
  refine opw_call e1 (vs := #[sv S, sv (rng c d)]) (by simp only [List.map_toArray, List.map_cons, List.map_nil, x0, x1]) Tryd.func28 (by kernel_rfl) (by kernel_rfl) (r5Or_any S (rng c d) W) ?_
  rintro e W' ⟨rfl, b⟩
  exact ⟨_, rfl, hK _ _ ⟨_, rfl, rfl⟩ (hI.step b) b⟩
theorem rb31_all (F : Rb31 a0 w0 base B S c d) : ∀ i, i < 7 → PO (regionOps Tryd.f43 31) 7 a0 base w0 (rb31Cs S c d) i
  | 0, _ => rb31_0 F
  | 1, _ => rb31_1 F
  | 2, _ => rb31_2 F
  | 3, _ => rb31_3 F
  | 4, _ => rb31_4 F
  | 5, _ => rb31_5 F
  | 6, _ => rb31_6 F
  | i + 7, h => absurd h (by omega)
theorem rb31_plan : planOf (regionOps Tryd.f43 31) (upto 7) = [(some 175, 0), (some 176, 1), (some 177, 2), (some 178, 3), (some 179, 4), (some 180, 5), (some 181, 6)] := by kernel_rfl
theorem rb31_wp {id : Nat} {Q : Exit → Act → World → Prop} (F : Rb31 a0 w0 base B S c d) (hb : base = w0.heap.size)
    (hq : ∀ (u : Nat → Value) (W : World), w0.grownBy W (some B) → IsSet 24 W B (S ||| rng c d) → base ≤ W.heap.size → Q .normal (putL (planOf (regionOps Tryd.f43 31) (upto 7)) u a0) W) :
    (Code.region id (regionOps Tryd.f43 31) true).wp Tryd.prog Q a0 w0 :=
  wp_plan_store 7 0 (rb31Cs S c d) rb31_ok (by kernel_rfl) (Nat.le_of_eq hb) (rb31_all F) (by kernel_rfl) 9 181 B S (S ||| rng c d) 6 (by kernel_rfl) (by kernel_rfl) (by kernel_rfl) F.h9 (by kernel_rfl) (by decide) (by rw [F.hz]; decide) rfl F.l9 F.b9 (fun _ _ h => ⟨by kernel_rfl, h⟩) hq hb
end Go.Proofs.YteeopjgfiojoiaaDoor
