/- SetBack's statements that draw their order: a range or a byte put to the set. Conditions: the set lies in memory. -/
import Derived.Test.YteeopjgfiojoiaaDoorPln
import Derived.Test.YteeopjgfiojoiaaDoorWRanges
namespace Go.Proofs.YteeopjgfiojoiaaDoor
open Go Go.RowKit SN

structure Bk12 (a0 : Act) (w0 : World) (base B S c d : Nat) : Prop where
  hz : a0.tmps.size = 97
  h6 : a0.eval (.tmp 6) = .pointer (some ⟨B, 0, none⟩)
  h8 : a0.eval (.tmp 8) = .int .u8 c
  h9 : a0.eval (.tmp 9) = .int .u8 d
  b6 : IsSet 24 w0 B S
  l6 : B < base
  hc : c < 256
  hd : d < 256
structure Bk14 (a0 : Act) (w0 : World) (base B S c : Nat) : Prop where
  hz : a0.tmps.size = 97
  h6 : a0.eval (.tmp 6) = .pointer (some ⟨B, 0, none⟩)
  h8 : a0.eval (.tmp 8) = .int .u8 c
  b6 : IsSet 24 w0 B S
  l6 : B < base
  hc : c < 256
variable {a0 : Act} {w0 : World} {base B S c d : Nat}
theorem toB_one (c : Nat) : (toB [c]).size = 1 := rfl
theorem run_build1 (c : Nat) (w : World) : (Instr.buildSlice 36 1 #[(0, .int .u8 c)]).run Tryd.prog w = .ok (.slice (some ⟨w.heap.size, 0, none⟩) 1 1) (w.alloc (.cells #[.int .u8 c] 5)) := by kernel_rfl
theorem hasB_one (c : Nat) (hc : c < 256) (w : World) : HasB (w.alloc (.cells #[.int .u8 c] 5)) (some ⟨w.heap.size, 0, none⟩) (toB [c]) := by
  refine .inr ⟨_, 0, rfl, fun i hi => ?_, by simp⟩
  have hi0 : i = 0 := by rw [toB_one] at hi; omega
  subst hi0
  rw [toB_get [c] (fun x hx => by simp at hx; omega) 0 hi]
  exact row_cell (heap_alloc_new w _) rfl

def bk12Cs (S c d : Nat) : List Claim := [.val (sv (S)), .val (.int .u8 (c)), .val (.int .u8 (d)), .val (sv (rng c d)), .two (S) (rng c d), .val (sv (S ||| rng c d))]
theorem bk12_ok : planOk .any (regionOps Tryd.f7 12) (upto 6) = true := by kernel_rfl
theorem bk12_0 (F : Bk12 a0 w0 base B S c d) : PO (regionOps Tryd.f7 12) 6 a0 base w0 (bk12Cs S c d) 0 := by
  intro o ho u W hI hR
  obtain ⟨e1, e2, e3⟩ := ob_op ho (show ((regionOps Tryd.f7 12)[0]?).map (fun o => (o.op, o.dst, o.guard)) = some (.load 24 (.tmp 6), some 42, none) by kernel_rfl)
  rw [if_pos (plan_free e3 _)]
  intro K hK
  have x0 := ev_base (u := u) bk12_ok (by kernel_rfl) F.h6
  exact opw_load_set e1 x0 (F.b6.below hI.1 F.l6) (hK _ _ ⟨_, rfl, rfl⟩ hI (Below.refl _ _))
theorem bk12_1 (F : Bk12 a0 w0 base B S c d) : PO (regionOps Tryd.f7 12) 6 a0 base w0 (bk12Cs S c d) 1 := by
  intro o ho u W hI hR
  obtain ⟨e1, e2, e3⟩ := ob_op ho (show ((regionOps Tryd.f7 12)[1]?).map (fun o => (o.op, o.dst, o.guard)) = some (.move (.tmp 8), some 43, none) by kernel_rfl)
  rw [if_pos (plan_free e3 _)]
  intro K hK
  have x0 := ev_base (u := u) bk12_ok (by kernel_rfl) F.h8
  exact opw_move e1 x0 (hK _ _ ⟨_, rfl, rfl⟩ hI (Below.refl _ _))
theorem bk12_2 (F : Bk12 a0 w0 base B S c d) : PO (regionOps Tryd.f7 12) 6 a0 base w0 (bk12Cs S c d) 2 := by
  intro o ho u W hI hR
  obtain ⟨e1, e2, e3⟩ := ob_op ho (show ((regionOps Tryd.f7 12)[2]?).map (fun o => (o.op, o.dst, o.guard)) = some (.move (.tmp 9), some 44, none) by kernel_rfl)
  rw [if_pos (plan_free e3 _)]
  intro K hK
  have x0 := ev_base (u := u) bk12_ok (by kernel_rfl) F.h9
  exact opw_move e1 x0 (hK _ _ ⟨_, rfl, rfl⟩ hI (Below.refl _ _))
theorem bk12_3 (F : Bk12 a0 w0 base B S c d) : PO (regionOps Tryd.f7 12) 6 a0 base w0 (bk12Cs S c d) 3 := by
  intro o ho u W hI hR
  obtain ⟨e1, e2, e3⟩ := ob_op ho (show ((regionOps Tryd.f7 12)[3]?).map (fun o => (o.op, o.dst, o.guard)) = some (.call { callee := .value (.func 23), args := #[(.tmp 43), (.tmp 44)], argTypes := #[5, 5] }, some 45, none) by kernel_rfl)
  rw [if_pos (plan_free e3 _)]
  intro K hK
  have x0 := ev_val (v := .int .u8 (c)) (cs := (bk12Cs S c d)) bk12_ok hR ho (j := 1) (t := 43) (by rw [F.hz]; kernel_rfl) rfl
  have x1 := ev_val (v := .int .u8 (d)) (cs := (bk12Cs S c d)) bk12_ok hR ho (j := 2) (t := 44) (by rw [F.hz]; kernel_rfl) rfl
  refine opw_call e1 (vs := #[.int .u8 c, .int .u8 d]) (by simp only [List.map_toArray, List.map_cons, List.map_nil, x0, x1]) Tryd.func23 (by kernel_rfl) (by kernel_rfl) (Range_any c d F.hc F.hd W) ?_
  rintro e W' ⟨rfl, b⟩
  exact ⟨_, rfl, hK _ _ ⟨_, rfl, rfl⟩ (hI.step b) b⟩
theorem bk12_4 (F : Bk12 a0 w0 base B S c d) : PO (regionOps Tryd.f7 12) 6 a0 base w0 (bk12Cs S c d) 4 := by
  intro o ho u W hI hR
  obtain ⟨e1, e2, e3⟩ := ob_op ho (show ((regionOps Tryd.f7 12)[4]?).map (fun o => (o.op, o.dst, o.guard)) = some (.buildSlice 79 2 #[(0, (.tmp 42)), (1, (.tmp 45))], some 46, none) by kernel_rfl)
  rw [if_pos (plan_free e3 _)]
  intro K hK
  have x0 := ev_val (v := sv (S)) (cs := (bk12Cs S c d)) bk12_ok hR ho (j := 0) (t := 42) (by rw [F.hz]; kernel_rfl) rfl
  have x1 := ev_val (v := sv (rng c d)) (cs := (bk12Cs S c d)) bk12_ok hR ho (j := 3) (t := 45) (by rw [F.hz]; kernel_rfl) rfl
  have bb : Below W.heap.size W (W.alloc (.cells (scs2 (S) (rng c d)) 24)) := (Below.refl _ _).alloc (Nat.le_refl _) _
  exact opw_two e1 x0 x1 (hK _ _ ⟨_, rfl, W.heap.size, rfl, heap_alloc_new W _⟩ (hI.step bb) bb)
theorem bk12_5 (F : Bk12 a0 w0 base B S c d) : PO (regionOps Tryd.f7 12) 6 a0 base w0 (bk12Cs S c d) 5 := by
  intro o ho u W hI hR
  obtain ⟨e1, e2, e3⟩ := ob_op ho (show ((regionOps Tryd.f7 12)[5]?).map (fun o => (o.op, o.dst, o.guard)) = some (.call { callee := .value (.func 27), args := #[(.tmp 46)], argTypes := #[79] }, some 47, none) by kernel_rfl)
  rw [if_pos (plan_free e3 _)]
  intro K hK
  obtain ⟨x0, cx0, kx0, lx0⟩ := ev_cl bk12_ok hR ho (j := 4) (t := 46) (by rw [F.hz]; kernel_rfl)
  cases kx0
  obtain ⟨b0, ex0, hb0⟩ := lx0
  rw [ex0] at x0
  refine opw_call e1 (vs := #[.slice (some ⟨b0, 0, none⟩) 2 2]) (by simp only [List.map_toArray, List.map_cons, List.map_nil, x0]) Tryd.func27 (by kernel_rfl) (by kernel_rfl) (union_at hb0) ?_
  rintro e W' ⟨rfl, b⟩
  exact ⟨_, rfl, hK _ _ ⟨_, rfl, congrArg (fun S => sv S) (union2_eq (S) (rng c d))⟩ (hI.step b) b⟩
theorem bk12_all (F : Bk12 a0 w0 base B S c d) : ∀ i, i < 6 → PO (regionOps Tryd.f7 12) 6 a0 base w0 (bk12Cs S c d) i
  | 0, _ => bk12_0 F
  | 1, _ => bk12_1 F
  | 2, _ => bk12_2 F
  | 3, _ => bk12_3 F
  | 4, _ => bk12_4 F
  | 5, _ => bk12_5 F
  | i + 6, h => absurd h (by omega)
theorem bk12_plan : planOf (regionOps Tryd.f7 12) (upto 6) = [(some 42, 0), (some 43, 1), (some 44, 2), (some 45, 3), (some 46, 4), (some 47, 5)] := by kernel_rfl
theorem bk12_wp {id : Nat} {Q : Exit → Act → World → Prop} (F : Bk12 a0 w0 base B S c d) (hb : base = w0.heap.size)
    (hq : ∀ (u : Nat → Value) (W : World), w0.grownBy W (some B) → IsSet 24 W B (S ||| rng c d) → base ≤ W.heap.size → Q .normal (putL (planOf (regionOps Tryd.f7 12) (upto 6)) u a0) W) :
    (Code.region id (regionOps Tryd.f7 12) true).wp Tryd.prog Q a0 w0 :=
  wp_plan_store 6 0 (bk12Cs S c d) bk12_ok (by kernel_rfl) (Nat.le_of_eq hb) (bk12_all F) (by kernel_rfl) 6 47 B S (S ||| rng c d) 5 (by kernel_rfl) (by kernel_rfl) (by kernel_rfl) F.h6 (by kernel_rfl) (by decide) (by rw [F.hz]; decide) rfl F.l6 F.b6 (fun _ _ h => ⟨by kernel_rfl, h⟩) hq hb

def bk14Cs (S c : Nat) : List Claim := [.val (sv (S)), .val (.int .u8 (c)), .bytes ([c]), .val (.string (toB ([c]))), .val (sv (ofL (toB [c]).data.toList)), .two (S) (ofL (toB [c]).data.toList), .val (sv (S ||| ofL (toB [c]).data.toList))]
theorem bk14_ok : planOk .any (regionOps Tryd.f7 14) (upto 7) = true := by kernel_rfl
theorem bk14_0 (F : Bk14 a0 w0 base B S c) : PO (regionOps Tryd.f7 14) 7 a0 base w0 (bk14Cs S c) 0 := by
  intro o ho u W hI hR
  obtain ⟨e1, e2, e3⟩ := ob_op ho (show ((regionOps Tryd.f7 14)[0]?).map (fun o => (o.op, o.dst, o.guard)) = some (.load 24 (.tmp 6), some 52, none) by kernel_rfl)
  rw [if_pos (plan_free e3 _)]
  intro K hK
  have x0 := ev_base (u := u) bk14_ok (by kernel_rfl) F.h6
  exact opw_load_set e1 x0 (F.b6.below hI.1 F.l6) (hK _ _ ⟨_, rfl, rfl⟩ hI (Below.refl _ _))
theorem bk14_1 (F : Bk14 a0 w0 base B S c) : PO (regionOps Tryd.f7 14) 7 a0 base w0 (bk14Cs S c) 1 := by
  intro o ho u W hI hR
  obtain ⟨e1, e2, e3⟩ := ob_op ho (show ((regionOps Tryd.f7 14)[1]?).map (fun o => (o.op, o.dst, o.guard)) = some (.move (.tmp 8), some 53, none) by kernel_rfl)
  rw [if_pos (plan_free e3 _)]
  intro K hK
  have x0 := ev_base (u := u) bk14_ok (by kernel_rfl) F.h8
  exact opw_move e1 x0 (hK _ _ ⟨_, rfl, rfl⟩ hI (Below.refl _ _))
theorem bk14_2 (F : Bk14 a0 w0 base B S c) : PO (regionOps Tryd.f7 14) 7 a0 base w0 (bk14Cs S c) 2 := by
  intro o ho u W hI hR
  obtain ⟨e1, e2, e3⟩ := ob_op ho (show ((regionOps Tryd.f7 14)[2]?).map (fun o => (o.op, o.dst, o.guard)) = some (.buildSlice 36 1 #[(0, (.tmp 53))], some 54, none) by kernel_rfl)
  rw [if_pos (plan_free e3 _)]
  intro K hK
  have x0 := ev_val (v := .int .u8 (c)) (cs := (bk14Cs S c)) bk14_ok hR ho (j := 1) (t := 53) (by rw [F.hz]; kernel_rfl) rfl
  have bb : Below W.heap.size W (W.alloc (.cells #[.int .u8 c] 5)) := (Below.refl _ _).alloc (Nat.le_refl _) _
  exact opw_buildSlice e1 (vs := #[(0, .int .u8 c)]) (by simp only [List.map_toArray, List.map_cons, List.map_nil, x0]) (run_build1 c W) (hK _ _ ⟨_, rfl, some ⟨W.heap.size, 0, none⟩, 1, rfl, Nat.le_refl _, hasB_one c F.hc W⟩ (hI.step bb) bb)
theorem bk14_3 (F : Bk14 a0 w0 base B S c) : PO (regionOps Tryd.f7 14) 7 a0 base w0 (bk14Cs S c) 3 := by
  intro o ho u W hI hR
  obtain ⟨e1, e2, e3⟩ := ob_op ho (show ((regionOps Tryd.f7 14)[3]?).map (fun o => (o.op, o.dst, o.guard)) = some (.convert 36 9 (.tmp 54), some 55, none) by kernel_rfl)
  rw [if_pos (plan_free e3 _)]
  intro K hK
  obtain ⟨x0, cx0, kx0, lx0⟩ := ev_cl bk14_ok hR ho (j := 2) (t := 54) (by rw [F.hz]; kernel_rfl)
  cases kx0
  obtain ⟨p0, cap0, ex0, hc0, hb0⟩ := lx0
  rw [ex0] at x0
  exact opw_conv e1 x0 hb0 (hK _ _ ⟨_, rfl, rfl⟩ hI (Below.refl _ _))
theorem bk14_4 (F : Bk14 a0 w0 base B S c) : PO (regionOps Tryd.f7 14) 7 a0 base w0 (bk14Cs S c) 4 := by
  intro o ho u W hI hR
  obtain ⟨e1, e2, e3⟩ := ob_op ho (show ((regionOps Tryd.f7 14)[4]?).map (fun o => (o.op, o.dst, o.guard)) = some (.call { callee := .value (.func 22), args := #[(.tmp 55)], argTypes := #[9] }, some 56, none) by kernel_rfl)
  rw [if_pos (plan_free e3 _)]
  intro K hK
  have x0 := ev_val (v := .string (toB ([c]))) (cs := (bk14Cs S c)) bk14_ok hR ho (j := 3) (t := 55) (by rw [F.hz]; kernel_rfl) rfl
  refine opw_call e1 (vs := #[.string (toB [c])]) (by simp only [List.map_toArray, List.map_cons, List.map_nil, x0]) Tryd.func22 (by kernel_rfl) (by kernel_rfl) (Of_any (toB [c]) W (by rw [toB_one]; decide)) ?_
  rintro e W' ⟨rfl, b⟩
  exact ⟨_, rfl, hK _ _ ⟨_, rfl, rfl⟩ (hI.step b) b⟩
theorem bk14_5 (F : Bk14 a0 w0 base B S c) : PO (regionOps Tryd.f7 14) 7 a0 base w0 (bk14Cs S c) 5 := by
  intro o ho u W hI hR
  obtain ⟨e1, e2, e3⟩ := ob_op ho (show ((regionOps Tryd.f7 14)[5]?).map (fun o => (o.op, o.dst, o.guard)) = some (.buildSlice 79 2 #[(0, (.tmp 52)), (1, (.tmp 56))], some 57, none) by kernel_rfl)
  rw [if_pos (plan_free e3 _)]
  intro K hK
  have x0 := ev_val (v := sv (S)) (cs := (bk14Cs S c)) bk14_ok hR ho (j := 0) (t := 52) (by rw [F.hz]; kernel_rfl) rfl
  have x1 := ev_val (v := sv (ofL (toB [c]).data.toList)) (cs := (bk14Cs S c)) bk14_ok hR ho (j := 4) (t := 56) (by rw [F.hz]; kernel_rfl) rfl
  have bb : Below W.heap.size W (W.alloc (.cells (scs2 (S) (ofL (toB [c]).data.toList)) 24)) := (Below.refl _ _).alloc (Nat.le_refl _) _
  exact opw_two e1 x0 x1 (hK _ _ ⟨_, rfl, W.heap.size, rfl, heap_alloc_new W _⟩ (hI.step bb) bb)
theorem bk14_6 (F : Bk14 a0 w0 base B S c) : PO (regionOps Tryd.f7 14) 7 a0 base w0 (bk14Cs S c) 6 := by
  intro o ho u W hI hR
  obtain ⟨e1, e2, e3⟩ := ob_op ho (show ((regionOps Tryd.f7 14)[6]?).map (fun o => (o.op, o.dst, o.guard)) = some (.call { callee := .value (.func 27), args := #[(.tmp 57)], argTypes := #[79] }, some 58, none) by kernel_rfl)
  rw [if_pos (plan_free e3 _)]
  intro K hK
  obtain ⟨x0, cx0, kx0, lx0⟩ := ev_cl bk14_ok hR ho (j := 5) (t := 57) (by rw [F.hz]; kernel_rfl)
  cases kx0
  obtain ⟨b0, ex0, hb0⟩ := lx0
  rw [ex0] at x0
  refine opw_call e1 (vs := #[.slice (some ⟨b0, 0, none⟩) 2 2]) (by simp only [List.map_toArray, List.map_cons, List.map_nil, x0]) Tryd.func27 (by kernel_rfl) (by kernel_rfl) (union_at hb0) ?_
  rintro e W' ⟨rfl, b⟩
  exact ⟨_, rfl, hK _ _ ⟨_, rfl, congrArg (fun S => sv S) (union2_eq (S) (ofL (toB [c]).data.toList))⟩ (hI.step b) b⟩
theorem bk14_all (F : Bk14 a0 w0 base B S c) : ∀ i, i < 7 → PO (regionOps Tryd.f7 14) 7 a0 base w0 (bk14Cs S c) i
  | 0, _ => bk14_0 F
  | 1, _ => bk14_1 F
  | 2, _ => bk14_2 F
  | 3, _ => bk14_3 F
  | 4, _ => bk14_4 F
  | 5, _ => bk14_5 F
  | 6, _ => bk14_6 F
  | i + 7, h => absurd h (by omega)
theorem bk14_plan : planOf (regionOps Tryd.f7 14) (upto 7) = [(some 52, 0), (some 53, 1), (some 54, 2), (some 55, 3), (some 56, 4), (some 57, 5), (some 58, 6)] := by kernel_rfl
theorem bk14_wp {id : Nat} {Q : Exit → Act → World → Prop} (F : Bk14 a0 w0 base B S c) (hb : base = w0.heap.size)
    (hq : ∀ (u : Nat → Value) (W : World), w0.grownBy W (some B) → IsSet 24 W B (S ||| ofL (toB [c]).data.toList) → base ≤ W.heap.size → Q .normal (putL (planOf (regionOps Tryd.f7 14) (upto 7)) u a0) W) :
    (Code.region id (regionOps Tryd.f7 14) true).wp Tryd.prog Q a0 w0 :=
  wp_plan_store 7 0 (bk14Cs S c) bk14_ok (by kernel_rfl) (Nat.le_of_eq hb) (bk14_all F) (by kernel_rfl) 6 58 B S (S ||| ofL (toB [c]).data.toList) 6 (by kernel_rfl) (by kernel_rfl) (by kernel_rfl) F.h6 (by kernel_rfl) (by decide) (by rw [F.hz]; decide) rfl F.l6 F.b6 (fun _ _ h => ⟨by kernel_rfl, h⟩) hq hb

end Go.Proofs.YteeopjgfiojoiaaDoor
