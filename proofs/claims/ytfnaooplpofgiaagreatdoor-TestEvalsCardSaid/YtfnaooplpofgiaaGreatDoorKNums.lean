/- The walk over TestNumbers: two texts, compared as numbers in each way. Conditions: the errors' variables hold their values. -/
import Derived.Test.YtfnaooplpofgiaaGreatDoorKUn
import Derived.Test.YtfnaooplpofgiaaGreatDoorKFlt
import Derived.WalkMore
import Derived.OwnWalk
import Derived.Handy
import Derived.Outline
namespace Go.Proofs.YtfnaooplpofgiaaGreatDoor
open Go Go.RowKit SN

structure Nm6 (a0 : Act) (w0 : World) (base B : Nat) (z : Bool) (c p l : Int) (v : Value) : Prop where
  hz : a0.tmps.size = 44
  h7 : a0.eval (.tmp 7) = .bool z
  h8 : a0.eval (.tmp 8) = v
  h9 : a0.eval (.tmp 9) = .bool z
  h10 : a0.eval (.tmp 10) = .pointer (some ⟨B, 0, none⟩)
  bF : IsF w0 B c p l
  lF : B < base
  hT : ∀ W, Below base w0 W → base ≤ W.heap.size → Calls Tryz.prog 9 #[v] W fun e w' => e = .returned (fv c p l) ∧ Below W.heap.size W w'
section
variable {a0 : Act} {w0 : World} {base B : Nat} {z : Bool} {c p l : Int} {v : Value}
def nm6Cs (z : Bool) (c p l : Int) (v : Value) : List Claim := [.val (.bool z), .val (.bool z), .val (.bool false), .val (.bool false), .val (v), .val (fv c p l), .val (fv c p l), .val (.bool false), .val (.bool false)]
theorem nm6_ok : planOk .any (regionOps Tryz.f3 6) (upto 9) = true := by kernel_rfl
theorem nm6_0 (F : Nm6 a0 w0 base B z c p l v) : PO (regionOps Tryz.f3 6) 9 a0 base w0 (nm6Cs z c p l v) 0 := by
  intro o ho u W hI hR
  obtain ⟨e1, e2, e3⟩ := ob_op ho (show ((regionOps Tryz.f3 6)[0]?).map (fun o => (o.op, o.dst, o.guard)) = some (.move (.tmp 7), some 33, none) by kernel_rfl)
  rw [if_pos (plan_free e3 _)]
  intro K hK
  have x0 := ev_base (u := u) nm6_ok (by kernel_rfl) F.h7
  exact opw_move e1 x0 (hK _ _ ⟨_, rfl, rfl⟩ hI (Below.refl _ _))
theorem nm6_1 (F : Nm6 a0 w0 base B z c p l v) : PO (regionOps Tryz.f3 6) 9 a0 base w0 (nm6Cs z c p l v) 1 := by
  intro o ho u W hI hR
  obtain ⟨e1, e2, e3⟩ := ob_op ho (show ((regionOps Tryz.f3 6)[1]?).map (fun o => (o.op, o.dst, o.guard)) = some (.move (.tmp 9), some 34, none) by kernel_rfl)
  rw [if_pos (plan_free e3 _)]
  intro K hK
  have x0 := ev_base (u := u) nm6_ok (by kernel_rfl) F.h9
  exact opw_move e1 x0 (hK _ _ ⟨_, rfl, rfl⟩ hI (Below.refl _ _))
theorem nm6_2 (F : Nm6 a0 w0 base B z c p l v) : PO (regionOps Tryz.f3 6) 9 a0 base w0 (nm6Cs z c p l v) 2 := by
  intro o ho u W hI hR
  obtain ⟨e1, e2, e3⟩ := ob_op ho (show ((regionOps Tryz.f3 6)[2]?).map (fun o => (o.op, o.dst, o.guard)) = some (.binOp .neq 4 (.tmp 33) (.tmp 34) 4, some 35, none) by kernel_rfl)
  rw [if_pos (plan_free e3 _)]
  intro K hK
  have x0 := ev_val (v := .bool z) (cs := (nm6Cs z c p l v)) nm6_ok hR ho (j := 0) (t := 33) (by rw [F.hz]; kernel_rfl) rfl
  have x1 := ev_val (v := .bool z) (cs := (nm6Cs z c p l v)) nm6_ok hR ho (j := 1) (t := 34) (by rw [F.hz]; kernel_rfl) rfl
  exact opw_neb e1 x0 x1 (bne_self_eq_false _) (hK _ _ ⟨_, rfl, rfl⟩ hI (Below.refl _ _))
theorem nm6_3 (F : Nm6 a0 w0 base B z c p l v) : PO (regionOps Tryz.f3 6) 9 a0 base w0 (nm6Cs z c p l v) 3 := by
  intro o ho u W hI hR
  obtain ⟨e1, e2, e3⟩ := ob_op ho (show ((regionOps Tryz.f3 6)[3]?).map (fun o => (o.op, o.dst, o.guard)) = some (.move (.tmp 35), some 36, none) by kernel_rfl)
  rw [if_pos (plan_free e3 _)]
  intro K hK
  have x0 := ev_val (v := .bool false) (cs := (nm6Cs z c p l v)) nm6_ok hR ho (j := 2) (t := 35) (by rw [F.hz]; kernel_rfl) rfl
  exact opw_move e1 x0 (hK _ _ ⟨_, rfl, rfl⟩ hI (Below.refl _ _))
theorem nm6_4 (F : Nm6 a0 w0 base B z c p l v) : PO (regionOps Tryz.f3 6) 9 a0 base w0 (nm6Cs z c p l v) 4 := by
  intro o ho u W hI hR
  obtain ⟨e1, e2, e3⟩ := ob_op ho (show ((regionOps Tryz.f3 6)[4]?).map (fun o => (o.op, o.dst, o.guard)) = some (.move (.tmp 8), some 37, some (3, false)) by kernel_rfl)
  have xg := ev_val (v := .bool false) (cs := (nm6Cs z c p l v)) nm6_ok hR ho (j := 3) (t := 36) (by rw [F.hz]; kernel_rfl) rfl
  rw [if_pos (wanted_yes e3 (t := 36) (by kernel_rfl) xg)]
  intro K hK
  have x0 := ev_base (u := u) nm6_ok (by kernel_rfl) F.h8
  exact opw_move e1 x0 (hK _ _ ⟨_, rfl, rfl⟩ hI (Below.refl _ _))
theorem nm6_5 (F : Nm6 a0 w0 base B z c p l v) : PO (regionOps Tryz.f3 6) 9 a0 base w0 (nm6Cs z c p l v) 5 := by
  intro o ho u W hI hR
  obtain ⟨e1, e2, e3⟩ := ob_op ho (show ((regionOps Tryz.f3 6)[5]?).map (fun o => (o.op, o.dst, o.guard)) = some (.call { callee := .value (.func 9), args := #[(.tmp 37)], argTypes := #[24] }, some 38, some (3, false)) by kernel_rfl)
  have xg := ev_val (v := .bool false) (cs := (nm6Cs z c p l v)) nm6_ok hR ho (j := 3) (t := 36) (by rw [F.hz]; kernel_rfl) rfl
  rw [if_pos (wanted_yes e3 (t := 36) (by kernel_rfl) xg)]
  intro K hK
  have x0 := ev_val (v := v) (cs := (nm6Cs z c p l v)) nm6_ok hR ho (j := 4) (t := 37) (by rw [F.hz]; kernel_rfl) rfl
  refine opw_call e1 (vs := #[v]) (by simp only [List.map_toArray, List.map_cons, List.map_nil, x0]) Tryz.func9 (by kernel_rfl) (by kernel_rfl) (F.hT W hI.1 hI.2) ?_
  rintro e W' ⟨rfl, b⟩
  exact ⟨_, rfl, hK _ _ ⟨_, rfl, rfl⟩ (hI.step b) b⟩
theorem nm6_6 (F : Nm6 a0 w0 base B z c p l v) : PO (regionOps Tryz.f3 6) 9 a0 base w0 (nm6Cs z c p l v) 6 := by
  intro o ho u W hI hR
  obtain ⟨e1, e2, e3⟩ := ob_op ho (show ((regionOps Tryz.f3 6)[6]?).map (fun o => (o.op, o.dst, o.guard)) = some (.load 28 (.tmp 10), some 39, some (3, false)) by kernel_rfl)
  have xg := ev_val (v := .bool false) (cs := (nm6Cs z c p l v)) nm6_ok hR ho (j := 3) (t := 36) (by rw [F.hz]; kernel_rfl) rfl
  rw [if_pos (wanted_yes e3 (t := 36) (by kernel_rfl) xg)]
  intro K hK
  have x0 := ev_base (u := u) nm6_ok (by kernel_rfl) F.h10
  exact opw_load_flt e1 x0 (row_below F.bF hI.1 F.lF) (hK _ _ ⟨_, rfl, rfl⟩ hI (Below.refl _ _))
theorem nm6_7 (F : Nm6 a0 w0 base B z c p l v) : PO (regionOps Tryz.f3 6) 9 a0 base w0 (nm6Cs z c p l v) 7 := by
  intro o ho u W hI hR
  obtain ⟨e1, e2, e3⟩ := ob_op ho (show ((regionOps Tryz.f3 6)[7]?).map (fun o => (o.op, o.dst, o.guard)) = some (.binOp .neq 28 (.tmp 38) (.tmp 39) 28, some 40, some (3, false)) by kernel_rfl)
  have xg := ev_val (v := .bool false) (cs := (nm6Cs z c p l v)) nm6_ok hR ho (j := 3) (t := 36) (by rw [F.hz]; kernel_rfl) rfl
  rw [if_pos (wanted_yes e3 (t := 36) (by kernel_rfl) xg)]
  intro K hK
  have x0 := ev_val (v := fv c p l) (cs := (nm6Cs z c p l v)) nm6_ok hR ho (j := 5) (t := 38) (by rw [F.hz]; kernel_rfl) rfl
  have x1 := ev_val (v := fv c p l) (cs := (nm6Cs z c p l v)) nm6_ok hR ho (j := 6) (t := 39) (by rw [F.hz]; kernel_rfl) rfl
  exact opw_bin e1 x0 x1 (fltGuard _ _ _ c p l W) (neq_flt c p l W) (hK _ _ ⟨_, rfl, rfl⟩ hI (Below.refl _ _))
theorem nm6_8 (F : Nm6 a0 w0 base B z c p l v) : PO (regionOps Tryz.f3 6) 9 a0 base w0 (nm6Cs z c p l v) 8 := by
  intro o ho u W hI hR
  obtain ⟨e1, e2, e3⟩ := ob_op ho (show ((regionOps Tryz.f3 6)[8]?).map (fun o => (o.op, o.dst, o.guard)) = some (.pick (.tmp 36) (.const (.bool true)) (.tmp 40), some 41, none) by kernel_rfl)
  rw [if_pos (plan_free e3 _)]
  intro K hK
  have x0 := ev_val (v := .bool false) (cs := (nm6Cs z c p l v)) nm6_ok hR ho (j := 3) (t := 36) (by rw [F.hz]; kernel_rfl) rfl
  have x2 := ev_val (v := .bool false) (cs := (nm6Cs z c p l v)) nm6_ok hR ho (j := 7) (t := 40) (by rw [F.hz]; kernel_rfl) rfl
  exact opw_pickF e1 x0 x2 (hK _ _ ⟨_, rfl, rfl⟩ hI (Below.refl _ _))
theorem nm6_all (F : Nm6 a0 w0 base B z c p l v) : ∀ i, i < 9 → PO (regionOps Tryz.f3 6) 9 a0 base w0 (nm6Cs z c p l v) i
  | 0, _ => nm6_0 F
  | 1, _ => nm6_1 F
  | 2, _ => nm6_2 F
  | 3, _ => nm6_3 F
  | 4, _ => nm6_4 F
  | 5, _ => nm6_5 F
  | 6, _ => nm6_6 F
  | 7, _ => nm6_7 F
  | 8, _ => nm6_8 F
  | i + 9, h => absurd h (by omega)
theorem nm6_plan : planOf (regionOps Tryz.f3 6) (upto 9) = [(some 33, 0), (some 34, 1), (some 35, 2), (some 36, 3), (some 37, 4), (some 38, 5), (some 39, 6), (some 40, 7), (some 41, 8)] := by kernel_rfl
theorem nm6_wp {id : Nat} {Q : Exit → Act → World → Prop} (F : Nm6 a0 w0 base B z c p l v) (hb : base ≤ w0.heap.size)
    (hq : ∀ (u : Nat → Value) (W : World), u 8 = .bool false → Below base w0 W → base ≤ W.heap.size → Q .normal (putL (planOf (regionOps Tryz.f3 6) (upto 9)) u a0) W) :
    (Code.region id (regionOps Tryz.f3 6) true).wp Tryz.prog Q a0 w0 := by
  refine wp_plan_cl 9 0 (nm6Cs z c p l v) nm6_ok (by kernel_rfl) hb (nm6_all F) fun u W hI1 hI2 hR => ?_
  refine ⟨by kernel_rfl, hq u W ?_ hI1 hI2⟩
  obtain ⟨cc, hc, h⟩ := hR 8 (of_decide_eq_true (by kernel_rfl)) (by decide)
  cases hc
  exact h
end
/-- Nothing is there: no tree. -/
theorem unC_nil {N : Nat} {E : Nat → Addr} : UnC (.pointer none) (unP none) (fun W => Errs N E W ∧ N ≤ W.heap.size) := fun W s0 s1 hg =>
  unary_any none s0 s1 none (fun h => absurd rfl h) W ((tstat_nil s1 W hg.1 hg.2).mono (by
    rintro e w' ⟨v, rfl, ⟨S, P, rfl, -, -⟩, b⟩
    exact ⟨b, _, rfl⟩))
theorem runC_nil : RUnC (.pointer none) (unP none) (fun _ => True) := fun W s0 s1 k _ _ => runary_any none s0 s1 none k (fun _ => rfl) W (fun a h => by cases h)
theorem errs_keep {N : Nat} {E : Nat → Addr} : ∀ W W', (Errs N E W ∧ N ≤ W.heap.size) → Below W.heap.size W W' → (Errs N E W' ∧ N ≤ W'.heap.size) := fun _ _ h b => ⟨h.1.below b h.2, Nat.le_trans h.2 b.size⟩
/-- What fault.Tell tells of an error of operands. -/
theorem tell_told {N : Nat} {E : Nat → Addr} (w : World) (hE : Errs N E w) (hT : ErrT N w) (hN : N ≤ w.heap.size) {v : Value} {O : Out} (hO : O.ok) (hv : IsTold w E v O) :
    Calls Tryz.prog 9 #[v] w fun e w' => e = .returned (fO O 0) ∧ Below w.heap.size w w' := by
  cases O with
  | val x => obtain rfl := hv; exact tell_nil w
  | err c p => exact tell_err w hE hT hN hv hO.1 hO.2
theorem testO_ok (U : List UInt8 → List UInt8 → Option Bool) (l : List (List UInt8)) : (testO U l).ok := by
  unfold testO
  split
  · exact ⟨by decide, by decide⟩
  · split
    · exact ⟨by decide, by decide⟩
    · exact evalO_ok U l
theorem ops3 (a b c : ByteArray) (w : World) : IsOps (w.alloc (.cells #[.string a, .string b, .string c] 9)) (.slice (some ⟨w.heap.size, 0, none⟩) 3 3) [a, b, c] :=
  ⟨_, 3, rfl, Nat.le_refl _, .inr ⟨w.heap.size, rfl, by simp, fun i s h => by
    rw [Nat.zero_add]; exact (rw3 a b c w).2 i s h⟩⟩
theorem six_cell {w : World} {B : Nat} (h : w.heap[B]? = some (.cells #[.string ⟨#[45, 101, 113]⟩, .string ⟨#[45, 110, 101]⟩, .string ⟨#[45, 103, 116]⟩, .string ⟨#[45, 103, 101]⟩, .string ⟨#[45, 108, 116]⟩, .string ⟨#[45, 108, 101]⟩] 9 (0, 0))) (k : Nat) (hk : k < 6) :
    w.cell? ⟨B, k, none⟩ = some (.string (opB k)) := by
  refine row_cell h ?_
  match k, hk with
  | 0, _ => rfl
  | 1, _ => rfl
  | 2, _ => rfl
  | 3, _ => rfl
  | 4, _ => rfl
  | 5, _ => rfl
set_option maxHeartbeats 2000000 in
set_option maxRecDepth 100000 in
theorem numbers_any {N : Nat} {E : Nat → Addr} (a b : ByteArray) (w : World) (hE : Errs N E w) (hT : ErrT N w) (hN : N ≤ w.heap.size) :
    Calls Tryz.prog 3 #[.string a, .string b] w fun e w' => e = .returned (.bool true) ∧ Below w.heap.size w w' := by
  have hE' := Lib.hid hE
  have hT' := Lib.hid hT
  clear hE hT
  obtain ⟨Post, hPost⟩ : ∃ Post : Ending → World → Prop, Post = fun e w' => e = .returned (.bool true) ∧ Below w.heap.size w w' := ⟨_, rfl⟩
  rw [← hPost]
  have hP := Lib.hid hPost
  clear hPost
  go_enter Tryz.func3, Tryz.ntmps3
  go_wp2_with fail
  go_loopw [13] (fun i wr => ∃ (k : Nat), k ≤ 6 ∧ i = .int .i64 k ∧ Hid (wr.heap[w.heap.size]? = some (.cells #[.string ⟨#[45, 101, 113]⟩, .string ⟨#[45, 110, 101]⟩, .string ⟨#[45, 103, 116]⟩, .string ⟨#[45, 103, 101]⟩, .string ⟨#[45, 108, 116]⟩, .string ⟨#[45, 108, 101]⟩] 9 (0, 0))) ∧ Hid (Below w.heap.size w wr) ∧ w.heap.size < wr.heap.size) (fun i _ => 6 - (intOf i).toNat)
  case atStart => exact ⟨0, by decide, rfl, Lib.hid (heap_alloc_new w _), Lib.hid ((Below.refl _ _).alloc (Nat.le_refl _) _), by simp⟩
  case round =>
    obtain ⟨k, hk, rfl, hrow, hbl, hlt⟩ := hrel
    by_cases hkk : k < 6
    · have hld := six_cell hrow.out k hkk
      have hkI : (k : Int) < 6 := by omega
      generalize opB k = op at hld
      have e1 := Eval_any (N := N) (E := E) errs_keep unC_nil _ [a, op, b] (wr.alloc (.cells #[.string a, .string op, .string b] 9)) (errs_keep wr _ ⟨hE'.out.below hbl.out hN, Nat.le_trans hN (Nat.le_of_lt hlt)⟩ ((Below.refl _ _).alloc (Nat.le_refl _) _)) ((hE'.out.below hbl.out hN).alloc _ (by omega)) ((hT'.out.below hbl.out hN).below ((Below.refl _ _).alloc (Nat.le_refl _) _) (by omega)) (by simp; omega) (ops3 a op b wr)
      have r1 := fun W => rTest_any (tv := .pointer none) (fun _ _ _ _ => trivial) runC_nil _ [a, op, b] (World.alloc W (.cells #[.string a, .string op, .string b] 9)) trivial (ops3 a op b W)
      generalize hO : testO (unP none) ([a, op, b].map fun s => s.data.toList) = O at e1 r1
      have hok : O.ok := by rw [← hO]; exact testO_ok _ _
      clear hO
      obtain ⟨cd, p, l, ef⟩ := fO_parts O 0
      have e1' := Lib.hid e1
      have r1' := Lib.hid r1
      clear e1 r1
      go_wp2_with fail
      refine e1'.out.mono ?_
      rintro e w1 ⟨v, rfl, hv, b1⟩
      have b1' := Lib.hid (hbl.out.trans ((((Below.refl wr.heap.size wr).alloc (Nat.le_refl _) (.cells #[.string a, .string op, .string b] 9)).trans (b1.mono (by simp))).mono (Nat.le_of_lt hlt)))
      have z1 : wr.heap.size < w1.heap.size := by have := b1.size; rw [World.size_alloc] at this; omega
      have row1 := Lib.hid (row_below (row_alloc hrow.out (.cells #[.string a, .string op, .string b] 9)) b1 (by simp; omega))
      have hv' := Lib.hid hv
      clear b1 hv
      go_wp2_with fail
      refine (r1'.out w1).mono ?_
      rintro e w2 ⟨rfl, b2⟩
      have b2' := Lib.hid (b1'.out.trans ((((Below.refl w1.heap.size w1).alloc (Nat.le_refl _) (.cells #[.string a, .string op, .string b] 9)).trans (b2.mono (by simp))).mono (by omega)))
      have z2 : w1.heap.size < w2.heap.size := by have := b2.size; rw [World.size_alloc] at this; omega
      have row2 := Lib.hid (row_below (row_alloc row1.out (.cells #[.string a, .string op, .string b] 9)) b2 (by simp; omega))
      have hv2 := Lib.hid (hv'.out.below (((Below.refl w1.heap.size w1).alloc (Nat.le_refl _) (.cells #[.string a, .string op, .string b] 9)).trans (b2.mono (by simp))) (Nat.le_refl _))
      clear b2 hv'
      rw [ef]
      have hq := Lib.hid (zF w2)
      go_wp2_with (refine store_flt rfl rfl _ _ rfl _ cd p l 0 0 0 rfl rfl hq.out ?_; intro w3 h3 g3 z3)
      have b23 : Below w2.heap.size w2 w3 := ((Below.refl w2.heap.size w2).alloc (Nat.le_refl _) _).grown g3 (by simp) (fun j hj => by cases hj; exact Nat.le_refl _)
      have b3' := Lib.hid (b2'.out.trans (b23.mono (by omega)))
      have row3 := Lib.hid (row_below row2.out b23 (by omega))
      have hv3 := Lib.hid (hv2.out.below b23 (Nat.le_refl _))
      have h3' := Lib.hid h3
      have z3' : w2.heap.size < w3.heap.size := by rw [z3]; simp
      clear g3 z3 b23 h3
      refine wp_region_swap (o' := regionOps Tryz.f3 6) (by kernel_rfl) ?_
      refine nm6_wp (base := w3.heap.size) (B := w2.heap.size) (z := O.bool) (c := cd) (p := p) (l := l) (v := v)
        ⟨by rfl, by rfl, by rfl, by rfl, by rfl, h3'.out, z3', fun W hW hz => by
          have ht := tell_told W (hE'.out.below (b3'.out.trans (hW.mono (by omega))) hN) (hT'.out.below (b3'.out.trans (hW.mono (by omega))) hN) (by omega) hok (hv3.out.below hW (Nat.le_refl _))
          rw [ef] at ht
          exact ht⟩ (Nat.le_refl _) ?_
      intro u W e8 bW hW
      have bW' := Lib.hid (b3'.out.trans (bW.mono (by omega)))
      have rowW := Lib.hid (row_below row3.out bW (by omega))
      clear bW
      rw [nm6_plan]
      simp only [putL, Act.put, List.setIfInBounds_toArray, List.set_cons_succ, List.set_cons_zero, e8]
      go_wp2_with fail
      case roundEnd =>
        refine ⟨⟨k + 1, by omega, rfl, rowW, bW', by omega⟩, ?_⟩
        simp [intOf]; omega
    · have hke : k = 6 := by omega
      subst hke
      go_wp2_with fail
      refine (awake18_any wr).mono ?_
      rintro e w1 ⟨rfl, b1⟩
      have b2 := hbl.out.trans (b1.mono (by omega))
      go_wp2_with fail
      rw [hP.out]
      exact ⟨rfl, b2⟩
end Go.Proofs.YtfnaooplpofgiaaGreatDoor
