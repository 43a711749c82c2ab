/- The walk over TestFiles: any path, asked in each way. Conditions: the errors' variables hold their values. -/
import Derived.Test.YtfnaooplpofgiaaGreatDoorKFl
import Derived.WalkMore
import Derived.OwnWalk
import Derived.Handy
import Derived.Outline
namespace Go.Proofs.YtfnaooplpofgiaaGreatDoor
open Go Go.RowKit SN

structure Fl7 (a0 : Act) (w0 : World) (base B : Nat) (z : Bool) (c p l : Int) (v : Value) : Prop where
  hz : a0.tmps.size = 48
  h7 : a0.eval (.tmp 7) = .bool z
  h8 : a0.eval (.tmp 8) = v
  h9 : a0.eval (.tmp 9) = .bool z
  h10 : a0.eval (.tmp 10) = .pointer (some ⟨B, 0, none⟩)
  bF : IsF w0 B c p l
  lF : B < base
  hT : ∀ W, Below base w0 W → base ≤ W.heap.size → Calls Tryz.prog 9 #[v] W fun e w' => e = .returned (fv c p l) ∧ Below W.heap.size W w'
section
variable {a0 : Act} {w0 : World} {base B : Nat} {z : Bool} {c p l : Int} {v : Value}
def fl7Cs (z : Bool) (c p l : Int) (v : Value) : List Claim := [.val (.bool z), .val (.bool z), .val (.bool false), .val (.bool false), .val (v), .val (fv c p l), .val (fv c p l), .val (.bool false), .val (.bool false)]
theorem fl7_ok : planOk .any (regionOps Tryz.f5 7) (upto 9) = true := by kernel_rfl
theorem fl7_0 (F : Fl7 a0 w0 base B z c p l v) : PO (regionOps Tryz.f5 7) 9 a0 base w0 (fl7Cs z c p l v) 0 := by
  intro o ho u W hI hR
  obtain ⟨e1, e2, e3⟩ := ob_op ho (show ((regionOps Tryz.f5 7)[0]?).map (fun o => (o.op, o.dst, o.guard)) = some (.move (.tmp 7), some 37, none) by kernel_rfl)
  rw [if_pos (plan_free e3 _)]
  intro K hK
  have x0 := ev_base (u := u) fl7_ok (by kernel_rfl) F.h7
  exact opw_move e1 x0 (hK _ _ ⟨_, rfl, rfl⟩ hI (Below.refl _ _))
theorem fl7_1 (F : Fl7 a0 w0 base B z c p l v) : PO (regionOps Tryz.f5 7) 9 a0 base w0 (fl7Cs z c p l v) 1 := by
  intro o ho u W hI hR
  obtain ⟨e1, e2, e3⟩ := ob_op ho (show ((regionOps Tryz.f5 7)[1]?).map (fun o => (o.op, o.dst, o.guard)) = some (.move (.tmp 9), some 38, none) by kernel_rfl)
  rw [if_pos (plan_free e3 _)]
  intro K hK
  have x0 := ev_base (u := u) fl7_ok (by kernel_rfl) F.h9
  exact opw_move e1 x0 (hK _ _ ⟨_, rfl, rfl⟩ hI (Below.refl _ _))
theorem fl7_2 (F : Fl7 a0 w0 base B z c p l v) : PO (regionOps Tryz.f5 7) 9 a0 base w0 (fl7Cs z c p l v) 2 := by
  intro o ho u W hI hR
  obtain ⟨e1, e2, e3⟩ := ob_op ho (show ((regionOps Tryz.f5 7)[2]?).map (fun o => (o.op, o.dst, o.guard)) = some (.binOp .neq 4 (.tmp 37) (.tmp 38) 4, some 39, none) by kernel_rfl)
  rw [if_pos (plan_free e3 _)]
  intro K hK
  have x0 := ev_val (v := .bool z) (cs := (fl7Cs z c p l v)) fl7_ok hR ho (j := 0) (t := 37) (by rw [F.hz]; kernel_rfl) rfl
  have x1 := ev_val (v := .bool z) (cs := (fl7Cs z c p l v)) fl7_ok hR ho (j := 1) (t := 38) (by rw [F.hz]; kernel_rfl) rfl
  exact opw_neb e1 x0 x1 (bne_self_eq_false _) (hK _ _ ⟨_, rfl, rfl⟩ hI (Below.refl _ _))
theorem fl7_3 (F : Fl7 a0 w0 base B z c p l v) : PO (regionOps Tryz.f5 7) 9 a0 base w0 (fl7Cs z c p l v) 3 := by
  intro o ho u W hI hR
  obtain ⟨e1, e2, e3⟩ := ob_op ho (show ((regionOps Tryz.f5 7)[3]?).map (fun o => (o.op, o.dst, o.guard)) = some (.move (.tmp 39), some 40, none) by kernel_rfl)
  rw [if_pos (plan_free e3 _)]
  intro K hK
  have x0 := ev_val (v := .bool false) (cs := (fl7Cs z c p l v)) fl7_ok hR ho (j := 2) (t := 39) (by rw [F.hz]; kernel_rfl) rfl
  exact opw_move e1 x0 (hK _ _ ⟨_, rfl, rfl⟩ hI (Below.refl _ _))
theorem fl7_4 (F : Fl7 a0 w0 base B z c p l v) : PO (regionOps Tryz.f5 7) 9 a0 base w0 (fl7Cs z c p l v) 4 := by
  intro o ho u W hI hR
  obtain ⟨e1, e2, e3⟩ := ob_op ho (show ((regionOps Tryz.f5 7)[4]?).map (fun o => (o.op, o.dst, o.guard)) = some (.move (.tmp 8), some 41, some (3, false)) by kernel_rfl)
  have xg := ev_val (v := .bool false) (cs := (fl7Cs z c p l v)) fl7_ok hR ho (j := 3) (t := 40) (by rw [F.hz]; kernel_rfl) rfl
  rw [if_pos (wanted_yes e3 (t := 40) (by kernel_rfl) xg)]
  intro K hK
  have x0 := ev_base (u := u) fl7_ok (by kernel_rfl) F.h8
  exact opw_move e1 x0 (hK _ _ ⟨_, rfl, rfl⟩ hI (Below.refl _ _))
theorem fl7_5 (F : Fl7 a0 w0 base B z c p l v) : PO (regionOps Tryz.f5 7) 9 a0 base w0 (fl7Cs z c p l v) 5 := by
  intro o ho u W hI hR
  obtain ⟨e1, e2, e3⟩ := ob_op ho (show ((regionOps Tryz.f5 7)[5]?).map (fun o => (o.op, o.dst, o.guard)) = some (.call { callee := .value (.func 9), args := #[(.tmp 41)], argTypes := #[24] }, some 42, some (3, false)) by kernel_rfl)
  have xg := ev_val (v := .bool false) (cs := (fl7Cs z c p l v)) fl7_ok hR ho (j := 3) (t := 40) (by rw [F.hz]; kernel_rfl) rfl
  rw [if_pos (wanted_yes e3 (t := 40) (by kernel_rfl) xg)]
  intro K hK
  have x0 := ev_val (v := v) (cs := (fl7Cs z c p l v)) fl7_ok hR ho (j := 4) (t := 41) (by rw [F.hz]; kernel_rfl) rfl
  refine opw_call e1 (vs := #[v]) (by simp only [List.map_toArray, List.map_cons, List.map_nil, x0]) Tryz.func9 (by kernel_rfl) (by kernel_rfl) (F.hT W hI.1 hI.2) ?_
  rintro e W' ⟨rfl, b⟩
  exact ⟨_, rfl, hK _ _ ⟨_, rfl, rfl⟩ (hI.step b) b⟩
theorem fl7_6 (F : Fl7 a0 w0 base B z c p l v) : PO (regionOps Tryz.f5 7) 9 a0 base w0 (fl7Cs z c p l v) 6 := by
  intro o ho u W hI hR
  obtain ⟨e1, e2, e3⟩ := ob_op ho (show ((regionOps Tryz.f5 7)[6]?).map (fun o => (o.op, o.dst, o.guard)) = some (.load 28 (.tmp 10), some 43, some (3, false)) by kernel_rfl)
  have xg := ev_val (v := .bool false) (cs := (fl7Cs z c p l v)) fl7_ok hR ho (j := 3) (t := 40) (by rw [F.hz]; kernel_rfl) rfl
  rw [if_pos (wanted_yes e3 (t := 40) (by kernel_rfl) xg)]
  intro K hK
  have x0 := ev_base (u := u) fl7_ok (by kernel_rfl) F.h10
  exact opw_load_flt e1 x0 (row_below F.bF hI.1 F.lF) (hK _ _ ⟨_, rfl, rfl⟩ hI (Below.refl _ _))
theorem fl7_7 (F : Fl7 a0 w0 base B z c p l v) : PO (regionOps Tryz.f5 7) 9 a0 base w0 (fl7Cs z c p l v) 7 := by
  intro o ho u W hI hR
  obtain ⟨e1, e2, e3⟩ := ob_op ho (show ((regionOps Tryz.f5 7)[7]?).map (fun o => (o.op, o.dst, o.guard)) = some (.binOp .neq 28 (.tmp 42) (.tmp 43) 28, some 44, some (3, false)) by kernel_rfl)
  have xg := ev_val (v := .bool false) (cs := (fl7Cs z c p l v)) fl7_ok hR ho (j := 3) (t := 40) (by rw [F.hz]; kernel_rfl) rfl
  rw [if_pos (wanted_yes e3 (t := 40) (by kernel_rfl) xg)]
  intro K hK
  have x0 := ev_val (v := fv c p l) (cs := (fl7Cs z c p l v)) fl7_ok hR ho (j := 5) (t := 42) (by rw [F.hz]; kernel_rfl) rfl
  have x1 := ev_val (v := fv c p l) (cs := (fl7Cs z c p l v)) fl7_ok hR ho (j := 6) (t := 43) (by rw [F.hz]; kernel_rfl) rfl
  exact opw_bin e1 x0 x1 (fltGuard _ _ _ c p l W) (neq_flt c p l W) (hK _ _ ⟨_, rfl, rfl⟩ hI (Below.refl _ _))
theorem fl7_8 (F : Fl7 a0 w0 base B z c p l v) : PO (regionOps Tryz.f5 7) 9 a0 base w0 (fl7Cs z c p l v) 8 := by
  intro o ho u W hI hR
  obtain ⟨e1, e2, e3⟩ := ob_op ho (show ((regionOps Tryz.f5 7)[8]?).map (fun o => (o.op, o.dst, o.guard)) = some (.pick (.tmp 40) (.const (.bool true)) (.tmp 44), some 45, none) by kernel_rfl)
  rw [if_pos (plan_free e3 _)]
  intro K hK
  have x0 := ev_val (v := .bool false) (cs := (fl7Cs z c p l v)) fl7_ok hR ho (j := 3) (t := 40) (by rw [F.hz]; kernel_rfl) rfl
  have x2 := ev_val (v := .bool false) (cs := (fl7Cs z c p l v)) fl7_ok hR ho (j := 7) (t := 44) (by rw [F.hz]; kernel_rfl) rfl
  exact opw_pickF e1 x0 x2 (hK _ _ ⟨_, rfl, rfl⟩ hI (Below.refl _ _))
theorem fl7_all (F : Fl7 a0 w0 base B z c p l v) : ∀ i, i < 9 → PO (regionOps Tryz.f5 7) 9 a0 base w0 (fl7Cs z c p l v) i
  | 0, _ => fl7_0 F
  | 1, _ => fl7_1 F
  | 2, _ => fl7_2 F
  | 3, _ => fl7_3 F
  | 4, _ => fl7_4 F
  | 5, _ => fl7_5 F
  | 6, _ => fl7_6 F
  | 7, _ => fl7_7 F
  | 8, _ => fl7_8 F
  | i + 9, h => absurd h (by omega)
theorem fl7_plan : planOf (regionOps Tryz.f5 7) (upto 9) = [(some 37, 0), (some 38, 1), (some 39, 2), (some 40, 3), (some 41, 4), (some 42, 5), (some 43, 6), (some 44, 7), (some 45, 8)] := by kernel_rfl
theorem fl7_wp {id : Nat} {Q : Exit → Act → World → Prop} (F : Fl7 a0 w0 base B z c p l v) (hb : base ≤ w0.heap.size)
    (hq : ∀ (u : Nat → Value) (W : World), u 8 = .bool false → Below base w0 W → base ≤ W.heap.size → Q .normal (putL (planOf (regionOps Tryz.f5 7) (upto 9)) u a0) W) :
    (Code.region id (regionOps Tryz.f5 7) true).wp Tryz.prog Q a0 w0 := by
  refine wp_plan_cl 9 0 (fl7Cs z c p l v) fl7_ok (by kernel_rfl) hb (fl7_all F) fun u W hI1 hI2 hR => ?_
  refine ⟨by kernel_rfl, hq u W ?_ hI1 hI2⟩
  obtain ⟨cc, hc, h⟩ := hR 8 (of_decide_eq_true (by kernel_rfl)) (by decide)
  cases hc
  exact h
end
def opW : Nat → ByteArray
  | 0 => ⟨#[45, 110]⟩
  | 1 => ⟨#[45, 122]⟩
  | 2 => ⟨#[45, 101]⟩
  | 3 => ⟨#[45, 102]⟩
  | 4 => ⟨#[45, 100]⟩
  | 5 => ⟨#[45, 115]⟩
  | _ => ⟨#[45, 120]⟩
theorem seven_cell {w : World} {B : Nat} (h : w.heap[B]? = some (.cells #[.string ⟨#[45, 110]⟩, .string ⟨#[45, 122]⟩, .string ⟨#[45, 101]⟩, .string ⟨#[45, 102]⟩, .string ⟨#[45, 100]⟩, .string ⟨#[45, 115]⟩, .string ⟨#[45, 120]⟩] 9 (0, 0))) (k : Nat) (hk : k < 7) : w.cell? ⟨B, k, none⟩ = some (.string (opW k)) := by
  refine row_cell h ?_
  match k, hk with
  | 0, _ => rfl
  | 1, _ => rfl
  | 2, _ => rfl
  | 3, _ => rfl
  | 4, _ => rfl
  | 5, _ => rfl
  | 6, _ => rfl
set_option maxHeartbeats 4000000 in
set_option maxRecDepth 100000 in
theorem tfiles_any {N : Nat} {E : Nat → Addr} (a : ByteArray) (w : World) (hE : Errs N E w) (hT : ErrT N w) (hM : MaxL N w) (hN : N ≤ w.heap.size) :
    Calls Tryz.prog 5 #[.string a] w fun e w' => e = .returned (.bool true) ∧ Below w.heap.size w w' := by
  have hFl := Lib.hid (files_any (E := E) w hE hM hN)
  have hE0 := Lib.hid hE
  have hT0 := Lib.hid hT
  have hM0 := Lib.hid hM
  clear hE hT hM
  obtain ⟨Post, hPost⟩ : ∃ Post : Ending → World → Prop, Post = fun e w' => e = .returned (.bool true) ∧ Below w.heap.size w w' := ⟨_, rfl⟩
  rw [← hPost]
  have hP := Lib.hid hPost
  clear hPost
  go_enter Tryz.func5, Tryz.ntmps5
  go_wp2_with fail
  refine hFl.out.mono ?_
  rintro e W0 ⟨t, r, T, cnt, m, L, D, b0, n1, n2, n3, n4, rfl, hTc, hst, hDt, hF, bF⟩
  have hG := Lib.hid (show GT N E t r T W0 from ⟨hE0.out.below bF hN, hM0.out.below bF hN, Nat.le_trans hN bF.size, hTc.tr⟩)
  have hDt' := Lib.hid hDt
  have hF' := Lib.hid hF
  have hst' := Lib.hid hst
  have bF' := Lib.hid bF
  have hE' := Lib.hid (hE0.out.below bF hN)
  have hT' := Lib.hid (hT0.out.below bF hN)
  have hN0 : N ≤ W0.heap.size := Nat.le_trans hN bF.size
  clear hTc hDt hF hst bF hFl hE0 hT0 hM0
  go_wp2_with fail
  go_loopw [17] (fun i wr => ∃ (k : Nat), k ≤ 7 ∧ i = .int .i64 k ∧ Hid (wr.heap[W0.heap.size]? = some (.cells #[.string ⟨#[45, 110]⟩, .string ⟨#[45, 122]⟩, .string ⟨#[45, 101]⟩, .string ⟨#[45, 102]⟩, .string ⟨#[45, 100]⟩, .string ⟨#[45, 115]⟩, .string ⟨#[45, 120]⟩] 9 (0, 0))) ∧ Hid (Below W0.heap.size W0 wr) ∧ W0.heap.size < wr.heap.size) (fun i _ => 7 - (intOf i).toNat)
  case atStart => exact ⟨0, by decide, rfl, Lib.hid (heap_alloc_new W0 _), Lib.hid ((Below.refl _ _).alloc (Nat.le_refl _) _), by simp⟩
  case round =>
    obtain ⟨k, hk, rfl, hrow, hbl, hlt⟩ := hrel
    by_cases hkk : k < 7
    · have hld := seven_cell hrow.out k hkk
      have hkI : (k : Int) < 7 := by omega
      generalize opW k = op at hld
      have bA := hbl.out.alloc (Nat.le_of_lt hlt) (.cells #[.string op, .string a] 9)
      have e1 := Eval_any (N := N) (E := E) GT.keep (unC_files (N := N) (E := E) hst'.out) _ [op, a] (wr.alloc (.cells #[.string op, .string a] 9)) (GT.keep _ _ hG.out bA) (hE'.out.below bA hN0) (hT'.out.below bA hN0) (Nat.le_trans hN0 bA.size) (ops2 op a wr)
      have r1 : ∀ W, Below W0.heap.size W0 W → W0.heap.size ≤ W.heap.size → _ := fun W hW hz => rTest_any (G := fun W => IsDt W m L D) (fun _ _ h b => h.below b) (runC_files hF'.out) _ [op, a] (World.alloc W (.cells #[.string op, .string a] 9)) (hDt'.out.below (hW.alloc hz _)) (ops2 op a W)
      clear bA
      generalize hO : testO fU ([op, a].map fun s => s.data.toList) = O at e1 r1
      have hok : O.ok := by rw [← hO]; exact testO_ok _ _
      clear hO
      obtain ⟨cd, p, l, ef⟩ := fO_parts O 0
      have e1' := Lib.hid e1
      have r1' := Lib.hid r1
      clear e1 r1
      go_wp2_with fail
      refine e1'.out.mono ?_
      rintro e w1 ⟨v, rfl, hv, b1⟩
      have b1' := Lib.hid (hbl.out.trans ((((Below.refl wr.heap.size wr).alloc (Nat.le_refl _) (.cells #[.string op, .string a] 9)).trans (b1.mono (by simp))).mono (Nat.le_of_lt hlt)))
      have z1 : wr.heap.size < w1.heap.size := by have := b1.size; rw [World.size_alloc] at this; omega
      have row1 := Lib.hid (row_below (row_alloc hrow.out (.cells #[.string op, .string a] 9)) b1 (by simp; omega))
      have hv' := Lib.hid hv
      clear b1 hv
      go_wp2_with fail
      refine (r1'.out w1 b1'.out (by omega)).mono ?_
      rintro e w2 ⟨rfl, b2⟩
      have b2' := Lib.hid (b1'.out.trans ((((Below.refl w1.heap.size w1).alloc (Nat.le_refl _) (.cells #[.string op, .string a] 9)).trans (b2.mono (by simp))).mono (by omega)))
      have z2 : w1.heap.size < w2.heap.size := by have := b2.size; rw [World.size_alloc] at this; omega
      have row2 := Lib.hid (row_below (row_alloc row1.out (.cells #[.string op, .string a] 9)) b2 (by simp; omega))
      have hv2 := Lib.hid (hv'.out.below (((Below.refl w1.heap.size w1).alloc (Nat.le_refl _) (.cells #[.string op, .string a] 9)).trans (b2.mono (by simp))) (Nat.le_refl _))
      clear b2 hv'
      rw [ef]
      have hq := Lib.hid (zF w2)
      go_wp2_with (refine store_flt rfl rfl _ _ rfl _ cd p l 0 0 0 rfl rfl hq.out ?_; intro w3 h3 g3 z3)
      have b23 : Below w2.heap.size w2 w3 := ((Below.refl w2.heap.size w2).alloc (Nat.le_refl _) _).grown g3 (by simp) (fun j hj => by cases hj; exact Nat.le_refl _)
      have b3' := Lib.hid (b2'.out.trans (b23.mono (by omega)))
      have row3 := Lib.hid (row_below row2.out b23 (by omega))
      have hv3 := Lib.hid (hv2.out.below b23 (Nat.le_refl _))
      have h3' := Lib.hid h3
      have z3' : w2.heap.size < w3.heap.size := by rw [z3]; simp
      clear g3 z3 b23 h3
      refine wp_region_swap (o' := regionOps Tryz.f5 7) (by kernel_rfl) ?_
      refine fl7_wp (base := w3.heap.size) (B := w2.heap.size) (z := O.bool) (c := cd) (p := p) (l := l) (v := v)
        ⟨by rfl, by rfl, by rfl, by rfl, by rfl, h3'.out, z3', fun W hW hz => by
          have ht := tell_told W (hE'.out.below (b3'.out.trans (hW.mono (by omega))) hN0) (hT'.out.below (b3'.out.trans (hW.mono (by omega))) hN0) (by omega) hok (hv3.out.below hW (Nat.le_refl _))
          rw [ef] at ht
          exact ht⟩ (Nat.le_refl _) ?_
      intro u W e8 bW hW
      have bW' := Lib.hid (b3'.out.trans (bW.mono (by omega)))
      have rowW := Lib.hid (row_below row3.out bW (by omega))
      clear bW
      rw [fl7_plan]
      simp only [putL, Act.put, List.setIfInBounds_toArray, List.set_cons_succ, List.set_cons_zero, e8]
      go_wp2_with fail
      case roundEnd =>
        refine ⟨⟨k + 1, by omega, rfl, rowW, bW', by omega⟩, ?_⟩
        simp [intOf]; omega
    · have hke : k = 7 := by omega
      subst hke
      go_wp2_with fail
      refine (awake18_any wr).mono ?_
      rintro e w1 ⟨rfl, b1⟩
      have b2 := bF'.out.trans ((hbl.out.trans (b1.mono (by omega))).mono bF'.out.size)
      go_wp2_with fail
      rw [hP.out]
      exact ⟨rfl, b2⟩
end Go.Proofs.YtfnaooplpofgiaaGreatDoor
