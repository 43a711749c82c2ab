/- The document's test: what it tells of any operands. Conditions: the operands lie in memory; what an operator of one operand tells is given as a contract. -/
import Derived.Test.YtfnaooplpofgiaaGreatDoorKRef
import Derived.Deep.RegionHeld3
import Derived.StillTailTactics
import Derived.WalkMore
import Derived.OwnWalk
import Derived.Handy
import Derived.Outline
namespace Go.Proofs.YtfnaooplpofgiaaGreatDoor
open Go Go.RowKit SN

/-- All operations but the last keep their claims; the last one stores a fault into a block that lies there. -/
theorem wp_plan_flt {id : Nat} {ops : Array Oper} {a0 : Act} {base : Nat} {w0 : World} {Q : Exit → Act → World → Prop} (n : Nat) (cs : List Claim) (hok : planOk .any ops (upto n) = true) (hfD : decide (0 + 1 + unl ops (upto n) (Array.replicate ops.size false) ≤ ops.size) = true) (hb : base ≤ w0.heap.size)
    (hob : ∀ i, i < n → PO ops n a0 base w0 cs i) (hsz : decide (n ≤ ops.size) = true) (p q : Tmp) (B : Nat) (c0 p0 l0 cd pp l : Int) (jq : Nat)
    (hrd : Region.ready .any ops (listedOf ops (upto n)) = [n])
    (hop : (ops[n]?).map (fun o => (o.op, o.dst, o.guard)) = some (.store 28 (.tmp p) (.tmp q), none, none))
    (hp0 : ownAt (planOf ops (upto n)) p = none) (hp : a0.eval (.tmp p) = .pointer (some ⟨B, 0, none⟩))
    (hq0 : (ops[jq]?).bind (·.dst) = some q) (hq1 : jq < n) (hq2 : q < a0.tmps.size) (hq3 : cs[jq]? = some (.val (fv cd pp l)))
    (hB : B < base) (hS : IsF w0 B c0 p0 l0)
    (hfin : ∀ (a : Act) (W : World), Q .normal a W → wpAny Tryz.prog .any ops Q 0 ((listedOf ops (upto n)).setIfInBounds n true) a W)
    (hend : ∀ (u : Nat → Value) W, (∀ j v, j < n → cs[j]? = some (.val v) → u j = v) → w0.grownBy W (some B) → IsF W B cd pp l → base ≤ W.heap.size → Q .normal (putL (planOf ops (upto n)) u a0) W)
    (hbase : base = w0.heap.size) : (Code.region id ops true).wp Tryz.prog Q a0 w0 := by
  refine wp_plan_cl n (0 + 1) cs hok hfD hb hob fun u W hI1 hI2 hR => ?_
  have hR' : ∀ j, j < n → cl cs j (u j) W := fun j hj => hR j (Nat.lt_of_lt_of_le hj (of_decide_eq_true hsz)) hj
  have hvl : ∀ j v, j < n → cs[j]? = some (.val v) → u j = v := fun j v hj hc => by
    obtain ⟨c, hc', h⟩ := hR' j hj
    rw [hc] at hc'
    cases hc'
    exact h
  have hx1 : (putL (planOf ops (upto n)) u a0).eval (.tmp p) = .pointer (some ⟨B, 0, none⟩) := (plan_eval0 hok hp0).trans hp
  have hx2 : (putL (planOf ops (upto n)) u a0).eval (.tmp q) = fv cd pp l := (plan_eval hok (j := jq) hq0 (decide_eq_true hq1) hq2).trans (hvl jq _ hq1 hq3)
  have hSW : IsF W B c0 p0 l0 := row_below hS hI1 hB
  refine ⟨fun h => (by rw [hrd] at h; cases h), fun i hi => ?_⟩
  rw [hrd, List.mem_singleton] at hi
  subst hi
  cases ho : ops[i]? with
  | none => rw [ho] at hop; cases hop
  | some o =>
    rw [ho] at hop
    simp only [Option.map_some, Option.some.injEq, Prod.mk.injEq] at hop
    obtain ⟨e1, e2, e3⟩ := hop
    unfold wpOp
    rw [ho]
    simp only []
    rw [if_pos (plan_free e3 _)]
    refine .inl (wp_store_row 28 (.tmp p) (.tmp q) e1 B (fc cd pp l) hx1 hx2 28 (fc c0 p0 l0) hSW (by rw [size3]; rfl) rfl (by simp [fc, Value.oneCell']) ?_)
    have hput : ∀ a : Act, a.put none undef = a := fun _ => rfl
    rw [e2, hput]
    have hz1 : (W.setRow B (fc cd pp l)).heap.size = W.heap.size := by simp
    refine hfin _ _ (hend u _ hvl ⟨hI1.os, hI1.tape, hI1.output, by rw [hz1]; exact hI1.size, fun k hk hne => ?_⟩ (setRow_heap W B _ _ _ _ hSW) (by rw [hz1]; exact hI2))
    rw [setRow_other W B k _ (fun e => hne (by rw [e])), hI1.block k (by omega)]
set_option maxHeartbeats 1000000 in
set_option maxRecDepth 100000 in
theorem rtest0_any (p : Option Addr) (c k : Nat) (tv : Value) (w : World) : Calls Tryz.prog 17 #[.slice p 0 c, .int .i64 k, tv] w (RtR w (.val false) k) := by
  have hz := Lib.hid (zF w)
  cases p with
  | none =>
    go_enter Tryz.func17, Tryz.ntmps17
    go_wp2_with (refine store_flt rfl rfl _ _ rfl _ 0 0 0 0 0 0 rfl rfl hz.out ?_; intro w2 h2 g2 z2)
    exact ret_bf rfl rfl rfl rfl h2 ⟨rfl, ((Below.refl _ _).alloc (Nat.le_refl _) _).grown g2 (by simp) (fun k hk => by cases hk; exact Nat.le_refl _)⟩
  | some a =>
    go_enter Tryz.func17, Tryz.ntmps17
    go_wp2_with (refine store_flt rfl rfl _ _ rfl _ 0 0 0 0 0 0 rfl rfl hz.out ?_; intro w2 h2 g2 z2)
    exact ret_bf rfl rfl rfl rfl h2 ⟨rfl, ((Below.refl _ _).alloc (Nat.le_refl _) _).grown g2 (by simp) (fun k hk => by cases hk; exact Nat.le_refl _)⟩
set_option maxHeartbeats 1000000 in
set_option maxRecDepth 100000 in
theorem rtest1_any (b f c k : Nat) (tv : Value) (s0 : ByteArray) (w : World) (hR : RowAt w b f [s0]) (hb : b < w.heap.size) : Calls Tryz.prog 17 #[.slice (some ⟨b, f, none⟩) 1 c, .int .i64 k, tv] w (RtR w (.val (!s0.data.toList.isEmpty)) k) := by
  have hz := Lib.hid (zF w)
  have c0 : (w.alloc (.cells #[.int .i64 0, .int .i64 0, .int .i64 0] 28)).cell? ⟨b, f, none⟩ = some (.string s0) := by rw [World.cell?_alloc_lt _ _ ⟨b, f, none⟩ hb]; exact hR 0 s0 rfl
  clear hR
  rw [← Lib.toList_data]
  go_enter Tryz.func17, Tryz.ntmps17
  go_wp2_with (refine store_flt rfl rfl _ _ rfl _ 0 0 0 0 0 0 rfl rfl hz.out ?_; intro w2 h2 g2 z2)
  exact ret_bf rfl rfl rfl rfl h2 ⟨rfl, ((Below.refl _ _).alloc (Nat.le_refl _) _).grown g2 (by simp) (fun k hk => by cases hk; exact Nat.le_refl _)⟩
set_option maxHeartbeats 1000000 in
set_option maxRecDepth 100000 in
theorem rtest5_any (p : Option Addr) (n c k : Nat) (tv : Value) (w : World) (hn : 4 < n) (hk : k ≤ 100) : Calls Tryz.prog 17 #[.slice p n c, .int .i64 k, tv] w (RtR w (.err 14 4) k) := by
  have hz := Lib.hid (zF w)
  have i0 : ¬ (n : Int) = 0 := by omega
  have i1 : ¬ (n : Int) = 1 := by omega
  have i2 : ¬ (n : Int) = 2 := by omega
  have i3 : ¬ (n : Int) = 3 := by omega
  have i4 : ¬ (n : Int) = 4 := by omega
  have i5 : ¬ (n : Int) ≤ 4 := by omega
  have hw : IntKind.i64.wrap ((k : Int) + 4) = ((4 + k : Nat) : Int) := by rw [IntKind.wrap_i64]; omega
  go_enter Tryz.func17, Tryz.ntmps17
  go_wp2_with fail
  refine (rbad_any _ _ _).mono ?_
  rintro e w1 ⟨rfl, b1⟩
  have h1 := row_below hz.out b1 (by simp)
  have b2 := Lib.hid (((Below.refl w.heap.size w).alloc (Nat.le_refl _) (.cells #[.int .i64 0, .int .i64 0, .int .i64 0] 28)).trans (b1.mono (by simp)))
  have z1 := b1.size
  rw [World.size_alloc] at z1
  clear b1
  go_wp2_with (refine store_flt rfl rfl _ _ rfl _ 14 ((4 + k : Nat) : Int) 6 0 0 0 rfl rfl h1 ?_; intro w2 h2 g2 z2)
  exact ret_bf rfl rfl rfl rfl h2 ⟨rfl, b2.out.grown g2 (by omega) (fun k hk => by cases hk; exact Nat.le_refl _)⟩
/- FROM HERE ON PRINTED BY gen-krtst.py -/
set_option maxHeartbeats 1000000 in
set_option maxRecDepth 100000 in
theorem rtest2_not (b f c k : Nat) (tv : Value) (O : Out) (w : World) (hc : 2 ≤ c) (hk : k ≤ 100) (hO : O.ok) (hb : b < w.heap.size) (c0 : w.cell? ⟨b, f, none⟩ = some (.string ⟨#[33]⟩))
    (hC : ∀ W, Below w.heap.size w W → w.heap.size ≤ W.heap.size → Calls Tryz.prog 17 #[.slice (some ⟨b, f + 1, none⟩) 1 (c - 1), .int .i64 ((k + 1 : Nat) : Int), tv] W (RtR W O (k + 1))) : Calls Tryz.prog 17 #[.slice (some ⟨b, f, none⟩) 2 c, .int .i64 k, tv] w (RtR w O.neg k) := by
  have hz := Lib.hid (zF w)
  have c00 : (w.alloc (.cells #[.int .i64 0, .int .i64 0, .int .i64 0] 28)).cell? ⟨b, f, none⟩ = some (.string ⟨#[33]⟩) := by rw [World.cell?_alloc_lt _ _ ⟨b, f, none⟩ hb]; exact c0
  have hw : IntKind.i64.wrap ((k : Int) + 1) = ((k + 1 : Nat) : Int) := by rw [IntKind.wrap_i64]; omega
  have hC' := Lib.hid hC
  clear hC
  go_enter Tryz.func17, Tryz.ntmps17
  go_wp2_with fail
  refine (hC'.out _ ((Below.refl _ _).alloc (Nat.le_refl _) _) (by simp)).mono ?_
  rintro e w1 ⟨rfl, b1⟩
  have h1 := Lib.hid (row_below hz.out b1 (by simp))
  have b2 := Lib.hid (((Below.refl w.heap.size w).alloc (Nat.le_refl _) (.cells #[.int .i64 0, .int .i64 0, .int .i64 0] 28)).trans (b1.mono (by simp)))
  have z1 := b1.size
  rw [World.size_alloc] at z1
  clear b1
  have hq := Lib.hid (zF w1)
  cases O with
  | val x =>
    rw [show fO (.val x) (k + 1) = fv 0 0 0 from rfl]
    go_wp2_with (refine store_flt rfl rfl _ _ rfl _ 0 0 0 0 0 0 rfl rfl hq.out ?_; intro w2 h2 g2 z2)
    have hne : w.heap.size < w1.heap.size := by omega
    have e1 := row_grown (row_alloc h1.out _) g2 (by intro e; injection e with e; omega)
    have e1' := Lib.hid (row_drew e1)
    have h2' := Lib.hid (row_drew h2)
    have b3 := Lib.hid (below_drewN ((b2.out.alloc (by omega) (.cells #[.int .i64 0, .int .i64 0, .int .i64 0] 28)).grown g2 (by simp; omega) (fun j hj => by cases hj; omega)) 1)
    have z3 : w1.heap.size ≤ w2.drew.heap.size := by show w1.heap.size ≤ w2.heap.size; rw [z2]; simp
    have f0 : w2.drew.cell? ⟨w1.heap.size, 0, none⟩ = some (.int .i64 (0)) := row_cell h2 rfl
    have f1 : w2.drew.cell? ⟨w1.heap.size, 1, none⟩ = some (.int .i64 (0)) := row_cell h2 rfl
    have f2 : w2.drew.cell? ⟨w1.heap.size, 2, none⟩ = some (.int .i64 (0)) := row_cell h2 rfl
    clear e1 h2 g2 z2
    cases x <;>
      (go_still_tail 9, (by kernel_rfl)
       change wpList _ _ _ _ _ w2.drew
       have b4 : Below w.heap.size w w2.drew := b3.out
       generalize w2.drew = W3 at e1' b4 z3
       go_wp2_with (refine store_flt rfl rfl _ _ rfl _ (0) (0) (0) 0 0 0 rfl rfl e1'.out ?_; intro w4 h4 g4 z4)
       refine ret_bf rfl rfl rfl rfl h4 ⟨rfl, b4.grown g4 (by omega) (fun k hk => by cases hk; exact Nat.le_refl _)⟩)
  | err cd p =>
    have hcd : ¬ (cd : Int) = 0 := by have := hO.1; omega
    rw [show fO (.err cd p) (k + 1) = fv cd ((p + (k + 1) : Nat) : Int) 6 from rfl]
    generalize hpp : p + (k + 1) = pp
    go_wp2_with (refine store_flt rfl rfl _ _ rfl _ cd (pp : Int) 6 0 0 0 rfl rfl hq.out ?_; intro w2 h2 g2 z2)
    have hne : w.heap.size < w1.heap.size := by omega
    have e1 := row_grown (row_alloc h1.out _) g2 (by intro e; injection e with e; omega)
    have e1' := Lib.hid (row_drew e1)
    have h2' := Lib.hid (row_drew h2)
    have b3 := Lib.hid (below_drewN ((b2.out.alloc (by omega) (.cells #[.int .i64 0, .int .i64 0, .int .i64 0] 28)).grown g2 (by simp; omega) (fun j hj => by cases hj; omega)) 1)
    have z3 : w1.heap.size ≤ w2.drew.heap.size := by show w1.heap.size ≤ w2.heap.size; rw [z2]; simp
    have f0 : w2.drew.cell? ⟨w1.heap.size, 0, none⟩ = some (.int .i64 ((cd : Int))) := row_cell h2 rfl
    have f1 : w2.drew.cell? ⟨w1.heap.size, 1, none⟩ = some (.int .i64 ((pp : Int))) := row_cell h2 rfl
    have f2 : w2.drew.cell? ⟨w1.heap.size, 2, none⟩ = some (.int .i64 (6)) := row_cell h2 rfl
    clear e1 h2 g2 z2
    · (go_still_tail 9, (by kernel_rfl)
       change wpList _ _ _ _ _ w2.drew
       have b4 : Below w.heap.size w w2.drew := b3.out
       generalize w2.drew = W3 at e1' b4 z3
       go_wp2_with (refine store_flt rfl rfl _ _ rfl _ ((cd : Int)) ((pp : Int)) (6) 0 0 0 rfl rfl e1'.out ?_; intro w4 h4 g4 z4)
       refine ret_bf rfl rfl rfl rfl h4 ⟨by subst hpp; show Ending.returned (.tuple #[.bool (!(Out.err cd p).bool && (cd : Int) == 0), fv cd ((p + (k + 1) : Nat) : Int) 6]) = Ending.returned (.tuple #[.bool false, fv cd ((p + 1 + k : Nat) : Int) 6]); rw [show p + 1 + k = p + (k + 1) by omega, show ((cd : Int) == 0) = false by simpa using hcd]; rfl, b4.grown g4 (by omega) (fun k hk => by cases hk; exact Nat.le_refl _)⟩)
set_option maxHeartbeats 1000000 in
set_option maxRecDepth 100000 in
theorem rtest3_not (b f c k : Nat) (tv : Value) (O : Out) (w : World) (hc : 3 ≤ c) (hk : k ≤ 100) (hO : O.ok) (hb : b < w.heap.size) (s1 : ByteArray) (c0 : w.cell? ⟨b, f, none⟩ = some (.string ⟨#[33]⟩)) (c1 : w.cell? ⟨b, f + 1, none⟩ = some (.string s1)) (hB : ∀ W, Calls Tryz.prog 35 #[.string s1] W fun e w' => e = .returned (.bool false) ∧ w' = W)
    (hC : ∀ W, Below w.heap.size w W → w.heap.size ≤ W.heap.size → Calls Tryz.prog 17 #[.slice (some ⟨b, f + 1, none⟩) 2 (c - 1), .int .i64 ((k + 1 : Nat) : Int), tv] W (RtR W O (k + 1))) : Calls Tryz.prog 17 #[.slice (some ⟨b, f, none⟩) 3 c, .int .i64 k, tv] w (RtR w O.neg k) := by
  have hz := Lib.hid (zF w)
  have c00 : (w.alloc (.cells #[.int .i64 0, .int .i64 0, .int .i64 0] 28)).cell? ⟨b, f, none⟩ = some (.string ⟨#[33]⟩) := by rw [World.cell?_alloc_lt _ _ ⟨b, f, none⟩ hb]; exact c0
  have c01 : (w.alloc (.cells #[.int .i64 0, .int .i64 0, .int .i64 0] 28)).cell? ⟨b, f + 1, none⟩ = some (.string s1) := by rw [World.cell?_alloc_lt _ _ ⟨b, f + 1, none⟩ hb]; exact c1
  have hB' := Lib.hid hB
  clear hB
  have hw : IntKind.i64.wrap ((k : Int) + 1) = ((k + 1 : Nat) : Int) := by rw [IntKind.wrap_i64]; omega
  have hC' := Lib.hid hC
  clear hC
  go_enter Tryz.func17, Tryz.ntmps17
  go_wp2_with fail
  refine (hB'.out _).mono ?_
  rintro e w0 ⟨rfl, rfl⟩
  go_wp2_with fail
  refine (hC'.out _ ((Below.refl _ _).alloc (Nat.le_refl _) _) (by simp)).mono ?_
  rintro e w1 ⟨rfl, b1⟩
  have h1 := Lib.hid (row_below hz.out b1 (by simp))
  have b2 := Lib.hid (((Below.refl w.heap.size w).alloc (Nat.le_refl _) (.cells #[.int .i64 0, .int .i64 0, .int .i64 0] 28)).trans (b1.mono (by simp)))
  have z1 := b1.size
  rw [World.size_alloc] at z1
  clear b1
  have hq := Lib.hid (zF w1)
  cases O with
  | val x =>
    rw [show fO (.val x) (k + 1) = fv 0 0 0 from rfl]
    go_wp2_with (refine store_flt rfl rfl _ _ rfl _ 0 0 0 0 0 0 rfl rfl hq.out ?_; intro w2 h2 g2 z2)
    have hne : w.heap.size < w1.heap.size := by omega
    have e1 := row_grown (row_alloc h1.out _) g2 (by intro e; injection e with e; omega)
    have e1' := Lib.hid (row_drew e1)
    have h2' := Lib.hid (row_drew h2)
    have b3 := Lib.hid (below_drewN ((b2.out.alloc (by omega) (.cells #[.int .i64 0, .int .i64 0, .int .i64 0] 28)).grown g2 (by simp; omega) (fun j hj => by cases hj; omega)) 1)
    have z3 : w1.heap.size ≤ w2.drew.heap.size := by show w1.heap.size ≤ w2.heap.size; rw [z2]; simp
    have f0 : w2.drew.cell? ⟨w1.heap.size, 0, none⟩ = some (.int .i64 (0)) := row_cell h2 rfl
    have f1 : w2.drew.cell? ⟨w1.heap.size, 1, none⟩ = some (.int .i64 (0)) := row_cell h2 rfl
    have f2 : w2.drew.cell? ⟨w1.heap.size, 2, none⟩ = some (.int .i64 (0)) := row_cell h2 rfl
    clear e1 h2 g2 z2
    cases x <;>
      (go_still_tail 9, (by kernel_rfl)
       change wpList _ _ _ _ _ w2.drew
       have b4 : Below w.heap.size w w2.drew := b3.out
       generalize w2.drew = W3 at e1' b4 z3
       go_wp2_with (refine store_flt rfl rfl _ _ rfl _ (0) (0) (0) 0 0 0 rfl rfl e1'.out ?_; intro w4 h4 g4 z4)
       refine ret_bf rfl rfl rfl rfl h4 ⟨rfl, b4.grown g4 (by omega) (fun k hk => by cases hk; exact Nat.le_refl _)⟩)
  | err cd p =>
    have hcd : ¬ (cd : Int) = 0 := by have := hO.1; omega
    rw [show fO (.err cd p) (k + 1) = fv cd ((p + (k + 1) : Nat) : Int) 6 from rfl]
    generalize hpp : p + (k + 1) = pp
    go_wp2_with (refine store_flt rfl rfl _ _ rfl _ cd (pp : Int) 6 0 0 0 rfl rfl hq.out ?_; intro w2 h2 g2 z2)
    have hne : w.heap.size < w1.heap.size := by omega
    have e1 := row_grown (row_alloc h1.out _) g2 (by intro e; injection e with e; omega)
    have e1' := Lib.hid (row_drew e1)
    have h2' := Lib.hid (row_drew h2)
    have b3 := Lib.hid (below_drewN ((b2.out.alloc (by omega) (.cells #[.int .i64 0, .int .i64 0, .int .i64 0] 28)).grown g2 (by simp; omega) (fun j hj => by cases hj; omega)) 1)
    have z3 : w1.heap.size ≤ w2.drew.heap.size := by show w1.heap.size ≤ w2.heap.size; rw [z2]; simp
    have f0 : w2.drew.cell? ⟨w1.heap.size, 0, none⟩ = some (.int .i64 ((cd : Int))) := row_cell h2 rfl
    have f1 : w2.drew.cell? ⟨w1.heap.size, 1, none⟩ = some (.int .i64 ((pp : Int))) := row_cell h2 rfl
    have f2 : w2.drew.cell? ⟨w1.heap.size, 2, none⟩ = some (.int .i64 (6)) := row_cell h2 rfl
    clear e1 h2 g2 z2
    · (go_still_tail 9, (by kernel_rfl)
       change wpList _ _ _ _ _ w2.drew
       have b4 : Below w.heap.size w w2.drew := b3.out
       generalize w2.drew = W3 at e1' b4 z3
       go_wp2_with (refine store_flt rfl rfl _ _ rfl _ ((cd : Int)) ((pp : Int)) (6) 0 0 0 rfl rfl e1'.out ?_; intro w4 h4 g4 z4)
       refine ret_bf rfl rfl rfl rfl h4 ⟨by subst hpp; show Ending.returned (.tuple #[.bool (!(Out.err cd p).bool && (cd : Int) == 0), fv cd ((p + (k + 1) : Nat) : Int) 6]) = Ending.returned (.tuple #[.bool false, fv cd ((p + 1 + k : Nat) : Int) 6]); rw [show p + 1 + k = p + (k + 1) by omega, show ((cd : Int) == 0) = false by simpa using hcd]; rfl, b4.grown g4 (by omega) (fun k hk => by cases hk; exact Nat.le_refl _)⟩)
set_option maxHeartbeats 1000000 in
set_option maxRecDepth 100000 in
theorem rtest4_not (b f c k : Nat) (tv : Value) (O : Out) (w : World) (hc : 4 ≤ c) (hk : k ≤ 100) (hO : O.ok) (hb : b < w.heap.size) (c0 : w.cell? ⟨b, f, none⟩ = some (.string ⟨#[33]⟩))
    (hC : ∀ W, Below w.heap.size w W → w.heap.size ≤ W.heap.size → Calls Tryz.prog 17 #[.slice (some ⟨b, f + 1, none⟩) 3 (c - 1), .int .i64 ((k + 1 : Nat) : Int), tv] W (RtR W O (k + 1))) : Calls Tryz.prog 17 #[.slice (some ⟨b, f, none⟩) 4 c, .int .i64 k, tv] w (RtR w O.neg k) := by
  have hz := Lib.hid (zF w)
  have c00 : (w.alloc (.cells #[.int .i64 0, .int .i64 0, .int .i64 0] 28)).cell? ⟨b, f, none⟩ = some (.string ⟨#[33]⟩) := by rw [World.cell?_alloc_lt _ _ ⟨b, f, none⟩ hb]; exact c0
  have hw : IntKind.i64.wrap ((k : Int) + 1) = ((k + 1 : Nat) : Int) := by rw [IntKind.wrap_i64]; omega
  have hC' := Lib.hid hC
  clear hC
  go_enter Tryz.func17, Tryz.ntmps17
  go_wp2_with fail
  refine (hC'.out _ ((Below.refl _ _).alloc (Nat.le_refl _) _) (by simp)).mono ?_
  rintro e w1 ⟨rfl, b1⟩
  have h1 := Lib.hid (row_below hz.out b1 (by simp))
  have b2 := Lib.hid (((Below.refl w.heap.size w).alloc (Nat.le_refl _) (.cells #[.int .i64 0, .int .i64 0, .int .i64 0] 28)).trans (b1.mono (by simp)))
  have z1 := b1.size
  rw [World.size_alloc] at z1
  clear b1
  have hq := Lib.hid (zF w1)
  cases O with
  | val x =>
    rw [show fO (.val x) (k + 1) = fv 0 0 0 from rfl]
    go_wp2_with (refine store_flt rfl rfl _ _ rfl _ 0 0 0 0 0 0 rfl rfl hq.out ?_; intro w2 h2 g2 z2)
    have hne : w.heap.size < w1.heap.size := by omega
    have e1 := row_grown (row_alloc h1.out _) g2 (by intro e; injection e with e; omega)
    have e1' := Lib.hid (row_drew e1)
    have h2' := Lib.hid (row_drew h2)
    have b3 := Lib.hid (below_drewN ((b2.out.alloc (by omega) (.cells #[.int .i64 0, .int .i64 0, .int .i64 0] 28)).grown g2 (by simp; omega) (fun j hj => by cases hj; omega)) 1)
    have z3 : w1.heap.size ≤ w2.drew.heap.size := by show w1.heap.size ≤ w2.heap.size; rw [z2]; simp
    have f0 : w2.drew.cell? ⟨w1.heap.size, 0, none⟩ = some (.int .i64 (0)) := row_cell h2 rfl
    have f1 : w2.drew.cell? ⟨w1.heap.size, 1, none⟩ = some (.int .i64 (0)) := row_cell h2 rfl
    have f2 : w2.drew.cell? ⟨w1.heap.size, 2, none⟩ = some (.int .i64 (0)) := row_cell h2 rfl
    clear e1 h2 g2 z2
    cases x <;>
      (go_still_tail 9, (by kernel_rfl)
       change wpList _ _ _ _ _ w2.drew
       have b4 : Below w.heap.size w w2.drew := b3.out
       generalize w2.drew = W3 at e1' b4 z3
       go_wp2_with (refine store_flt rfl rfl _ _ rfl _ (0) (0) (0) 0 0 0 rfl rfl e1'.out ?_; intro w4 h4 g4 z4)
       refine ret_bf rfl rfl rfl rfl h4 ⟨rfl, b4.grown g4 (by omega) (fun k hk => by cases hk; exact Nat.le_refl _)⟩)
  | err cd p =>
    have hcd : ¬ (cd : Int) = 0 := by have := hO.1; omega
    rw [show fO (.err cd p) (k + 1) = fv cd ((p + (k + 1) : Nat) : Int) 6 from rfl]
    generalize hpp : p + (k + 1) = pp
    go_wp2_with (refine store_flt rfl rfl _ _ rfl _ cd (pp : Int) 6 0 0 0 rfl rfl hq.out ?_; intro w2 h2 g2 z2)
    have hne : w.heap.size < w1.heap.size := by omega
    have e1 := row_grown (row_alloc h1.out _) g2 (by intro e; injection e with e; omega)
    have e1' := Lib.hid (row_drew e1)
    have h2' := Lib.hid (row_drew h2)
    have b3 := Lib.hid (below_drewN ((b2.out.alloc (by omega) (.cells #[.int .i64 0, .int .i64 0, .int .i64 0] 28)).grown g2 (by simp; omega) (fun j hj => by cases hj; omega)) 1)
    have z3 : w1.heap.size ≤ w2.drew.heap.size := by show w1.heap.size ≤ w2.heap.size; rw [z2]; simp
    have f0 : w2.drew.cell? ⟨w1.heap.size, 0, none⟩ = some (.int .i64 ((cd : Int))) := row_cell h2 rfl
    have f1 : w2.drew.cell? ⟨w1.heap.size, 1, none⟩ = some (.int .i64 ((pp : Int))) := row_cell h2 rfl
    have f2 : w2.drew.cell? ⟨w1.heap.size, 2, none⟩ = some (.int .i64 (6)) := row_cell h2 rfl
    clear e1 h2 g2 z2
    · (go_still_tail 9, (by kernel_rfl)
       change wpList _ _ _ _ _ w2.drew
       have b4 : Below w.heap.size w w2.drew := b3.out
       generalize w2.drew = W3 at e1' b4 z3
       go_wp2_with (refine store_flt rfl rfl _ _ rfl _ ((cd : Int)) ((pp : Int)) (6) 0 0 0 rfl rfl e1'.out ?_; intro w4 h4 g4 z4)
       refine ret_bf rfl rfl rfl rfl h4 ⟨by subst hpp; show Ending.returned (.tuple #[.bool (!(Out.err cd p).bool && (cd : Int) == 0), fv cd ((p + (k + 1) : Nat) : Int) 6]) = Ending.returned (.tuple #[.bool false, fv cd ((p + 1 + k : Nat) : Int) 6]); rw [show p + 1 + k = p + (k + 1) by omega, show ((cd : Int) == 0) = false by simpa using hcd]; rfl, b4.grown g4 (by omega) (fun k hk => by cases hk; exact Nat.le_refl _)⟩)
set_option maxHeartbeats 1000000 in
set_option maxRecDepth 100000 in
theorem rtest3_par (b f c k : Nat) (tv : Value) (s1 : ByteArray) (O : Out) (w : World) (hk : k ≤ 100) (hb : b < w.heap.size) (c0 : w.cell? ⟨b, f, none⟩ = some (.string ⟨#[40]⟩)) (c1 : w.cell? ⟨b, f + 1, none⟩ = some (.string s1)) (c2 : w.cell? ⟨b, f + 2, none⟩ = some (.string ⟨#[41]⟩)) (hB : ∀ W, Calls Tryz.prog 35 #[.string s1] W fun e w' => e = .returned (.bool false) ∧ w' = W) (hc : 3 ≤ c) (hC : ∀ W, Below w.heap.size w W → w.heap.size ≤ W.heap.size → Calls Tryz.prog 17 #[.slice (some ⟨b, f + 1, none⟩) 1 (c - 1), .int .i64 ((k + 1 : Nat) : Int), tv] W (RtR W O (k + 1))) :
    Calls Tryz.prog 17 #[.slice (some ⟨b, f, none⟩) 3 c, .int .i64 k, tv] w (RtR w (O.mov) k) := by
  have hz := Lib.hid (zF w)
  have c00 : (w.alloc (.cells #[.int .i64 0, .int .i64 0, .int .i64 0] 28)).cell? ⟨b, f, none⟩ = some (.string ⟨#[40]⟩) := by rw [World.cell?_alloc_lt _ _ ⟨b, f, none⟩ hb]; exact c0
  have c01 : (w.alloc (.cells #[.int .i64 0, .int .i64 0, .int .i64 0] 28)).cell? ⟨b, f + 1, none⟩ = some (.string s1) := by rw [World.cell?_alloc_lt _ _ ⟨b, f + 1, none⟩ hb]; exact c1
  have c02 : (w.alloc (.cells #[.int .i64 0, .int .i64 0, .int .i64 0] 28)).cell? ⟨b, f + 2, none⟩ = some (.string ⟨#[41]⟩) := by rw [World.cell?_alloc_lt _ _ ⟨b, f + 2, none⟩ hb]; exact c2
  have hB' := Lib.hid hB
  clear hB
  have hC' := Lib.hid hC
  clear hC
  have hw : IntKind.i64.wrap ((k : Int) + 1) = ((k + 1 : Nat) : Int) := by rw [IntKind.wrap_i64]; omega
  go_enter Tryz.func17, Tryz.ntmps17
  go_wp2_with fail
  refine (hB'.out _).mono ?_
  rintro e w0 ⟨rfl, rfl⟩
  go_wp2_with fail
  refine (hC'.out _ ((Below.refl _ _).alloc (Nat.le_refl _) _) (by simp)).mono ?_
  rintro e w1 ⟨rfl, b1⟩
  have h1 := Lib.hid (row_below hz.out b1 (by simp))
  have b2 := Lib.hid (((Below.refl w.heap.size w).alloc (Nat.le_refl _) (.cells #[.int .i64 0, .int .i64 0, .int .i64 0] 28)).trans (b1.mono (by simp)))
  have z1 := b1.size
  rw [World.size_alloc] at z1
  clear b1
  cases O with
  | val x =>
    rw [show fO (.val x) (k + 1) = fv 0 0 0 from rfl]
    go_wp2_with (refine store_flt rfl rfl _ _ rfl _ 0 0 0 0 0 0 rfl rfl h1.out ?_; intro w2 h2 g2 z2)
    exact ret_bf rfl rfl rfl rfl h2 ⟨rfl, b2.out.grown g2 (by omega) (fun k hk => by cases hk; exact Nat.le_refl _)⟩
  | err cd p =>
    rw [show fO (.err cd p) (k + 1) = fv cd ((p + (k + 1) : Nat) : Int) 6 from rfl]
    generalize hpp : p + (k + 1) = pp
    go_wp2_with (refine store_flt rfl rfl _ _ rfl _ cd (pp : Int) 6 0 0 0 rfl rfl h1.out ?_; intro w2 h2 g2 z2)
    refine ret_bf rfl rfl rfl rfl h2 ⟨?_, b2.out.grown g2 (by omega) (fun k hk => by cases hk; exact Nat.le_refl _)⟩
    subst hpp
    show _ = Ending.returned (.tuple #[.bool false, fv cd ((p + 1 + k : Nat) : Int) 6])
    rw [show p + 1 + k = p + (k + 1) by omega]
    rfl
set_option maxHeartbeats 1000000 in
set_option maxRecDepth 100000 in
theorem rtest4_par (b f c k : Nat) (tv : Value) (O : Out) (w : World) (hk : k ≤ 100) (hb : b < w.heap.size) (c0 : w.cell? ⟨b, f, none⟩ = some (.string ⟨#[40]⟩)) (c3 : w.cell? ⟨b, f + 3, none⟩ = some (.string ⟨#[41]⟩)) (hc : 4 ≤ c) (hC : ∀ W, Below w.heap.size w W → w.heap.size ≤ W.heap.size → Calls Tryz.prog 17 #[.slice (some ⟨b, f + 1, none⟩) 2 (c - 1), .int .i64 ((k + 1 : Nat) : Int), tv] W (RtR W O (k + 1))) :
    Calls Tryz.prog 17 #[.slice (some ⟨b, f, none⟩) 4 c, .int .i64 k, tv] w (RtR w (O.mov) k) := by
  have hz := Lib.hid (zF w)
  have c00 : (w.alloc (.cells #[.int .i64 0, .int .i64 0, .int .i64 0] 28)).cell? ⟨b, f, none⟩ = some (.string ⟨#[40]⟩) := by rw [World.cell?_alloc_lt _ _ ⟨b, f, none⟩ hb]; exact c0
  have c03 : (w.alloc (.cells #[.int .i64 0, .int .i64 0, .int .i64 0] 28)).cell? ⟨b, f + 3, none⟩ = some (.string ⟨#[41]⟩) := by rw [World.cell?_alloc_lt _ _ ⟨b, f + 3, none⟩ hb]; exact c3
  have hC' := Lib.hid hC
  clear hC
  have hw : IntKind.i64.wrap ((k : Int) + 1) = ((k + 1 : Nat) : Int) := by rw [IntKind.wrap_i64]; omega
  go_enter Tryz.func17, Tryz.ntmps17
  go_wp2_with fail
  refine (hC'.out _ ((Below.refl _ _).alloc (Nat.le_refl _) _) (by simp)).mono ?_
  rintro e w1 ⟨rfl, b1⟩
  have h1 := Lib.hid (row_below hz.out b1 (by simp))
  have b2 := Lib.hid (((Below.refl w.heap.size w).alloc (Nat.le_refl _) (.cells #[.int .i64 0, .int .i64 0, .int .i64 0] 28)).trans (b1.mono (by simp)))
  have z1 := b1.size
  rw [World.size_alloc] at z1
  clear b1
  cases O with
  | val x =>
    rw [show fO (.val x) (k + 1) = fv 0 0 0 from rfl]
    go_wp2_with (refine store_flt rfl rfl _ _ rfl _ 0 0 0 0 0 0 rfl rfl h1.out ?_; intro w2 h2 g2 z2)
    exact ret_bf rfl rfl rfl rfl h2 ⟨rfl, b2.out.grown g2 (by omega) (fun k hk => by cases hk; exact Nat.le_refl _)⟩
  | err cd p =>
    rw [show fO (.err cd p) (k + 1) = fv cd ((p + (k + 1) : Nat) : Int) 6 from rfl]
    generalize hpp : p + (k + 1) = pp
    go_wp2_with (refine store_flt rfl rfl _ _ rfl _ cd (pp : Int) 6 0 0 0 rfl rfl h1.out ?_; intro w2 h2 g2 z2)
    refine ret_bf rfl rfl rfl rfl h2 ⟨?_, b2.out.grown g2 (by omega) (fun k hk => by cases hk; exact Nat.le_refl _)⟩
    subst hpp
    show _ = Ending.returned (.tuple #[.bool false, fv cd ((p + 1 + k : Nat) : Int) 6])
    rw [show p + 1 + k = p + (k + 1) by omega]
    rfl
set_option maxHeartbeats 1000000 in
set_option maxRecDepth 100000 in
theorem rtest3_no (b f c k : Nat) (tv : Value) (s0 s1 : ByteArray) (w : World) (hk : k ≤ 100) (hb : b < w.heap.size) (h33 : (s0.toList == [33]) = false) (h40 : (s0.toList == [40]) = false) (c0 : w.cell? ⟨b, f, none⟩ = some (.string s0)) (c1 : w.cell? ⟨b, f + 1, none⟩ = some (.string s1)) (hB : ∀ W, Calls Tryz.prog 35 #[.string s1] W fun e w' => e = .returned (.bool false) ∧ w' = W) :
    Calls Tryz.prog 17 #[.slice (some ⟨b, f, none⟩) 3 c, .int .i64 k, tv] w (RtR w (.err 14 1) k) := by
  have hz := Lib.hid (zF w)
  have c00 : (w.alloc (.cells #[.int .i64 0, .int .i64 0, .int .i64 0] 28)).cell? ⟨b, f, none⟩ = some (.string s0) := by rw [World.cell?_alloc_lt _ _ ⟨b, f, none⟩ hb]; exact c0
  have c01 : (w.alloc (.cells #[.int .i64 0, .int .i64 0, .int .i64 0] 28)).cell? ⟨b, f + 1, none⟩ = some (.string s1) := by rw [World.cell?_alloc_lt _ _ ⟨b, f + 1, none⟩ hb]; exact c1
  have hB' := Lib.hid hB
  clear hB
  have hw : IntKind.i64.wrap ((k : Int) + 1) = ((1 + k : Nat) : Int) := by rw [IntKind.wrap_i64]; omega
  go_enter Tryz.func17, Tryz.ntmps17
  go_wp2_with fail
  refine (hB'.out _).mono ?_
  rintro e w0 ⟨rfl, rfl⟩
  go_wp2_with fail
  refine (rbad_any _ _ _).mono ?_
  rintro e w1 ⟨rfl, b1⟩
  have h1 := Lib.hid (row_below hz.out b1 (by simp))
  have b2 := Lib.hid (((Below.refl w.heap.size w).alloc (Nat.le_refl _) (.cells #[.int .i64 0, .int .i64 0, .int .i64 0] 28)).trans (b1.mono (by simp)))
  have z1 := b1.size
  rw [World.size_alloc] at z1
  clear b1
  go_wp2_with (refine store_flt rfl rfl _ _ rfl _ 14 (((1 + k : Nat) : Int)) 6 0 0 0 rfl rfl h1.out ?_; intro w2 h2 g2 z2)
  refine ret_bf rfl rfl rfl rfl h2 ⟨?_, b2.out.grown g2 (by omega) (fun k hk => by cases hk; exact Nat.le_refl _)⟩
  show _ = Ending.returned (.tuple #[.bool false, fv 14 ((1 + k : Nat) : Int) 6])
  rfl
set_option maxHeartbeats 1000000 in
set_option maxRecDepth 100000 in
theorem rtest3_no2 (b f c k : Nat) (tv : Value) (s1 s2 : ByteArray) (w : World) (hk : k ≤ 100) (hb : b < w.heap.size) (h41 : (s2.toList == [41]) = false) (c0 : w.cell? ⟨b, f, none⟩ = some (.string ⟨#[40]⟩)) (c1 : w.cell? ⟨b, f + 1, none⟩ = some (.string s1)) (c2 : w.cell? ⟨b, f + 2, none⟩ = some (.string s2)) (hB : ∀ W, Calls Tryz.prog 35 #[.string s1] W fun e w' => e = .returned (.bool false) ∧ w' = W) :
    Calls Tryz.prog 17 #[.slice (some ⟨b, f, none⟩) 3 c, .int .i64 k, tv] w (RtR w (.err 14 1) k) := by
  have hz := Lib.hid (zF w)
  have c00 : (w.alloc (.cells #[.int .i64 0, .int .i64 0, .int .i64 0] 28)).cell? ⟨b, f, none⟩ = some (.string ⟨#[40]⟩) := by rw [World.cell?_alloc_lt _ _ ⟨b, f, none⟩ hb]; exact c0
  have c01 : (w.alloc (.cells #[.int .i64 0, .int .i64 0, .int .i64 0] 28)).cell? ⟨b, f + 1, none⟩ = some (.string s1) := by rw [World.cell?_alloc_lt _ _ ⟨b, f + 1, none⟩ hb]; exact c1
  have c02 : (w.alloc (.cells #[.int .i64 0, .int .i64 0, .int .i64 0] 28)).cell? ⟨b, f + 2, none⟩ = some (.string s2) := by rw [World.cell?_alloc_lt _ _ ⟨b, f + 2, none⟩ hb]; exact c2
  have hB' := Lib.hid hB
  clear hB
  have hw : IntKind.i64.wrap ((k : Int) + 1) = ((1 + k : Nat) : Int) := by rw [IntKind.wrap_i64]; omega
  go_enter Tryz.func17, Tryz.ntmps17
  go_wp2_with fail
  refine (hB'.out _).mono ?_
  rintro e w0 ⟨rfl, rfl⟩
  go_wp2_with fail
  refine (rbad_any _ _ _).mono ?_
  rintro e w1 ⟨rfl, b1⟩
  have h1 := Lib.hid (row_below hz.out b1 (by simp))
  have b2 := Lib.hid (((Below.refl w.heap.size w).alloc (Nat.le_refl _) (.cells #[.int .i64 0, .int .i64 0, .int .i64 0] 28)).trans (b1.mono (by simp)))
  have z1 := b1.size
  rw [World.size_alloc] at z1
  clear b1
  go_wp2_with (refine store_flt rfl rfl _ _ rfl _ 14 (((1 + k : Nat) : Int)) 6 0 0 0 rfl rfl h1.out ?_; intro w2 h2 g2 z2)
  refine ret_bf rfl rfl rfl rfl h2 ⟨?_, b2.out.grown g2 (by omega) (fun k hk => by cases hk; exact Nat.le_refl _)⟩
  show _ = Ending.returned (.tuple #[.bool false, fv 14 ((1 + k : Nat) : Int) 6])
  rfl
set_option maxHeartbeats 1000000 in
set_option maxRecDepth 100000 in
theorem rtest4_no (b f c k : Nat) (tv : Value) (s0 : ByteArray) (w : World) (hb : b < w.heap.size) (h33 : (s0.toList == [33]) = false) (h40 : (s0.toList == [40]) = false) (c0 : w.cell? ⟨b, f, none⟩ = some (.string s0)) :
    Calls Tryz.prog 17 #[.slice (some ⟨b, f, none⟩) 4 c, .int .i64 k, tv] w (RtR w (.err 14 0) k) := by
  have hz := Lib.hid (zF w)
  have c00 : (w.alloc (.cells #[.int .i64 0, .int .i64 0, .int .i64 0] 28)).cell? ⟨b, f, none⟩ = some (.string s0) := by rw [World.cell?_alloc_lt _ _ ⟨b, f, none⟩ hb]; exact c0
  go_enter Tryz.func17, Tryz.ntmps17
  go_wp2_with fail
  refine (rbad_any _ _ _).mono ?_
  rintro e w1 ⟨rfl, b1⟩
  have h1 := Lib.hid (row_below hz.out b1 (by simp))
  have b2 := Lib.hid (((Below.refl w.heap.size w).alloc (Nat.le_refl _) (.cells #[.int .i64 0, .int .i64 0, .int .i64 0] 28)).trans (b1.mono (by simp)))
  have z1 := b1.size
  rw [World.size_alloc] at z1
  clear b1
  go_wp2_with (refine store_flt rfl rfl _ _ rfl _ 14 ((k : Int)) 6 0 0 0 rfl rfl h1.out ?_; intro w2 h2 g2 z2)
  refine ret_bf rfl rfl rfl rfl h2 ⟨?_, b2.out.grown g2 (by omega) (fun k hk => by cases hk; exact Nat.le_refl _)⟩
  show _ = Ending.returned (.tuple #[.bool false, fv 14 ((0 + k : Nat) : Int) 6])
  rw [Nat.zero_add]
  rfl
set_option maxHeartbeats 1000000 in
set_option maxRecDepth 100000 in
theorem rtest4_no2 (b f c k : Nat) (tv : Value) (s3 : ByteArray) (w : World) (hb : b < w.heap.size) (h41 : (s3.toList == [41]) = false) (c0 : w.cell? ⟨b, f, none⟩ = some (.string ⟨#[40]⟩)) (c3 : w.cell? ⟨b, f + 3, none⟩ = some (.string s3)) :
    Calls Tryz.prog 17 #[.slice (some ⟨b, f, none⟩) 4 c, .int .i64 k, tv] w (RtR w (.err 14 0) k) := by
  have hz := Lib.hid (zF w)
  have c00 : (w.alloc (.cells #[.int .i64 0, .int .i64 0, .int .i64 0] 28)).cell? ⟨b, f, none⟩ = some (.string ⟨#[40]⟩) := by rw [World.cell?_alloc_lt _ _ ⟨b, f, none⟩ hb]; exact c0
  have c03 : (w.alloc (.cells #[.int .i64 0, .int .i64 0, .int .i64 0] 28)).cell? ⟨b, f + 3, none⟩ = some (.string s3) := by rw [World.cell?_alloc_lt _ _ ⟨b, f + 3, none⟩ hb]; exact c3
  go_enter Tryz.func17, Tryz.ntmps17
  go_wp2_with fail
  refine (rbad_any _ _ _).mono ?_
  rintro e w1 ⟨rfl, b1⟩
  have h1 := Lib.hid (row_below hz.out b1 (by simp))
  have b2 := Lib.hid (((Below.refl w.heap.size w).alloc (Nat.le_refl _) (.cells #[.int .i64 0, .int .i64 0, .int .i64 0] 28)).trans (b1.mono (by simp)))
  have z1 := b1.size
  rw [World.size_alloc] at z1
  clear b1
  go_wp2_with (refine store_flt rfl rfl _ _ rfl _ 14 ((k : Int)) 6 0 0 0 rfl rfl h1.out ?_; intro w2 h2 g2 z2)
  refine ret_bf rfl rfl rfl rfl h2 ⟨?_, b2.out.grown g2 (by omega) (fun k hk => by cases hk; exact Nat.le_refl _)⟩
  show _ = Ending.returned (.tuple #[.bool false, fv 14 ((0 + k : Nat) : Int) 6])
  rw [Nat.zero_add]
  rfl
structure Rt7 (a0 : Act) (w0 : World) (base B b f n c k : Nat) (tv : Value) (s0 s1 : ByteArray) (x : Bool) (cd p l : Int) : Prop where
  hz : a0.tmps.size = 144
  h0 : a0.eval (.tmp 0) = .slice (some ⟨b, f, none⟩) n c
  h1 : a0.eval (.tmp 1) = .int .i64 k
  h2 : a0.eval (.tmp 2) = tv
  h7 : a0.eval (.tmp 7) = .pointer (some ⟨B, 0, none⟩)
  hF : IsF w0 B 0 0 0
  lB : B < base
  hn : 2 ≤ n
  lb : b < base
  c0 : w0.cell? ⟨b, f + 0, none⟩ = some (.string s0)
  c1 : w0.cell? ⟨b, f + 1, none⟩ = some (.string s1)
  hC : ∀ W, Below base w0 W → Calls Tryz.prog 34 #[.string s0, .string s1, .int .i64 k, tv] W fun e w' => e = .returned (.tuple #[.bool x, fv cd p l]) ∧ Below W.heap.size W w'
section
variable {a0 : Act} {w0 : World} {base B b f n c k : Nat} {tv : Value} {s0 s1 : ByteArray} {x : Bool} {cd p l : Int}
def rt7Cs (b f n c k : Nat) (tv : Value) (s0 s1 : ByteArray) (x : Bool) (cd p l : Int) : List Claim := [.val (.slice (some ⟨b, f, none⟩) n c), .val (.pointer (some ⟨b, f + 0, none⟩)), .val (.string (s0)), .val (.slice (some ⟨b, f, none⟩) n c), .val (.pointer (some ⟨b, f + 1, none⟩)), .val (.string (s1)), .val (.int .i64 (k : Int)), .val (tv), .val (.tuple #[.bool x, fv cd p l]), .val (.bool x), .val (fv cd p l), .val (.bool x)]
theorem rt7_ok : planOk .any (regionOps Tryz.f17 7) (upto 12) = true := by kernel_rfl
theorem rt7_0 (F : Rt7 a0 w0 base B b f n c k tv s0 s1 x cd p l) : PO (regionOps Tryz.f17 7) 12 a0 base w0 (rt7Cs b f n c k tv s0 s1 x cd p l) 0 := by
  intro o ho u W hI hR
  obtain ⟨e1, e2, e3⟩ := ob_op ho (show ((regionOps Tryz.f17 7)[0]?).map (fun o => (o.op, o.dst, o.guard)) = some (.move (.tmp 0), some 34, none) by kernel_rfl)
  rw [if_pos (plan_free e3 _)]
  intro K hK
  have x0 := ev_base (u := u) rt7_ok (by kernel_rfl) F.h0
  exact opw_move e1 x0 (hK _ _ ⟨_, rfl, rfl⟩ hI (Below.refl _ _))
theorem rt7_1 (F : Rt7 a0 w0 base B b f n c k tv s0 s1 x cd p l) : PO (regionOps Tryz.f17 7) 12 a0 base w0 (rt7Cs b f n c k tv s0 s1 x cd p l) 1 := by
  intro o ho u W hI hR
  obtain ⟨e1, e2, e3⟩ := ob_op ho (show ((regionOps Tryz.f17 7)[1]?).map (fun o => (o.op, o.dst, o.guard)) = some (.indexAddr 22 (.tmp 34) (.const (.int .i64 0)), some 35, none) by kernel_rfl)
  rw [if_pos (plan_free e3 _)]
  intro K hK
  have x0 := ev_val (v := .slice (some ⟨b, f, none⟩) n c) (cs := (rt7Cs b f n c k tv s0 s1 x cd p l)) rt7_ok hR ho (j := 0) (t := 34) (by rw [F.hz]; kernel_rfl) rfl
  have x1 : (putL (planOf (regionOps Tryz.f17 7) (upto 12)) u a0).eval (.const (.int .i64 0)) = .int .i64 (0) := rfl
  exact opw_index (k := 0) (by have := F.hn; omega) e1 x0 x1 (hK _ _ ⟨_, rfl, rfl⟩ hI (Below.refl _ _))
theorem rt7_2 (F : Rt7 a0 w0 base B b f n c k tv s0 s1 x cd p l) : PO (regionOps Tryz.f17 7) 12 a0 base w0 (rt7Cs b f n c k tv s0 s1 x cd p l) 2 := by
  intro o ho u W hI hR
  obtain ⟨e1, e2, e3⟩ := ob_op ho (show ((regionOps Tryz.f17 7)[2]?).map (fun o => (o.op, o.dst, o.guard)) = some (.load 9 (.tmp 35), some 36, none) by kernel_rfl)
  rw [if_pos (plan_free e3 _)]
  intro K hK
  have x0 := ev_val (v := .pointer (some ⟨b, f + 0, none⟩)) (cs := (rt7Cs b f n c k tv s0 s1 x cd p l)) rt7_ok hR ho (j := 1) (t := 35) (by rw [F.hz]; kernel_rfl) rfl
  exact opw_load_str e1 x0 ((hI.1.cell F.lb).trans F.c0) (hK _ _ ⟨_, rfl, rfl⟩ hI (Below.refl _ _))
theorem rt7_3 (F : Rt7 a0 w0 base B b f n c k tv s0 s1 x cd p l) : PO (regionOps Tryz.f17 7) 12 a0 base w0 (rt7Cs b f n c k tv s0 s1 x cd p l) 3 := by
  intro o ho u W hI hR
  obtain ⟨e1, e2, e3⟩ := ob_op ho (show ((regionOps Tryz.f17 7)[3]?).map (fun o => (o.op, o.dst, o.guard)) = some (.move (.tmp 0), some 37, none) by kernel_rfl)
  rw [if_pos (plan_free e3 _)]
  intro K hK
  have x0 := ev_base (u := u) rt7_ok (by kernel_rfl) F.h0
  exact opw_move e1 x0 (hK _ _ ⟨_, rfl, rfl⟩ hI (Below.refl _ _))
theorem rt7_4 (F : Rt7 a0 w0 base B b f n c k tv s0 s1 x cd p l) : PO (regionOps Tryz.f17 7) 12 a0 base w0 (rt7Cs b f n c k tv s0 s1 x cd p l) 4 := by
  intro o ho u W hI hR
  obtain ⟨e1, e2, e3⟩ := ob_op ho (show ((regionOps Tryz.f17 7)[4]?).map (fun o => (o.op, o.dst, o.guard)) = some (.indexAddr 22 (.tmp 37) (.const (.int .i64 1)), some 38, none) by kernel_rfl)
  rw [if_pos (plan_free e3 _)]
  intro K hK
  have x0 := ev_val (v := .slice (some ⟨b, f, none⟩) n c) (cs := (rt7Cs b f n c k tv s0 s1 x cd p l)) rt7_ok hR ho (j := 3) (t := 37) (by rw [F.hz]; kernel_rfl) rfl
  have x1 : (putL (planOf (regionOps Tryz.f17 7) (upto 12)) u a0).eval (.const (.int .i64 1)) = .int .i64 (1) := rfl
  exact opw_index (k := 1) (by have := F.hn; omega) e1 x0 x1 (hK _ _ ⟨_, rfl, rfl⟩ hI (Below.refl _ _))
theorem rt7_5 (F : Rt7 a0 w0 base B b f n c k tv s0 s1 x cd p l) : PO (regionOps Tryz.f17 7) 12 a0 base w0 (rt7Cs b f n c k tv s0 s1 x cd p l) 5 := by
  intro o ho u W hI hR
  obtain ⟨e1, e2, e3⟩ := ob_op ho (show ((regionOps Tryz.f17 7)[5]?).map (fun o => (o.op, o.dst, o.guard)) = some (.load 9 (.tmp 38), some 39, none) by kernel_rfl)
  rw [if_pos (plan_free e3 _)]
  intro K hK
  have x0 := ev_val (v := .pointer (some ⟨b, f + 1, none⟩)) (cs := (rt7Cs b f n c k tv s0 s1 x cd p l)) rt7_ok hR ho (j := 4) (t := 38) (by rw [F.hz]; kernel_rfl) rfl
  exact opw_load_str e1 x0 ((hI.1.cell F.lb).trans F.c1) (hK _ _ ⟨_, rfl, rfl⟩ hI (Below.refl _ _))
theorem rt7_6 (F : Rt7 a0 w0 base B b f n c k tv s0 s1 x cd p l) : PO (regionOps Tryz.f17 7) 12 a0 base w0 (rt7Cs b f n c k tv s0 s1 x cd p l) 6 := by
  intro o ho u W hI hR
  obtain ⟨e1, e2, e3⟩ := ob_op ho (show ((regionOps Tryz.f17 7)[6]?).map (fun o => (o.op, o.dst, o.guard)) = some (.move (.tmp 1), some 40, none) by kernel_rfl)
  rw [if_pos (plan_free e3 _)]
  intro K hK
  have x0 := ev_base (u := u) rt7_ok (by kernel_rfl) F.h1
  exact opw_move e1 x0 (hK _ _ ⟨_, rfl, rfl⟩ hI (Below.refl _ _))
theorem rt7_7 (F : Rt7 a0 w0 base B b f n c k tv s0 s1 x cd p l) : PO (regionOps Tryz.f17 7) 12 a0 base w0 (rt7Cs b f n c k tv s0 s1 x cd p l) 7 := by
  intro o ho u W hI hR
  obtain ⟨e1, e2, e3⟩ := ob_op ho (show ((regionOps Tryz.f17 7)[7]?).map (fun o => (o.op, o.dst, o.guard)) = some (.move (.tmp 2), some 41, none) by kernel_rfl)
  rw [if_pos (plan_free e3 _)]
  intro K hK
  have x0 := ev_base (u := u) rt7_ok (by kernel_rfl) F.h2
  exact opw_move e1 x0 (hK _ _ ⟨_, rfl, rfl⟩ hI (Below.refl _ _))
theorem rt7_8 (F : Rt7 a0 w0 base B b f n c k tv s0 s1 x cd p l) : PO (regionOps Tryz.f17 7) 12 a0 base w0 (rt7Cs b f n c k tv s0 s1 x cd p l) 8 := by
  intro o ho u W hI hR
  obtain ⟨e1, e2, e3⟩ := ob_op ho (show ((regionOps Tryz.f17 7)[8]?).map (fun o => (o.op, o.dst, o.guard)) = some (.call { callee := .value (.func 34), args := #[(.tmp 36), (.tmp 39), (.tmp 40), (.tmp 41)], argTypes := #[9, 9, 3, 35] }, some 42, none) by kernel_rfl)
  rw [if_pos (plan_free e3 _)]
  intro K hK
  have x0 := ev_val (v := .string (s0)) (cs := (rt7Cs b f n c k tv s0 s1 x cd p l)) rt7_ok hR ho (j := 2) (t := 36) (by rw [F.hz]; kernel_rfl) rfl
  have x1 := ev_val (v := .string (s1)) (cs := (rt7Cs b f n c k tv s0 s1 x cd p l)) rt7_ok hR ho (j := 5) (t := 39) (by rw [F.hz]; kernel_rfl) rfl
  have x2 := ev_val (v := .int .i64 (k : Int)) (cs := (rt7Cs b f n c k tv s0 s1 x cd p l)) rt7_ok hR ho (j := 6) (t := 40) (by rw [F.hz]; kernel_rfl) rfl
  have x3 := ev_val (v := tv) (cs := (rt7Cs b f n c k tv s0 s1 x cd p l)) rt7_ok hR ho (j := 7) (t := 41) (by rw [F.hz]; kernel_rfl) rfl
  refine opw_call e1 (vs := #[.string (s0), .string (s1), .int .i64 (k : Int), tv]) (by simp only [List.map_toArray, List.map_cons, List.map_nil, x0, x1, x2, x3]) Tryz.func34 (by kernel_rfl) (by kernel_rfl) (F.hC W hI.1) ?_
  rintro e W' ⟨rfl, b⟩
  exact ⟨_, rfl, hK _ _ ⟨_, rfl, rfl⟩ (hI.step b) b⟩
theorem rt7_9 (F : Rt7 a0 w0 base B b f n c k tv s0 s1 x cd p l) : PO (regionOps Tryz.f17 7) 12 a0 base w0 (rt7Cs b f n c k tv s0 s1 x cd p l) 9 := by
  intro o ho u W hI hR
  obtain ⟨e1, e2, e3⟩ := ob_op ho (show ((regionOps Tryz.f17 7)[9]?).map (fun o => (o.op, o.dst, o.guard)) = some (.extract (.tmp 42) 0, some 43, none) by kernel_rfl)
  rw [if_pos (plan_free e3 _)]
  intro K hK
  have x0 := ev_val (v := .tuple #[.bool x, fv cd p l]) (cs := (rt7Cs b f n c k tv s0 s1 x cd p l)) rt7_ok hR ho (j := 8) (t := 42) (by rw [F.hz]; kernel_rfl) rfl
  exact opw_extract e1 x0 rfl (hK _ _ ⟨_, rfl, rfl⟩ hI (Below.refl _ _))
theorem rt7_10 (F : Rt7 a0 w0 base B b f n c k tv s0 s1 x cd p l) : PO (regionOps Tryz.f17 7) 12 a0 base w0 (rt7Cs b f n c k tv s0 s1 x cd p l) 10 := by
  intro o ho u W hI hR
  obtain ⟨e1, e2, e3⟩ := ob_op ho (show ((regionOps Tryz.f17 7)[10]?).map (fun o => (o.op, o.dst, o.guard)) = some (.extract (.tmp 42) 1, some 44, none) by kernel_rfl)
  rw [if_pos (plan_free e3 _)]
  intro K hK
  have x0 := ev_val (v := .tuple #[.bool x, fv cd p l]) (cs := (rt7Cs b f n c k tv s0 s1 x cd p l)) rt7_ok hR ho (j := 8) (t := 42) (by rw [F.hz]; kernel_rfl) rfl
  exact opw_extract e1 x0 rfl (hK _ _ ⟨_, rfl, rfl⟩ hI (Below.refl _ _))
theorem rt7_11 (F : Rt7 a0 w0 base B b f n c k tv s0 s1 x cd p l) : PO (regionOps Tryz.f17 7) 12 a0 base w0 (rt7Cs b f n c k tv s0 s1 x cd p l) 11 := by
  intro o ho u W hI hR
  obtain ⟨e1, e2, e3⟩ := ob_op ho (show ((regionOps Tryz.f17 7)[11]?).map (fun o => (o.op, o.dst, o.guard)) = some (.assign (.tmp 43), some 6, none) by kernel_rfl)
  rw [if_pos (plan_free e3 _)]
  intro K hK
  have x0 := ev_val (v := .bool x) (cs := (rt7Cs b f n c k tv s0 s1 x cd p l)) rt7_ok hR ho (j := 9) (t := 43) (by rw [F.hz]; kernel_rfl) rfl
  exact opw_assign e1 x0 (hK _ _ ⟨_, rfl, rfl⟩ hI (Below.refl _ _))
theorem rt7_all (F : Rt7 a0 w0 base B b f n c k tv s0 s1 x cd p l) : ∀ i, i < 12 → PO (regionOps Tryz.f17 7) 12 a0 base w0 (rt7Cs b f n c k tv s0 s1 x cd p l) i
  | 0, _ => rt7_0 F
  | 1, _ => rt7_1 F
  | 2, _ => rt7_2 F
  | 3, _ => rt7_3 F
  | 4, _ => rt7_4 F
  | 5, _ => rt7_5 F
  | 6, _ => rt7_6 F
  | 7, _ => rt7_7 F
  | 8, _ => rt7_8 F
  | 9, _ => rt7_9 F
  | 10, _ => rt7_10 F
  | 11, _ => rt7_11 F
  | i + 12, h => absurd h (by omega)
theorem rt7_plan : planOf (regionOps Tryz.f17 7) (upto 12) = [(some 34, 0), (some 35, 1), (some 36, 2), (some 37, 3), (some 38, 4), (some 39, 5), (some 40, 6), (some 41, 7), (some 42, 8), (some 43, 9), (some 44, 10), (some 6, 11)] := by kernel_rfl
theorem rt7_wp {id : Nat} {Q : Exit → Act → World → Prop} (F : Rt7 a0 w0 base B b f n c k tv s0 s1 x cd p l) (hb : base = w0.heap.size)
    (hq : ∀ (u : Nat → Value) (W : World), u 11 = .bool x → w0.grownBy W (some B) → IsF W B cd p l → base ≤ W.heap.size → Q .normal (putL (planOf (regionOps Tryz.f17 7) (upto 12)) u a0) W) :
    (Code.region id (regionOps Tryz.f17 7) true).wp Tryz.prog Q a0 w0 :=
  wp_plan_flt 12 (rt7Cs b f n c k tv s0 s1 x cd p l) rt7_ok (by kernel_rfl) (Nat.le_of_eq hb) (rt7_all F) (by kernel_rfl) 7 44 B 0 0 0 cd p l 10 (by kernel_rfl) (by kernel_rfl) (by kernel_rfl) F.h7 (by kernel_rfl) (by decide) (by rw [F.hz]; decide) rfl F.lB F.hF (fun _ _ h => ⟨by kernel_rfl, h⟩) (fun u W h => hq u W (h 11 (.bool x) (by decide) rfl)) hb
end
set_option maxHeartbeats 1000000 in
set_option maxRecDepth 100000 in
theorem rtest2_un (b f c k : Nat) (tv : Value) (s0 s1 : ByteArray) (x : Bool) (cd p l : Int) (w : World) (hb : b < w.heap.size) (h33 : (s0.toList == [33]) = false) (c0 : w.cell? ⟨b, f, none⟩ = some (.string s0)) (c1 : w.cell? ⟨b, f + 1, none⟩ = some (.string s1)) (hC : ∀ W, Below w.heap.size w W → Calls Tryz.prog 34 #[.string s0, .string s1, .int .i64 k, tv] W fun e w' => e = .returned (.tuple #[.bool x, fv cd p l]) ∧ Below W.heap.size W w') :
    Calls Tryz.prog 17 #[.slice (some ⟨b, f, none⟩) 2 c, .int .i64 k, tv] w (fun e w' => e = .returned (.tuple #[.bool x, fv cd p l]) ∧ Below w.heap.size w w') := by
  have hz := Lib.hid (zF w)
  have c00 : (w.alloc (.cells #[.int .i64 0, .int .i64 0, .int .i64 0] 28)).cell? ⟨b, f, none⟩ = some (.string s0) := by rw [World.cell?_alloc_lt _ _ ⟨b, f, none⟩ hb]; exact c0
  have c01 : (w.alloc (.cells #[.int .i64 0, .int .i64 0, .int .i64 0] 28)).cell? ⟨b, f + 1, none⟩ = some (.string s1) := by rw [World.cell?_alloc_lt _ _ ⟨b, f + 1, none⟩ hb]; exact c1
  have hC' := Lib.hid hC
  clear hC
  have c10 := Lib.hid c00
  have c11 := Lib.hid c01
  go_enter Tryz.func17, Tryz.ntmps17
  go_wp2_with fail
  refine wp_region_swap (o' := regionOps Tryz.f17 7) (by kernel_rfl) ?_
  refine rt7_wp (base := w.heap.size + 1) (B := w.heap.size) (b := b) (f := f) (n := 2) (c := c) (k := k) (tv := tv) (s0 := s0) (s1 := s1) (x := x) (cd := cd) (p := p) (l := l)
    ⟨by rfl, by rfl, by rfl, by rfl, by rfl, hz.out, by omega, Nat.le_refl _, by omega, c10.out, c11.out, fun W hW => hC'.out W (((Below.refl w.heap.size w).alloc (Nat.le_refl _) (.cells #[.int .i64 0, .int .i64 0, .int .i64 0] 28)).trans (hW.mono (by omega)))⟩ (by simp) ?_
  intro u W ex gW hF hW
  have bW := Lib.hid (((Below.refl w.heap.size w).alloc (Nat.le_refl _) (.cells #[.int .i64 0, .int .i64 0, .int .i64 0] 28)).grown gW (by simp) (fun j hj => by cases hj; exact Nat.le_refl _))
  have hF' := Lib.hid hF
  clear gW hF
  rw [rt7_plan]
  simp only [putL, Act.put, List.setIfInBounds_toArray, List.set_cons_succ, List.set_cons_zero, ex]
  go_wp2_with fail
  exact ret_bf rfl rfl rfl rfl hF'.out ⟨rfl, bW.out⟩
structure Rt9 (a0 : Act) (w0 : World) (base B b f n c k : Nat) (tv : Value) (s0 s1 s2 : ByteArray) (x : Bool) (cd p l : Int) : Prop where
  hz : a0.tmps.size = 144
  h0 : a0.eval (.tmp 0) = .slice (some ⟨b, f, none⟩) n c
  h1 : a0.eval (.tmp 1) = .int .i64 k
  h2 : a0.eval (.tmp 2) = tv
  h7 : a0.eval (.tmp 7) = .pointer (some ⟨B, 0, none⟩)
  hF : IsF w0 B 0 0 0
  lB : B < base
  hn : 3 ≤ n
  lb : b < base
  c0 : w0.cell? ⟨b, f + 0, none⟩ = some (.string s0)
  c1 : w0.cell? ⟨b, f + 1, none⟩ = some (.string s1)
  c2 : w0.cell? ⟨b, f + 2, none⟩ = some (.string s2)
  hC : ∀ W, Below base w0 W → Calls Tryz.prog 36 #[.string s0, .string s1, .string s2, .int .i64 k] W fun e w' => e = .returned (.tuple #[.bool x, fv cd p l]) ∧ Below W.heap.size W w'
section
variable {a0 : Act} {w0 : World} {base B b f n c k : Nat} {tv : Value} {s0 s1 s2 : ByteArray} {x : Bool} {cd p l : Int}
def rt9Cs (b f n c k : Nat) (_tv : Value) (s0 s1 s2 : ByteArray) (x : Bool) (cd p l : Int) : List Claim := [.val (.slice (some ⟨b, f, none⟩) n c), .val (.pointer (some ⟨b, f + 0, none⟩)), .val (.string (s0)), .val (.slice (some ⟨b, f, none⟩) n c), .val (.pointer (some ⟨b, f + 1, none⟩)), .val (.string (s1)), .val (.slice (some ⟨b, f, none⟩) n c), .val (.pointer (some ⟨b, f + 2, none⟩)), .val (.string (s2)), .val (.int .i64 (k : Int)), .val (.tuple #[.bool x, fv cd p l]), .val (.bool x), .val (fv cd p l), .val (.bool x)]
theorem rt9_ok : planOk .any (regionOps Tryz.f17 9) (upto 14) = true := by kernel_rfl
theorem rt9_0 (F : Rt9 a0 w0 base B b f n c k tv s0 s1 s2 x cd p l) : PO (regionOps Tryz.f17 9) 14 a0 base w0 (rt9Cs b f n c k tv s0 s1 s2 x cd p l) 0 := by
  intro o ho u W hI hR
  obtain ⟨e1, e2, e3⟩ := ob_op ho (show ((regionOps Tryz.f17 9)[0]?).map (fun o => (o.op, o.dst, o.guard)) = some (.move (.tmp 0), some 54, none) by kernel_rfl)
  rw [if_pos (plan_free e3 _)]
  intro K hK
  have x0 := ev_base (u := u) rt9_ok (by kernel_rfl) F.h0
  exact opw_move e1 x0 (hK _ _ ⟨_, rfl, rfl⟩ hI (Below.refl _ _))
theorem rt9_1 (F : Rt9 a0 w0 base B b f n c k tv s0 s1 s2 x cd p l) : PO (regionOps Tryz.f17 9) 14 a0 base w0 (rt9Cs b f n c k tv s0 s1 s2 x cd p l) 1 := by
  intro o ho u W hI hR
  obtain ⟨e1, e2, e3⟩ := ob_op ho (show ((regionOps Tryz.f17 9)[1]?).map (fun o => (o.op, o.dst, o.guard)) = some (.indexAddr 22 (.tmp 54) (.const (.int .i64 0)), some 55, none) by kernel_rfl)
  rw [if_pos (plan_free e3 _)]
  intro K hK
  have x0 := ev_val (v := .slice (some ⟨b, f, none⟩) n c) (cs := (rt9Cs b f n c k tv s0 s1 s2 x cd p l)) rt9_ok hR ho (j := 0) (t := 54) (by rw [F.hz]; kernel_rfl) rfl
  have x1 : (putL (planOf (regionOps Tryz.f17 9) (upto 14)) u a0).eval (.const (.int .i64 0)) = .int .i64 (0) := rfl
  exact opw_index (k := 0) (by have := F.hn; omega) e1 x0 x1 (hK _ _ ⟨_, rfl, rfl⟩ hI (Below.refl _ _))
theorem rt9_2 (F : Rt9 a0 w0 base B b f n c k tv s0 s1 s2 x cd p l) : PO (regionOps Tryz.f17 9) 14 a0 base w0 (rt9Cs b f n c k tv s0 s1 s2 x cd p l) 2 := by
  intro o ho u W hI hR
  obtain ⟨e1, e2, e3⟩ := ob_op ho (show ((regionOps Tryz.f17 9)[2]?).map (fun o => (o.op, o.dst, o.guard)) = some (.load 9 (.tmp 55), some 56, none) by kernel_rfl)
  rw [if_pos (plan_free e3 _)]
  intro K hK
  have x0 := ev_val (v := .pointer (some ⟨b, f + 0, none⟩)) (cs := (rt9Cs b f n c k tv s0 s1 s2 x cd p l)) rt9_ok hR ho (j := 1) (t := 55) (by rw [F.hz]; kernel_rfl) rfl
  exact opw_load_str e1 x0 ((hI.1.cell F.lb).trans F.c0) (hK _ _ ⟨_, rfl, rfl⟩ hI (Below.refl _ _))
theorem rt9_3 (F : Rt9 a0 w0 base B b f n c k tv s0 s1 s2 x cd p l) : PO (regionOps Tryz.f17 9) 14 a0 base w0 (rt9Cs b f n c k tv s0 s1 s2 x cd p l) 3 := by
  intro o ho u W hI hR
  obtain ⟨e1, e2, e3⟩ := ob_op ho (show ((regionOps Tryz.f17 9)[3]?).map (fun o => (o.op, o.dst, o.guard)) = some (.move (.tmp 0), some 57, none) by kernel_rfl)
  rw [if_pos (plan_free e3 _)]
  intro K hK
  have x0 := ev_base (u := u) rt9_ok (by kernel_rfl) F.h0
  exact opw_move e1 x0 (hK _ _ ⟨_, rfl, rfl⟩ hI (Below.refl _ _))
theorem rt9_4 (F : Rt9 a0 w0 base B b f n c k tv s0 s1 s2 x cd p l) : PO (regionOps Tryz.f17 9) 14 a0 base w0 (rt9Cs b f n c k tv s0 s1 s2 x cd p l) 4 := by
  intro o ho u W hI hR
  obtain ⟨e1, e2, e3⟩ := ob_op ho (show ((regionOps Tryz.f17 9)[4]?).map (fun o => (o.op, o.dst, o.guard)) = some (.indexAddr 22 (.tmp 57) (.const (.int .i64 1)), some 58, none) by kernel_rfl)
  rw [if_pos (plan_free e3 _)]
  intro K hK
  have x0 := ev_val (v := .slice (some ⟨b, f, none⟩) n c) (cs := (rt9Cs b f n c k tv s0 s1 s2 x cd p l)) rt9_ok hR ho (j := 3) (t := 57) (by rw [F.hz]; kernel_rfl) rfl
  have x1 : (putL (planOf (regionOps Tryz.f17 9) (upto 14)) u a0).eval (.const (.int .i64 1)) = .int .i64 (1) := rfl
  exact opw_index (k := 1) (by have := F.hn; omega) e1 x0 x1 (hK _ _ ⟨_, rfl, rfl⟩ hI (Below.refl _ _))
theorem rt9_5 (F : Rt9 a0 w0 base B b f n c k tv s0 s1 s2 x cd p l) : PO (regionOps Tryz.f17 9) 14 a0 base w0 (rt9Cs b f n c k tv s0 s1 s2 x cd p l) 5 := by
  intro o ho u W hI hR
  obtain ⟨e1, e2, e3⟩ := ob_op ho (show ((regionOps Tryz.f17 9)[5]?).map (fun o => (o.op, o.dst, o.guard)) = some (.load 9 (.tmp 58), some 59, none) by kernel_rfl)
  rw [if_pos (plan_free e3 _)]
  intro K hK
  have x0 := ev_val (v := .pointer (some ⟨b, f + 1, none⟩)) (cs := (rt9Cs b f n c k tv s0 s1 s2 x cd p l)) rt9_ok hR ho (j := 4) (t := 58) (by rw [F.hz]; kernel_rfl) rfl
  exact opw_load_str e1 x0 ((hI.1.cell F.lb).trans F.c1) (hK _ _ ⟨_, rfl, rfl⟩ hI (Below.refl _ _))
theorem rt9_6 (F : Rt9 a0 w0 base B b f n c k tv s0 s1 s2 x cd p l) : PO (regionOps Tryz.f17 9) 14 a0 base w0 (rt9Cs b f n c k tv s0 s1 s2 x cd p l) 6 := by
  intro o ho u W hI hR
  obtain ⟨e1, e2, e3⟩ := ob_op ho (show ((regionOps Tryz.f17 9)[6]?).map (fun o => (o.op, o.dst, o.guard)) = some (.move (.tmp 0), some 60, none) by kernel_rfl)
  rw [if_pos (plan_free e3 _)]
  intro K hK
  have x0 := ev_base (u := u) rt9_ok (by kernel_rfl) F.h0
  exact opw_move e1 x0 (hK _ _ ⟨_, rfl, rfl⟩ hI (Below.refl _ _))
theorem rt9_7 (F : Rt9 a0 w0 base B b f n c k tv s0 s1 s2 x cd p l) : PO (regionOps Tryz.f17 9) 14 a0 base w0 (rt9Cs b f n c k tv s0 s1 s2 x cd p l) 7 := by
  intro o ho u W hI hR
  obtain ⟨e1, e2, e3⟩ := ob_op ho (show ((regionOps Tryz.f17 9)[7]?).map (fun o => (o.op, o.dst, o.guard)) = some (.indexAddr 22 (.tmp 60) (.const (.int .i64 2)), some 61, none) by kernel_rfl)
  rw [if_pos (plan_free e3 _)]
  intro K hK
  have x0 := ev_val (v := .slice (some ⟨b, f, none⟩) n c) (cs := (rt9Cs b f n c k tv s0 s1 s2 x cd p l)) rt9_ok hR ho (j := 6) (t := 60) (by rw [F.hz]; kernel_rfl) rfl
  have x1 : (putL (planOf (regionOps Tryz.f17 9) (upto 14)) u a0).eval (.const (.int .i64 2)) = .int .i64 (2) := rfl
  exact opw_index (k := 2) (by have := F.hn; omega) e1 x0 x1 (hK _ _ ⟨_, rfl, rfl⟩ hI (Below.refl _ _))
theorem rt9_8 (F : Rt9 a0 w0 base B b f n c k tv s0 s1 s2 x cd p l) : PO (regionOps Tryz.f17 9) 14 a0 base w0 (rt9Cs b f n c k tv s0 s1 s2 x cd p l) 8 := by
  intro o ho u W hI hR
  obtain ⟨e1, e2, e3⟩ := ob_op ho (show ((regionOps Tryz.f17 9)[8]?).map (fun o => (o.op, o.dst, o.guard)) = some (.load 9 (.tmp 61), some 62, none) by kernel_rfl)
  rw [if_pos (plan_free e3 _)]
  intro K hK
  have x0 := ev_val (v := .pointer (some ⟨b, f + 2, none⟩)) (cs := (rt9Cs b f n c k tv s0 s1 s2 x cd p l)) rt9_ok hR ho (j := 7) (t := 61) (by rw [F.hz]; kernel_rfl) rfl
  exact opw_load_str e1 x0 ((hI.1.cell F.lb).trans F.c2) (hK _ _ ⟨_, rfl, rfl⟩ hI (Below.refl _ _))
theorem rt9_9 (F : Rt9 a0 w0 base B b f n c k tv s0 s1 s2 x cd p l) : PO (regionOps Tryz.f17 9) 14 a0 base w0 (rt9Cs b f n c k tv s0 s1 s2 x cd p l) 9 := by
  intro o ho u W hI hR
  obtain ⟨e1, e2, e3⟩ := ob_op ho (show ((regionOps Tryz.f17 9)[9]?).map (fun o => (o.op, o.dst, o.guard)) = some (.move (.tmp 1), some 63, none) by kernel_rfl)
  rw [if_pos (plan_free e3 _)]
  intro K hK
  have x0 := ev_base (u := u) rt9_ok (by kernel_rfl) F.h1
  exact opw_move e1 x0 (hK _ _ ⟨_, rfl, rfl⟩ hI (Below.refl _ _))
theorem rt9_10 (F : Rt9 a0 w0 base B b f n c k tv s0 s1 s2 x cd p l) : PO (regionOps Tryz.f17 9) 14 a0 base w0 (rt9Cs b f n c k tv s0 s1 s2 x cd p l) 10 := by
  intro o ho u W hI hR
  obtain ⟨e1, e2, e3⟩ := ob_op ho (show ((regionOps Tryz.f17 9)[10]?).map (fun o => (o.op, o.dst, o.guard)) = some (.call { callee := .value (.func 36), args := #[(.tmp 56), (.tmp 59), (.tmp 62), (.tmp 63)], argTypes := #[9, 9, 9, 3] }, some 64, none) by kernel_rfl)
  rw [if_pos (plan_free e3 _)]
  intro K hK
  have x0 := ev_val (v := .string (s0)) (cs := (rt9Cs b f n c k tv s0 s1 s2 x cd p l)) rt9_ok hR ho (j := 2) (t := 56) (by rw [F.hz]; kernel_rfl) rfl
  have x1 := ev_val (v := .string (s1)) (cs := (rt9Cs b f n c k tv s0 s1 s2 x cd p l)) rt9_ok hR ho (j := 5) (t := 59) (by rw [F.hz]; kernel_rfl) rfl
  have x2 := ev_val (v := .string (s2)) (cs := (rt9Cs b f n c k tv s0 s1 s2 x cd p l)) rt9_ok hR ho (j := 8) (t := 62) (by rw [F.hz]; kernel_rfl) rfl
  have x3 := ev_val (v := .int .i64 (k : Int)) (cs := (rt9Cs b f n c k tv s0 s1 s2 x cd p l)) rt9_ok hR ho (j := 9) (t := 63) (by rw [F.hz]; kernel_rfl) rfl
  refine opw_call e1 (vs := #[.string (s0), .string (s1), .string (s2), .int .i64 (k : Int)]) (by simp only [List.map_toArray, List.map_cons, List.map_nil, x0, x1, x2, x3]) Tryz.func36 (by kernel_rfl) (by kernel_rfl) (F.hC W hI.1) ?_
  rintro e W' ⟨rfl, b⟩
  exact ⟨_, rfl, hK _ _ ⟨_, rfl, rfl⟩ (hI.step b) b⟩
theorem rt9_11 (F : Rt9 a0 w0 base B b f n c k tv s0 s1 s2 x cd p l) : PO (regionOps Tryz.f17 9) 14 a0 base w0 (rt9Cs b f n c k tv s0 s1 s2 x cd p l) 11 := by
  intro o ho u W hI hR
  obtain ⟨e1, e2, e3⟩ := ob_op ho (show ((regionOps Tryz.f17 9)[11]?).map (fun o => (o.op, o.dst, o.guard)) = some (.extract (.tmp 64) 0, some 65, none) by kernel_rfl)
  rw [if_pos (plan_free e3 _)]
  intro K hK
  have x0 := ev_val (v := .tuple #[.bool x, fv cd p l]) (cs := (rt9Cs b f n c k tv s0 s1 s2 x cd p l)) rt9_ok hR ho (j := 10) (t := 64) (by rw [F.hz]; kernel_rfl) rfl
  exact opw_extract e1 x0 rfl (hK _ _ ⟨_, rfl, rfl⟩ hI (Below.refl _ _))
theorem rt9_12 (F : Rt9 a0 w0 base B b f n c k tv s0 s1 s2 x cd p l) : PO (regionOps Tryz.f17 9) 14 a0 base w0 (rt9Cs b f n c k tv s0 s1 s2 x cd p l) 12 := by
  intro o ho u W hI hR
  obtain ⟨e1, e2, e3⟩ := ob_op ho (show ((regionOps Tryz.f17 9)[12]?).map (fun o => (o.op, o.dst, o.guard)) = some (.extract (.tmp 64) 1, some 66, none) by kernel_rfl)
  rw [if_pos (plan_free e3 _)]
  intro K hK
  have x0 := ev_val (v := .tuple #[.bool x, fv cd p l]) (cs := (rt9Cs b f n c k tv s0 s1 s2 x cd p l)) rt9_ok hR ho (j := 10) (t := 64) (by rw [F.hz]; kernel_rfl) rfl
  exact opw_extract e1 x0 rfl (hK _ _ ⟨_, rfl, rfl⟩ hI (Below.refl _ _))
theorem rt9_13 (F : Rt9 a0 w0 base B b f n c k tv s0 s1 s2 x cd p l) : PO (regionOps Tryz.f17 9) 14 a0 base w0 (rt9Cs b f n c k tv s0 s1 s2 x cd p l) 13 := by
  intro o ho u W hI hR
  obtain ⟨e1, e2, e3⟩ := ob_op ho (show ((regionOps Tryz.f17 9)[13]?).map (fun o => (o.op, o.dst, o.guard)) = some (.assign (.tmp 65), some 6, none) by kernel_rfl)
  rw [if_pos (plan_free e3 _)]
  intro K hK
  have x0 := ev_val (v := .bool x) (cs := (rt9Cs b f n c k tv s0 s1 s2 x cd p l)) rt9_ok hR ho (j := 11) (t := 65) (by rw [F.hz]; kernel_rfl) rfl
  exact opw_assign e1 x0 (hK _ _ ⟨_, rfl, rfl⟩ hI (Below.refl _ _))
theorem rt9_all (F : Rt9 a0 w0 base B b f n c k tv s0 s1 s2 x cd p l) : ∀ i, i < 14 → PO (regionOps Tryz.f17 9) 14 a0 base w0 (rt9Cs b f n c k tv s0 s1 s2 x cd p l) i
  | 0, _ => rt9_0 F
  | 1, _ => rt9_1 F
  | 2, _ => rt9_2 F
  | 3, _ => rt9_3 F
  | 4, _ => rt9_4 F
  | 5, _ => rt9_5 F
  | 6, _ => rt9_6 F
  | 7, _ => rt9_7 F
  | 8, _ => rt9_8 F
  | 9, _ => rt9_9 F
  | 10, _ => rt9_10 F
  | 11, _ => rt9_11 F
  | 12, _ => rt9_12 F
  | 13, _ => rt9_13 F
  | i + 14, h => absurd h (by omega)
theorem rt9_plan : planOf (regionOps Tryz.f17 9) (upto 14) = [(some 54, 0), (some 55, 1), (some 56, 2), (some 57, 3), (some 58, 4), (some 59, 5), (some 60, 6), (some 61, 7), (some 62, 8), (some 63, 9), (some 64, 10), (some 65, 11), (some 66, 12), (some 6, 13)] := by kernel_rfl
theorem rt9_wp {id : Nat} {Q : Exit → Act → World → Prop} (F : Rt9 a0 w0 base B b f n c k tv s0 s1 s2 x cd p l) (hb : base = w0.heap.size)
    (hq : ∀ (u : Nat → Value) (W : World), u 13 = .bool x → w0.grownBy W (some B) → IsF W B cd p l → base ≤ W.heap.size → Q .normal (putL (planOf (regionOps Tryz.f17 9) (upto 14)) u a0) W) :
    (Code.region id (regionOps Tryz.f17 9) true).wp Tryz.prog Q a0 w0 :=
  wp_plan_flt 14 (rt9Cs b f n c k tv s0 s1 s2 x cd p l) rt9_ok (by kernel_rfl) (Nat.le_of_eq hb) (rt9_all F) (by kernel_rfl) 7 66 B 0 0 0 cd p l 12 (by kernel_rfl) (by kernel_rfl) (by kernel_rfl) F.h7 (by kernel_rfl) (by decide) (by rw [F.hz]; decide) rfl F.lB F.hF (fun _ _ h => ⟨by kernel_rfl, h⟩) (fun u W h => hq u W (h 13 (.bool x) (by decide) rfl)) hb
end
set_option maxHeartbeats 1000000 in
set_option maxRecDepth 100000 in
theorem rtest3_two (b f c k : Nat) (tv : Value) (s0 s1 s2 : ByteArray) (x : Bool) (cd p l : Int) (w : World) (hb : b < w.heap.size) (c0 : w.cell? ⟨b, f, none⟩ = some (.string s0)) (c1 : w.cell? ⟨b, f + 1, none⟩ = some (.string s1)) (c2 : w.cell? ⟨b, f + 2, none⟩ = some (.string s2)) (hB : ∀ W, Calls Tryz.prog 35 #[.string s1] W fun e w' => e = .returned (.bool true) ∧ w' = W) (hC : ∀ W, Below w.heap.size w W → Calls Tryz.prog 36 #[.string s0, .string s1, .string s2, .int .i64 k] W fun e w' => e = .returned (.tuple #[.bool x, fv cd p l]) ∧ Below W.heap.size W w') :
    Calls Tryz.prog 17 #[.slice (some ⟨b, f, none⟩) 3 c, .int .i64 k, tv] w (fun e w' => e = .returned (.tuple #[.bool x, fv cd p l]) ∧ Below w.heap.size w w') := by
  have hz := Lib.hid (zF w)
  have c00 : (w.alloc (.cells #[.int .i64 0, .int .i64 0, .int .i64 0] 28)).cell? ⟨b, f, none⟩ = some (.string s0) := by rw [World.cell?_alloc_lt _ _ ⟨b, f, none⟩ hb]; exact c0
  have c01 : (w.alloc (.cells #[.int .i64 0, .int .i64 0, .int .i64 0] 28)).cell? ⟨b, f + 1, none⟩ = some (.string s1) := by rw [World.cell?_alloc_lt _ _ ⟨b, f + 1, none⟩ hb]; exact c1
  have c02 : (w.alloc (.cells #[.int .i64 0, .int .i64 0, .int .i64 0] 28)).cell? ⟨b, f + 2, none⟩ = some (.string s2) := by rw [World.cell?_alloc_lt _ _ ⟨b, f + 2, none⟩ hb]; exact c2
  have hC' := Lib.hid hC
  clear hC
  have hB' := Lib.hid hB
  clear hB
  have c10 := Lib.hid c00
  have c11 := Lib.hid c01
  have c12 := Lib.hid c02
  go_enter Tryz.func17, Tryz.ntmps17
  go_wp2_with fail
  refine (hB'.out _).mono ?_
  rintro e w0 ⟨rfl, rfl⟩
  go_wp2_with fail
  refine wp_region_swap (o' := regionOps Tryz.f17 9) (by kernel_rfl) ?_
  refine rt9_wp (base := w.heap.size + 1) (B := w.heap.size) (b := b) (f := f) (n := 3) (c := c) (k := k) (tv := tv) (s0 := s0) (s1 := s1) (s2 := s2) (x := x) (cd := cd) (p := p) (l := l)
    ⟨by rfl, by rfl, by rfl, by rfl, by rfl, hz.out, by omega, Nat.le_refl _, by omega, c10.out, c11.out, c12.out, fun W hW => hC'.out W (((Below.refl w.heap.size w).alloc (Nat.le_refl _) (.cells #[.int .i64 0, .int .i64 0, .int .i64 0] 28)).trans (hW.mono (by omega)))⟩ (by simp) ?_
  intro u W ex gW hF hW
  have bW := Lib.hid (((Below.refl w.heap.size w).alloc (Nat.le_refl _) (.cells #[.int .i64 0, .int .i64 0, .int .i64 0] 28)).grown gW (by simp) (fun j hj => by cases hj; exact Nat.le_refl _))
  have hF' := Lib.hid hF
  clear gW hF
  rw [rt9_plan]
  simp only [putL, Act.put, List.setIfInBounds_toArray, List.set_cons_succ, List.set_cons_zero, ex]
  go_wp2_with fail
  exact ret_bf rfl rfl rfl rfl hF'.out ⟨rfl, bW.out⟩
end Go.Proofs.YtfnaooplpofgiaaGreatDoor
