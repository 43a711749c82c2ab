/- The document's reader of operands: a fault, an operator of two, two operands, the errors of operands. Conditions: the operands have at most 1024 bytes. -/
import Derived.Test.YtfnaooplpofgiaaGreatDoorKTel
import Derived.Test.YtfnaooplpofgiaaGreatDoorKRNum
import Derived.Test.YtfnaooplpofgiaaGreatDoorKEvE
import Derived.WalkMore
import Derived.OwnWalk
import Derived.Handy
import Derived.Outline
namespace Go.Proofs.YtfnaooplpofgiaaGreatDoor
open Go Go.RowKit SN

/-- The fault that tells an outcome, of operands that stand at a place. -/
def fO : Out → Nat → Value
  | .val _, _ => fv 0 0 0
  | .err c p, k => fv c ((p + k : Nat) : Int) 6
theorem ret_bf {fn : Func} {p q : Tmp} {R : Ending → World → Prop} {a : Act} {w : World} {B : Nat} {v : Value} {c k l : Int} (h : fn.results = #[.tmp p, .cell q 28]) (hd : a.defers = []) (hp : a.tmps.getD p undef = v)
    (hq : a.tmps.getD q undef = .pointer (some ⟨B, 0, none⟩)) (hS : IsF w B c k l) (hR : R (.returned (.tuple #[v, fv c k l])) w) : bodyPost Tryz.prog fn R .ret a w := by
  have hp' : a.tmps[p]?.getD undef = v := by simpa using hp
  have hq' : a.tmps[q]?.getD undef = .pointer (some ⟨B, 0, none⟩) := by simpa using hq
  refine bodyPost_ret (v := .tuple #[v, fv c k l]) ?_ hd hR
  have hl := run_loadVar_row (P := Tryz.prog) w B 28 28 (fc c k l) (0, 0) _ hS Tryz.underlying28 (by rfl) (by rw [size3]; rfl)
  simp [results, h, hp', hq', asAddr, hl, fv, fc]
theorem zF (w : World) : IsF (w.alloc (.cells #[.int .i64 0, .int .i64 0, .int .i64 0] 28)) w.heap.size 0 0 0 := heap_alloc_new w _
theorem rF_any (c p l : Int) (w : World) : Calls Tryz.prog 33 #[.int .i64 c, .int .i64 p, .int .i64 l] w fun e w' => e = .returned (fv c p l) ∧ Below w.heap.size w w' := by
  go_enter Tryz.func33, Tryz.ntmps33
  have hz := Lib.hid (zF w)
  go_wp2_with (refine store_flt rfl rfl _ _ rfl _ c p l 0 0 0 rfl rfl hz.out ?_; intro w2 h2 g2 z2)
  refine ret_flt rfl rfl rfl h2 ⟨rfl, ((Below.refl _ _).alloc (Nat.le_refl _) _).grown g2 (by simp) (fun k hk => by cases hk; exact Nat.le_refl _)⟩
theorem rbad_any (c p : Int) (w : World) : Calls Tryz.prog 37 #[.int .i64 c, .int .i64 p] w fun e w' => e = .returned (.tuple #[.bool false, fv c p 6]) ∧ Below w.heap.size w w' := by
  have hz := Lib.hid (zF w)
  go_enter Tryz.func37, Tryz.ntmps37
  go_wp2_with fail
  refine (rF_any c p 6 _).mono ?_
  rintro e w1 ⟨rfl, b1⟩
  have h1 := row_below hz.out b1 (by simp)
  have b2 := Lib.hid (((Below.refl w.heap.size w).alloc (Nat.le_refl _) (.cells #[.int .i64 0, .int .i64 0, .int .i64 0] 28)).trans (b1.mono (by simp)))
  have z1 := b1.size
  rw [World.size_alloc] at z1
  clear b1
  go_wp2_with (refine store_flt rfl rfl _ _ rfl _ c p 6 0 0 0 rfl rfl h1 ?_; intro w2 h2 g2 z2)
  exact ret_bf rfl rfl rfl rfl h2 ⟨rfl, b2.out.grown g2 (by omega) (fun k hk => by cases hk; exact Nat.le_refl _)⟩
theorem rbin_same (w : World) : Calls Tryz.prog 35 #[.string ⟨#[61]⟩] w fun e w' => e = .returned (.bool true) ∧ w' = w := by
  go_enter Tryz.func35, Tryz.ntmps35
  go_wp2_with fail
  go_ret
  exact ⟨rfl, rfl⟩
theorem rbin_not (w : World) : Calls Tryz.prog 35 #[.string ⟨#[33, 61]⟩] w fun e w' => e = .returned (.bool true) ∧ w' = w := by
  go_enter Tryz.func35, Tryz.ntmps35
  go_wp2_with fail
  go_ret
  exact ⟨rfl, rfl⟩
theorem rbin_eq (w : World) : Calls Tryz.prog 35 #[.string ⟨#[45, 101, 113]⟩] w fun e w' => e = .returned (.bool true) ∧ w' = w := by
  go_enter Tryz.func35, Tryz.ntmps35
  go_wp2_with fail
  go_ret
  exact ⟨rfl, rfl⟩
theorem rbin_ne (w : World) : Calls Tryz.prog 35 #[.string ⟨#[45, 110, 101]⟩] w fun e w' => e = .returned (.bool true) ∧ w' = w := by
  go_enter Tryz.func35, Tryz.ntmps35
  go_wp2_with fail
  go_ret
  exact ⟨rfl, rfl⟩
theorem rbin_gt (w : World) : Calls Tryz.prog 35 #[.string ⟨#[45, 103, 116]⟩] w fun e w' => e = .returned (.bool true) ∧ w' = w := by
  go_enter Tryz.func35, Tryz.ntmps35
  go_wp2_with fail
  go_ret
  exact ⟨rfl, rfl⟩
theorem rbin_ge (w : World) : Calls Tryz.prog 35 #[.string ⟨#[45, 103, 101]⟩] w fun e w' => e = .returned (.bool true) ∧ w' = w := by
  go_enter Tryz.func35, Tryz.ntmps35
  go_wp2_with fail
  go_ret
  exact ⟨rfl, rfl⟩
theorem rbin_lt (w : World) : Calls Tryz.prog 35 #[.string ⟨#[45, 108, 116]⟩] w fun e w' => e = .returned (.bool true) ∧ w' = w := by
  go_enter Tryz.func35, Tryz.ntmps35
  go_wp2_with fail
  go_ret
  exact ⟨rfl, rfl⟩
theorem rbin_le (w : World) : Calls Tryz.prog 35 #[.string ⟨#[45, 108, 101]⟩] w fun e w' => e = .returned (.bool true) ∧ w' = w := by
  go_enter Tryz.func35, Tryz.ntmps35
  go_wp2_with fail
  go_ret
  exact ⟨rfl, rfl⟩
set_option maxHeartbeats 1000000 in
set_option maxRecDepth 100000 in
theorem rbin_other (o : ByteArray) (w : World) (h1 : (o.toList == [61]) = false) (h2 : (o.toList == [33, 61]) = false) (h3 : (o.toList == [45, 101, 113]) = false) (h4 : (o.toList == [45, 110, 101]) = false) (h5 : (o.toList == [45, 103, 116]) = false) (h6 : (o.toList == [45, 103, 101]) = false) (h7 : (o.toList == [45, 108, 116]) = false) (h8 : (o.toList == [45, 108, 101]) = false) : Calls Tryz.prog 35 #[.string o] w fun e w' => e = .returned (.bool false) ∧ w' = w := by
  go_enter Tryz.func35, Tryz.ntmps35
  go_wp2_with fail
  go_ret
  exact ⟨rfl, rfl⟩
theorem binO_isSome (a o b : List UInt8) : (binO a o b).isSome = (o == [61] || o == [33, 61] || (opN o).isSome) := by
  unfold binO
  by_cases h1 : (o == [61]) = true
  · rw [if_pos h1, h1]; rfl
  · rw [if_neg h1]
    by_cases h2 : (o == [33, 61]) = true
    · rw [if_pos h2, h2]; simp
    · rw [if_neg h2, show (o == [61]) = false by simpa using h1, show (o == [33, 61]) = false by simpa using h2]; simp
theorem rbinary_any (a o b : ByteArray) (w : World) : Calls Tryz.prog 35 #[.string o] w fun e w' => e = .returned (.bool (binO a.data.toList o.data.toList b.data.toList).isSome) ∧ w' = w := by
  rw [binO_isSome]
  by_cases h1 : (o.data.toList == [61]) = true
  · obtain rfl := bytes_eq h1
    exact rbin_same w
  by_cases h2 : (o.data.toList == [33, 61]) = true
  · obtain rfl := bytes_eq h2
    exact rbin_not w
  by_cases h3 : (o.data.toList == [45, 101, 113]) = true
  · obtain rfl := bytes_eq h3
    exact rbin_eq w
  by_cases h4 : (o.data.toList == [45, 110, 101]) = true
  · obtain rfl := bytes_eq h4
    exact rbin_ne w
  by_cases h5 : (o.data.toList == [45, 103, 116]) = true
  · obtain rfl := bytes_eq h5
    exact rbin_gt w
  by_cases h6 : (o.data.toList == [45, 103, 101]) = true
  · obtain rfl := bytes_eq h6
    exact rbin_ge w
  by_cases h7 : (o.data.toList == [45, 108, 116]) = true
  · obtain rfl := bytes_eq h7
    exact rbin_lt w
  by_cases h8 : (o.data.toList == [45, 108, 101]) = true
  · obtain rfl := bytes_eq h8
    exact rbin_le w
  have e : (o.data.toList == [61] || o.data.toList == [33, 61] || (opN o.data.toList).isSome) = false := by
    unfold opN
    rw [if_neg h3, if_neg h4, if_neg h5, if_neg h6, if_neg h7, if_neg h8, show (o.data.toList == [61]) = false by simpa using h1, show (o.data.toList == [33, 61]) = false by simpa using h2]
    rfl
  rw [e]
  exact rbin_other o w (beq_no h1) (beq_no h2) (beq_no h3) (beq_no h4) (beq_no h5) (beq_no h6) (beq_no h7) (beq_no h8)
/-- What the document's test and two give back. -/
def RtR (w0 : World) (O : Out) (k : Nat) (e : Ending) (w' : World) : Prop := e = .returned (.tuple #[.bool O.bool, fO O k]) ∧ Below w0.heap.size w0 w'
theorem rtwo_same (a b : ByteArray) (k : Nat) (w : World) : Calls Tryz.prog 36 #[.string a, .string ⟨#[61]⟩, .string b, .int .i64 k] w (RtR w (.val (a.data.toList == b.data.toList)) k) := by
  have hz := Lib.hid (zF w)
  rw [← Lib.toList_data, ← Lib.toList_data]
  cases hab : (a.toList == b.toList) <;>
    (go_enter Tryz.func36, Tryz.ntmps36
     go_wp2_with (refine store_flt rfl rfl _ _ rfl _ 0 0 0 0 0 0 rfl rfl hz.out ?_; intro w2 h2 g2 z2)
     exact ret_bf rfl rfl rfl rfl h2 ⟨rfl, ((Below.refl _ _).alloc (Nat.le_refl _) _).grown g2 (by simp) (fun k hk => by cases hk; exact Nat.le_refl _)⟩)
theorem rtwo_not (a b : ByteArray) (k : Nat) (w : World) : Calls Tryz.prog 36 #[.string a, .string ⟨#[33, 61]⟩, .string b, .int .i64 k] w (RtR w (.val (!(a.data.toList == b.data.toList))) k) := by
  have hz := Lib.hid (zF w)
  rw [← Lib.toList_data, ← Lib.toList_data]
  cases hab : (a.toList == b.toList) <;>
    (go_enter Tryz.func36, Tryz.ntmps36
     go_wp2_with (refine store_flt rfl rfl _ _ rfl _ 0 0 0 0 0 0 rfl rfl hz.out ?_; intro w2 h2 g2 z2)
     exact ret_bf rfl rfl rfl rfl h2 ⟨rfl, ((Below.refl _ _).alloc (Nat.le_refl _) _).grown g2 (by simp) (fun k hk => by cases hk; exact Nat.le_refl _)⟩)
set_option maxHeartbeats 1000000 in
set_option maxRecDepth 100000 in
theorem rtwo_eq (a b : ByteArray) (x y : Option Int) (k : Nat) (hk : k ≤ 100) (w : World) (hx : ∀ W, Calls Tryz.prog 57 #[.string a] W fun e w' => e = .returned (numV x) ∧ Below W.heap.size W w') (hy : ∀ W, Calls Tryz.prog 57 #[.string b] W fun e w' => e = .returned (numV y) ∧ Below W.heap.size W w') :
    Calls Tryz.prog 36 #[.string a, .string ⟨#[45, 101, 113]⟩, .string b, .int .i64 k] w (RtR w (cmpOut 0 x y) k) := by
  have hz := Lib.hid (zF w)
  have b0 := Lib.hid ((Below.refl w.heap.size w).alloc (Nat.le_refl _) (.cells #[.int .i64 0, .int .i64 0, .int .i64 0] 28))
  have hx' := Lib.hid hx
  have hy' := Lib.hid hy
  have hw : IntKind.i64.wrap ((k : Int) + 2) = ((2 + k : Nat) : Int) := by rw [IntKind.wrap_i64]; omega
  clear hx hy
  cases x with
  | none =>
    have hx2 : ∀ W, Calls Tryz.prog 57 #[.string a] W fun e w' => e = .returned (.tuple #[.int .i64 0, .bool false]) ∧ Below W.heap.size W w' := hx'.out
    have hx3 := Lib.hid hx2
    clear hx2
    go_enter Tryz.func36, Tryz.ntmps36
    go_wp2_with fail
    refine (hx3.out _).mono ?_
    rintro e w1 ⟨rfl, b1⟩
    have c1 := Lib.hid (row_below hz.out b1 (by simp))
    have d1 := Lib.hid (b0.out.trans (b1.mono (by simp)))
    have z1 := b1.size
    rw [World.size_alloc] at z1
    clear b1
    go_wp2_with fail
    refine (rbad_any _ _ _).mono ?_
    rintro e w2 ⟨rfl, b2⟩
    have c2 := Lib.hid (row_below c1.out b2 (by omega))
    have d2 := Lib.hid (d1.out.trans (b2.mono (by omega)))
    have z2 := b2.size
    clear b2
    go_wp2_with (refine store_flt rfl rfl _ _ rfl _ 13 k 6 0 0 0 rfl rfl c2.out ?_; intro w3 h3 g3 z3)
    refine ret_bf rfl rfl rfl rfl h3 ⟨?_, d2.out.grown g3 (by omega) (fun k hk => by cases hk; exact Nat.le_refl _)⟩
    show _ = Ending.returned (.tuple #[.bool false, fv 13 ((0 + k : Nat) : Int) 6])
    rw [Nat.zero_add]
    rfl
  | some p =>
    have hx2 : ∀ W, Calls Tryz.prog 57 #[.string a] W fun e w' => e = .returned (.tuple #[.int .i64 p, .bool true]) ∧ Below W.heap.size W w' := hx'.out
    have hx3 := Lib.hid hx2
    clear hx2
    cases y with
    | none =>
      have hy2 : ∀ W, Calls Tryz.prog 57 #[.string b] W fun e w' => e = .returned (.tuple #[.int .i64 0, .bool false]) ∧ Below W.heap.size W w' := hy'.out
      have hy3 := Lib.hid hy2
      clear hy2
      go_enter Tryz.func36, Tryz.ntmps36
      go_wp2_with fail
      refine (hx3.out _).mono ?_
      rintro e w1 ⟨rfl, b1⟩
      have c1 := Lib.hid (row_below hz.out b1 (by simp))
      have d1 := Lib.hid (b0.out.trans (b1.mono (by simp)))
      have z1 := b1.size
      rw [World.size_alloc] at z1
      clear b1
      go_wp2_with fail
      refine (hy3.out _).mono ?_
      rintro e w2 ⟨rfl, b2⟩
      have c2 := Lib.hid (row_below c1.out b2 (by omega))
      have d2 := Lib.hid (d1.out.trans (b2.mono (by omega)))
      have z2 := b2.size
      clear b2
      go_wp2_with fail
      refine (rbad_any _ _ _).mono ?_
      rintro e w3 ⟨rfl, b3⟩
      have c3 := Lib.hid (row_below c2.out b3 (by omega))
      have d3 := Lib.hid (d2.out.trans (b3.mono (by omega)))
      have z3 := b3.size
      clear b3
      go_wp2_with (refine store_flt rfl rfl _ _ rfl _ 13 ((2 + k : Nat) : Int) 6 0 0 0 rfl rfl c3.out ?_; intro w4 h4 g4 z4)
      exact ret_bf rfl rfl rfl rfl h4 ⟨rfl, d3.out.grown g4 (by omega) (fun k hk => by cases hk; exact Nat.le_refl _)⟩
    | some q =>
      have hy2 : ∀ W, Calls Tryz.prog 57 #[.string b] W fun e w' => e = .returned (.tuple #[.int .i64 q, .bool true]) ∧ Below W.heap.size W w' := hy'.out
      have hy3 := Lib.hid hy2
      clear hy2
      go_enter Tryz.func36, Tryz.ntmps36
      go_wp2_with fail
      refine (hx3.out _).mono ?_
      rintro e w1 ⟨rfl, b1⟩
      have c1 := Lib.hid (row_below hz.out b1 (by simp))
      have d1 := Lib.hid (b0.out.trans (b1.mono (by simp)))
      have z1 := b1.size
      rw [World.size_alloc] at z1
      clear b1
      go_wp2_with fail
      refine (hy3.out _).mono ?_
      rintro e w2 ⟨rfl, b2⟩
      have c2 := Lib.hid (row_below c1.out b2 (by omega))
      have d2 := Lib.hid (d1.out.trans (b2.mono (by omega)))
      have z2 := b2.size
      clear b2
      go_wp2_with (refine store_flt rfl rfl _ _ rfl _ 0 0 0 0 0 0 rfl rfl c2.out ?_; intro w3 h3 g3 z3)
      exact ret_bf rfl rfl rfl rfl h3 ⟨rfl, d2.out.grown g3 (by omega) (fun k hk => by cases hk; exact Nat.le_refl _)⟩
set_option maxHeartbeats 1000000 in
set_option maxRecDepth 100000 in
theorem rtwo_ne (a b : ByteArray) (x y : Option Int) (k : Nat) (hk : k ≤ 100) (w : World) (hx : ∀ W, Calls Tryz.prog 57 #[.string a] W fun e w' => e = .returned (numV x) ∧ Below W.heap.size W w') (hy : ∀ W, Calls Tryz.prog 57 #[.string b] W fun e w' => e = .returned (numV y) ∧ Below W.heap.size W w') :
    Calls Tryz.prog 36 #[.string a, .string ⟨#[45, 110, 101]⟩, .string b, .int .i64 k] w (RtR w (cmpOut 1 x y) k) := by
  have hz := Lib.hid (zF w)
  have b0 := Lib.hid ((Below.refl w.heap.size w).alloc (Nat.le_refl _) (.cells #[.int .i64 0, .int .i64 0, .int .i64 0] 28))
  have hx' := Lib.hid hx
  have hy' := Lib.hid hy
  have hw : IntKind.i64.wrap ((k : Int) + 2) = ((2 + k : Nat) : Int) := by rw [IntKind.wrap_i64]; omega
  clear hx hy
  cases x with
  | none =>
    have hx2 : ∀ W, Calls Tryz.prog 57 #[.string a] W fun e w' => e = .returned (.tuple #[.int .i64 0, .bool false]) ∧ Below W.heap.size W w' := hx'.out
    have hx3 := Lib.hid hx2
    clear hx2
    go_enter Tryz.func36, Tryz.ntmps36
    go_wp2_with fail
    refine (hx3.out _).mono ?_
    rintro e w1 ⟨rfl, b1⟩
    have c1 := Lib.hid (row_below hz.out b1 (by simp))
    have d1 := Lib.hid (b0.out.trans (b1.mono (by simp)))
    have z1 := b1.size
    rw [World.size_alloc] at z1
    clear b1
    go_wp2_with fail
    refine (rbad_any _ _ _).mono ?_
    rintro e w2 ⟨rfl, b2⟩
    have c2 := Lib.hid (row_below c1.out b2 (by omega))
    have d2 := Lib.hid (d1.out.trans (b2.mono (by omega)))
    have z2 := b2.size
    clear b2
    go_wp2_with (refine store_flt rfl rfl _ _ rfl _ 13 k 6 0 0 0 rfl rfl c2.out ?_; intro w3 h3 g3 z3)
    refine ret_bf rfl rfl rfl rfl h3 ⟨?_, d2.out.grown g3 (by omega) (fun k hk => by cases hk; exact Nat.le_refl _)⟩
    show _ = Ending.returned (.tuple #[.bool false, fv 13 ((0 + k : Nat) : Int) 6])
    rw [Nat.zero_add]
    rfl
  | some p =>
    have hx2 : ∀ W, Calls Tryz.prog 57 #[.string a] W fun e w' => e = .returned (.tuple #[.int .i64 p, .bool true]) ∧ Below W.heap.size W w' := hx'.out
    have hx3 := Lib.hid hx2
    clear hx2
    cases y with
    | none =>
      have hy2 : ∀ W, Calls Tryz.prog 57 #[.string b] W fun e w' => e = .returned (.tuple #[.int .i64 0, .bool false]) ∧ Below W.heap.size W w' := hy'.out
      have hy3 := Lib.hid hy2
      clear hy2
      go_enter Tryz.func36, Tryz.ntmps36
      go_wp2_with fail
      refine (hx3.out _).mono ?_
      rintro e w1 ⟨rfl, b1⟩
      have c1 := Lib.hid (row_below hz.out b1 (by simp))
      have d1 := Lib.hid (b0.out.trans (b1.mono (by simp)))
      have z1 := b1.size
      rw [World.size_alloc] at z1
      clear b1
      go_wp2_with fail
      refine (hy3.out _).mono ?_
      rintro e w2 ⟨rfl, b2⟩
      have c2 := Lib.hid (row_below c1.out b2 (by omega))
      have d2 := Lib.hid (d1.out.trans (b2.mono (by omega)))
      have z2 := b2.size
      clear b2
      go_wp2_with fail
      refine (rbad_any _ _ _).mono ?_
      rintro e w3 ⟨rfl, b3⟩
      have c3 := Lib.hid (row_below c2.out b3 (by omega))
      have d3 := Lib.hid (d2.out.trans (b3.mono (by omega)))
      have z3 := b3.size
      clear b3
      go_wp2_with (refine store_flt rfl rfl _ _ rfl _ 13 ((2 + k : Nat) : Int) 6 0 0 0 rfl rfl c3.out ?_; intro w4 h4 g4 z4)
      exact ret_bf rfl rfl rfl rfl h4 ⟨rfl, d3.out.grown g4 (by omega) (fun k hk => by cases hk; exact Nat.le_refl _)⟩
    | some q =>
      have hy2 : ∀ W, Calls Tryz.prog 57 #[.string b] W fun e w' => e = .returned (.tuple #[.int .i64 q, .bool true]) ∧ Below W.heap.size W w' := hy'.out
      have hy3 := Lib.hid hy2
      clear hy2
      go_enter Tryz.func36, Tryz.ntmps36
      go_wp2_with fail
      refine (hx3.out _).mono ?_
      rintro e w1 ⟨rfl, b1⟩
      have c1 := Lib.hid (row_below hz.out b1 (by simp))
      have d1 := Lib.hid (b0.out.trans (b1.mono (by simp)))
      have z1 := b1.size
      rw [World.size_alloc] at z1
      clear b1
      go_wp2_with fail
      refine (hy3.out _).mono ?_
      rintro e w2 ⟨rfl, b2⟩
      have c2 := Lib.hid (row_below c1.out b2 (by omega))
      have d2 := Lib.hid (d1.out.trans (b2.mono (by omega)))
      have z2 := b2.size
      clear b2
      go_wp2_with (refine store_flt rfl rfl _ _ rfl _ 0 0 0 0 0 0 rfl rfl c2.out ?_; intro w3 h3 g3 z3)
      exact ret_bf rfl rfl rfl rfl h3 ⟨rfl, d2.out.grown g3 (by omega) (fun k hk => by cases hk; exact Nat.le_refl _)⟩
set_option maxHeartbeats 1000000 in
set_option maxRecDepth 100000 in
theorem rtwo_gt (a b : ByteArray) (x y : Option Int) (k : Nat) (hk : k ≤ 100) (w : World) (hx : ∀ W, Calls Tryz.prog 57 #[.string a] W fun e w' => e = .returned (numV x) ∧ Below W.heap.size W w') (hy : ∀ W, Calls Tryz.prog 57 #[.string b] W fun e w' => e = .returned (numV y) ∧ Below W.heap.size W w') :
    Calls Tryz.prog 36 #[.string a, .string ⟨#[45, 103, 116]⟩, .string b, .int .i64 k] w (RtR w (cmpOut 2 x y) k) := by
  have hz := Lib.hid (zF w)
  have b0 := Lib.hid ((Below.refl w.heap.size w).alloc (Nat.le_refl _) (.cells #[.int .i64 0, .int .i64 0, .int .i64 0] 28))
  have hx' := Lib.hid hx
  have hy' := Lib.hid hy
  have hw : IntKind.i64.wrap ((k : Int) + 2) = ((2 + k : Nat) : Int) := by rw [IntKind.wrap_i64]; omega
  clear hx hy
  cases x with
  | none =>
    have hx2 : ∀ W, Calls Tryz.prog 57 #[.string a] W fun e w' => e = .returned (.tuple #[.int .i64 0, .bool false]) ∧ Below W.heap.size W w' := hx'.out
    have hx3 := Lib.hid hx2
    clear hx2
    go_enter Tryz.func36, Tryz.ntmps36
    go_wp2_with fail
    refine (hx3.out _).mono ?_
    rintro e w1 ⟨rfl, b1⟩
    have c1 := Lib.hid (row_below hz.out b1 (by simp))
    have d1 := Lib.hid (b0.out.trans (b1.mono (by simp)))
    have z1 := b1.size
    rw [World.size_alloc] at z1
    clear b1
    go_wp2_with fail
    refine (rbad_any _ _ _).mono ?_
    rintro e w2 ⟨rfl, b2⟩
    have c2 := Lib.hid (row_below c1.out b2 (by omega))
    have d2 := Lib.hid (d1.out.trans (b2.mono (by omega)))
    have z2 := b2.size
    clear b2
    go_wp2_with (refine store_flt rfl rfl _ _ rfl _ 13 k 6 0 0 0 rfl rfl c2.out ?_; intro w3 h3 g3 z3)
    refine ret_bf rfl rfl rfl rfl h3 ⟨?_, d2.out.grown g3 (by omega) (fun k hk => by cases hk; exact Nat.le_refl _)⟩
    show _ = Ending.returned (.tuple #[.bool false, fv 13 ((0 + k : Nat) : Int) 6])
    rw [Nat.zero_add]
    rfl
  | some p =>
    have hx2 : ∀ W, Calls Tryz.prog 57 #[.string a] W fun e w' => e = .returned (.tuple #[.int .i64 p, .bool true]) ∧ Below W.heap.size W w' := hx'.out
    have hx3 := Lib.hid hx2
    clear hx2
    cases y with
    | none =>
      have hy2 : ∀ W, Calls Tryz.prog 57 #[.string b] W fun e w' => e = .returned (.tuple #[.int .i64 0, .bool false]) ∧ Below W.heap.size W w' := hy'.out
      have hy3 := Lib.hid hy2
      clear hy2
      go_enter Tryz.func36, Tryz.ntmps36
      go_wp2_with fail
      refine (hx3.out _).mono ?_
      rintro e w1 ⟨rfl, b1⟩
      have c1 := Lib.hid (row_below hz.out b1 (by simp))
      have d1 := Lib.hid (b0.out.trans (b1.mono (by simp)))
      have z1 := b1.size
      rw [World.size_alloc] at z1
      clear b1
      go_wp2_with fail
      refine (hy3.out _).mono ?_
      rintro e w2 ⟨rfl, b2⟩
      have c2 := Lib.hid (row_below c1.out b2 (by omega))
      have d2 := Lib.hid (d1.out.trans (b2.mono (by omega)))
      have z2 := b2.size
      clear b2
      go_wp2_with fail
      refine (rbad_any _ _ _).mono ?_
      rintro e w3 ⟨rfl, b3⟩
      have c3 := Lib.hid (row_below c2.out b3 (by omega))
      have d3 := Lib.hid (d2.out.trans (b3.mono (by omega)))
      have z3 := b3.size
      clear b3
      go_wp2_with (refine store_flt rfl rfl _ _ rfl _ 13 ((2 + k : Nat) : Int) 6 0 0 0 rfl rfl c3.out ?_; intro w4 h4 g4 z4)
      exact ret_bf rfl rfl rfl rfl h4 ⟨rfl, d3.out.grown g4 (by omega) (fun k hk => by cases hk; exact Nat.le_refl _)⟩
    | some q =>
      have hy2 : ∀ W, Calls Tryz.prog 57 #[.string b] W fun e w' => e = .returned (.tuple #[.int .i64 q, .bool true]) ∧ Below W.heap.size W w' := hy'.out
      have hy3 := Lib.hid hy2
      clear hy2
      go_enter Tryz.func36, Tryz.ntmps36
      go_wp2_with fail
      refine (hx3.out _).mono ?_
      rintro e w1 ⟨rfl, b1⟩
      have c1 := Lib.hid (row_below hz.out b1 (by simp))
      have d1 := Lib.hid (b0.out.trans (b1.mono (by simp)))
      have z1 := b1.size
      rw [World.size_alloc] at z1
      clear b1
      go_wp2_with fail
      refine (hy3.out _).mono ?_
      rintro e w2 ⟨rfl, b2⟩
      have c2 := Lib.hid (row_below c1.out b2 (by omega))
      have d2 := Lib.hid (d1.out.trans (b2.mono (by omega)))
      have z2 := b2.size
      clear b2
      go_wp2_with (refine store_flt rfl rfl _ _ rfl _ 0 0 0 0 0 0 rfl rfl c2.out ?_; intro w3 h3 g3 z3)
      exact ret_bf rfl rfl rfl rfl h3 ⟨rfl, d2.out.grown g3 (by omega) (fun k hk => by cases hk; exact Nat.le_refl _)⟩
set_option maxHeartbeats 1000000 in
set_option maxRecDepth 100000 in
theorem rtwo_ge (a b : ByteArray) (x y : Option Int) (k : Nat) (hk : k ≤ 100) (w : World) (hx : ∀ W, Calls Tryz.prog 57 #[.string a] W fun e w' => e = .returned (numV x) ∧ Below W.heap.size W w') (hy : ∀ W, Calls Tryz.prog 57 #[.string b] W fun e w' => e = .returned (numV y) ∧ Below W.heap.size W w') :
    Calls Tryz.prog 36 #[.string a, .string ⟨#[45, 103, 101]⟩, .string b, .int .i64 k] w (RtR w (cmpOut 3 x y) k) := by
  have hz := Lib.hid (zF w)
  have b0 := Lib.hid ((Below.refl w.heap.size w).alloc (Nat.le_refl _) (.cells #[.int .i64 0, .int .i64 0, .int .i64 0] 28))
  have hx' := Lib.hid hx
  have hy' := Lib.hid hy
  have hw : IntKind.i64.wrap ((k : Int) + 2) = ((2 + k : Nat) : Int) := by rw [IntKind.wrap_i64]; omega
  clear hx hy
  cases x with
  | none =>
    have hx2 : ∀ W, Calls Tryz.prog 57 #[.string a] W fun e w' => e = .returned (.tuple #[.int .i64 0, .bool false]) ∧ Below W.heap.size W w' := hx'.out
    have hx3 := Lib.hid hx2
    clear hx2
    go_enter Tryz.func36, Tryz.ntmps36
    go_wp2_with fail
    refine (hx3.out _).mono ?_
    rintro e w1 ⟨rfl, b1⟩
    have c1 := Lib.hid (row_below hz.out b1 (by simp))
    have d1 := Lib.hid (b0.out.trans (b1.mono (by simp)))
    have z1 := b1.size
    rw [World.size_alloc] at z1
    clear b1
    go_wp2_with fail
    refine (rbad_any _ _ _).mono ?_
    rintro e w2 ⟨rfl, b2⟩
    have c2 := Lib.hid (row_below c1.out b2 (by omega))
    have d2 := Lib.hid (d1.out.trans (b2.mono (by omega)))
    have z2 := b2.size
    clear b2
    go_wp2_with (refine store_flt rfl rfl _ _ rfl _ 13 k 6 0 0 0 rfl rfl c2.out ?_; intro w3 h3 g3 z3)
    refine ret_bf rfl rfl rfl rfl h3 ⟨?_, d2.out.grown g3 (by omega) (fun k hk => by cases hk; exact Nat.le_refl _)⟩
    show _ = Ending.returned (.tuple #[.bool false, fv 13 ((0 + k : Nat) : Int) 6])
    rw [Nat.zero_add]
    rfl
  | some p =>
    have hx2 : ∀ W, Calls Tryz.prog 57 #[.string a] W fun e w' => e = .returned (.tuple #[.int .i64 p, .bool true]) ∧ Below W.heap.size W w' := hx'.out
    have hx3 := Lib.hid hx2
    clear hx2
    cases y with
    | none =>
      have hy2 : ∀ W, Calls Tryz.prog 57 #[.string b] W fun e w' => e = .returned (.tuple #[.int .i64 0, .bool false]) ∧ Below W.heap.size W w' := hy'.out
      have hy3 := Lib.hid hy2
      clear hy2
      go_enter Tryz.func36, Tryz.ntmps36
      go_wp2_with fail
      refine (hx3.out _).mono ?_
      rintro e w1 ⟨rfl, b1⟩
      have c1 := Lib.hid (row_below hz.out b1 (by simp))
      have d1 := Lib.hid (b0.out.trans (b1.mono (by simp)))
      have z1 := b1.size
      rw [World.size_alloc] at z1
      clear b1
      go_wp2_with fail
      refine (hy3.out _).mono ?_
      rintro e w2 ⟨rfl, b2⟩
      have c2 := Lib.hid (row_below c1.out b2 (by omega))
      have d2 := Lib.hid (d1.out.trans (b2.mono (by omega)))
      have z2 := b2.size
      clear b2
      go_wp2_with fail
      refine (rbad_any _ _ _).mono ?_
      rintro e w3 ⟨rfl, b3⟩
      have c3 := Lib.hid (row_below c2.out b3 (by omega))
      have d3 := Lib.hid (d2.out.trans (b3.mono (by omega)))
      have z3 := b3.size
      clear b3
      go_wp2_with (refine store_flt rfl rfl _ _ rfl _ 13 ((2 + k : Nat) : Int) 6 0 0 0 rfl rfl c3.out ?_; intro w4 h4 g4 z4)
      exact ret_bf rfl rfl rfl rfl h4 ⟨rfl, d3.out.grown g4 (by omega) (fun k hk => by cases hk; exact Nat.le_refl _)⟩
    | some q =>
      have hy2 : ∀ W, Calls Tryz.prog 57 #[.string b] W fun e w' => e = .returned (.tuple #[.int .i64 q, .bool true]) ∧ Below W.heap.size W w' := hy'.out
      have hy3 := Lib.hid hy2
      clear hy2
      go_enter Tryz.func36, Tryz.ntmps36
      go_wp2_with fail
      refine (hx3.out _).mono ?_
      rintro e w1 ⟨rfl, b1⟩
      have c1 := Lib.hid (row_below hz.out b1 (by simp))
      have d1 := Lib.hid (b0.out.trans (b1.mono (by simp)))
      have z1 := b1.size
      rw [World.size_alloc] at z1
      clear b1
      go_wp2_with fail
      refine (hy3.out _).mono ?_
      rintro e w2 ⟨rfl, b2⟩
      have c2 := Lib.hid (row_below c1.out b2 (by omega))
      have d2 := Lib.hid (d1.out.trans (b2.mono (by omega)))
      have z2 := b2.size
      clear b2
      go_wp2_with (refine store_flt rfl rfl _ _ rfl _ 0 0 0 0 0 0 rfl rfl c2.out ?_; intro w3 h3 g3 z3)
      exact ret_bf rfl rfl rfl rfl h3 ⟨rfl, d2.out.grown g3 (by omega) (fun k hk => by cases hk; exact Nat.le_refl _)⟩
set_option maxHeartbeats 1000000 in
set_option maxRecDepth 100000 in
theorem rtwo_lt (a b : ByteArray) (x y : Option Int) (k : Nat) (hk : k ≤ 100) (w : World) (hx : ∀ W, Calls Tryz.prog 57 #[.string a] W fun e w' => e = .returned (numV x) ∧ Below W.heap.size W w') (hy : ∀ W, Calls Tryz.prog 57 #[.string b] W fun e w' => e = .returned (numV y) ∧ Below W.heap.size W w') :
    Calls Tryz.prog 36 #[.string a, .string ⟨#[45, 108, 116]⟩, .string b, .int .i64 k] w (RtR w (cmpOut 4 x y) k) := by
  have hz := Lib.hid (zF w)
  have b0 := Lib.hid ((Below.refl w.heap.size w).alloc (Nat.le_refl _) (.cells #[.int .i64 0, .int .i64 0, .int .i64 0] 28))
  have hx' := Lib.hid hx
  have hy' := Lib.hid hy
  have hw : IntKind.i64.wrap ((k : Int) + 2) = ((2 + k : Nat) : Int) := by rw [IntKind.wrap_i64]; omega
  clear hx hy
  cases x with
  | none =>
    have hx2 : ∀ W, Calls Tryz.prog 57 #[.string a] W fun e w' => e = .returned (.tuple #[.int .i64 0, .bool false]) ∧ Below W.heap.size W w' := hx'.out
    have hx3 := Lib.hid hx2
    clear hx2
    go_enter Tryz.func36, Tryz.ntmps36
    go_wp2_with fail
    refine (hx3.out _).mono ?_
    rintro e w1 ⟨rfl, b1⟩
    have c1 := Lib.hid (row_below hz.out b1 (by simp))
    have d1 := Lib.hid (b0.out.trans (b1.mono (by simp)))
    have z1 := b1.size
    rw [World.size_alloc] at z1
    clear b1
    go_wp2_with fail
    refine (rbad_any _ _ _).mono ?_
    rintro e w2 ⟨rfl, b2⟩
    have c2 := Lib.hid (row_below c1.out b2 (by omega))
    have d2 := Lib.hid (d1.out.trans (b2.mono (by omega)))
    have z2 := b2.size
    clear b2
    go_wp2_with (refine store_flt rfl rfl _ _ rfl _ 13 k 6 0 0 0 rfl rfl c2.out ?_; intro w3 h3 g3 z3)
    refine ret_bf rfl rfl rfl rfl h3 ⟨?_, d2.out.grown g3 (by omega) (fun k hk => by cases hk; exact Nat.le_refl _)⟩
    show _ = Ending.returned (.tuple #[.bool false, fv 13 ((0 + k : Nat) : Int) 6])
    rw [Nat.zero_add]
    rfl
  | some p =>
    have hx2 : ∀ W, Calls Tryz.prog 57 #[.string a] W fun e w' => e = .returned (.tuple #[.int .i64 p, .bool true]) ∧ Below W.heap.size W w' := hx'.out
    have hx3 := Lib.hid hx2
    clear hx2
    cases y with
    | none =>
      have hy2 : ∀ W, Calls Tryz.prog 57 #[.string b] W fun e w' => e = .returned (.tuple #[.int .i64 0, .bool false]) ∧ Below W.heap.size W w' := hy'.out
      have hy3 := Lib.hid hy2
      clear hy2
      go_enter Tryz.func36, Tryz.ntmps36
      go_wp2_with fail
      refine (hx3.out _).mono ?_
      rintro e w1 ⟨rfl, b1⟩
      have c1 := Lib.hid (row_below hz.out b1 (by simp))
      have d1 := Lib.hid (b0.out.trans (b1.mono (by simp)))
      have z1 := b1.size
      rw [World.size_alloc] at z1
      clear b1
      go_wp2_with fail
      refine (hy3.out _).mono ?_
      rintro e w2 ⟨rfl, b2⟩
      have c2 := Lib.hid (row_below c1.out b2 (by omega))
      have d2 := Lib.hid (d1.out.trans (b2.mono (by omega)))
      have z2 := b2.size
      clear b2
      go_wp2_with fail
      refine (rbad_any _ _ _).mono ?_
      rintro e w3 ⟨rfl, b3⟩
      have c3 := Lib.hid (row_below c2.out b3 (by omega))
      have d3 := Lib.hid (d2.out.trans (b3.mono (by omega)))
      have z3 := b3.size
      clear b3
      go_wp2_with (refine store_flt rfl rfl _ _ rfl _ 13 ((2 + k : Nat) : Int) 6 0 0 0 rfl rfl c3.out ?_; intro w4 h4 g4 z4)
      exact ret_bf rfl rfl rfl rfl h4 ⟨rfl, d3.out.grown g4 (by omega) (fun k hk => by cases hk; exact Nat.le_refl _)⟩
    | some q =>
      have hy2 : ∀ W, Calls Tryz.prog 57 #[.string b] W fun e w' => e = .returned (.tuple #[.int .i64 q, .bool true]) ∧ Below W.heap.size W w' := hy'.out
      have hy3 := Lib.hid hy2
      clear hy2
      go_enter Tryz.func36, Tryz.ntmps36
      go_wp2_with fail
      refine (hx3.out _).mono ?_
      rintro e w1 ⟨rfl, b1⟩
      have c1 := Lib.hid (row_below hz.out b1 (by simp))
      have d1 := Lib.hid (b0.out.trans (b1.mono (by simp)))
      have z1 := b1.size
      rw [World.size_alloc] at z1
      clear b1
      go_wp2_with fail
      refine (hy3.out _).mono ?_
      rintro e w2 ⟨rfl, b2⟩
      have c2 := Lib.hid (row_below c1.out b2 (by omega))
      have d2 := Lib.hid (d1.out.trans (b2.mono (by omega)))
      have z2 := b2.size
      clear b2
      go_wp2_with (refine store_flt rfl rfl _ _ rfl _ 0 0 0 0 0 0 rfl rfl c2.out ?_; intro w3 h3 g3 z3)
      exact ret_bf rfl rfl rfl rfl h3 ⟨rfl, d2.out.grown g3 (by omega) (fun k hk => by cases hk; exact Nat.le_refl _)⟩
set_option maxHeartbeats 1000000 in
set_option maxRecDepth 100000 in
theorem rtwo_le (a b : ByteArray) (x y : Option Int) (k : Nat) (hk : k ≤ 100) (w : World) (hx : ∀ W, Calls Tryz.prog 57 #[.string a] W fun e w' => e = .returned (numV x) ∧ Below W.heap.size W w') (hy : ∀ W, Calls Tryz.prog 57 #[.string b] W fun e w' => e = .returned (numV y) ∧ Below W.heap.size W w') :
    Calls Tryz.prog 36 #[.string a, .string ⟨#[45, 108, 101]⟩, .string b, .int .i64 k] w (RtR w (cmpOut 5 x y) k) := by
  have hz := Lib.hid (zF w)
  have b0 := Lib.hid ((Below.refl w.heap.size w).alloc (Nat.le_refl _) (.cells #[.int .i64 0, .int .i64 0, .int .i64 0] 28))
  have hx' := Lib.hid hx
  have hy' := Lib.hid hy
  have hw : IntKind.i64.wrap ((k : Int) + 2) = ((2 + k : Nat) : Int) := by rw [IntKind.wrap_i64]; omega
  clear hx hy
  cases x with
  | none =>
    have hx2 : ∀ W, Calls Tryz.prog 57 #[.string a] W fun e w' => e = .returned (.tuple #[.int .i64 0, .bool false]) ∧ Below W.heap.size W w' := hx'.out
    have hx3 := Lib.hid hx2
    clear hx2
    go_enter Tryz.func36, Tryz.ntmps36
    go_wp2_with fail
    refine (hx3.out _).mono ?_
    rintro e w1 ⟨rfl, b1⟩
    have c1 := Lib.hid (row_below hz.out b1 (by simp))
    have d1 := Lib.hid (b0.out.trans (b1.mono (by simp)))
    have z1 := b1.size
    rw [World.size_alloc] at z1
    clear b1
    go_wp2_with fail
    refine (rbad_any _ _ _).mono ?_
    rintro e w2 ⟨rfl, b2⟩
    have c2 := Lib.hid (row_below c1.out b2 (by omega))
    have d2 := Lib.hid (d1.out.trans (b2.mono (by omega)))
    have z2 := b2.size
    clear b2
    go_wp2_with (refine store_flt rfl rfl _ _ rfl _ 13 k 6 0 0 0 rfl rfl c2.out ?_; intro w3 h3 g3 z3)
    refine ret_bf rfl rfl rfl rfl h3 ⟨?_, d2.out.grown g3 (by omega) (fun k hk => by cases hk; exact Nat.le_refl _)⟩
    show _ = Ending.returned (.tuple #[.bool false, fv 13 ((0 + k : Nat) : Int) 6])
    rw [Nat.zero_add]
    rfl
  | some p =>
    have hx2 : ∀ W, Calls Tryz.prog 57 #[.string a] W fun e w' => e = .returned (.tuple #[.int .i64 p, .bool true]) ∧ Below W.heap.size W w' := hx'.out
    have hx3 := Lib.hid hx2
    clear hx2
    cases y with
    | none =>
      have hy2 : ∀ W, Calls Tryz.prog 57 #[.string b] W fun e w' => e = .returned (.tuple #[.int .i64 0, .bool false]) ∧ Below W.heap.size W w' := hy'.out
      have hy3 := Lib.hid hy2
      clear hy2
      go_enter Tryz.func36, Tryz.ntmps36
      go_wp2_with fail
      refine (hx3.out _).mono ?_
      rintro e w1 ⟨rfl, b1⟩
      have c1 := Lib.hid (row_below hz.out b1 (by simp))
      have d1 := Lib.hid (b0.out.trans (b1.mono (by simp)))
      have z1 := b1.size
      rw [World.size_alloc] at z1
      clear b1
      go_wp2_with fail
      refine (hy3.out _).mono ?_
      rintro e w2 ⟨rfl, b2⟩
      have c2 := Lib.hid (row_below c1.out b2 (by omega))
      have d2 := Lib.hid (d1.out.trans (b2.mono (by omega)))
      have z2 := b2.size
      clear b2
      go_wp2_with fail
      refine (rbad_any _ _ _).mono ?_
      rintro e w3 ⟨rfl, b3⟩
      have c3 := Lib.hid (row_below c2.out b3 (by omega))
      have d3 := Lib.hid (d2.out.trans (b3.mono (by omega)))
      have z3 := b3.size
      clear b3
      go_wp2_with (refine store_flt rfl rfl _ _ rfl _ 13 ((2 + k : Nat) : Int) 6 0 0 0 rfl rfl c3.out ?_; intro w4 h4 g4 z4)
      exact ret_bf rfl rfl rfl rfl h4 ⟨rfl, d3.out.grown g4 (by omega) (fun k hk => by cases hk; exact Nat.le_refl _)⟩
    | some q =>
      have hy2 : ∀ W, Calls Tryz.prog 57 #[.string b] W fun e w' => e = .returned (.tuple #[.int .i64 q, .bool true]) ∧ Below W.heap.size W w' := hy'.out
      have hy3 := Lib.hid hy2
      clear hy2
      go_enter Tryz.func36, Tryz.ntmps36
      go_wp2_with fail
      refine (hx3.out _).mono ?_
      rintro e w1 ⟨rfl, b1⟩
      have c1 := Lib.hid (row_below hz.out b1 (by simp))
      have d1 := Lib.hid (b0.out.trans (b1.mono (by simp)))
      have z1 := b1.size
      rw [World.size_alloc] at z1
      clear b1
      go_wp2_with fail
      refine (hy3.out _).mono ?_
      rintro e w2 ⟨rfl, b2⟩
      have c2 := Lib.hid (row_below c1.out b2 (by omega))
      have d2 := Lib.hid (d1.out.trans (b2.mono (by omega)))
      have z2 := b2.size
      clear b2
      go_wp2_with (refine store_flt rfl rfl _ _ rfl _ 0 0 0 0 0 0 rfl rfl c2.out ?_; intro w3 h3 g3 z3)
      exact ret_bf rfl rfl rfl rfl h3 ⟨rfl, d2.out.grown g3 (by omega) (fun k hk => by cases hk; exact Nat.le_refl _)⟩
theorem rtwo_any (a o b : ByteArray) (ha : a.size ≤ 1024) (hb : b.size ≤ 1024) (k : Nat) (hk : k ≤ 100) (w : World) {O : Out} (hO : binO a.data.toList o.data.toList b.data.toList = some O) :
    Calls Tryz.prog 36 #[.string a, .string o, .string b, .int .i64 k] w (RtR w O k) := by
  have nx := fun W => rnumber_any a (by omega) W
  have ny := fun W => rnumber_any b (by omega) W
  unfold binO at hO
  by_cases h1 : (o.data.toList == [61]) = true
  · rw [if_pos h1] at hO; cases hO; obtain rfl := bytes_eq h1; exact rtwo_same a b k w
  rw [if_neg h1] at hO
  by_cases h2 : (o.data.toList == [33, 61]) = true
  · rw [if_pos h2] at hO; cases hO; obtain rfl := bytes_eq h2; exact rtwo_not a b k w
  rw [if_neg h2] at hO
  unfold opN at hO
  by_cases g0 : (o.data.toList == [45, 101, 113]) = true
  · rw [if_pos g0] at hO; cases hO; obtain rfl := bytes_eq g0; exact rtwo_eq a b _ _ k hk w nx ny
  rw [if_neg g0] at hO
  by_cases g1 : (o.data.toList == [45, 110, 101]) = true
  · rw [if_pos g1] at hO; cases hO; obtain rfl := bytes_eq g1; exact rtwo_ne a b _ _ k hk w nx ny
  rw [if_neg g1] at hO
  by_cases g2 : (o.data.toList == [45, 103, 116]) = true
  · rw [if_pos g2] at hO; cases hO; obtain rfl := bytes_eq g2; exact rtwo_gt a b _ _ k hk w nx ny
  rw [if_neg g2] at hO
  by_cases g3 : (o.data.toList == [45, 103, 101]) = true
  · rw [if_pos g3] at hO; cases hO; obtain rfl := bytes_eq g3; exact rtwo_ge a b _ _ k hk w nx ny
  rw [if_neg g3] at hO
  by_cases g4 : (o.data.toList == [45, 108, 116]) = true
  · rw [if_pos g4] at hO; cases hO; obtain rfl := bytes_eq g4; exact rtwo_lt a b _ _ k hk w nx ny
  rw [if_neg g4] at hO
  by_cases g5 : (o.data.toList == [45, 108, 101]) = true
  · rw [if_pos g5] at hO; cases hO; obtain rfl := bytes_eq g5; exact rtwo_le a b _ _ k hk w nx ny
  rw [if_neg g5] at hO
  cases hO
end Go.Proofs.YtfnaooplpofgiaaGreatDoor
