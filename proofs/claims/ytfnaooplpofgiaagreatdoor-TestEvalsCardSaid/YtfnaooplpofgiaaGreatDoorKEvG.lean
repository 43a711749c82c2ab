/- test's binary at every operator, not, eval of any operands: what the plain words say. Conditions: the operands lie in memory; what an operator of one operand tells is given as a contract. -/
import Derived.Test.YtfnaooplpofgiaaGreatDoorKAwk
import Derived.Test.YtfnaooplpofgiaaGreatDoorKTold
import Derived.Test.YtfnaooplpofgiaaGreatDoorTstP
import Derived.Test.YtfnaooplpofgiaaGreatDoorKBy
import Derived.Lib.SlBytesRow
import Derived.WalkMore
import Derived.OwnWalk
import Derived.Handy
import Derived.Outline
namespace Go.Proofs.YtfnaooplpofgiaaGreatDoor
open Go Go.RowKit SN

/-- What eval gives back: true or false and no error, or false and the error. -/
def IsOut (w : World) (x : Bool) (v : Value) : Out → Prop
  | .val b => x = b ∧ v = .nilIface
  | .err c p => x = false ∧ IsWr w v c p
theorem IsOut.below {w w' : World} {x : Bool} {v : Value} {O : Out} {M : Nat} (h : IsOut w x v O) (hb : Below M w w') (hM : w.heap.size ≤ M) : IsOut w' x v O := by
  cases O with
  | val b => exact h
  | err c p => exact ⟨h.1, h.2.below hb hM⟩
theorem cmpZ_eq (k : Nat) (x y : Int) : cmpN k x y = cmpZ k x y := by
  match k with
  | 0 | 1 | 2 | 3 | 4 | 5 => rfl
  | k + 6 => rfl
theorem isOut_cmp (k : Nat) (a b : Option Int) (v : Value) (w : World) (h : errO a b v w) : IsOut w (cmpO k a b) v (cmpOut k a b) := by
  cases a with
  | none => exact ⟨rfl, h⟩
  | some x => cases b with
    | none => exact ⟨rfl, h⟩
    | some y => exact ⟨cmpZ_eq k x y, h⟩
theorem beq_lists {α : Type} [BEq α] [LawfulBEq α] {a b : List α} (h : a = b) : (a == b) = true := by subst h; exact beq_self_eq_true a
/-- The post of binary. -/
def BinR (w0 : World) (r : Option Out) (e : Ending) (w' : World) : Prop :=
  ∃ x y v, e = .returned (.tuple #[.bool x, .bool y, v]) ∧ Below w0.heap.size w0 w' ∧ match r with
    | some O => y = true ∧ IsOut w' x v O
    | none => y = false ∧ x = false ∧ v = .nilIface
set_option maxHeartbeats 1000000 in
set_option maxRecDepth 100000 in
theorem binary_other (s o t : ByteArray) (w : World) (h1 : (o.toList == [61]) = false) (h2 : (o.toList == [33, 61]) = false) (h3 : (o.toList == [45, 101, 113]) = false) (h4 : (o.toList == [45, 110, 101]) = false) (h5 : (o.toList == [45, 103, 116]) = false)
    (h6 : (o.toList == [45, 103, 101]) = false) (h7 : (o.toList == [45, 108, 116]) = false) (h8 : (o.toList == [45, 108, 101]) = false) :
    Calls Tryz.prog 31 #[.string s, .string o, .string t] w fun e w' => e = .returned (.tuple #[.bool false, .bool false, .nilIface]) ∧ Below w.heap.size w w' := by
  go_enter Tryz.func31, Tryz.ntmps31
  go_wp2_with fail
  go_ret3
  exact ⟨rfl, Below.refl _ _⟩
theorem binary_any (s o t : ByteArray) (hs : s.size ≤ 1024) (ht : t.size ≤ 1024) (w : World) :
    Calls Tryz.prog 31 #[.string s, .string o, .string t] w (BinR w (binO s.data.toList o.data.toList t.data.toList)) := by
  have nx := fun W => number_any s (by omega) W
  have ny := fun W => number_any t (by omega) W
  unfold binO
  by_cases h1 : (o.data.toList == [61]) = true
  · rw [if_pos h1, bytes_eq h1, ← Lib.toList_data, ← Lib.toList_data]
    exact (binary_same s t w).mono fun e w' ⟨v, e1, e2, e3⟩ => ⟨_, _, _, e1, e3, rfl, rfl, e2⟩
  rw [if_neg h1]
  by_cases h2 : (o.data.toList == [33, 61]) = true
  · rw [if_pos h2, bytes_eq h2, ← Lib.toList_data, ← Lib.toList_data]
    exact (binary_not s t w).mono fun e w' ⟨v, e1, e2, e3⟩ => ⟨_, _, _, e1, e3, rfl, rfl, e2⟩
  rw [if_neg h2]
  unfold opN
  by_cases h3 : (o.data.toList == [45, 101, 113]) = true
  · rw [if_pos h3, bytes_eq h3]
    exact (binary_eq s t _ _ w nx ny).mono fun e w' ⟨v, e1, e2, e3⟩ => ⟨_, _, _, e1, e3, rfl, isOut_cmp _ _ _ _ _ e2⟩
  rw [if_neg h3]
  by_cases h4 : (o.data.toList == [45, 110, 101]) = true
  · rw [if_pos h4, bytes_eq h4]
    exact (binary_ne s t _ _ w nx ny).mono fun e w' ⟨v, e1, e2, e3⟩ => ⟨_, _, _, e1, e3, rfl, isOut_cmp _ _ _ _ _ e2⟩
  rw [if_neg h4]
  by_cases h5 : (o.data.toList == [45, 103, 116]) = true
  · rw [if_pos h5, bytes_eq h5]
    exact (binary_gt s t _ _ w nx ny).mono fun e w' ⟨v, e1, e2, e3⟩ => ⟨_, _, _, e1, e3, rfl, isOut_cmp _ _ _ _ _ e2⟩
  rw [if_neg h5]
  by_cases h6 : (o.data.toList == [45, 103, 101]) = true
  · rw [if_pos h6, bytes_eq h6]
    exact (binary_ge s t _ _ w nx ny).mono fun e w' ⟨v, e1, e2, e3⟩ => ⟨_, _, _, e1, e3, rfl, isOut_cmp _ _ _ _ _ e2⟩
  rw [if_neg h6]
  by_cases h7 : (o.data.toList == [45, 108, 116]) = true
  · rw [if_pos h7, bytes_eq h7]
    exact (binary_lt s t _ _ w nx ny).mono fun e w' ⟨v, e1, e2, e3⟩ => ⟨_, _, _, e1, e3, rfl, isOut_cmp _ _ _ _ _ e2⟩
  rw [if_neg h7]
  by_cases h8 : (o.data.toList == [45, 108, 101]) = true
  · rw [if_pos h8, bytes_eq h8]
    exact (binary_le s t _ _ w nx ny).mono fun e w' ⟨v, e1, e2, e3⟩ => ⟨_, _, _, e1, e3, rfl, isOut_cmp _ _ _ _ _ e2⟩
  rw [if_neg h8]
  rw [← Lib.toList_data] at h1 h2 h3 h4 h5 h6 h7 h8
  exact (binary_other s o t w (by simpa using h1) (by simpa using h2) (by simpa using h3) (by simpa using h4) (by simpa using h5) (by simpa using h6) (by simpa using h7) (by simpa using h8)).mono fun e w' ⟨e1, e2⟩ => ⟨_, _, _, e1, e2, rfl, rfl, rfl⟩
/-- What eval gives back of a row of operands. -/
def EvR (w0 : World) (O : Out) (e : Ending) (w' : World) : Prop := ∃ x v, e = .returned (.tuple #[.bool x, v]) ∧ IsOut w' x v O ∧ Below w0.heap.size w0 w'
set_option maxHeartbeats 1000000 in
set_option maxRecDepth 100000 in
theorem tnot_any {N : Nat} (sl tv : Value) (O : Out) (w : World) (hT : ErrT N w) (hN : N ≤ w.heap.size) (hp : O.pos ≤ 100) (h : Calls Tryz.prog 15 #[sl, tv] w (EvR w O)) :
    Calls Tryz.prog 29 #[sl, tv] w (EvR w O.neg) := by
  have h' := Lib.hid h
  have hT' := Lib.hid hT
  clear h hT
  go_enter Tryz.func29, Tryz.ntmps29
  go_wp2_with fail
  refine h'.out.mono ?_
  rintro e w1 ⟨x, v, rfl, hO, b1⟩
  cases O with
  | val b =>
    obtain ⟨rfl, rfl⟩ := hO
    go_wp2_with fail
    go_ret2
    exact ⟨_, _, rfl, ⟨rfl, rfl⟩, b1⟩
  | err c p =>
    obtain ⟨rfl, hw⟩ := hO
    have hm := Lib.hid (moved_any w1 (hT'.out.below b1 hN) (Nat.le_trans hN b1.size) hw hp)
    obtain ⟨B, rfl, hB⟩ := hw
    have b1' := Lib.hid b1
    clear hB b1
    go_wp2_with fail
    refine hm.out.mono ?_
    rintro e w2 ⟨u, rfl, hu, b2⟩
    have b12 := b1'.out.trans (b2.mono b1'.out.size)
    have hu' := Lib.hid hu
    clear hu b2
    go_wp2_with fail
    go_ret2
    exact ⟨_, _, rfl, ⟨rfl, hu'.out⟩, b12⟩
set_option maxHeartbeats 1000000 in
set_option maxRecDepth 100000 in
theorem eval0_any (p : Option Addr) (c : Nat) (tv : Value) (w : World) : Calls Tryz.prog 15 #[.slice p 0 c, tv] w (EvR w (.val false)) := by
  cases p with
  | none =>
    go_enter Tryz.func15, Tryz.ntmps15
    go_wp2_with fail
    go_ret2
    exact ⟨_, _, rfl, ⟨rfl, rfl⟩, Below.refl _ _⟩
  | some a =>
    go_enter Tryz.func15, Tryz.ntmps15
    go_wp2_with fail
    go_ret2
    exact ⟨_, _, rfl, ⟨rfl, rfl⟩, Below.refl _ _⟩
set_option maxHeartbeats 1000000 in
set_option maxRecDepth 100000 in
theorem eval1_any (b f c : Nat) (tv : Value) (s0 : ByteArray) (w : World) (hR : RowAt w b f [s0]) : Calls Tryz.prog 15 #[.slice (some ⟨b, f, none⟩) 1 c, tv] w (EvR w (.val (!s0.data.toList.isEmpty))) := by
  have c0 : w.cell? ⟨b, f, none⟩ = some (.string s0) := hR 0 s0 rfl
  clear hR
  rw [← Lib.toList_data]
  go_enter Tryz.func15, Tryz.ntmps15
  go_wp2_with fail
  go_ret2
  exact ⟨_, _, rfl, ⟨rfl, rfl⟩, Below.refl _ _⟩
set_option maxHeartbeats 1000000 in
set_option maxRecDepth 100000 in
theorem eval2_not (b f c : Nat) (tv : Value) (O : Out) (w : World) (hc : 2 ≤ c) (c0 : w.cell? ⟨b, f, none⟩ = some (.string ⟨#[33]⟩))
    (hC : Calls Tryz.prog 29 #[.slice (some ⟨b, f + 1, none⟩) 1 (c - 1), tv] w (EvR w O)) : Calls Tryz.prog 15 #[.slice (some ⟨b, f, none⟩) 2 c, tv] w (EvR w O) := by
  have hC' := Lib.hid hC
  clear hC
  go_enter Tryz.func15, Tryz.ntmps15
  go_wp2_with fail
  refine hC'.out.mono ?_
  rintro e w1 ⟨x, v, rfl, hO, b1⟩
  have hO' := Lib.hid hO
  have b1' := Lib.hid b1
  clear hO b1
  go_wp2_with fail
  go_ret2
  exact ⟨_, _, rfl, hO'.out, b1'.out⟩
set_option maxHeartbeats 1000000 in
set_option maxRecDepth 100000 in
theorem eval2_no (b f c : Nat) (tv : Value) (s0 s1 : ByteArray) (x : Bool) (w : World) (hb : b < w.heap.size) (h33 : (s0.toList == [33]) = false)
    (c0 : w.cell? ⟨b, f + 0, none⟩ = some (.string s0)) (c1 : w.cell? ⟨b, f + 1, none⟩ = some (.string s1))
    (hC : ∀ W, Below w.heap.size w W → w.heap.size ≤ W.heap.size → Calls Tryz.prog 30 #[.string s0, .string s1, tv] W fun e w' => e = .returned (.tuple #[.bool x, .bool false]) ∧ Below W.heap.size W w') :
    Calls Tryz.prog 15 #[.slice (some ⟨b, f, none⟩) 2 c, tv] w (EvR w (.err 14 0)) := by
  have hC' := Lib.hid hC
  have c0' := Lib.hid c0
  have c1' := Lib.hid c1
  have c00 : w.cell? ⟨b, f, none⟩ = some (.string s0) := c0
  clear hC c0 c1
  go_enter Tryz.func15, Tryz.ntmps15
  go_wp2_with fail
  refine wp_region_swap (o' := regionOps Tryz.f15 9) (by kernel_rfl) ?_
  refine ev9_wp (base := w.heap.size) (b := b) (f := f) (n := 2) (c := c) (tv := tv) (s0 := s0) (s1 := s1) (x := x) (y := false)
    ⟨by rfl, by rfl, by rfl, Nat.le_refl _, hb, c0'.out, c1'.out, fun W hW h2 => hC'.out W hW h2⟩ (Nat.le_refl _) ?_
  intro u W e11 e12 bW hW
  have bW' := Lib.hid bW
  clear bW
  rw [ev9_plan]
  simp only [putL, Act.put, List.setIfInBounds_toArray, List.set_cons_succ, List.set_cons_zero, e11, e12]
  go_wp2_with fail
  go_ret2
  exact ⟨_, _, rfl, ⟨rfl, _, rfl, heap_alloc_new W _⟩, bW'.out.alloc hW _⟩
set_option maxHeartbeats 1000000 in
set_option maxRecDepth 100000 in
theorem eval3_not (b f c : Nat) (tv : Value) (s1 s2 : ByteArray) (x : Bool) (O : Out) (w : World) (hb : b < w.heap.size) (hc : 3 ≤ c)
    (c0 : w.cell? ⟨b, f + 0, none⟩ = some (.string ⟨#[33]⟩)) (c1 : w.cell? ⟨b, f + 1, none⟩ = some (.string s1)) (c2 : w.cell? ⟨b, f + 2, none⟩ = some (.string s2))
    (hC : ∀ W, Below w.heap.size w W → Calls Tryz.prog 31 #[.string ⟨#[33]⟩, .string s1, .string s2] W fun e w' => ∃ v, e = .returned (.tuple #[.bool x, .bool false, v]) ∧ v = .nilIface ∧ Below W.heap.size W w')
    (hD : ∀ W, Below w.heap.size w W → w.heap.size ≤ W.heap.size → Calls Tryz.prog 29 #[.slice (some ⟨b, f + 1, none⟩) 2 (c - 1), tv] W (EvR W O)) :
    Calls Tryz.prog 15 #[.slice (some ⟨b, f, none⟩) 3 c, tv] w (EvR w (O)) := by
  have hC' := Lib.hid hC
  have hD' := Lib.hid hD
  have c0' := Lib.hid c0
  have c1' := Lib.hid c1
  have c2' := Lib.hid c2
  have c00 := fun W (h : Below w.heap.size w W) => Lib.hid ((h.cell (p := ⟨b, f + 0, none⟩) hb).trans c0)
  have c02 := fun W (h : Below w.heap.size w W) => Lib.hid ((h.cell (p := ⟨b, f + 2, none⟩) hb).trans c2)
  have c00' := Lib.hid c00
  have c02' := Lib.hid c02
  clear hC hD c0 c1 c2 c00 c02
  go_enter Tryz.func15, Tryz.ntmps15
  go_wp2_with fail
  refine wp_region_swap (o' := regionOps Tryz.f15 14) (by kernel_rfl) ?_
  refine ev14_wp (base := w.heap.size) (b := b) (f := f) (n := 3) (c := c) (s0 := ⟨#[33]⟩) (s1 := s1) (s2 := s2) (x := x) (y := false) (p := fun v _ => v = .nilIface) nil_st
    ⟨by rfl, by rfl, Nat.le_refl _, hb, c0'.out, c1'.out, c2'.out, fun W hW _ => hC'.out W hW⟩ (Nat.le_refl _) ?_
  intro u W e14 e15 e16 bW hW
  have c00 : W.cell? ⟨b, f, none⟩ = some (.string ⟨#[33]⟩) := (c00'.out W bW).out
  have c02 := (c02'.out W bW).out
  have bW' := Lib.hid bW
  clear bW
  rw [ev14_plan]
  simp only [putL, Act.put, List.setIfInBounds_toArray, List.set_cons_succ, List.set_cons_zero, e14, e15, e16]
  go_wp2_with fail
  refine (hD'.out W bW'.out hW).mono ?_
  rintro e w1 ⟨x, v, rfl, hO, b1⟩
  have hO' := Lib.hid hO
  have b1' := Lib.hid b1
  clear hO b1
  go_wp2_with fail
  go_ret2
  exact ⟨_, _, rfl, hO'.out, bW'.out.trans (b1'.out.mono hW)⟩
set_option maxHeartbeats 1000000 in
set_option maxRecDepth 100000 in
theorem eval3_par (b f c : Nat) (tv : Value) (s1 : ByteArray) (x : Bool) (O : Out) (w : World) (hb : b < w.heap.size) (hc : 3 ≤ c)
    (c0 : w.cell? ⟨b, f + 0, none⟩ = some (.string ⟨#[40]⟩)) (c1 : w.cell? ⟨b, f + 1, none⟩ = some (.string s1)) (c2 : w.cell? ⟨b, f + 2, none⟩ = some (.string ⟨#[41]⟩))
    (hC : ∀ W, Below w.heap.size w W → Calls Tryz.prog 31 #[.string ⟨#[40]⟩, .string s1, .string ⟨#[41]⟩] W fun e w' => ∃ v, e = .returned (.tuple #[.bool x, .bool false, v]) ∧ v = .nilIface ∧ Below W.heap.size W w')
    (hD : ∀ W, Below w.heap.size w W → w.heap.size ≤ W.heap.size → Calls Tryz.prog 15 #[.slice (some ⟨b, f + 1, none⟩) 1 (c - 1), tv] W (EvR W O)) :
    Calls Tryz.prog 15 #[.slice (some ⟨b, f, none⟩) 3 c, tv] w (EvR w (O)) := by
  have hC' := Lib.hid hC
  have hD' := Lib.hid hD
  have c0' := Lib.hid c0
  have c1' := Lib.hid c1
  have c2' := Lib.hid c2
  have c00 := fun W (h : Below w.heap.size w W) => Lib.hid ((h.cell (p := ⟨b, f + 0, none⟩) hb).trans c0)
  have c02 := fun W (h : Below w.heap.size w W) => Lib.hid ((h.cell (p := ⟨b, f + 2, none⟩) hb).trans c2)
  have c00' := Lib.hid c00
  have c02' := Lib.hid c02
  clear hC hD c0 c1 c2 c00 c02
  go_enter Tryz.func15, Tryz.ntmps15
  go_wp2_with fail
  refine wp_region_swap (o' := regionOps Tryz.f15 14) (by kernel_rfl) ?_
  refine ev14_wp (base := w.heap.size) (b := b) (f := f) (n := 3) (c := c) (s0 := ⟨#[40]⟩) (s1 := s1) (s2 := ⟨#[41]⟩) (x := x) (y := false) (p := fun v _ => v = .nilIface) nil_st
    ⟨by rfl, by rfl, Nat.le_refl _, hb, c0'.out, c1'.out, c2'.out, fun W hW _ => hC'.out W hW⟩ (Nat.le_refl _) ?_
  intro u W e14 e15 e16 bW hW
  have c00 : W.cell? ⟨b, f, none⟩ = some (.string ⟨#[40]⟩) := (c00'.out W bW).out
  have c02 := (c02'.out W bW).out
  have bW' := Lib.hid bW
  clear bW
  rw [ev14_plan]
  simp only [putL, Act.put, List.setIfInBounds_toArray, List.set_cons_succ, List.set_cons_zero, e14, e15, e16]
  go_wp2_with fail
  refine (hD'.out W bW'.out hW).mono ?_
  rintro e w1 ⟨x, v, rfl, hO, b1⟩
  have hO' := Lib.hid hO
  have b1' := Lib.hid b1
  clear hO b1
  go_wp2_with fail
  go_ret2
  exact ⟨_, _, rfl, hO'.out, bW'.out.trans (b1'.out.mono hW)⟩
set_option maxHeartbeats 1000000 in
set_option maxRecDepth 100000 in
theorem eval3_no (b f c : Nat) (tv : Value) (s0 s1 s2 : ByteArray) (x : Bool) (w : World) (hb : b < w.heap.size) (h33 : (s0.toList == [33]) = false) (h40 : (s0.toList == [40]) = false)
    (c0 : w.cell? ⟨b, f + 0, none⟩ = some (.string s0)) (c1 : w.cell? ⟨b, f + 1, none⟩ = some (.string s1)) (c2 : w.cell? ⟨b, f + 2, none⟩ = some (.string s2))
    (hC : ∀ W, Below w.heap.size w W → Calls Tryz.prog 31 #[.string s0, .string s1, .string s2] W fun e w' => ∃ v, e = .returned (.tuple #[.bool x, .bool false, v]) ∧ v = .nilIface ∧ Below W.heap.size W w') :
    Calls Tryz.prog 15 #[.slice (some ⟨b, f, none⟩) 3 c, tv] w (EvR w (.err 14 1)) := by
  have hC' := Lib.hid hC
  have c0' := Lib.hid c0
  have c1' := Lib.hid c1
  have c2' := Lib.hid c2
  have c00 := fun W (h : Below w.heap.size w W) => Lib.hid ((h.cell (p := ⟨b, f + 0, none⟩) hb).trans c0)
  have c02 := fun W (h : Below w.heap.size w W) => Lib.hid ((h.cell (p := ⟨b, f + 2, none⟩) hb).trans c2)
  have c00' := Lib.hid c00
  have c02' := Lib.hid c02
  clear hC c0 c1 c2 c00 c02
  go_enter Tryz.func15, Tryz.ntmps15
  go_wp2_with fail
  refine wp_region_swap (o' := regionOps Tryz.f15 14) (by kernel_rfl) ?_
  refine ev14_wp (base := w.heap.size) (b := b) (f := f) (n := 3) (c := c) (s0 := s0) (s1 := s1) (s2 := s2) (x := x) (y := false) (p := fun v _ => v = .nilIface) nil_st
    ⟨by rfl, by rfl, Nat.le_refl _, hb, c0'.out, c1'.out, c2'.out, fun W hW _ => hC'.out W hW⟩ (Nat.le_refl _) ?_
  intro u W e14 e15 e16 bW hW
  have c00 : W.cell? ⟨b, f, none⟩ = some (.string s0) := (c00'.out W bW).out
  have c02 := (c02'.out W bW).out
  have bW' := Lib.hid bW
  clear bW
  rw [ev14_plan]
  simp only [putL, Act.put, List.setIfInBounds_toArray, List.set_cons_succ, List.set_cons_zero, e14, e15, e16]
  go_wp2_with fail
  go_ret2
  exact ⟨_, _, rfl, ⟨rfl, _, rfl, heap_alloc_new W _⟩, bW'.out.alloc hW _⟩
set_option maxHeartbeats 1000000 in
set_option maxRecDepth 100000 in
theorem eval3_no2 (b f c : Nat) (tv : Value) (s1 s2 : ByteArray) (x : Bool) (w : World) (hb : b < w.heap.size) (h41 : (s2.toList == [41]) = false)
    (c0 : w.cell? ⟨b, f + 0, none⟩ = some (.string ⟨#[40]⟩)) (c1 : w.cell? ⟨b, f + 1, none⟩ = some (.string s1)) (c2 : w.cell? ⟨b, f + 2, none⟩ = some (.string s2))
    (hC : ∀ W, Below w.heap.size w W → Calls Tryz.prog 31 #[.string ⟨#[40]⟩, .string s1, .string s2] W fun e w' => ∃ v, e = .returned (.tuple #[.bool x, .bool false, v]) ∧ v = .nilIface ∧ Below W.heap.size W w') :
    Calls Tryz.prog 15 #[.slice (some ⟨b, f, none⟩) 3 c, tv] w (EvR w (.err 14 1)) := by
  have hC' := Lib.hid hC
  have c0' := Lib.hid c0
  have c1' := Lib.hid c1
  have c2' := Lib.hid c2
  have c00 := fun W (h : Below w.heap.size w W) => Lib.hid ((h.cell (p := ⟨b, f + 0, none⟩) hb).trans c0)
  have c02 := fun W (h : Below w.heap.size w W) => Lib.hid ((h.cell (p := ⟨b, f + 2, none⟩) hb).trans c2)
  have c00' := Lib.hid c00
  have c02' := Lib.hid c02
  clear hC c0 c1 c2 c00 c02
  go_enter Tryz.func15, Tryz.ntmps15
  go_wp2_with fail
  refine wp_region_swap (o' := regionOps Tryz.f15 14) (by kernel_rfl) ?_
  refine ev14_wp (base := w.heap.size) (b := b) (f := f) (n := 3) (c := c) (s0 := ⟨#[40]⟩) (s1 := s1) (s2 := s2) (x := x) (y := false) (p := fun v _ => v = .nilIface) nil_st
    ⟨by rfl, by rfl, Nat.le_refl _, hb, c0'.out, c1'.out, c2'.out, fun W hW _ => hC'.out W hW⟩ (Nat.le_refl _) ?_
  intro u W e14 e15 e16 bW hW
  have c00 : W.cell? ⟨b, f, none⟩ = some (.string ⟨#[40]⟩) := (c00'.out W bW).out
  have c02 := (c02'.out W bW).out
  have bW' := Lib.hid bW
  clear bW
  rw [ev14_plan]
  simp only [putL, Act.put, List.setIfInBounds_toArray, List.set_cons_succ, List.set_cons_zero, e14, e15, e16]
  go_wp2_with fail
  go_ret2
  exact ⟨_, _, rfl, ⟨rfl, _, rfl, heap_alloc_new W _⟩, bW'.out.alloc hW _⟩
set_option maxHeartbeats 1000000 in
set_option maxRecDepth 100000 in
theorem eval4_not (b f c : Nat) (tv : Value) (O : Out) (w : World) (hc : 4 ≤ c) (c0 : w.cell? ⟨b, f, none⟩ = some (.string ⟨#[33]⟩))
    (hC : Calls Tryz.prog 29 #[.slice (some ⟨b, f + 1, none⟩) 3 (c - 1), tv] w (EvR w O)) : Calls Tryz.prog 15 #[.slice (some ⟨b, f, none⟩) 4 c, tv] w (EvR w O) := by
  have hC' := Lib.hid hC
  clear hC
  go_enter Tryz.func15, Tryz.ntmps15
  go_wp2_with fail
  refine hC'.out.mono ?_
  rintro e w1 ⟨x, v, rfl, hO, b1⟩
  have hO' := Lib.hid hO
  have b1' := Lib.hid b1
  clear hO b1
  go_wp2_with fail
  go_ret2
  exact ⟨_, _, rfl, hO'.out, b1'.out⟩
set_option maxHeartbeats 1000000 in
set_option maxRecDepth 100000 in
theorem eval4_par {N : Nat} (b f c : Nat) (tv : Value) (O : Out) (w : World) (hc : 4 ≤ c) (hT : ErrT N w) (hN : N ≤ w.heap.size) (hp : O.pos ≤ 100) (c0 : w.cell? ⟨b, f, none⟩ = some (.string ⟨#[40]⟩)) (c3 : w.cell? ⟨b, f + 3, none⟩ = some (.string ⟨#[41]⟩))
    (hC : Calls Tryz.prog 15 #[.slice (some ⟨b, f + 1, none⟩) 2 (c - 1), tv] w (EvR w O)) : Calls Tryz.prog 15 #[.slice (some ⟨b, f, none⟩) 4 c, tv] w (EvR w O.mov) := by
  have hC' := Lib.hid hC
  have hT' := Lib.hid hT
  clear hC hT
  go_enter Tryz.func15, Tryz.ntmps15
  go_wp2_with fail
  refine hC'.out.mono ?_
  rintro e w1 ⟨x, v, rfl, hO, b1⟩
  cases O with
  | val z =>
    obtain ⟨rfl, rfl⟩ := hO
    have b1' := Lib.hid b1
    clear b1
    go_wp2_with fail
    go_ret2
    exact ⟨_, _, rfl, ⟨rfl, rfl⟩, b1'.out⟩
  | err k p =>
    obtain ⟨rfl, hw⟩ := hO
    have hm := Lib.hid (moved_any w1 (hT'.out.below b1 hN) (Nat.le_trans hN b1.size) hw hp)
    obtain ⟨B, rfl, hB⟩ := hw
    have b1' := Lib.hid b1
    clear hB b1
    go_wp2_with fail
    refine hm.out.mono ?_
    rintro e w2 ⟨u, rfl, hu, b2⟩
    have b12 := b1'.out.trans (b2.mono b1'.out.size)
    have hu' := Lib.hid hu
    clear hu b2
    go_wp2_with fail
    go_ret2
    exact ⟨_, _, rfl, ⟨rfl, hu'.out⟩, b12⟩
set_option maxHeartbeats 1000000 in
set_option maxRecDepth 100000 in
theorem eval4_no (b f c : Nat) (tv : Value) (s0 : ByteArray) (w : World) (h33 : (s0.toList == [33]) = false) (h40 : (s0.toList == [40]) = false) (c0 : w.cell? ⟨b, f, none⟩ = some (.string s0)) :
    Calls Tryz.prog 15 #[.slice (some ⟨b, f, none⟩) 4 c, tv] w (EvR w (.err 14 0)) := by
  go_enter Tryz.func15, Tryz.ntmps15
  go_wp2_with fail
  go_ret2
  exact ⟨_, _, rfl, ⟨rfl, _, rfl, heap_alloc_new w _⟩, (Below.refl _ _).alloc (Nat.le_refl _) _⟩
set_option maxHeartbeats 1000000 in
set_option maxRecDepth 100000 in
theorem eval4_no2 (b f c : Nat) (tv : Value) (s3 : ByteArray) (w : World) (h41 : (s3.toList == [41]) = false) (c0 : w.cell? ⟨b, f, none⟩ = some (.string ⟨#[40]⟩)) (c3 : w.cell? ⟨b, f + 3, none⟩ = some (.string s3)) :
    Calls Tryz.prog 15 #[.slice (some ⟨b, f, none⟩) 4 c, tv] w (EvR w (.err 14 0)) := by
  go_enter Tryz.func15, Tryz.ntmps15
  go_wp2_with fail
  go_ret2
  exact ⟨_, _, rfl, ⟨rfl, _, rfl, heap_alloc_new w _⟩, (Below.refl _ _).alloc (Nat.le_refl _) _⟩
set_option maxHeartbeats 1000000 in
set_option maxRecDepth 100000 in
theorem eval5_any (p : Option Addr) (n c : Nat) (tv : Value) (w : World) (hn : 4 < n) : Calls Tryz.prog 15 #[.slice p n c, tv] w (EvR w (.err 14 4)) := by
  have i0 : ¬ (n : Int) = 0 := by omega
  have i1 : ¬ (n : Int) = 1 := by omega
  have i2 : ¬ (n : Int) = 2 := by omega
  have i3 : ¬ (n : Int) = 3 := by omega
  have i4 : ¬ (n : Int) = 4 := by omega
  go_enter Tryz.func15, Tryz.ntmps15
  go_wp2_with fail
  go_ret2
  exact ⟨_, _, rfl, ⟨rfl, _, rfl, heap_alloc_new w _⟩, (Below.refl _ _).alloc (Nat.le_refl _) _⟩
theorem cmpOut_pos (k : Nat) (a b : Option Int) : (cmpOut k a b).pos ≤ 2 := by
  cases a with
  | none => exact Nat.zero_le _
  | some x => cases b with
    | none => exact Nat.le_refl _
    | some y => exact Nat.zero_le _
theorem binO_pos {a o b : List UInt8} {O : Out} (h : binO a o b = some O) : O.pos ≤ 2 := by
  unfold binO at h
  split at h
  · cases h; exact Nat.zero_le _
  · split at h
    · cases h; exact Nat.zero_le _
    · cases hk : opN o with
      | none => rw [hk] at h; cases h
      | some k => rw [hk] at h; cases h; exact cmpOut_pos _ _ _
theorem neg_pos (O : Out) : O.neg.pos ≤ O.pos + 1 := by cases O <;> simp [Out.neg, Out.pos]
theorem mov_pos (O : Out) : O.mov.pos ≤ O.pos + 1 := by cases O <;> simp [Out.mov, Out.pos]
theorem pos2 (U : List UInt8 → List UInt8 → Option Bool) (a b : List UInt8) : (eval2O U a b).pos ≤ 1 := by
  unfold eval2O
  split
  · exact neg_pos _
  · split <;> exact Nat.zero_le _
theorem pos3 (U : List UInt8 → List UInt8 → Option Bool) (a b c : List UInt8) : (eval3O U a b c).pos ≤ 2 := by
  unfold eval3O
  split
  · next O h => exact binO_pos h
  · split
    · have := neg_pos (eval2O U b c); have := pos2 U b c; omega
    · split
      · exact Nat.zero_le _
      · exact (by decide : 1 ≤ 2)
section
variable {N : Nat} {tv : Value} {U : List UInt8 → List UInt8 → Option Bool} {G : World → Prop}
/-- What is asked of an operator of one operand: what U says; G: what is held of the world. -/
def UnC (tv : Value) (U : List UInt8 → List UInt8 → Option Bool) (G : World → Prop) : Prop := ∀ W s0 s1, G W → Calls Tryz.prog 30 #[.string s0, .string s1, tv] W fun e w' =>
  e = .returned (.tuple #[.bool ((U s0.data.toList s1.data.toList).getD false), .bool (U s0.data.toList s1.data.toList).isSome]) ∧ Below W.heap.size W w'
theorem evR_nil {w : World} {x : Bool} {e : Ending} {w' : World} (h : e = .returned (.tuple #[.bool x, .nilIface]) ∧ Below w.heap.size w w') : EvR w (.val x) e w' := ⟨x, .nilIface, h.1, ⟨rfl, rfl⟩, h.2⟩
theorem eval2_any (hG : ∀ W W', G W → Below W.heap.size W W' → G W') (hU : UnC tv U G) (b f c : Nat) (s0 s1 : ByteArray) (w : World) (hg : G w) (hT : ErrT N w) (hN : N ≤ w.heap.size) (hb : b < w.heap.size) (hc : 2 ≤ c) (hR : RowAt w b f [s0, s1]) :
    Calls Tryz.prog 15 #[.slice (some ⟨b, f, none⟩) 2 c, tv] w (EvR w (eval2O U s0.data.toList s1.data.toList)) := by
  unfold eval2O
  by_cases h33 : (s0.data.toList == [33]) = true
  · rw [if_pos h33]
    obtain rfl := bytes_eq h33
    exact eval2_not b f c tv _ w hc (hR 0 _ rfl) (tnot_any (N := N) _ tv _ w hT hN (Nat.zero_le _) (eval1_any b (f + 1) (c - 1) tv s1 w hR.tail))
  · rw [if_neg h33]
    have hu := fun W (h : Below w.heap.size w W) => hU W s0 s1 (hG w W hg h)
    cases hx : U s0.data.toList s1.data.toList with
    | some x =>
      rw [hx] at hu
      exact (eval2_ok b f c tv s0 s1 x w hb (beq_no h33) (hR 0 s0 rfl) (hR 1 s1 rfl) fun W hW _ => hu W hW).mono fun e w' h => evR_nil h
    | none =>
      rw [hx] at hu
      exact eval2_no b f c tv s0 s1 false w hb (beq_no h33) (hR 0 s0 rfl) (hR 1 s1 rfl) fun W hW _ => hu W hW
theorem eval3_any (hG : ∀ W W', G W → Below W.heap.size W W' → G W') (hU : UnC tv U G) (b f c : Nat) (s0 s1 s2 : ByteArray) (w : World) (hg : G w) (hT : ErrT N w) (hN : N ≤ w.heap.size) (hb : b < w.heap.size) (hc : 3 ≤ c)
    (h0 : s0.size ≤ 1024) (h2 : s2.size ≤ 1024) (hR : RowAt w b f [s0, s1, s2]) :
    Calls Tryz.prog 15 #[.slice (some ⟨b, f, none⟩) 3 c, tv] w (EvR w (eval3O U s0.data.toList s1.data.toList s2.data.toList)) := by
  unfold eval3O
  have hB := fun W => binary_any s0 s1 s2 h0 h2 W
  have r0 : w.cell? ⟨b, f + 0, none⟩ = some (.string s0) := hR 0 s0 rfl
  have r1 : w.cell? ⟨b, f + 1, none⟩ = some (.string s1) := hR 1 s1 rfl
  have r2 : w.cell? ⟨b, f + 2, none⟩ = some (.string s2) := hR 2 s2 rfl
  cases hx : binO s0.data.toList s1.data.toList s2.data.toList with
  | some O =>
    rw [hx] at hB
    cases O with
    | val z =>
      refine (eval3_ok b f c tv s0 s1 s2 z (fun v _ => v = .nilIface) nil_st w hb r0 r1 r2 fun W _ => (hB W).mono ?_).mono ?_
      · rintro e w' ⟨x, y, v, rfl, h1, rfl, rfl, rfl⟩
        exact ⟨_, rfl, rfl, h1⟩
      · rintro e w' ⟨v, rfl, rfl, h1⟩
        exact ⟨_, _, rfl, ⟨rfl, rfl⟩, h1⟩
    | err k p =>
      refine (eval3_ok b f c tv s0 s1 s2 false (fun v W => IsWr W v k p) (fun v W W' h hb => h.below hb (Nat.le_refl _)) w hb r0 r1 r2 fun W _ => (hB W).mono ?_).mono ?_
      · rintro e w' ⟨x, y, v, rfl, h1, rfl, rfl, h2⟩
        exact ⟨_, rfl, h2, h1⟩
      · rintro e w' ⟨v, rfl, h2, h1⟩
        exact ⟨_, _, rfl, ⟨rfl, h2⟩, h1⟩
  | none =>
    rw [hx] at hB
    have hB2 : ∀ W, Calls Tryz.prog 31 #[.string s0, .string s1, .string s2] W fun e w' => ∃ v, e = .returned (.tuple #[.bool false, .bool false, v]) ∧ v = .nilIface ∧ Below W.heap.size W w' := fun W => (hB W).mono (by
      rintro e w' ⟨x, y, v, rfl, h1, rfl, rfl, rfl⟩
      exact ⟨_, rfl, rfl, h1⟩)
    show Calls _ _ _ _ (EvR w (if s0.data.toList == [33] then (eval2O U s1.data.toList s2.data.toList).neg else if s0.data.toList == [40] && s2.data.toList == [41] then .val (!s1.data.toList.isEmpty) else .err 14 1))
    by_cases h33 : (s0.data.toList == [33]) = true
    · rw [if_pos h33]
      obtain rfl := bytes_eq h33
      refine eval3_not b f c tv s1 s2 false _ w hb hc r0 r1 r2 (fun W _ => hB2 W) fun W bW hW => ?_
      exact tnot_any (N := N) _ tv _ W (hT.below bW hN) (Nat.le_trans hN hW) (Nat.le_trans (pos2 U _ _) (by decide)) (eval2_any hG hU b (f + 1) (c - 1) s1 s2 W (hG w W hg bW) (hT.below bW hN) (Nat.le_trans hN hW) (by omega) (by omega) (hR.below bW hb).tail)
    · rw [if_neg h33]
      by_cases h40 : (s0.data.toList == [40]) = true
      · obtain rfl := bytes_eq h40
        by_cases h41 : (s2.data.toList == [41]) = true
        · rw [if_pos (by rw [h41]; rfl)]
          obtain rfl := bytes_eq h41
          exact eval3_par b f c tv s1 false _ w hb hc r0 r1 r2 (fun W _ => hB2 W) fun W bW hW => eval1_any b (f + 1) (c - 1) tv s1 W (RowAt.init (l := [s1]) (m := [⟨#[41]⟩]) (hR.below bW hb).tail)
        · rw [if_neg (by simpa using h41)]
          exact eval3_no2 b f c tv s1 s2 false w hb (beq_no h41) r0 r1 r2 fun W _ => hB2 W
      · rw [if_neg (by simp [h40])]
        exact eval3_no b f c tv s0 s1 s2 false w hb (beq_no h33) (beq_no h40) r0 r1 r2 fun W _ => hB2 W
theorem eval4_any (hG : ∀ W W', G W → Below W.heap.size W W' → G W') (hU : UnC tv U G) (b f c : Nat) (s0 s1 s2 s3 : ByteArray) (w : World) (hg : G w) (hT : ErrT N w) (hN : N ≤ w.heap.size) (hb : b < w.heap.size) (hc : 4 ≤ c)
    (h1 : s1.size ≤ 1024) (h3 : s3.size ≤ 1024) (hR : RowAt w b f [s0, s1, s2, s3]) :
    Calls Tryz.prog 15 #[.slice (some ⟨b, f, none⟩) 4 c, tv] w (EvR w (eval4O U s0.data.toList s1.data.toList s2.data.toList s3.data.toList)) := by
  unfold eval4O
  have r0 : w.cell? ⟨b, f, none⟩ = some (.string s0) := hR 0 s0 rfl
  have r3 : w.cell? ⟨b, f + 3, none⟩ = some (.string s3) := hR 3 s3 rfl
  by_cases h33 : (s0.data.toList == [33]) = true
  · rw [if_pos h33]
    obtain rfl := bytes_eq h33
    exact eval4_not b f c tv _ w hc r0 (tnot_any (N := N) _ tv _ w hT hN (Nat.le_trans (pos3 U _ _ _) (by decide)) (eval3_any hG hU b (f + 1) (c - 1) s1 s2 s3 w hg hT hN hb (by omega) h1 h3 hR.tail))
  · rw [if_neg h33]
    by_cases h40 : (s0.data.toList == [40]) = true
    · obtain rfl := bytes_eq h40
      by_cases h41 : (s3.data.toList == [41]) = true
      · rw [if_pos (by rw [h41]; rfl)]
        obtain rfl := bytes_eq h41
        exact eval4_par (N := N) b f c tv _ w hc hT hN (Nat.le_trans (pos2 U _ _) (by decide)) r0 r3 (eval2_any hG hU b (f + 1) (c - 1) s1 s2 w hg hT hN hb (by omega) (RowAt.init (l := [s1, s2]) (m := [⟨#[41]⟩]) hR.tail))
      · rw [if_neg (by simpa using h41)]
        exact eval4_no2 b f c tv s3 w (beq_no h41) r0 r3
    · rw [if_neg (by simp [h40])]
      exact eval4_no b f c tv s0 w (beq_no h33) (beq_no h40) r0
/-- test.eval of any operands in memory, none longer than 1024 bytes. -/
theorem eval_any (hG : ∀ W W', G W → Below W.heap.size W W' → G W') (hU : UnC tv U G) (b c : Nat) (l : List ByteArray) (w : World) (hg : G w) (hT : ErrT N w) (hN : N ≤ w.heap.size) (hb : b < w.heap.size) (hc : l.length ≤ c)
    (hs : ∀ s ∈ l, s.size ≤ 1024) (hR : RowAt w b 0 l) :
    Calls Tryz.prog 15 #[.slice (some ⟨b, 0, none⟩) l.length c, tv] w (EvR w (evalO U (l.map fun s => s.data.toList))) := by
  match l with
  | [] => exact eval0_any _ _ _ _
  | [s0] => exact eval1_any b 0 c tv s0 w hR
  | [s0, s1] => exact eval2_any hG hU b 0 c s0 s1 w hg hT hN hb hc hR
  | [s0, s1, s2] => exact eval3_any hG hU b 0 c s0 s1 s2 w hg hT hN hb hc (hs s0 (by simp)) (hs s2 (by simp)) hR
  | [s0, s1, s2, s3] => exact eval4_any hG hU b 0 c s0 s1 s2 s3 w hg hT hN hb hc (hs s1 (by simp)) (hs s3 (by simp)) hR
  | s0 :: s1 :: s2 :: s3 :: s4 :: l => exact eval5_any _ _ _ _ _ (by show 4 < l.length + 1 + 1 + 1 + 1 + 1; omega)
end
end Go.Proofs.YtfnaooplpofgiaaGreatDoor
