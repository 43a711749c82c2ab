/- test's binary: two texts, the same or not; compared as numbers. No conditions but the texts' sizes. -/
import Derived.Test.YtfnaooplpofgiaaGreatDoorKNumB
import Derived.Test.YtfnaooplpofgiaaGreatDoorKErr
import Derived.OwnWalk
import Derived.WalkMore
import Derived.Handy
import Derived.Outline
namespace Go.Proofs.YtfnaooplpofgiaaGreatDoor
open Go Go.RowKit SN

/-- An error of an operand, as the package keeps it. -/
def IsWr (w : World) (v : Value) (c p : Int) : Prop := ∃ B, v = .iface 42 (.pointer (some ⟨B, 0, none⟩)) ∧ w.heap[B]? = some (.cells #[.int .i64 c, .int .i64 p] 44 (0, 0))
theorem IsWr.below {w w' : World} {v : Value} {c p : Int} {M : Nat} (h : IsWr w v c p) (hb : Below M w w') (hM : w.heap.size ≤ M) : IsWr w' v c p := by
  obtain ⟨B, e, h⟩ := h
  exact ⟨B, e, row_below h hb (Nat.lt_of_lt_of_le (row_lt h) hM)⟩
/-- What two operands' numbers tell, by the operator's number. -/
def cmpN : Nat → Int → Int → Bool
  | 0, x, y => x == y
  | 1, x, y => x != y
  | 2, x, y => decide (y < x)
  | 3, x, y => decide (y ≤ x)
  | 4, x, y => decide (x < y)
  | 5, x, y => decide (x ≤ y)
  | _, _, _ => false
def opB : Nat → ByteArray
  | 0 => ⟨#[45, 101, 113]⟩
  | 1 => ⟨#[45, 110, 101]⟩
  | 2 => ⟨#[45, 103, 116]⟩
  | 3 => ⟨#[45, 103, 101]⟩
  | 4 => ⟨#[45, 108, 116]⟩
  | 5 => ⟨#[45, 108, 101]⟩
  | _ => ⟨#[]⟩
def cmpO (k : Nat) (a b : Option Int) : Bool := match a, b with
  | some x, some y => cmpN k x y
  | _, _ => false
def errO (a b : Option Int) (v : Value) (w : World) : Prop := match a, b with
  | none, _ => IsWr w v 13 0
  | some _, none => IsWr w v 13 2
  | some _, some _ => v = .nilIface
theorem errO_st (a b : Option Int) (v : Value) (w w' : World) (h : errO a b v w) (hb : Below w.heap.size w w') : errO a b v w' := by
  cases a with
  | none => exact IsWr.below h hb (Nat.le_refl _)
  | some x => cases b with
    | none => exact IsWr.below h hb (Nat.le_refl _)
    | some y => exact h
theorem nil_st (v : Value) (w w' : World) (h : v = .nilIface) (_ : Below w.heap.size w w') : v = .nilIface := h
theorem binary_same (s t : ByteArray) (w : World) :
    Calls Tryz.prog 31 #[.string s, .string ⟨#[61]⟩, .string t] w fun e w' => ∃ v, e = .returned (.tuple #[.bool (s.toList == t.toList), .bool true, v]) ∧ v = .nilIface ∧ Below w.heap.size w w' := by
  go_enter Tryz.func31, Tryz.ntmps31
  go_wp2_with fail
  go_ret3
  exact ⟨_, rfl, rfl, Below.refl _ _⟩
theorem binary_not (s t : ByteArray) (w : World) :
    Calls Tryz.prog 31 #[.string s, .string ⟨#[33, 61]⟩, .string t] w fun e w' => ∃ v, e = .returned (.tuple #[.bool (!(s.toList == t.toList)), .bool true, v]) ∧ v = .nilIface ∧ Below w.heap.size w w' := by
  go_enter Tryz.func31, Tryz.ntmps31
  go_wp2_with fail
  go_ret3
  exact ⟨_, rfl, rfl, Below.refl _ _⟩
set_option maxHeartbeats 1000000 in
set_option maxRecDepth 100000 in
theorem binary_eq (s t : ByteArray) (x y : Option Int) (w : World) (hx : ∀ W, Calls Tryz.prog 55 #[.string s] W fun e w' => e = .returned (numV x) ∧ Below W.heap.size W w') (hy : ∀ W, Calls Tryz.prog 55 #[.string t] W fun e w' => e = .returned (numV y) ∧ Below W.heap.size W w') :
    Calls Tryz.prog 31 #[.string s, .string ⟨#[45, 101, 113]⟩, .string t] w fun e w' => ∃ v, e = .returned (.tuple #[.bool (cmpO 0 x y), .bool true, v]) ∧ errO x y v w' ∧ Below w.heap.size w w' := by
  have hx' := Lib.hid hx
  have hy' := Lib.hid hy
  clear hx hy
  cases x with
  | none =>
    have hx2 : ∀ W, Calls Tryz.prog 55 #[.string s] W fun e w' => e = .returned (.tuple #[.int .i64 0, .bool false]) ∧ Below W.heap.size W w' := hx'.out
    have hx3 := Lib.hid hx2
    clear hx2
    go_enter Tryz.func31, Tryz.ntmps31
    go_wp2_with fail
    refine (hx3.out _).mono ?_
    rintro e w1 ⟨rfl, b1⟩
    go_wp2_with fail
    go_ret3
    exact ⟨_, rfl, ⟨_, rfl, heap_alloc_new w1 _⟩, b1.trans (((Below.refl _ _).alloc (Nat.le_refl _) _).mono b1.size)⟩
  | some p =>
    have hx2 : ∀ W, Calls Tryz.prog 55 #[.string s] W fun e w' => e = .returned (.tuple #[.int .i64 p, .bool true]) ∧ Below W.heap.size W w' := hx'.out
    have hx3 := Lib.hid hx2
    clear hx2
    cases y with
    | none =>
      have hy2 : ∀ W, Calls Tryz.prog 55 #[.string t] W fun e w' => e = .returned (.tuple #[.int .i64 0, .bool false]) ∧ Below W.heap.size W w' := hy'.out
      have hy3 := Lib.hid hy2
      clear hy2
      go_enter Tryz.func31, Tryz.ntmps31
      go_wp2_with fail
      refine (hx3.out _).mono ?_
      rintro e w1 ⟨rfl, b1⟩
      go_wp2_with fail
      refine (hy3.out _).mono ?_
      rintro e w2 ⟨rfl, b2⟩
      have b12 := b1.trans (b2.mono b1.size)
      go_wp2_with fail
      go_ret3
      exact ⟨_, rfl, ⟨_, rfl, heap_alloc_new w2 _⟩, b12.trans (((Below.refl _ _).alloc (Nat.le_refl _) _).mono b12.size)⟩
    | some q =>
      have hy2 : ∀ W, Calls Tryz.prog 55 #[.string t] W fun e w' => e = .returned (.tuple #[.int .i64 q, .bool true]) ∧ Below W.heap.size W w' := hy'.out
      have hy3 := Lib.hid hy2
      clear hy2
      go_enter Tryz.func31, Tryz.ntmps31
      go_wp2_with fail
      refine (hx3.out _).mono ?_
      rintro e w1 ⟨rfl, b1⟩
      go_wp2_with fail
      refine (hy3.out _).mono ?_
      rintro e w2 ⟨rfl, b2⟩
      have b12 := b1.trans (b2.mono b1.size)
      go_wp2_with fail
      go_ret3
      exact ⟨_, rfl, rfl, b12⟩
set_option maxHeartbeats 1000000 in
set_option maxRecDepth 100000 in
theorem binary_ne (s t : ByteArray) (x y : Option Int) (w : World) (hx : ∀ W, Calls Tryz.prog 55 #[.string s] W fun e w' => e = .returned (numV x) ∧ Below W.heap.size W w') (hy : ∀ W, Calls Tryz.prog 55 #[.string t] W fun e w' => e = .returned (numV y) ∧ Below W.heap.size W w') :
    Calls Tryz.prog 31 #[.string s, .string ⟨#[45, 110, 101]⟩, .string t] w fun e w' => ∃ v, e = .returned (.tuple #[.bool (cmpO 1 x y), .bool true, v]) ∧ errO x y v w' ∧ Below w.heap.size w w' := by
  have hx' := Lib.hid hx
  have hy' := Lib.hid hy
  clear hx hy
  cases x with
  | none =>
    have hx2 : ∀ W, Calls Tryz.prog 55 #[.string s] W fun e w' => e = .returned (.tuple #[.int .i64 0, .bool false]) ∧ Below W.heap.size W w' := hx'.out
    have hx3 := Lib.hid hx2
    clear hx2
    go_enter Tryz.func31, Tryz.ntmps31
    go_wp2_with fail
    refine (hx3.out _).mono ?_
    rintro e w1 ⟨rfl, b1⟩
    go_wp2_with fail
    go_ret3
    exact ⟨_, rfl, ⟨_, rfl, heap_alloc_new w1 _⟩, b1.trans (((Below.refl _ _).alloc (Nat.le_refl _) _).mono b1.size)⟩
  | some p =>
    have hx2 : ∀ W, Calls Tryz.prog 55 #[.string s] W fun e w' => e = .returned (.tuple #[.int .i64 p, .bool true]) ∧ Below W.heap.size W w' := hx'.out
    have hx3 := Lib.hid hx2
    clear hx2
    cases y with
    | none =>
      have hy2 : ∀ W, Calls Tryz.prog 55 #[.string t] W fun e w' => e = .returned (.tuple #[.int .i64 0, .bool false]) ∧ Below W.heap.size W w' := hy'.out
      have hy3 := Lib.hid hy2
      clear hy2
      go_enter Tryz.func31, Tryz.ntmps31
      go_wp2_with fail
      refine (hx3.out _).mono ?_
      rintro e w1 ⟨rfl, b1⟩
      go_wp2_with fail
      refine (hy3.out _).mono ?_
      rintro e w2 ⟨rfl, b2⟩
      have b12 := b1.trans (b2.mono b1.size)
      go_wp2_with fail
      go_ret3
      exact ⟨_, rfl, ⟨_, rfl, heap_alloc_new w2 _⟩, b12.trans (((Below.refl _ _).alloc (Nat.le_refl _) _).mono b12.size)⟩
    | some q =>
      have hy2 : ∀ W, Calls Tryz.prog 55 #[.string t] W fun e w' => e = .returned (.tuple #[.int .i64 q, .bool true]) ∧ Below W.heap.size W w' := hy'.out
      have hy3 := Lib.hid hy2
      clear hy2
      go_enter Tryz.func31, Tryz.ntmps31
      go_wp2_with fail
      refine (hx3.out _).mono ?_
      rintro e w1 ⟨rfl, b1⟩
      go_wp2_with fail
      refine (hy3.out _).mono ?_
      rintro e w2 ⟨rfl, b2⟩
      have b12 := b1.trans (b2.mono b1.size)
      go_wp2_with fail
      go_ret3
      exact ⟨_, rfl, rfl, b12⟩
set_option maxHeartbeats 1000000 in
set_option maxRecDepth 100000 in
theorem binary_gt (s t : ByteArray) (x y : Option Int) (w : World) (hx : ∀ W, Calls Tryz.prog 55 #[.string s] W fun e w' => e = .returned (numV x) ∧ Below W.heap.size W w') (hy : ∀ W, Calls Tryz.prog 55 #[.string t] W fun e w' => e = .returned (numV y) ∧ Below W.heap.size W w') :
    Calls Tryz.prog 31 #[.string s, .string ⟨#[45, 103, 116]⟩, .string t] w fun e w' => ∃ v, e = .returned (.tuple #[.bool (cmpO 2 x y), .bool true, v]) ∧ errO x y v w' ∧ Below w.heap.size w w' := by
  have hx' := Lib.hid hx
  have hy' := Lib.hid hy
  clear hx hy
  cases x with
  | none =>
    have hx2 : ∀ W, Calls Tryz.prog 55 #[.string s] W fun e w' => e = .returned (.tuple #[.int .i64 0, .bool false]) ∧ Below W.heap.size W w' := hx'.out
    have hx3 := Lib.hid hx2
    clear hx2
    go_enter Tryz.func31, Tryz.ntmps31
    go_wp2_with fail
    refine (hx3.out _).mono ?_
    rintro e w1 ⟨rfl, b1⟩
    go_wp2_with fail
    go_ret3
    exact ⟨_, rfl, ⟨_, rfl, heap_alloc_new w1 _⟩, b1.trans (((Below.refl _ _).alloc (Nat.le_refl _) _).mono b1.size)⟩
  | some p =>
    have hx2 : ∀ W, Calls Tryz.prog 55 #[.string s] W fun e w' => e = .returned (.tuple #[.int .i64 p, .bool true]) ∧ Below W.heap.size W w' := hx'.out
    have hx3 := Lib.hid hx2
    clear hx2
    cases y with
    | none =>
      have hy2 : ∀ W, Calls Tryz.prog 55 #[.string t] W fun e w' => e = .returned (.tuple #[.int .i64 0, .bool false]) ∧ Below W.heap.size W w' := hy'.out
      have hy3 := Lib.hid hy2
      clear hy2
      go_enter Tryz.func31, Tryz.ntmps31
      go_wp2_with fail
      refine (hx3.out _).mono ?_
      rintro e w1 ⟨rfl, b1⟩
      go_wp2_with fail
      refine (hy3.out _).mono ?_
      rintro e w2 ⟨rfl, b2⟩
      have b12 := b1.trans (b2.mono b1.size)
      go_wp2_with fail
      go_ret3
      exact ⟨_, rfl, ⟨_, rfl, heap_alloc_new w2 _⟩, b12.trans (((Below.refl _ _).alloc (Nat.le_refl _) _).mono b12.size)⟩
    | some q =>
      have hy2 : ∀ W, Calls Tryz.prog 55 #[.string t] W fun e w' => e = .returned (.tuple #[.int .i64 q, .bool true]) ∧ Below W.heap.size W w' := hy'.out
      have hy3 := Lib.hid hy2
      clear hy2
      go_enter Tryz.func31, Tryz.ntmps31
      go_wp2_with fail
      refine (hx3.out _).mono ?_
      rintro e w1 ⟨rfl, b1⟩
      go_wp2_with fail
      refine (hy3.out _).mono ?_
      rintro e w2 ⟨rfl, b2⟩
      have b12 := b1.trans (b2.mono b1.size)
      go_wp2_with fail
      go_ret3
      exact ⟨_, rfl, rfl, b12⟩
set_option maxHeartbeats 1000000 in
set_option maxRecDepth 100000 in
theorem binary_ge (s t : ByteArray) (x y : Option Int) (w : World) (hx : ∀ W, Calls Tryz.prog 55 #[.string s] W fun e w' => e = .returned (numV x) ∧ Below W.heap.size W w') (hy : ∀ W, Calls Tryz.prog 55 #[.string t] W fun e w' => e = .returned (numV y) ∧ Below W.heap.size W w') :
    Calls Tryz.prog 31 #[.string s, .string ⟨#[45, 103, 101]⟩, .string t] w fun e w' => ∃ v, e = .returned (.tuple #[.bool (cmpO 3 x y), .bool true, v]) ∧ errO x y v w' ∧ Below w.heap.size w w' := by
  have hx' := Lib.hid hx
  have hy' := Lib.hid hy
  clear hx hy
  cases x with
  | none =>
    have hx2 : ∀ W, Calls Tryz.prog 55 #[.string s] W fun e w' => e = .returned (.tuple #[.int .i64 0, .bool false]) ∧ Below W.heap.size W w' := hx'.out
    have hx3 := Lib.hid hx2
    clear hx2
    go_enter Tryz.func31, Tryz.ntmps31
    go_wp2_with fail
    refine (hx3.out _).mono ?_
    rintro e w1 ⟨rfl, b1⟩
    go_wp2_with fail
    go_ret3
    exact ⟨_, rfl, ⟨_, rfl, heap_alloc_new w1 _⟩, b1.trans (((Below.refl _ _).alloc (Nat.le_refl _) _).mono b1.size)⟩
  | some p =>
    have hx2 : ∀ W, Calls Tryz.prog 55 #[.string s] W fun e w' => e = .returned (.tuple #[.int .i64 p, .bool true]) ∧ Below W.heap.size W w' := hx'.out
    have hx3 := Lib.hid hx2
    clear hx2
    cases y with
    | none =>
      have hy2 : ∀ W, Calls Tryz.prog 55 #[.string t] W fun e w' => e = .returned (.tuple #[.int .i64 0, .bool false]) ∧ Below W.heap.size W w' := hy'.out
      have hy3 := Lib.hid hy2
      clear hy2
      go_enter Tryz.func31, Tryz.ntmps31
      go_wp2_with fail
      refine (hx3.out _).mono ?_
      rintro e w1 ⟨rfl, b1⟩
      go_wp2_with fail
      refine (hy3.out _).mono ?_
      rintro e w2 ⟨rfl, b2⟩
      have b12 := b1.trans (b2.mono b1.size)
      go_wp2_with fail
      go_ret3
      exact ⟨_, rfl, ⟨_, rfl, heap_alloc_new w2 _⟩, b12.trans (((Below.refl _ _).alloc (Nat.le_refl _) _).mono b12.size)⟩
    | some q =>
      have hy2 : ∀ W, Calls Tryz.prog 55 #[.string t] W fun e w' => e = .returned (.tuple #[.int .i64 q, .bool true]) ∧ Below W.heap.size W w' := hy'.out
      have hy3 := Lib.hid hy2
      clear hy2
      go_enter Tryz.func31, Tryz.ntmps31
      go_wp2_with fail
      refine (hx3.out _).mono ?_
      rintro e w1 ⟨rfl, b1⟩
      go_wp2_with fail
      refine (hy3.out _).mono ?_
      rintro e w2 ⟨rfl, b2⟩
      have b12 := b1.trans (b2.mono b1.size)
      go_wp2_with fail
      go_ret3
      exact ⟨_, rfl, rfl, b12⟩
set_option maxHeartbeats 1000000 in
set_option maxRecDepth 100000 in
theorem binary_lt (s t : ByteArray) (x y : Option Int) (w : World) (hx : ∀ W, Calls Tryz.prog 55 #[.string s] W fun e w' => e = .returned (numV x) ∧ Below W.heap.size W w') (hy : ∀ W, Calls Tryz.prog 55 #[.string t] W fun e w' => e = .returned (numV y) ∧ Below W.heap.size W w') :
    Calls Tryz.prog 31 #[.string s, .string ⟨#[45, 108, 116]⟩, .string t] w fun e w' => ∃ v, e = .returned (.tuple #[.bool (cmpO 4 x y), .bool true, v]) ∧ errO x y v w' ∧ Below w.heap.size w w' := by
  have hx' := Lib.hid hx
  have hy' := Lib.hid hy
  clear hx hy
  cases x with
  | none =>
    have hx2 : ∀ W, Calls Tryz.prog 55 #[.string s] W fun e w' => e = .returned (.tuple #[.int .i64 0, .bool false]) ∧ Below W.heap.size W w' := hx'.out
    have hx3 := Lib.hid hx2
    clear hx2
    go_enter Tryz.func31, Tryz.ntmps31
    go_wp2_with fail
    refine (hx3.out _).mono ?_
    rintro e w1 ⟨rfl, b1⟩
    go_wp2_with fail
    go_ret3
    exact ⟨_, rfl, ⟨_, rfl, heap_alloc_new w1 _⟩, b1.trans (((Below.refl _ _).alloc (Nat.le_refl _) _).mono b1.size)⟩
  | some p =>
    have hx2 : ∀ W, Calls Tryz.prog 55 #[.string s] W fun e w' => e = .returned (.tuple #[.int .i64 p, .bool true]) ∧ Below W.heap.size W w' := hx'.out
    have hx3 := Lib.hid hx2
    clear hx2
    cases y with
    | none =>
      have hy2 : ∀ W, Calls Tryz.prog 55 #[.string t] W fun e w' => e = .returned (.tuple #[.int .i64 0, .bool false]) ∧ Below W.heap.size W w' := hy'.out
      have hy3 := Lib.hid hy2
      clear hy2
      go_enter Tryz.func31, Tryz.ntmps31
      go_wp2_with fail
      refine (hx3.out _).mono ?_
      rintro e w1 ⟨rfl, b1⟩
      go_wp2_with fail
      refine (hy3.out _).mono ?_
      rintro e w2 ⟨rfl, b2⟩
      have b12 := b1.trans (b2.mono b1.size)
      go_wp2_with fail
      go_ret3
      exact ⟨_, rfl, ⟨_, rfl, heap_alloc_new w2 _⟩, b12.trans (((Below.refl _ _).alloc (Nat.le_refl _) _).mono b12.size)⟩
    | some q =>
      have hy2 : ∀ W, Calls Tryz.prog 55 #[.string t] W fun e w' => e = .returned (.tuple #[.int .i64 q, .bool true]) ∧ Below W.heap.size W w' := hy'.out
      have hy3 := Lib.hid hy2
      clear hy2
      go_enter Tryz.func31, Tryz.ntmps31
      go_wp2_with fail
      refine (hx3.out _).mono ?_
      rintro e w1 ⟨rfl, b1⟩
      go_wp2_with fail
      refine (hy3.out _).mono ?_
      rintro e w2 ⟨rfl, b2⟩
      have b12 := b1.trans (b2.mono b1.size)
      go_wp2_with fail
      go_ret3
      exact ⟨_, rfl, rfl, b12⟩
set_option maxHeartbeats 1000000 in
set_option maxRecDepth 100000 in
theorem binary_le (s t : ByteArray) (x y : Option Int) (w : World) (hx : ∀ W, Calls Tryz.prog 55 #[.string s] W fun e w' => e = .returned (numV x) ∧ Below W.heap.size W w') (hy : ∀ W, Calls Tryz.prog 55 #[.string t] W fun e w' => e = .returned (numV y) ∧ Below W.heap.size W w') :
    Calls Tryz.prog 31 #[.string s, .string ⟨#[45, 108, 101]⟩, .string t] w fun e w' => ∃ v, e = .returned (.tuple #[.bool (cmpO 5 x y), .bool true, v]) ∧ errO x y v w' ∧ Below w.heap.size w w' := by
  have hx' := Lib.hid hx
  have hy' := Lib.hid hy
  clear hx hy
  cases x with
  | none =>
    have hx2 : ∀ W, Calls Tryz.prog 55 #[.string s] W fun e w' => e = .returned (.tuple #[.int .i64 0, .bool false]) ∧ Below W.heap.size W w' := hx'.out
    have hx3 := Lib.hid hx2
    clear hx2
    go_enter Tryz.func31, Tryz.ntmps31
    go_wp2_with fail
    refine (hx3.out _).mono ?_
    rintro e w1 ⟨rfl, b1⟩
    go_wp2_with fail
    go_ret3
    exact ⟨_, rfl, ⟨_, rfl, heap_alloc_new w1 _⟩, b1.trans (((Below.refl _ _).alloc (Nat.le_refl _) _).mono b1.size)⟩
  | some p =>
    have hx2 : ∀ W, Calls Tryz.prog 55 #[.string s] W fun e w' => e = .returned (.tuple #[.int .i64 p, .bool true]) ∧ Below W.heap.size W w' := hx'.out
    have hx3 := Lib.hid hx2
    clear hx2
    cases y with
    | none =>
      have hy2 : ∀ W, Calls Tryz.prog 55 #[.string t] W fun e w' => e = .returned (.tuple #[.int .i64 0, .bool false]) ∧ Below W.heap.size W w' := hy'.out
      have hy3 := Lib.hid hy2
      clear hy2
      go_enter Tryz.func31, Tryz.ntmps31
      go_wp2_with fail
      refine (hx3.out _).mono ?_
      rintro e w1 ⟨rfl, b1⟩
      go_wp2_with fail
      refine (hy3.out _).mono ?_
      rintro e w2 ⟨rfl, b2⟩
      have b12 := b1.trans (b2.mono b1.size)
      go_wp2_with fail
      go_ret3
      exact ⟨_, rfl, ⟨_, rfl, heap_alloc_new w2 _⟩, b12.trans (((Below.refl _ _).alloc (Nat.le_refl _) _).mono b12.size)⟩
    | some q =>
      have hy2 : ∀ W, Calls Tryz.prog 55 #[.string t] W fun e w' => e = .returned (.tuple #[.int .i64 q, .bool true]) ∧ Below W.heap.size W w' := hy'.out
      have hy3 := Lib.hid hy2
      clear hy2
      go_enter Tryz.func31, Tryz.ntmps31
      go_wp2_with fail
      refine (hx3.out _).mono ?_
      rintro e w1 ⟨rfl, b1⟩
      go_wp2_with fail
      refine (hy3.out _).mono ?_
      rintro e w2 ⟨rfl, b2⟩
      have b12 := b1.trans (b2.mono b1.size)
      go_wp2_with fail
      go_ret3
      exact ⟨_, rfl, rfl, b12⟩
end Go.Proofs.YtfnaooplpofgiaaGreatDoor
