/- The walk over TestOrder: two numbers, compared in each way. Conditions: each is a number of 64 bits. -/
import Derived.Test.YtfnaooplpofgiaaDoorKSame
import Derived.Test.YtfnaooplpofgiaaDoorKBase
import Derived.WalkMore
import Derived.OwnWalk
import Derived.Handy
import Derived.Outline
namespace Go.Proofs.YtfnaooplpofgiaaDoor
open Go Go.RowKit SN

set_option maxHeartbeats 1000000 in
set_option maxRecDepth 100000 in
/-- The law's inner function: what one operator tells of both texts. -/
theorem orderF_any (op X Y : ByteArray) (z : Bool) (B1 B2 : Nat) (w : World) (ho : op.size ≤ 1024) (hX : X.size ≤ 1024) (hY : Y.size ≤ 1024)
    (h1 : w.cell? ⟨B1, 0, none⟩ = some (.string X)) (h2 : w.cell? ⟨B2, 0, none⟩ = some (.string Y))
    (hC : ∀ W, Calls Tryd.prog 28 #[.string X, .string op, .string Y] W fun e w' => ∃ v, e = .returned (.tuple #[.bool z, .bool true, v]) ∧ v = .nilIface ∧ Below W.heap.size W w') :
    Calls Tryd.prog 9 #[.string op, .pointer (some ⟨B1, 0, none⟩), .pointer (some ⟨B2, 0, none⟩)] w fun e w' => e = .returned (.bool z) ∧ Below w.heap.size w w' := by
  have hE := Lib.hid (Eval3_ok X op Y z w hX ho hY hC)
  clear hC
  go_enter Tryd.func9, Tryd.ntmps9
  go_wp2_with fail
  refine hE.out.mono ?_
  rintro e w1 ⟨rfl, b1⟩
  cases z
  · go_wp2_with fail
    go_ret
    exact ⟨rfl, b1⟩
  · go_wp2_with fail
    go_ret
    exact ⟨rfl, b1⟩
/-- Both texts lie where the inner function looks. -/
def TwoS (w : World) (B : Nat) (X Y : ByteArray) : Prop := w.heap[B]? = some (.cells #[.string X] 9 (0, 0)) ∧ w.heap[B + 1]? = some (.cells #[.string Y] 9 (0, 0))
theorem TwoS.below {w w' : World} {B : Nat} {X Y : ByteArray} {M : Nat} (h : TwoS w B X Y) (hb : Below M w w') (hM : B + 1 < M) : TwoS w' B X Y := ⟨row_below h.1 hb (by omega), row_below h.2 hb hM⟩
set_option maxHeartbeats 2000000 in
set_option maxRecDepth 100000 in
theorem order_of (x y : Int) (X Y : ByteArray) (w : World) (c0 c1 c2 c3 c4 c5 : Bool)
    (tX : ∀ W, Calls Tryd.prog 8 #[.int .i64 x] W fun e w' => e = .returned (.string X) ∧ Below W.heap.size W w')
    (tY : ∀ W, Calls Tryd.prog 8 #[.int .i64 y] W fun e w' => e = .returned (.string Y) ∧ Below W.heap.size W w')
    (f0 : ∀ W B, TwoS W B X Y → Calls Tryd.prog 9 #[.string ⟨#[45, 101, 113]⟩, .pointer (some ⟨B, 0, none⟩), .pointer (some ⟨B + 1, 0, none⟩)] W fun e w' => e = .returned (.bool c0) ∧ Below W.heap.size W w')
    (f1 : ∀ W B, TwoS W B X Y → Calls Tryd.prog 9 #[.string ⟨#[45, 110, 101]⟩, .pointer (some ⟨B, 0, none⟩), .pointer (some ⟨B + 1, 0, none⟩)] W fun e w' => e = .returned (.bool c1) ∧ Below W.heap.size W w')
    (f2 : ∀ W B, TwoS W B X Y → Calls Tryd.prog 9 #[.string ⟨#[45, 103, 116]⟩, .pointer (some ⟨B, 0, none⟩), .pointer (some ⟨B + 1, 0, none⟩)] W fun e w' => e = .returned (.bool c2) ∧ Below W.heap.size W w')
    (f3 : ∀ W B, TwoS W B X Y → Calls Tryd.prog 9 #[.string ⟨#[45, 103, 101]⟩, .pointer (some ⟨B, 0, none⟩), .pointer (some ⟨B + 1, 0, none⟩)] W fun e w' => e = .returned (.bool c3) ∧ Below W.heap.size W w')
    (f4 : ∀ W B, TwoS W B X Y → Calls Tryd.prog 9 #[.string ⟨#[45, 108, 116]⟩, .pointer (some ⟨B, 0, none⟩), .pointer (some ⟨B + 1, 0, none⟩)] W fun e w' => e = .returned (.bool c4) ∧ Below W.heap.size W w')
    (f5 : ∀ W B, TwoS W B X Y → Calls Tryd.prog 9 #[.string ⟨#[45, 108, 101]⟩, .pointer (some ⟨B, 0, none⟩), .pointer (some ⟨B + 1, 0, none⟩)] W fun e w' => e = .returned (.bool c5) ∧ Below W.heap.size W w')
    (hc : (x < y ∧ ¬ x = y ∧ ¬ y < x ∧ (x == y) = false ∧ c0 = false ∧ c1 = true ∧ c2 = false ∧ c3 = false ∧ c4 = true ∧ c5 = true) ∨ (¬ x < y ∧ x = y ∧ ¬ y < x ∧ (x == y) = true ∧ c0 = true ∧ c1 = false ∧ c2 = false ∧ c3 = true ∧ c4 = false ∧ c5 = true) ∨ (¬ x < y ∧ ¬ x = y ∧ y < x ∧ (x == y) = false ∧ c0 = false ∧ c1 = true ∧ c2 = true ∧ c3 = true ∧ c4 = false ∧ c5 = false)) :
    Calls Tryd.prog 4 #[.int .i64 x, .int .i64 y] w fun e w' => e = .returned (.bool true) ∧ Below w.heap.size w w' := by
  have tX' := Lib.hid tX
  have tY' := Lib.hid tY
  have g0 := Lib.hid f0
  have g1 := Lib.hid f1
  have g2 := Lib.hid f2
  have g3 := Lib.hid f3
  have g4 := Lib.hid f4
  have g5 := Lib.hid f5
  clear tX tY f0 f1 f2 f3 f4 f5
  go_enter Tryd.func4, Tryd.ntmps4
  go_wp2_with fail
  refine (tX'.out w).mono ?_
  rintro e w1 ⟨rfl, b1⟩
  have y1 := Lib.hid b1
  clear b1
  go_wp2_with fail
  refine (tY'.out w1).mono ?_
  rintro e w2 ⟨rfl, b2⟩
  have y2 := Lib.hid (y1.out.trans (b2.mono y1.out.size))
  clear b2
  go_wp2_with fail
  have hT : TwoS ((w2.alloc (.cells #[.string X] 9)).alloc (.cells #[.string Y] 9)) w2.heap.size X Y := ⟨row_alloc (heap_alloc_new w2 _) _, by have := heap_alloc_new (w2.alloc (.cells #[.string X] 9)) (.cells #[.string Y] 9); rwa [World.size_alloc] at this⟩
  have hB : Below w.heap.size w ((w2.alloc (.cells #[.string X] 9)).alloc (.cells #[.string Y] 9)) := y2.out.trans ((((Below.refl _ _).alloc (Nat.le_refl _) _).alloc (by simp) _).mono y2.out.size)
  have hz : w2.heap.size + 1 < ((w2.alloc (.cells #[.string X] 9)).alloc (.cells #[.string Y] 9)).heap.size := by simp
  generalize World.alloc _ _ = W3 at hT hB hz
  have y3 := Lib.hid hB
  have hT3 := Lib.hid hT
  clear hT hB
  rcases hc with ⟨h1, h2, h3, h4, rfl, rfl, rfl, rfl, rfl, rfl⟩ | ⟨h1, h2, h3, h4, rfl, rfl, rfl, rfl, rfl, rfl⟩ | ⟨h1, h2, h3, h4, rfl, rfl, rfl, rfl, rfl, rfl⟩
  · skip
    refine (g4.out W3 w2.heap.size hT3.out).mono ?_
    rintro e W4 ⟨rfl, b4⟩
    have z4 := Nat.lt_of_lt_of_le hz b4.size
    have y4 := Lib.hid (y3.out.trans (b4.mono y3.out.size))
    have hT4 := Lib.hid (hT3.out.below b4 hz)
    clear b4
    go_wp2_with fail
    refine (g0.out W4 w2.heap.size hT4.out).mono ?_
    rintro e W5 ⟨rfl, b5⟩
    have z5 := Nat.lt_of_lt_of_le z4 b5.size
    have y5 := Lib.hid (y4.out.trans (b5.mono y4.out.size))
    have hT5 := Lib.hid (hT4.out.below b5 z4)
    clear b5
    go_wp2_with fail
    refine (g2.out W5 w2.heap.size hT5.out).mono ?_
    rintro e W6 ⟨rfl, b6⟩
    have z6 := Nat.lt_of_lt_of_le z5 b6.size
    have y6 := Lib.hid (y5.out.trans (b6.mono y5.out.size))
    have hT6 := Lib.hid (hT5.out.below b6 z5)
    clear b6
    go_wp2_with fail
    refine (g5.out W6 w2.heap.size hT6.out).mono ?_
    rintro e W7 ⟨rfl, b7⟩
    have z7 := Nat.lt_of_lt_of_le z6 b7.size
    have y7 := Lib.hid (y6.out.trans (b7.mono y6.out.size))
    have hT7 := Lib.hid (hT6.out.below b7 z6)
    clear b7
    go_wp2_with fail
    refine (g3.out W7 w2.heap.size hT7.out).mono ?_
    rintro e W8 ⟨rfl, b8⟩
    have z8 := Nat.lt_of_lt_of_le z7 b8.size
    have y8 := Lib.hid (y7.out.trans (b8.mono y7.out.size))
    have hT8 := Lib.hid (hT7.out.below b8 z7)
    clear b8
    go_wp2_with fail
    refine (g1.out W8 w2.heap.size hT8.out).mono ?_
    rintro e W9 ⟨rfl, b9⟩
    have z9 := Nat.lt_of_lt_of_le z8 b9.size
    have y9 := Lib.hid (y8.out.trans (b9.mono y8.out.size))
    have hT9 := Lib.hid (hT8.out.below b9 z8)
    clear b9
    go_wp2_with fail
    refine (awake18_any W9).mono ?_
    rintro e W10 ⟨rfl, b10⟩
    have y10 := Lib.hid (y9.out.trans (b10.mono y9.out.size))
    clear b10
    go_wp2_with fail
    go_ret
    refine ⟨?_, y10.out⟩
    first | rfl | (show Ending.returned (.bool (!decide (y < x))) = _; rw [decide_eq_false (by omega)]; rfl) | (show Ending.returned (.bool (!decide (x < y))) = _; rw [decide_eq_false (by omega)]; rfl)
  · skip
    refine (g4.out W3 w2.heap.size hT3.out).mono ?_
    rintro e W4 ⟨rfl, b4⟩
    have z4 := Nat.lt_of_lt_of_le hz b4.size
    have y4 := Lib.hid (y3.out.trans (b4.mono y3.out.size))
    have hT4 := Lib.hid (hT3.out.below b4 hz)
    clear b4
    go_wp2_with fail
    refine (g0.out W4 w2.heap.size hT4.out).mono ?_
    rintro e W5 ⟨rfl, b5⟩
    have z5 := Nat.lt_of_lt_of_le z4 b5.size
    have y5 := Lib.hid (y4.out.trans (b5.mono y4.out.size))
    have hT5 := Lib.hid (hT4.out.below b5 z4)
    clear b5
    go_wp2_with fail
    refine (g2.out W5 w2.heap.size hT5.out).mono ?_
    rintro e W6 ⟨rfl, b6⟩
    have z6 := Nat.lt_of_lt_of_le z5 b6.size
    have y6 := Lib.hid (y5.out.trans (b6.mono y5.out.size))
    have hT6 := Lib.hid (hT5.out.below b6 z5)
    clear b6
    go_wp2_with fail
    refine (g5.out W6 w2.heap.size hT6.out).mono ?_
    rintro e W7 ⟨rfl, b7⟩
    have z7 := Nat.lt_of_lt_of_le z6 b7.size
    have y7 := Lib.hid (y6.out.trans (b7.mono y6.out.size))
    have hT7 := Lib.hid (hT6.out.below b7 z6)
    clear b7
    go_wp2_with fail
    refine (g3.out W7 w2.heap.size hT7.out).mono ?_
    rintro e W8 ⟨rfl, b8⟩
    have z8 := Nat.lt_of_lt_of_le z7 b8.size
    have y8 := Lib.hid (y7.out.trans (b8.mono y7.out.size))
    have hT8 := Lib.hid (hT7.out.below b8 z7)
    clear b8
    go_wp2_with fail
    refine (g1.out W8 w2.heap.size hT8.out).mono ?_
    rintro e W9 ⟨rfl, b9⟩
    have z9 := Nat.lt_of_lt_of_le z8 b9.size
    have y9 := Lib.hid (y8.out.trans (b9.mono y8.out.size))
    have hT9 := Lib.hid (hT8.out.below b9 z8)
    clear b9
    go_wp2_with fail
    refine (awake18_any W9).mono ?_
    rintro e W10 ⟨rfl, b10⟩
    have y10 := Lib.hid (y9.out.trans (b10.mono y9.out.size))
    clear b10
    go_wp2_with fail
    go_ret
    refine ⟨?_, y10.out⟩
    first | rfl | (show Ending.returned (.bool (!decide (y < x))) = _; rw [decide_eq_false (by omega)]; rfl) | (show Ending.returned (.bool (!decide (x < y))) = _; rw [decide_eq_false (by omega)]; rfl)
  · skip
    refine (g4.out W3 w2.heap.size hT3.out).mono ?_
    rintro e W4 ⟨rfl, b4⟩
    have z4 := Nat.lt_of_lt_of_le hz b4.size
    have y4 := Lib.hid (y3.out.trans (b4.mono y3.out.size))
    have hT4 := Lib.hid (hT3.out.below b4 hz)
    clear b4
    go_wp2_with fail
    refine (g0.out W4 w2.heap.size hT4.out).mono ?_
    rintro e W5 ⟨rfl, b5⟩
    have z5 := Nat.lt_of_lt_of_le z4 b5.size
    have y5 := Lib.hid (y4.out.trans (b5.mono y4.out.size))
    have hT5 := Lib.hid (hT4.out.below b5 z4)
    clear b5
    go_wp2_with fail
    refine (g2.out W5 w2.heap.size hT5.out).mono ?_
    rintro e W6 ⟨rfl, b6⟩
    have z6 := Nat.lt_of_lt_of_le z5 b6.size
    have y6 := Lib.hid (y5.out.trans (b6.mono y5.out.size))
    have hT6 := Lib.hid (hT5.out.below b6 z5)
    clear b6
    go_wp2_with fail
    refine (g5.out W6 w2.heap.size hT6.out).mono ?_
    rintro e W7 ⟨rfl, b7⟩
    have z7 := Nat.lt_of_lt_of_le z6 b7.size
    have y7 := Lib.hid (y6.out.trans (b7.mono y6.out.size))
    have hT7 := Lib.hid (hT6.out.below b7 z6)
    clear b7
    go_wp2_with fail
    refine (g3.out W7 w2.heap.size hT7.out).mono ?_
    rintro e W8 ⟨rfl, b8⟩
    have z8 := Nat.lt_of_lt_of_le z7 b8.size
    have y8 := Lib.hid (y7.out.trans (b8.mono y7.out.size))
    have hT8 := Lib.hid (hT7.out.below b8 z7)
    clear b8
    go_wp2_with fail
    refine (g1.out W8 w2.heap.size hT8.out).mono ?_
    rintro e W9 ⟨rfl, b9⟩
    have z9 := Nat.lt_of_lt_of_le z8 b9.size
    have y9 := Lib.hid (y8.out.trans (b9.mono y8.out.size))
    have hT9 := Lib.hid (hT8.out.below b9 z8)
    clear b9
    go_wp2_with fail
    refine (awake18_any W9).mono ?_
    rintro e W10 ⟨rfl, b10⟩
    have y10 := Lib.hid (y9.out.trans (b10.mono y9.out.size))
    clear b10
    go_wp2_with fail
    go_ret
    refine ⟨?_, y10.out⟩
    first | rfl | (show Ending.returned (.bool (!decide (y < x))) = _; rw [decide_eq_false (by omega)]; rfl) | (show Ending.returned (.bool (!decide (x < y))) = _; rw [decide_eq_false (by omega)]; rfl)
theorem order_any (x y : Int) (hx1 : -9223372036854775808 ≤ x) (hx2 : x ≤ 9223372036854775807) (hy1 : -9223372036854775808 ≤ y) (hy2 : y ≤ 9223372036854775807) (w : World) :
    Calls Tryd.prog 4 #[.int .i64 x, .int .i64 y] w fun e w' => e = .returned (.bool true) ∧ Below w.heap.size w w' := by
  have lX := txt10_len x hx1 hx2
  have lY := txt10_len y hy1 hy2
  have sX : (⟨(txt10 x).toArray⟩ : ByteArray).size ≤ 1024 := by show (txt10 x).toArray.size ≤ _; simp; omega
  have sY : (⟨(txt10 y).toArray⟩ : ByteArray).size ≤ 1024 := by show (txt10 y).toArray.size ≤ _; simp; omega
  have nX : ∀ W, Calls Tryd.prog 37 #[.string ⟨(txt10 x).toArray⟩] W fun e w' => e = .returned (numV (some x)) ∧ Below W.heap.size W w' := fun W => by
    have h := number_any ⟨(txt10 x).toArray⟩ (by omega) W
    rwa [show (⟨(txt10 x).toArray⟩ : ByteArray).data.toList = txt10 x from rfl, number_txt10 x hx1 hx2] at h
  have nY : ∀ W, Calls Tryd.prog 37 #[.string ⟨(txt10 y).toArray⟩] W fun e w' => e = .returned (numV (some y)) ∧ Below W.heap.size W w' := fun W => by
    have h := number_any ⟨(txt10 y).toArray⟩ (by omega) W
    rwa [show (⟨(txt10 y).toArray⟩ : ByteArray).data.toList = txt10 y from rfl, number_txt10 y hy1 hy2] at h
  refine order_of x y ⟨(txt10 x).toArray⟩ ⟨(txt10 y).toArray⟩ w (cmpN 0 x y) (cmpN 1 x y) (cmpN 2 x y) (cmpN 3 x y) (cmpN 4 x y) (cmpN 5 x y) (fun W => Text10_any x hx1 hx2 W) (fun W => Text10_any y hy1 hy2 W)
    (fun W B h => orderF_any _ _ _ _ B (B + 1) W (by decide) sX sY (row_cell h.1 rfl) (row_cell h.2 rfl) (fun W => binary_eq _ _ (some x) (some y) W nX nY))
    (fun W B h => orderF_any _ _ _ _ B (B + 1) W (by decide) sX sY (row_cell h.1 rfl) (row_cell h.2 rfl) (fun W => binary_ne _ _ (some x) (some y) W nX nY))
    (fun W B h => orderF_any _ _ _ _ B (B + 1) W (by decide) sX sY (row_cell h.1 rfl) (row_cell h.2 rfl) (fun W => binary_gt _ _ (some x) (some y) W nX nY))
    (fun W B h => orderF_any _ _ _ _ B (B + 1) W (by decide) sX sY (row_cell h.1 rfl) (row_cell h.2 rfl) (fun W => binary_ge _ _ (some x) (some y) W nX nY))
    (fun W B h => orderF_any _ _ _ _ B (B + 1) W (by decide) sX sY (row_cell h.1 rfl) (row_cell h.2 rfl) (fun W => binary_lt _ _ (some x) (some y) W nX nY))
    (fun W B h => orderF_any _ _ _ _ B (B + 1) W (by decide) sX sY (row_cell h.1 rfl) (row_cell h.2 rfl) (fun W => binary_le _ _ (some x) (some y) W nX nY)) ?_
  simp only [cmpN]
  rcases Int.lt_trichotomy x y with h | h | h
  · exact .inl ⟨h, by omega, by omega, by simp; omega, by simp; omega, by simp; omega, by simp; omega, by simp; omega, by simp; omega, by simp; omega⟩
  · exact .inr (.inl ⟨by omega, h, by omega, by simp [h], by simp [h], by simp [h], by simp [h], by simp [h], by simp [h], by simp [h]⟩)
  · exact .inr (.inr ⟨by omega, by omega, h, by simp; omega, by simp; omega, by simp; omega, by simp; omega, by simp; omega, by simp; omega, by simp; omega⟩)
end Go.Proofs.YtfnaooplpofgiaaDoor
