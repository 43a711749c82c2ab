/- The walk over the law of the ASCII classes: it returns true and leaves the memory below as it was. -/
import Derived.Test.YteeopjgfiojoiaaSetE
import Derived.Test.YteeopjgfiojoiaaSetL
import Derived.Test.YteeopjgfiojoiaaSetC0
import Derived.Test.YteeopjgfiojoiaaSetC5
import Derived.Laws.StructEq
namespace Go.Proofs.Yteeopjgfiojoiaa
open Go Go.RowKit SN

set_option maxHeartbeats 1000000 in
theorem get_any (s : ByteArray) (w : World) :
    Calls Try.prog 4 #[.string s] w fun e w' => e = .returned (sv ((cls s.data.toList).getD 0)) ∧ Below w.heap.size w w' := by
  go_enter Try.func4, Try.ntmps4
  go_wp2_with (first | (refine store_set rfl rfl _ _ rfl _ _ rfl rfl ?_ ?_; (focus (apply Exists.intro; (repeat' (first | (with_reducible assumption) | (with_reducible apply IsSet.zero'; first | (with_reducible rfl) | (simp only [World.size_alloc]; done)) | (with_reducible apply IsSet.new'; first | (with_reducible rfl) | (simp only [World.size_alloc]; done)) | (with_reducible apply IsSet.sv; first | (with_reducible rfl) | (simp only [World.size_alloc]; done)) | (with_reducible apply IsSet.viaG; with_reducible assumption) | (with_reducible apply IsSet.viaB; with_reducible assumption) | (with_reducible apply IsSet.drew) | (with_reducible apply IsSet.store4) | (with_reducible apply IsSet.set_other) | (with_reducible apply IsSet.alloc) | (simp only [World.size_alloc]; omega) | omega | (simp; omega) | (simp; done))); done)); intro wX hX gX zX; (try simp only [World.size_alloc] at zX)) | (refine load_set rfl _ rfl _ rfl ?_; apply Exists.intro; apply And.intro; focus ((repeat' (first | (with_reducible assumption) | (with_reducible apply IsSet.zero'; first | (with_reducible rfl) | (simp only [World.size_alloc]; done)) | (with_reducible apply IsSet.new'; first | (with_reducible rfl) | (simp only [World.size_alloc]; done)) | (with_reducible apply IsSet.sv; first | (with_reducible rfl) | (simp only [World.size_alloc]; done)) | (with_reducible apply IsSet.viaG; with_reducible assumption) | (with_reducible apply IsSet.viaB; with_reducible assumption) | (with_reducible apply IsSet.drew) | (with_reducible apply IsSet.store4) | (with_reducible apply IsSet.set_other) | (with_reducible apply IsSet.alloc) | (simp only [World.size_alloc]; omega) | omega | (simp; omega) | (simp; done))); done)) | (go_at_call 5; refine (Class_any _ _).mono ?_; rintro e wX ⟨rfl, bX⟩; have zX := bX.size; (try simp only [World.size_alloc] at zX)))
  exact ret_set rfl rfl rfl (by (repeat' (first | (with_reducible assumption) | (with_reducible apply IsSet.zero'; first | (with_reducible rfl) | (simp only [World.size_alloc]; done)) | (with_reducible apply IsSet.new'; first | (with_reducible rfl) | (simp only [World.size_alloc]; done)) | (with_reducible apply IsSet.sv; first | (with_reducible rfl) | (simp only [World.size_alloc]; done)) | (with_reducible apply IsSet.viaG; with_reducible assumption) | (with_reducible apply IsSet.viaB; with_reducible assumption) | (with_reducible apply IsSet.drew) | (with_reducible apply IsSet.store4) | (with_reducible apply IsSet.set_other) | (with_reducible apply IsSet.alloc) | (simp only [World.size_alloc]; omega) | omega | (simp; omega) | (simp; done)))) ⟨rfl, by (repeat' (first | (with_reducible assumption) | (with_reducible exact Below.refl _ _) | (with_reducible apply Below.viaG1; with_reducible assumption) | (with_reducible apply Below.viaB; with_reducible assumption) | (with_reducible apply Below.alloc) | (with_reducible apply Below.drew) | (with_reducible apply Below.setCell) | (dsimp only; omega) | omega | (simp only [World.size_alloc]; omega) | (simp; omega) | (simp; done)))⟩
theorem get_lit (s : ByteArray) (v : Nat) (h : cls s.data.toList = some v) (w : World) :
    Calls Try.prog 4 #[.string s] w fun e w' => e = .returned (sv v) ∧ Below w.heap.size w w' := by
  have h1 := get_any s w
  rw [h] at h1
  exact h1
theorem eqs1 (w : World) : (binOp .eql 24 (sv (unionL [rng 65 90, rng 97 122])) (sv (rng 97 122 ||| rng 65 90))).run Try.prog w = .ok (.bool true) w := by
  rw [run_eql_set _ _ (by unfold Ok; decide +kernel) (by unfold Ok; decide +kernel) w, show decide ((unionL [rng 65 90, rng 97 122]) = (rng 97 122 ||| rng 65 90)) = true from by decide +kernel]
theorem eqs2 (w : World) : (binOp .eql 24 (sv (unionL [rng 97 122 ||| rng 65 90, rng 48 57])) (sv (rng 97 122 ||| rng 65 90 ||| rng 48 57))).run Try.prog w = .ok (.bool true) w := by
  rw [run_eql_set _ _ (by unfold Ok; decide +kernel) (by unfold Ok; decide +kernel) w, show decide ((unionL [rng 97 122 ||| rng 65 90, rng 48 57]) = (rng 97 122 ||| rng 65 90 ||| rng 48 57)) = true from by decide +kernel]
theorem eqs3 (w : World) : (binOp .eql 24 (sv (unionL [rng 97 122 ||| rng 65 90 ||| rng 48 57, cmpl (cmpl (rng 33 126) ||| (rng 97 122 ||| rng 65 90 ||| rng 48 57))])) (sv (rng 33 126))).run Try.prog w = .ok (.bool true) w := by
  rw [run_eql_set _ _ (by unfold Ok; decide +kernel) (by unfold Ok; decide +kernel) w, show decide ((unionL [rng 97 122 ||| rng 65 90 ||| rng 48 57, cmpl (cmpl (rng 33 126) ||| (rng 97 122 ||| rng 65 90 ||| rng 48 57))]) = (rng 33 126)) = true from by decide +kernel]
theorem all_val : unionL [rng 97 122 ||| rng 65 90 ||| rng 48 57, cmpl (cmpl (rng 33 126) ||| (rng 97 122 ||| rng 65 90 ||| rng 48 57)), rng 9 13 ||| rng 32 32, rng 0 31 ||| rng 127 127] = 340282366920938463463374607431768211455 := by decide +kernel
theorem all_bit (b : Nat) (h1 : 128 ≤ b) : (unionL [rng 97 122 ||| rng 65 90 ||| rng 48 57, cmpl (cmpl (rng 33 126) ||| (rng 97 122 ||| rng 65 90 ||| rng 48 57)), rng 9 13 ||| rng 32 32, rng 0 31 ||| rng 127 127]).testBit b = false := by
  rw [all_val, show (340282366920938463463374607431768211455 : Nat) = 2 ^ 128 - 1 by decide, Nat.testBit_two_pow_sub_one]
  simp; omega
theorem all_cnt : cnt (unionL [rng 97 122 ||| rng 65 90 ||| rng 48 57, cmpl (cmpl (rng 33 126) ||| (rng 97 122 ||| rng 65 90 ||| rng 48 57)), rng 9 13 ||| rng 32 32, rng 0 31 ||| rng 127 127]) = 128 := by decide +kernel
theorem graph_cnt : cnt (rng 33 126) = 94 := by decide +kernel
theorem xdigit_cnt : cnt (rng 48 57 ||| (rng 97 102 ||| rng 65 70)) = 22 := by decide +kernel
theorem eqGuard_set (op : BinOp) (x y : Operand) (A B : Nat) (w : World) : (eqGuard op 24 x y (sv A) (sv B)).run Try.prog w = .ok () w := run_eqGuard_agg w op _ x y _ _ (by kernel_rfl)
section
variable {ops : Array Oper} {Q : Exit → Act → World → Prop} {a : Act} {w : World} {rest : List Oper} {o : Oper}
theorem wpList_wanted (hw : Region.wanted o (yielded ops a.tmps) = true)
    (h : ∀ K : Act → World → Prop, (∀ a w, wpList Try.prog ops Q rest a w → K a w) → o.wp Try.prog a w K Q) : wpList Try.prog ops Q (o :: rest) a w :=
  wpList_step fun K hK => by rw [if_pos hw]; exact h K hK
theorem eq_setsg (hw : Region.wanted o (yielded ops a.tmps) = true) (x y : Operand) (ho : o.op = .binOp .eql 24 x y 24) (A B : Nat) (hx : a.eval x = sv A) (hy : a.eval y = sv B) (h : ∀ w, (binOp .eql 24 (sv A) (sv B)).run Try.prog w = .ok (.bool true) w)
    (hk : wpList Try.prog ops Q rest (a.put o.dst (.bool true)) w) : wpList Try.prog ops Q (o :: rest) a w :=
  wpList_wanted hw fun K hK => by
    unfold Oper.wp execOp
    simp only [ho, hx, hy, Sem.run_bind, eqGuard_set, h, Result.andThen_ok]
    exact hK _ _ hk
theorem build_sets2g (hw : Region.wanted o (yielded ops a.tmps) = true) (x y : Operand) (ho : o.op = .buildSlice 34 2 #[(0, x), (1, y)]) (A B : Nat) (hx : a.eval x = sv A) (hy : a.eval y = sv B)
    (hk : wpList Try.prog ops Q rest (a.put o.dst (.slice (some ⟨w.heap.size, 0, none⟩) 2 2)) (w.alloc (.cells (scs2 A B) 24))) : wpList Try.prog ops Q (o :: rest) a w :=
  wpList_wanted hw fun K hK => by
    unfold Oper.wp execOp
    simp only [ho, List.map_toArray, List.map_cons, List.map_nil, hx, hy, Sem.run_bind, run_build2, Result.andThen_ok]
    exact hK _ _ hk
theorem load_setg (hw : Region.wanted o (yielded ops a.tmps) = true) (x : Operand) (ho : o.op = .load 24 x) (B : Nat) (hx : a.eval x = .pointer (some ⟨B, 0, none⟩)) 
    (h : ∃ S, IsSet 24 w B S ∧ wpList Try.prog ops Q rest (a.put o.dst (sv S)) w) : wpList Try.prog ops Q (o :: rest) a w := by
  obtain ⟨S, h, hk⟩ := h
  exact wpList_wanted hw fun K hK => wp_load_row 24 x ho B hx 24 (sc S) (0, 0) _ h Try.underlying24 (by rfl) (by rw [size24]; rfl) (hK _ _ hk)
end
set_option maxHeartbeats 4000000 in
set_option maxRecDepth 100000 in
theorem ascii (w : World) : Calls Try.prog 3 #[] w fun e w' => e = .returned (.bool true) ∧ Below w.heap.size w w' := by
  go_enter Try.func3, Try.ntmps3
  go_wp2_with (first | first | (refine build_sets2 rfl _ _ rfl _ _ rfl rfl ?_) | (refine build_sets3 rfl _ _ _ rfl _ _ _ rfl rfl rfl ?_) | (refine build_sets4 rfl _ _ _ _ rfl _ _ _ _ rfl rfl rfl rfl ?_) | (go_at_call 4; refine (get_lit _ _ rfl _).mono ?_; rintro e wX ⟨rfl, bX⟩; have zX := bX.size; (try simp only [World.size_alloc] at zX)))
  refine (union4 _ _ _ _ _ _ (by simp)).mono ?_
  rintro e w5 ⟨rfl, b5⟩
  have z5 := b5.size
  (try simp only [World.size_alloc] at z5)
  go_wp2_with (first | (refine store_set rfl rfl _ _ rfl _ _ rfl rfl ?_ ?_; (focus (apply Exists.intro; (repeat' (first | (with_reducible assumption) | (with_reducible apply IsSet.zero'; first | (with_reducible rfl) | (simp only [World.size_alloc]; done)) | (with_reducible apply IsSet.new'; first | (with_reducible rfl) | (simp only [World.size_alloc]; done)) | (with_reducible apply IsSet.sv; first | (with_reducible rfl) | (simp only [World.size_alloc]; done)) | (with_reducible apply IsSet.viaG; with_reducible assumption) | (with_reducible apply IsSet.viaB; with_reducible assumption) | (with_reducible apply IsSet.drew) | (with_reducible apply IsSet.store4) | (with_reducible apply IsSet.set_other) | (with_reducible apply IsSet.alloc) | (simp only [World.size_alloc]; omega) | omega | (simp; omega) | (simp; done))); done)); intro wX hX gX zX; (try simp only [World.size_alloc] at zX)))
  have hb0 : Below w.heap.size w wX := by (repeat' (first | (with_reducible assumption) | (with_reducible exact Below.refl _ _) | (with_reducible apply Below.viaG1; with_reducible assumption) | (with_reducible apply Below.viaB; with_reducible assumption) | (with_reducible apply Below.alloc) | (with_reducible apply Below.drew) | (with_reducible apply Below.setCell) | (dsimp only; omega) | omega | (simp only [World.size_alloc]; omega) | (simp; omega) | (simp; done)))
  go_loopw [3] (fun i wr => ∃ k : Nat, 128 ≤ k ∧ k ≤ 256 ∧ i = .int .i64 k ∧ IsSet 24 wr w5.heap.size (unionL [rng 97 122 ||| rng 65 90 ||| rng 48 57, cmpl (cmpl (rng 33 126) ||| (rng 97 122 ||| rng 65 90 ||| rng 48 57)), rng 9 13 ||| rng 32 32, rng 0 31 ||| rng 127 127]) ∧ Below w.heap.size w wr) (fun i _ => 256 - (intOf i).toNat)
  case atStart => exact ⟨128, by decide, by decide, rfl, hX, hb0⟩
  case round =>
    obtain ⟨k, hk0, hk1, rfl, hS, hb⟩ := hrel
    have hl := hS.lt
    have hz := hb.size
    by_cases hlt : k < 256
    · have hbit := all_bit k hk0
      go_wp2_with (first | (refine load_set rfl _ rfl _ rfl ?_; apply Exists.intro; apply And.intro; focus ((repeat' (first | (with_reducible assumption) | (with_reducible apply IsSet.zero'; first | (with_reducible rfl) | (simp only [World.size_alloc]; done)) | (with_reducible apply IsSet.new'; first | (with_reducible rfl) | (simp only [World.size_alloc]; done)) | (with_reducible apply IsSet.sv; first | (with_reducible rfl) | (simp only [World.size_alloc]; done)) | (with_reducible apply IsSet.viaG; with_reducible assumption) | (with_reducible apply IsSet.viaB; with_reducible assumption) | (with_reducible apply IsSet.drew) | (with_reducible apply IsSet.store4) | (with_reducible apply IsSet.set_other) | (with_reducible apply IsSet.alloc) | (simp only [World.size_alloc]; omega) | omega | (simp; omega) | (simp; done))); done)) | (go_at_call 7; refine (Has_any _ _ hlt _).mono ?_; rw [hbit]; rintro e wX ⟨rfl, bX⟩; have zX := bX.size; (try simp only [World.size_alloc] at zX)))
      go_roundw
      case rel => exact ⟨k + 1, by omega, by omega, by go_num, by (repeat' (first | (with_reducible assumption) | (with_reducible apply IsSet.zero'; first | (with_reducible rfl) | (simp only [World.size_alloc]; done)) | (with_reducible apply IsSet.new'; first | (with_reducible rfl) | (simp only [World.size_alloc]; done)) | (with_reducible apply IsSet.sv; first | (with_reducible rfl) | (simp only [World.size_alloc]; done)) | (with_reducible apply IsSet.viaG; with_reducible assumption) | (with_reducible apply IsSet.viaB; with_reducible assumption) | (with_reducible apply IsSet.drew) | (with_reducible apply IsSet.store4) | (with_reducible apply IsSet.set_other) | (with_reducible apply IsSet.alloc) | (simp only [World.size_alloc]; omega) | omega | (simp; omega) | (simp; done))), by (repeat' (first | (with_reducible assumption) | (with_reducible exact Below.refl _ _) | (with_reducible apply Below.viaG1; with_reducible assumption) | (with_reducible apply Below.viaB; with_reducible assumption) | (with_reducible apply Below.alloc) | (with_reducible apply Below.drew) | (with_reducible apply Below.setCell) | (dsimp only; omega) | omega | (simp only [World.size_alloc]; omega) | (simp; omega) | (simp; done)))⟩
      case measure => simp [intOf]; omega
    · have : k = 256 := by omega
      subst this
      have c1 := all_cnt
      have c2 := graph_cnt
      have c3 := xdigit_cnt
      go_wp2_with (first | (refine load_set rfl _ rfl _ rfl ?_; apply Exists.intro; apply And.intro; focus ((repeat' (first | (with_reducible assumption) | (with_reducible apply IsSet.zero'; first | (with_reducible rfl) | (simp only [World.size_alloc]; done)) | (with_reducible apply IsSet.new'; first | (with_reducible rfl) | (simp only [World.size_alloc]; done)) | (with_reducible apply IsSet.sv; first | (with_reducible rfl) | (simp only [World.size_alloc]; done)) | (with_reducible apply IsSet.viaG; with_reducible assumption) | (with_reducible apply IsSet.viaB; with_reducible assumption) | (with_reducible apply IsSet.drew) | (with_reducible apply IsSet.store4) | (with_reducible apply IsSet.set_other) | (with_reducible apply IsSet.alloc) | (simp only [World.size_alloc]; omega) | omega | (simp; omega) | (simp; done))); done)) | first | (refine build_sets2 rfl _ _ rfl _ _ rfl rfl ?_) | (refine build_sets3 rfl _ _ _ rfl _ _ _ rfl rfl rfl ?_) | (refine build_sets4 rfl _ _ _ _ rfl _ _ _ _ rfl rfl rfl rfl ?_) | (go_at_call 4; refine (get_lit _ _ rfl _).mono ?_; rintro e wX ⟨rfl, bX⟩; have zX := bX.size; (try simp only [World.size_alloc] at zX)) | (go_at_call 6; (first | (with_reducible refine (union2 _ _ _ _ (by simp)).mono ?_) | (with_reducible refine (union3 _ _ _ _ _ (by simp)).mono ?_) | (with_reducible refine (union4 _ _ _ _ _ _ (by simp)).mono ?_)); rintro e wX ⟨rfl, bX⟩; have zX := bX.size; (try simp only [World.size_alloc] at zX)) | (go_at_call 8; refine (Len_any _ _).mono ?_; rintro e wX ⟨rfl, bX⟩; have zX := bX.size; (try simp only [World.size_alloc] at zX)) | (refine eq_setsg rfl _ _ rfl _ _ rfl rfl (by (first | (with_reducible exact eqs1) | (with_reducible exact eqs2) | (with_reducible exact eqs3))) ?_) | (refine build_sets2g rfl _ _ rfl _ _ rfl rfl ?_) | (refine load_setg rfl _ rfl _ rfl ?_; apply Exists.intro; apply And.intro; focus ((repeat' (first | (with_reducible assumption) | (with_reducible apply IsSet.zero'; first | (with_reducible rfl) | (simp only [World.size_alloc]; done)) | (with_reducible apply IsSet.new'; first | (with_reducible rfl) | (simp only [World.size_alloc]; done)) | (with_reducible apply IsSet.sv; first | (with_reducible rfl) | (simp only [World.size_alloc]; done)) | (with_reducible apply IsSet.viaG; with_reducible assumption) | (with_reducible apply IsSet.viaB; with_reducible assumption) | (with_reducible apply IsSet.drew) | (with_reducible apply IsSet.store4) | (with_reducible apply IsSet.set_other) | (with_reducible apply IsSet.alloc) | (simp only [World.size_alloc]; omega) | omega | (simp; omega) | (simp; done))); done)))
      go_ret
      exact ⟨rfl, by (repeat' (first | (with_reducible assumption) | (with_reducible exact Below.refl _ _) | (with_reducible apply Below.viaG1; with_reducible assumption) | (with_reducible apply Below.viaB; with_reducible assumption) | (with_reducible apply Below.alloc) | (with_reducible apply Below.drew) | (with_reducible apply Below.setCell) | (dsimp only; omega) | omega | (simp only [World.size_alloc]; omega) | (simp; omega) | (simp; done)))⟩
end Go.Proofs.Yteeopjgfiojoiaa
