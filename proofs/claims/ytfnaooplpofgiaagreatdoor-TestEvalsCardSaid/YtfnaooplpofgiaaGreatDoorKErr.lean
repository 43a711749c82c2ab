/- Errors in memory: the sentinels that the package's variables hold, an error with a place and a language; fault.Of at each code, At, In. The condition 'Errs': the variables hold pointers, no two alike. -/
import Derived.Test.YtfnaooplpofgiaaGreatDoorBas
import Derived.Test.YtfnaooplpofgiaaGreatDoorChecked
import Derived.Outline
import Derived.Deep.DeepFit
import Derived.Handy
namespace Go.Proofs.YtfnaooplpofgiaaGreatDoor
open Go Go.RowKit SN

/-- The variable of a code. -/
def gOf : Nat → Nat
  | 1 => 1
  | 2 => 2
  | 3 => 3
  | 4 => 4
  | 5 => 5
  | 6 => 6
  | 7 => 7
  | 8 => 8
  | 9 => 9
  | 10 => 10
  | 11 => 11
  | 12 => 12
  | 13 => 13
  | 14 => 14
  | 15 => 15
  | 16 => 16
  | 17 => 17
  | 18 => 18
  | 19 => 19
  | 20 => 20
  | 21 => 21
  | _ => 0
/-- The variables of the codes hold pointers; no two of them alike; all lie below N. -/
structure Errs (N : Nat) (E : Nat → Addr) (w : World) : Prop where
  cell : ∀ c, 1 ≤ c → c ≤ 21 → w.cell? ⟨gOf c, 0, none⟩ = some (.iface 184 (.pointer (some (E c))))
  blk : ∀ c, 1 ≤ c → c ≤ 21 → ∃ cs t, w.heap[(E c).block]? = some (.cells cs t (0, 0))
  gl : ∀ c, 1 ≤ c → c ≤ 21 → gOf c < N
  el : ∀ c, 1 ≤ c → c ≤ 21 → (E c).block < N
  inj : ∀ c d, 1 ≤ c → c ≤ 21 → 1 ≤ d → d ≤ 21 → E c = E d → c = d
theorem Errs.keep {N : Nat} {E : Nat → Addr} {w w' : World} (h : Errs N E w) (hb : ∀ k, k < N → w'.heap[k]? = w.heap[k]?) : Errs N E w' :=
  ⟨fun c h1 h2 => by rw [World.cell?_of_block (w := w) (by exact hb _ (h.gl c h1 h2))]; exact h.cell c h1 h2,
   fun c h1 h2 => by rw [hb _ (h.el c h1 h2)]; exact h.blk c h1 h2, h.gl, h.el, h.inj⟩
theorem Errs.below {N M : Nat} {E : Nat → Addr} {w w' : World} (h : Errs N E w) (hb : Below M w w') (hN : N ≤ M) : Errs N E w' := h.keep fun k hk => hb.block k (by omega)
theorem Errs.drewN {N : Nat} {E : Nat → Addr} {w : World} (h : Errs N E w) (n : Nat) : Errs N E (w.drewN n) := h.keep fun _ _ => rfl
theorem Errs.alloc {N : Nat} {E : Nat → Addr} {w : World} (h : Errs N E w) (x : Obj) (hN : N ≤ w.heap.size) : Errs N E (w.alloc x) := h.keep fun k hk => Below.heap_alloc _ _ _ (by omega)
theorem Errs.set_ {N : Nat} {E : Nat → Addr} {w : World} {B i : Nat} {v : Value} (h : Errs N E w) (hN : N ≤ B) : Errs N E (w.setCell ⟨B, i, none⟩ v) := h.keep fun k hk => Below.heap_setCell _ _ _ _ (by show k ≠ B; omega)
theorem Errs.grown {N B : Nat} {E : Nat → Addr} {w w' : World} (h : Errs N E w) (hg : w.grownBy w' (some B)) (hN : N ≤ w.heap.size) (hB : N ≤ B) : Errs N E w' :=
  h.keep fun k hk => hg.block k (by omega) (fun e => by injection e; omega)
/-- An error of a code, a place, a language. -/
def IsErr (w : World) (E : Nat → Addr) (v : Value) (code : Nat) (pos lang : Int) : Prop :=
  ∃ S P, v = .iface 53 (.pointer (some ⟨S, 0, none⟩)) ∧ w.heap[S]? = some (.cells #[.iface 48 (.pointer (some ⟨P, 0, none⟩)), .int .i64 lang] 56 (0, 0)) ∧
    w.heap[P]? = some (.cells #[.iface 184 (.pointer (some (E code))), .int .i64 pos] 52 (0, 0))
theorem IsErr.lt {w : World} {E : Nat → Addr} {v : Value} {code : Nat} {pos lang : Int} (h : IsErr w E v code pos lang) :
    ∃ S P, v = .iface 53 (.pointer (some ⟨S, 0, none⟩)) ∧ S < w.heap.size ∧ P < w.heap.size := by
  obtain ⟨S, P, e, h1, h2⟩ := h
  exact ⟨S, P, e, row_lt h1, row_lt h2⟩
theorem IsErr.below {w w' : World} {E : Nat → Addr} {v : Value} {code : Nat} {pos lang : Int} {M : Nat} (h : IsErr w E v code pos lang) (hb : Below M w w') (hM : w.heap.size ≤ M) : IsErr w' E v code pos lang := by
  obtain ⟨S, P, e, h1, h2⟩ := h
  exact ⟨S, P, e, row_below h1 hb (Nat.lt_of_lt_of_le (row_lt h1) hM), row_below h2 hb (Nat.lt_of_lt_of_le (row_lt h2) hM)⟩
theorem IsErr.drewN {w : World} {E : Nat → Addr} {v : Value} {code : Nat} {pos lang : Int} (h : IsErr w E v code pos lang) (n : Nat) : IsErr (w.drewN n) E v code pos lang := h
theorem IsErr.alloc {w : World} {E : Nat → Addr} {v : Value} {code : Nat} {pos lang : Int} (h : IsErr w E v code pos lang) (x : Obj) : IsErr (w.alloc x) E v code pos lang := by
  obtain ⟨S, P, e, h1, h2⟩ := h
  exact ⟨S, P, e, row_alloc h1 x, row_alloc h2 x⟩
theorem IsErr.keepT {w w' : World} {E : Nat → Addr} {v : Value} {code : Nat} {pos lang : Int} {B : Nat} {cs : Array Value} {ty : TypeId} (h : IsErr w E v code pos lang) (hB : w.heap[B]? = some (.cells cs ty (0, 0))) (hp : ty ≠ 56) (hs : ty ≠ 52)
    (hk : ∀ k, k < w.heap.size → k ≠ B → w'.heap[k]? = w.heap[k]?) : IsErr w' E v code pos lang := by
  obtain ⟨S, P, e, h1, h2⟩ := h
  refine ⟨S, P, e, (hk S (row_lt h1) ?_).trans h1, (hk P (row_lt h2) ?_).trans h2⟩
  · rintro rfl
    rw [h1] at hB; injection hB with hB; injection hB with _ e2; exact hp e2.symm
  · rintro rfl
    rw [h2] at hB; injection hB with hB; injection hB with _ e2; exact hs e2.symm

theorem more_11 (v : Value) (w : World) (h : w.cell? ⟨11, 0, none⟩ = some v) : Calls Tryz.prog 53 #[.int .i64 11] w fun e w' => e = .returned v ∧ w = w' := by
  go_enter Tryz.func53, Tryz.ntmps53
  go_wp2
  go_ret
  exact ⟨rfl, rfl⟩

theorem more_12 (v : Value) (w : World) (h : w.cell? ⟨12, 0, none⟩ = some v) : Calls Tryz.prog 53 #[.int .i64 12] w fun e w' => e = .returned v ∧ w = w' := by
  go_enter Tryz.func53, Tryz.ntmps53
  go_wp2
  go_ret
  exact ⟨rfl, rfl⟩

theorem more_13 (v : Value) (w : World) (h : w.cell? ⟨13, 0, none⟩ = some v) : Calls Tryz.prog 53 #[.int .i64 13] w fun e w' => e = .returned v ∧ w = w' := by
  go_enter Tryz.func53, Tryz.ntmps53
  go_wp2
  go_ret
  exact ⟨rfl, rfl⟩

theorem more_14 (v : Value) (w : World) (h : w.cell? ⟨14, 0, none⟩ = some v) : Calls Tryz.prog 53 #[.int .i64 14] w fun e w' => e = .returned v ∧ w = w' := by
  go_enter Tryz.func53, Tryz.ntmps53
  go_wp2
  go_ret
  exact ⟨rfl, rfl⟩

theorem more_15 (v : Value) (w : World) (h : w.cell? ⟨15, 0, none⟩ = some v) : Calls Tryz.prog 53 #[.int .i64 15] w fun e w' => e = .returned v ∧ w = w' := by
  go_enter Tryz.func53, Tryz.ntmps53
  go_wp2
  go_ret
  exact ⟨rfl, rfl⟩

theorem more_16 (v : Value) (w : World) (h : w.cell? ⟨16, 0, none⟩ = some v) : Calls Tryz.prog 53 #[.int .i64 16] w fun e w' => e = .returned v ∧ w = w' := by
  go_enter Tryz.func53, Tryz.ntmps53
  go_wp2
  go_ret
  exact ⟨rfl, rfl⟩

theorem more_17 (v : Value) (w : World) (h : w.cell? ⟨17, 0, none⟩ = some v) : Calls Tryz.prog 53 #[.int .i64 17] w fun e w' => e = .returned v ∧ w = w' := by
  go_enter Tryz.func53, Tryz.ntmps53
  go_wp2
  go_ret
  exact ⟨rfl, rfl⟩

theorem more_18 (v : Value) (w : World) (h : w.cell? ⟨18, 0, none⟩ = some v) : Calls Tryz.prog 53 #[.int .i64 18] w fun e w' => e = .returned v ∧ w = w' := by
  go_enter Tryz.func53, Tryz.ntmps53
  go_wp2
  go_ret
  exact ⟨rfl, rfl⟩

theorem more_19 (v : Value) (w : World) (h : w.cell? ⟨19, 0, none⟩ = some v) : Calls Tryz.prog 53 #[.int .i64 19] w fun e w' => e = .returned v ∧ w = w' := by
  go_enter Tryz.func53, Tryz.ntmps53
  go_wp2
  go_ret
  exact ⟨rfl, rfl⟩

theorem more_20 (v : Value) (w : World) (h : w.cell? ⟨20, 0, none⟩ = some v) : Calls Tryz.prog 53 #[.int .i64 20] w fun e w' => e = .returned v ∧ w = w' := by
  go_enter Tryz.func53, Tryz.ntmps53
  go_wp2
  go_ret
  exact ⟨rfl, rfl⟩

theorem more_21 (v : Value) (w : World) (h : w.cell? ⟨21, 0, none⟩ = some v) : Calls Tryz.prog 53 #[.int .i64 21] w fun e w' => e = .returned v ∧ w = w' := by
  go_enter Tryz.func53, Tryz.ntmps53
  go_wp2
  go_ret
  exact ⟨rfl, rfl⟩

theorem of_1 (v : Value) (w : World) (h : w.cell? ⟨1, 0, none⟩ = some v) : Calls Tryz.prog 28 #[.int .i64 1] w fun e w' => e = .returned v ∧ w = w' := by
  go_enter Tryz.func28, Tryz.ntmps28
  go_wp2_with fail
  go_ret
  exact ⟨rfl, rfl⟩

theorem of_2 (v : Value) (w : World) (h : w.cell? ⟨2, 0, none⟩ = some v) : Calls Tryz.prog 28 #[.int .i64 2] w fun e w' => e = .returned v ∧ w = w' := by
  go_enter Tryz.func28, Tryz.ntmps28
  go_wp2_with fail
  go_ret
  exact ⟨rfl, rfl⟩

theorem of_3 (v : Value) (w : World) (h : w.cell? ⟨3, 0, none⟩ = some v) : Calls Tryz.prog 28 #[.int .i64 3] w fun e w' => e = .returned v ∧ w = w' := by
  go_enter Tryz.func28, Tryz.ntmps28
  go_wp2_with fail
  go_ret
  exact ⟨rfl, rfl⟩

theorem of_4 (v : Value) (w : World) (h : w.cell? ⟨4, 0, none⟩ = some v) : Calls Tryz.prog 28 #[.int .i64 4] w fun e w' => e = .returned v ∧ w = w' := by
  go_enter Tryz.func28, Tryz.ntmps28
  go_wp2_with fail
  go_ret
  exact ⟨rfl, rfl⟩

theorem of_5 (v : Value) (w : World) (h : w.cell? ⟨5, 0, none⟩ = some v) : Calls Tryz.prog 28 #[.int .i64 5] w fun e w' => e = .returned v ∧ w = w' := by
  go_enter Tryz.func28, Tryz.ntmps28
  go_wp2_with fail
  go_ret
  exact ⟨rfl, rfl⟩

theorem of_6 (v : Value) (w : World) (h : w.cell? ⟨6, 0, none⟩ = some v) : Calls Tryz.prog 28 #[.int .i64 6] w fun e w' => e = .returned v ∧ w = w' := by
  go_enter Tryz.func28, Tryz.ntmps28
  go_wp2_with fail
  go_ret
  exact ⟨rfl, rfl⟩

theorem of_7 (v : Value) (w : World) (h : w.cell? ⟨7, 0, none⟩ = some v) : Calls Tryz.prog 28 #[.int .i64 7] w fun e w' => e = .returned v ∧ w = w' := by
  go_enter Tryz.func28, Tryz.ntmps28
  go_wp2_with fail
  go_ret
  exact ⟨rfl, rfl⟩

theorem of_8 (v : Value) (w : World) (h : w.cell? ⟨8, 0, none⟩ = some v) : Calls Tryz.prog 28 #[.int .i64 8] w fun e w' => e = .returned v ∧ w = w' := by
  go_enter Tryz.func28, Tryz.ntmps28
  go_wp2_with fail
  go_ret
  exact ⟨rfl, rfl⟩

theorem of_9 (v : Value) (w : World) (h : w.cell? ⟨9, 0, none⟩ = some v) : Calls Tryz.prog 28 #[.int .i64 9] w fun e w' => e = .returned v ∧ w = w' := by
  go_enter Tryz.func28, Tryz.ntmps28
  go_wp2_with fail
  go_ret
  exact ⟨rfl, rfl⟩

theorem of_10 (v : Value) (w : World) (h : w.cell? ⟨10, 0, none⟩ = some v) : Calls Tryz.prog 28 #[.int .i64 10] w fun e w' => e = .returned v ∧ w = w' := by
  go_enter Tryz.func28, Tryz.ntmps28
  go_wp2_with fail
  go_ret
  exact ⟨rfl, rfl⟩

theorem of_11 (v : Value) (w : World) (h : w.cell? ⟨11, 0, none⟩ = some v) : Calls Tryz.prog 28 #[.int .i64 11] w fun e w' => e = .returned v ∧ w = w' := by
  go_enter Tryz.func28, Tryz.ntmps28
  go_wp2_with (go_at_call 53; refine (more_11 v _ h).mono ?_; rintro e w' ⟨rfl, rfl⟩)
  go_ret
  exact ⟨rfl, rfl⟩

theorem of_12 (v : Value) (w : World) (h : w.cell? ⟨12, 0, none⟩ = some v) : Calls Tryz.prog 28 #[.int .i64 12] w fun e w' => e = .returned v ∧ w = w' := by
  go_enter Tryz.func28, Tryz.ntmps28
  go_wp2_with (go_at_call 53; refine (more_12 v _ h).mono ?_; rintro e w' ⟨rfl, rfl⟩)
  go_ret
  exact ⟨rfl, rfl⟩

theorem of_13 (v : Value) (w : World) (h : w.cell? ⟨13, 0, none⟩ = some v) : Calls Tryz.prog 28 #[.int .i64 13] w fun e w' => e = .returned v ∧ w = w' := by
  go_enter Tryz.func28, Tryz.ntmps28
  go_wp2_with (go_at_call 53; refine (more_13 v _ h).mono ?_; rintro e w' ⟨rfl, rfl⟩)
  go_ret
  exact ⟨rfl, rfl⟩

theorem of_14 (v : Value) (w : World) (h : w.cell? ⟨14, 0, none⟩ = some v) : Calls Tryz.prog 28 #[.int .i64 14] w fun e w' => e = .returned v ∧ w = w' := by
  go_enter Tryz.func28, Tryz.ntmps28
  go_wp2_with (go_at_call 53; refine (more_14 v _ h).mono ?_; rintro e w' ⟨rfl, rfl⟩)
  go_ret
  exact ⟨rfl, rfl⟩

theorem of_15 (v : Value) (w : World) (h : w.cell? ⟨15, 0, none⟩ = some v) : Calls Tryz.prog 28 #[.int .i64 15] w fun e w' => e = .returned v ∧ w = w' := by
  go_enter Tryz.func28, Tryz.ntmps28
  go_wp2_with (go_at_call 53; refine (more_15 v _ h).mono ?_; rintro e w' ⟨rfl, rfl⟩)
  go_ret
  exact ⟨rfl, rfl⟩

theorem of_16 (v : Value) (w : World) (h : w.cell? ⟨16, 0, none⟩ = some v) : Calls Tryz.prog 28 #[.int .i64 16] w fun e w' => e = .returned v ∧ w = w' := by
  go_enter Tryz.func28, Tryz.ntmps28
  go_wp2_with (go_at_call 53; refine (more_16 v _ h).mono ?_; rintro e w' ⟨rfl, rfl⟩)
  go_ret
  exact ⟨rfl, rfl⟩

theorem of_17 (v : Value) (w : World) (h : w.cell? ⟨17, 0, none⟩ = some v) : Calls Tryz.prog 28 #[.int .i64 17] w fun e w' => e = .returned v ∧ w = w' := by
  go_enter Tryz.func28, Tryz.ntmps28
  go_wp2_with (go_at_call 53; refine (more_17 v _ h).mono ?_; rintro e w' ⟨rfl, rfl⟩)
  go_ret
  exact ⟨rfl, rfl⟩

theorem of_18 (v : Value) (w : World) (h : w.cell? ⟨18, 0, none⟩ = some v) : Calls Tryz.prog 28 #[.int .i64 18] w fun e w' => e = .returned v ∧ w = w' := by
  go_enter Tryz.func28, Tryz.ntmps28
  go_wp2_with (go_at_call 53; refine (more_18 v _ h).mono ?_; rintro e w' ⟨rfl, rfl⟩)
  go_ret
  exact ⟨rfl, rfl⟩

theorem of_19 (v : Value) (w : World) (h : w.cell? ⟨19, 0, none⟩ = some v) : Calls Tryz.prog 28 #[.int .i64 19] w fun e w' => e = .returned v ∧ w = w' := by
  go_enter Tryz.func28, Tryz.ntmps28
  go_wp2_with (go_at_call 53; refine (more_19 v _ h).mono ?_; rintro e w' ⟨rfl, rfl⟩)
  go_ret
  exact ⟨rfl, rfl⟩

theorem of_20 (v : Value) (w : World) (h : w.cell? ⟨20, 0, none⟩ = some v) : Calls Tryz.prog 28 #[.int .i64 20] w fun e w' => e = .returned v ∧ w = w' := by
  go_enter Tryz.func28, Tryz.ntmps28
  go_wp2_with (go_at_call 53; refine (more_20 v _ h).mono ?_; rintro e w' ⟨rfl, rfl⟩)
  go_ret
  exact ⟨rfl, rfl⟩

theorem of_21 (v : Value) (w : World) (h : w.cell? ⟨21, 0, none⟩ = some v) : Calls Tryz.prog 28 #[.int .i64 21] w fun e w' => e = .returned v ∧ w = w' := by
  go_enter Tryz.func28, Tryz.ntmps28
  go_wp2_with (go_at_call 53; refine (more_21 v _ h).mono ?_; rintro e w' ⟨rfl, rfl⟩)
  go_ret
  exact ⟨rfl, rfl⟩

/-- fault.Of at each code: the variable's value. -/
theorem of_any {N : Nat} {E : Nat → Addr} {w : World} (h : Errs N E w) (c : Nat) (h1 : 1 ≤ c) (h2 : c ≤ 21) :
    Calls Tryz.prog 28 #[.int .i64 c] w fun e w' => e = .returned (.iface 184 (.pointer (some (E c)))) ∧ w = w' := by
  have hc := h.cell c h1 h2
  have hcs : c = 1 ∨ c = 2 ∨ c = 3 ∨ c = 4 ∨ c = 5 ∨ c = 6 ∨ c = 7 ∨ c = 8 ∨ c = 9 ∨ c = 10 ∨ c = 11 ∨ c = 12 ∨ c = 13 ∨ c = 14 ∨ c = 15 ∨ c = 16 ∨ c = 17 ∨ c = 18 ∨ c = 19 ∨ c = 20 ∨ c = 21 := by omega
  rcases hcs with rfl | rfl | rfl | rfl | rfl | rfl | rfl | rfl | rfl | rfl | rfl | rfl | rfl | rfl | rfl | rfl | rfl | rfl | rfl | rfl | rfl
  · exact of_1 _ w hc
  · exact of_2 _ w hc
  · exact of_3 _ w hc
  · exact of_4 _ w hc
  · exact of_5 _ w hc
  · exact of_6 _ w hc
  · exact of_7 _ w hc
  · exact of_8 _ w hc
  · exact of_9 _ w hc
  · exact of_10 _ w hc
  · exact of_11 _ w hc
  · exact of_12 _ w hc
  · exact of_13 _ w hc
  · exact of_14 _ w hc
  · exact of_15 _ w hc
  · exact of_16 _ w hc
  · exact of_17 _ w hc
  · exact of_18 _ w hc
  · exact of_19 _ w hc
  · exact of_20 _ w hc
  · exact of_21 _ w hc

/-- fault.At, fault.In on an error that there is. -/
theorem at_any (t : TypeId) (u : Value) (pos : Int) (w : World) :
    Calls Tryz.prog 27 #[.iface t u, .int .i64 pos] w fun e w' => e = .returned (.iface 48 (.pointer (some ⟨w.heap.size, 0, none⟩))) ∧ w' = w.alloc (.cells #[.iface t u, .int .i64 pos] 52) := by
  go_enter Tryz.func27, Tryz.ntmps27
  go_wp2
  go_ret
  exact ⟨rfl, rfl⟩
theorem in_any (t : TypeId) (u : Value) (lang : Int) (w : World) :
    Calls Tryz.prog 26 #[.iface t u, .int .i64 lang] w fun e w' => e = .returned (.iface 53 (.pointer (some ⟨w.heap.size, 0, none⟩))) ∧ w' = w.alloc (.cells #[.iface t u, .int .i64 lang] 56) := by
  go_enter Tryz.func26, Tryz.ntmps26
  go_wp2
  go_ret
  exact ⟨rfl, rfl⟩
end Go.Proofs.YtfnaooplpofgiaaGreatDoor
