/- A tree that there isn't: its Stat; test's unary over it. Conditions: the errors' variables hold their values. -/
import Derived.Test.YtfnaooplpofgiaaGreatDoorKEv
import Derived.WalkMore
import Derived.Handy
import Derived.Outline
namespace Go.Proofs.YtfnaooplpofgiaaGreatDoor
open Go Go.RowKit SN

/-- A spot, a stat in memory. -/
def spC (a : Option Addr) (s : ByteArray) (b : Option Addr) : Array Value := #[.pointer a, .string s, .pointer b]
def IsSp (w : World) (B : Nat) (a : Option Addr) (s : ByteArray) (b : Option Addr) : Prop := w.heap[B]? = some (.cells (spC a s b) 103 (0, 0))
def stC (k z l t : Int) : Array Value := #[.int .i64 k, .int .i64 z, .int .i64 l, .int .i64 t]
def IsSt (w : World) (B : Nat) (k z l t : Int) : Prop := w.heap[B]? = some (.cells (stC k z l t) 117 (0, 0))
theorem sizeSp : (Tryz.prog.info? 103).map (·.size) = some 3 := by kernel_rfl
theorem sizeSt : (Tryz.prog.info? 117).map (·.size) = some 4 := by kernel_rfl
section
variable {ops : Array Oper} {Q : Exit → Act → World → Prop} {a : Act} {w : World} {rest : List Oper} {o : Oper}
theorem store_sp (hgd : o.guard = none) (hd : o.dst = none) (x y : Operand) (ho : o.op = .store 103 x y) (B : Nat) (p q p0 q0 : Option Addr) (s s0 : ByteArray) (hx : a.eval x = .pointer (some ⟨B, 0, none⟩)) (hy : a.eval y = .agg (spC p s q)) (h : IsSp w B p0 s0 q0)
    (hk : ∀ w', IsSp w' B p s q → w.grownBy w' (some B) → w'.heap.size = w.heap.size → wpList Tryz.prog ops Q rest a w') : wpList Tryz.prog ops Q (o :: rest) a w := by
  have hp : a.put o.dst undef = a := by rw [hd]; rfl
  refine wpList_store_row hgd 103 x y ho B (spC p s q) hx hy 103 (spC p0 s0 q0) h (by rw [sizeSp]; rfl) rfl (by simp [spC, Value.oneCell']) (by rw [hp]; exact hk _ (setRow_heap w B _ _ _ _ h) ⟨rfl, rfl, rfl, by simp, fun k _ hk => setRow_other w B k _ (fun e => hk (by rw [e]))⟩ (by simp))
theorem store_st (hgd : o.guard = none) (hd : o.dst = none) (x y : Operand) (ho : o.op = .store 117 x y) (B : Nat) (k z l t k0 z0 l0 t0 : Int) (hx : a.eval x = .pointer (some ⟨B, 0, none⟩)) (hy : a.eval y = .agg (stC k z l t)) (h : IsSt w B k0 z0 l0 t0)
    (hk : ∀ w', IsSt w' B k z l t → w.grownBy w' (some B) → w'.heap.size = w.heap.size → wpList Tryz.prog ops Q rest a w') : wpList Tryz.prog ops Q (o :: rest) a w := by
  have hp : a.put o.dst undef = a := by rw [hd]; rfl
  refine wpList_store_row hgd 117 x y ho B (stC k z l t) hx hy 117 (stC k0 z0 l0 t0) h (by rw [sizeSt]; rfl) rfl (by simp [stC, Value.oneCell']) (by rw [hp]; exact hk _ (setRow_heap w B _ _ _ _ h) ⟨rfl, rfl, rfl, by simp, fun k _ hk => setRow_other w B k _ (fun e => hk (by rw [e]))⟩ (by simp))
end
theorem ret_sp {fn : Func} {p q : Tmp} {R : Ending → World → Prop} {a : Act} {w : World} {B : Nat} {m n : Option Addr} {s : ByteArray} {v : Value} (h : fn.results = #[.cell p 103, .tmp q]) (hd : a.defers = []) (hp : a.tmps.getD p undef = .pointer (some ⟨B, 0, none⟩))
    (hq : a.tmps.getD q undef = v) (hS : IsSp w B m s n) (hR : R (.returned (.tuple #[.agg (spC m s n), v])) w) : bodyPost Tryz.prog fn R .ret a w := by
  have hp' : a.tmps[p]?.getD undef = .pointer (some ⟨B, 0, none⟩) := by simpa using hp
  have hq' : a.tmps[q]?.getD undef = v := by simpa using hq
  refine bodyPost_ret (v := .tuple #[.agg (spC m s n), v]) ?_ hd hR
  have hl := run_loadVar_row (P := Tryz.prog) w B 103 103 (spC m s n) (0, 0) _ hS Tryz.underlying103 (by rfl) (by rw [sizeSp]; rfl)
  simp [results, h, hp', hq', asAddr, hl]
theorem ret_st {fn : Func} {p q : Tmp} {R : Ending → World → Prop} {a : Act} {w : World} {B : Nat} {k z l t : Int} {v : Value} (h : fn.results = #[.cell p 117, .tmp q]) (hd : a.defers = []) (hp : a.tmps.getD p undef = .pointer (some ⟨B, 0, none⟩))
    (hq : a.tmps.getD q undef = v) (hS : IsSt w B k z l t) (hR : R (.returned (.tuple #[.agg (stC k z l t), v])) w) : bodyPost Tryz.prog fn R .ret a w := by
  have hp' : a.tmps[p]?.getD undef = .pointer (some ⟨B, 0, none⟩) := by simpa using hp
  have hq' : a.tmps[q]?.getD undef = v := by simpa using hq
  refine bodyPost_ret (v := .tuple #[.agg (stC k z l t), v]) ?_ hd hR
  have hl := run_loadVar_row (P := Tryz.prog) w B 117 117 (stC k z l t) (0, 0) _ hS Tryz.underlying117 (by rfl) (by rw [sizeSt]; rfl)
  simp [results, h, hp', hq', asAddr, hl]
theorem row_grown {w w' : World} {B : Nat} {o : Obj} {row : Option Nat} (h : w.heap[B]? = some o) (hg : w.grownBy w' row) (hB : some B ≠ row) : w'.heap[B]? = some o := by rw [hg.block B (row_lt h) hB]; exact h
theorem tfail_any {N : Nat} {E : Nat → Addr} (w : World) (hE : Errs N E w) (c : Nat) (h1 : 1 ≤ c) (h2 : c ≤ 21) :
    Calls Tryz.prog 44 #[.int .i64 c] w fun e w' => ∃ v, e = .returned v ∧ IsErr w' E v c 0 11 ∧ Below w.heap.size w w' := by
  have hE' := Lib.hid hE
  clear hE
  go_enter Tryz.func44, Tryz.ntmps44
  go_wp2_with (first | (go_at_call 28; refine (of_any hE'.out c h1 h2).mono ?_; rintro e w' ⟨rfl, rfl⟩) | (go_at_call 27; refine (at_any _ _ _ _).mono ?_; rintro e w' ⟨rfl, rfl⟩) | (go_at_call 26; refine (in_any _ _ _ _).mono ?_; rintro e w' ⟨rfl, rfl⟩))
  go_ret
  have hn := heap_alloc_new (w.alloc (.cells #[.iface 184 (.pointer (some (E c))), .int .i64 0] 52)) (.cells #[.iface 48 (.pointer (some ⟨w.heap.size, 0, none⟩)), .int .i64 11] 56)
  rw [World.size_alloc] at hn
  exact ⟨_, rfl, ⟨w.heap.size + 1, w.heap.size, rfl, hn, row_alloc (heap_alloc_new w _) _⟩, ((Below.refl _ _).alloc (Nat.le_refl _) _).alloc (by simp) _⟩
set_option maxHeartbeats 1000000 in
theorem tfind_nil {N : Nat} {E : Nat → Addr} (s : ByteArray) (w : World) (hE : Errs N E w) (hN : N ≤ w.heap.size) :
    Calls Tryz.prog 43 #[.pointer none, .string s] w fun e w' => ∃ v, e = .returned (.tuple #[.agg (spC none ⟨#[]⟩ none), v]) ∧ IsErr w' E v 1 0 11 ∧ Below w.heap.size w w' := by
  have hE' := Lib.hid hE
  clear hE
  go_enter Tryz.func43, Tryz.ntmps43
  go_wp2_with fail
  refine (tfail_any _ (hE'.out.alloc _ hN) 1 (by decide) (by decide)).mono ?_
  rintro e w1 ⟨v, rfl, hv, b1⟩
  have hr : IsSp w1 w.heap.size none ⟨#[]⟩ none := row_below (heap_alloc_new w _) b1 (by simp)
  have hB : Below w.heap.size w w1 := ((Below.refl _ _).alloc (Nat.le_refl _) _).trans (b1.mono (by simp))
  have z1 := hB.size
  have l1 := row_lt hr
  go_wp2_with (refine store_sp rfl rfl _ _ rfl _ none none none none ⟨#[]⟩ ⟨#[]⟩ rfl rfl hr ?_; intro w2 h2 g2 z2)
  refine ret_sp rfl rfl rfl rfl h2 ⟨v, rfl, ?_, hB.grown g2 z1 (fun k hk => by cases hk; exact Nat.le_refl _)⟩
  exact hv.keepT hr (by decide) (by decide) fun k hk hne => g2.block k hk (fun e => hne (by injection e))
set_option maxHeartbeats 1000000 in
theorem tstat_nil {N : Nat} {E : Nat → Addr} (s : ByteArray) (w : World) (hE : Errs N E w) (hN : N ≤ w.heap.size) :
    Calls Tryz.prog 54 #[.pointer none, .string s] w fun e w' => ∃ v, e = .returned (.tuple #[.agg (stC 0 0 0 0), v]) ∧ IsErr w' E v 1 0 11 ∧ Below w.heap.size w w' := by
  have hE' := Lib.hid hE
  clear hE
  go_enter Tryz.func54, Tryz.ntmps54
  go_wp2_with fail
  refine (tfind_nil s _ (hE'.out.alloc _ hN) (by simp; omega)).mono ?_
  rintro e w1 ⟨v, rfl, hv, b1⟩
  have hr : IsSt w1 w.heap.size 0 0 0 0 := row_below (heap_alloc_new w _) b1 (by simp)
  have hB : Below w.heap.size w w1 := ((Below.refl _ _).alloc (Nat.le_refl _) _).trans (b1.mono (by simp))
  have z1 := hB.size
  have l1 := row_lt hr
  have hq : IsSp (w1.alloc (.cells #[.pointer none, .string ⟨#[]⟩, .pointer none] 103)) w1.heap.size none ⟨#[]⟩ none := heap_alloc_new w1 _
  obtain ⟨S, P, rfl, hv1, hv2⟩ := hv
  go_wp2_with (first | (refine store_sp rfl rfl _ _ rfl _ none none none none ⟨#[]⟩ ⟨#[]⟩ rfl rfl hq ?_; intro w2 h2 g2 z2; have hr2 : IsSt w2 w.heap.size 0 0 0 0 := row_grown (row_alloc hr _) g2 (fun e => by injection e; omega)) | (refine store_st rfl rfl _ _ rfl _ 0 0 0 0 0 0 0 0 rfl rfl hr2 ?_; intro w3 h3 g3 z3))
  have hv3 : IsErr w2 E (.iface 53 (.pointer (some ⟨S, 0, none⟩))) 1 0 11 := by
    have h0 : IsErr (w1.alloc (.cells #[.pointer none, .string ⟨#[]⟩, .pointer none] 103)) E (.iface 53 (.pointer (some ⟨S, 0, none⟩))) 1 0 11 := (show IsErr w1 E _ 1 0 11 from ⟨S, P, rfl, hv1, hv2⟩).alloc _
    exact h0.keepT hq (by decide) (by decide) fun k hk hne => g2.block k hk (fun e => hne (by injection e))
  have b2 : Below w.heap.size w w2 := (hB.trans (((Below.refl _ _).alloc (Nat.le_refl _) _).mono z1)).grown g2 (by simp; omega) (fun k hk => by cases hk; exact z1)
  refine ret_st rfl rfl rfl rfl h3 ⟨_, rfl, ?_, b2.grown g3 b2.size (fun k hk => by cases hk; exact Nat.le_refl _)⟩
  exact hv3.keepT hr2 (by decide) (by decide) fun k hk hne => g3.block k hk (fun e => hne (by injection e))
set_option maxHeartbeats 1000000 in
theorem unary_z {N : Nat} {E : Nat → Addr} (s : ByteArray) (w : World) (hE : Errs N E w) (hN : N ≤ w.heap.size) :
    Calls Tryz.prog 30 #[.string ⟨#[45, 122]⟩, .string s, .pointer none] w fun e w' => e = .returned (.tuple #[.bool (s.toList.isEmpty), .bool true]) ∧ Below w.heap.size w w' := by
  have hE' := Lib.hid hE
  clear hE
  go_enter Tryz.func30, Tryz.ntmps30
  go_wp2_with fail
  refine (tstat_nil s _ hE'.out hN).mono ?_
  rintro e w1 ⟨v, rfl, hv, b1⟩
  obtain ⟨S, P, rfl, hv1, hv2⟩ := hv
  have hq : IsSt (w1.alloc (.cells #[.int .i64 0, .int .i64 0, .int .i64 0, .int .i64 0] 117)) w1.heap.size 0 0 0 0 := heap_alloc_new w1 _
  go_wp2_with (refine store_st rfl rfl _ _ rfl _ 0 0 0 0 0 0 0 0 rfl rfl hq ?_; intro w2 h2 g2 z2)
  go_ret2
  exact ⟨rfl, (b1.trans (((Below.refl _ _).alloc (Nat.le_refl _) _).mono b1.size)).grown g2 (by have := b1.size; simp; omega) (fun k hk => by cases hk; exact b1.size)⟩
set_option maxHeartbeats 1000000 in
theorem unary_n {N : Nat} {E : Nat → Addr} (s : ByteArray) (w : World) (hE : Errs N E w) (hN : N ≤ w.heap.size) :
    Calls Tryz.prog 30 #[.string ⟨#[45, 110]⟩, .string s, .pointer none] w fun e w' => e = .returned (.tuple #[.bool (!s.toList.isEmpty), .bool true]) ∧ Below w.heap.size w w' := by
  have hE' := Lib.hid hE
  clear hE
  go_enter Tryz.func30, Tryz.ntmps30
  go_wp2_with fail
  refine (tstat_nil s _ hE'.out hN).mono ?_
  rintro e w1 ⟨v, rfl, hv, b1⟩
  obtain ⟨S, P, rfl, hv1, hv2⟩ := hv
  have hq : IsSt (w1.alloc (.cells #[.int .i64 0, .int .i64 0, .int .i64 0, .int .i64 0] 117)) w1.heap.size 0 0 0 0 := heap_alloc_new w1 _
  go_wp2_with (refine store_st rfl rfl _ _ rfl _ 0 0 0 0 0 0 0 0 rfl rfl hq ?_; intro w2 h2 g2 z2)
  go_ret2
  exact ⟨rfl, (b1.trans (((Below.refl _ _).alloc (Nat.le_refl _) _).mono b1.size)).grown g2 (by have := b1.size; simp; omega) (fun k hk => by cases hk; exact b1.size)⟩
end Go.Proofs.YtfnaooplpofgiaaGreatDoor
