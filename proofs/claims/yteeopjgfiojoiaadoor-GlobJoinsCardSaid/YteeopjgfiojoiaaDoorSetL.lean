/- Sets in variables: a whole set loaded, stored; what lies where behind calls and stores. Lemmas for walks; no conditions. -/
import Derived.Test.YteeopjgfiojoiaaDoorSetW2
import Derived.Deep.RegionHeld3
import Derived.Deep.DeepFit
namespace Go.Proofs.YteeopjgfiojoiaaDoor
open Go Go.RowKit SN

section
variable {ops : Array Oper} {Q : Exit → Act → World → Prop} {a : Act} {w : World} {rest : List Oper} {o : Oper}
theorem load_set (hgd : o.guard = none) (x : Operand) (ho : o.op = .load 24 x) (B : Nat) (hx : a.eval x = .pointer (some ⟨B, 0, none⟩)) 
    (h : ∃ S, IsSet 24 w B S ∧ wpList Tryd.prog ops Q rest (a.put o.dst (sv S)) w) : wpList Tryd.prog ops Q (o :: rest) a w := by
  obtain ⟨S, h, hk⟩ := h
  exact wpList_load_row hgd 24 x ho B hx 24 (sc S) (0, 0) _ h Tryd.underlying24 (by rfl) (by rw [size24]; rfl) hk
theorem store_set (hgd : o.guard = none) (hd : o.dst = none) (x y : Operand) (ho : o.op = .store 24 x y) (B S : Nat) (hx : a.eval x = .pointer (some ⟨B, 0, none⟩)) (hy : a.eval y = sv S) (h : ∃ T, IsSet 24 w B T)
    (hk : ∀ w', IsSet 24 w' B S → w.grownBy w' (some B) → w.heap.size ≤ w'.heap.size ∧ w'.heap.size ≤ w.heap.size → wpList Tryd.prog ops Q rest a w') : wpList Tryd.prog ops Q (o :: rest) a w := by
  obtain ⟨T, h⟩ := h
  have hp : a.put o.dst undef = a := by rw [hd]; rfl
  refine wpList_store_row hgd 24 x y ho B (sc S) hx hy 24 (sc T) h (by rw [size24]; rfl) rfl (by simp [sc, Value.oneCell']) (by rw [hp]; exact hk _ (setRow_heap w B _ _ _ _ h) ⟨rfl, rfl, rfl, by simp, fun k _ hk => setRow_other w B k _ (fun e => hk (by rw [e]))⟩ (by simp))
end

section
variable {ty : TypeId} {w w' : World} {B S N : Nat}
theorem IsSet.zero' (ty : TypeId) (w : World) (n : Nat) (h : n = w.heap.size) : IsSet ty (w.alloc (.cells #[.int .u64 0, .int .u64 0, .int .u64 0, .int .u64 0] ty)) n 0 := by subst h; exact IsSet.zero ty w
theorem IsSet.viaG {row : Option Nat} (hg : w.grownBy w' row) (h : IsSet ty w B S) (hB : some B ≠ row) : IsSet ty w' B S := h.grown hg hB
theorem IsSet.viaB (hb : Below N w w') (h : IsSet ty w B S) (hB : B < N) : IsSet ty w' B S := h.below hb hB
theorem IsSet.sv (w : World) (n S : Nat) (h : n = w.heap.size) : IsSet ty (w.alloc (.cells (sc S) ty)) n S := by subst h; exact IsSet.new ty w S
theorem Below.viaG {a : World} {row : Option Nat} (hg : w.grownBy w' row) (h : Below N a w) (hN : N ≤ w.heap.size) (hB : ∀ k, row = some k → N ≤ k) : Below N a w' := h.grown hg hN hB
theorem Below.viaG1 {a : World} {B : Nat} (hg : w.grownBy w' (some B)) (h : Below N a w) (hN : N ≤ w.heap.size) (hB : N ≤ B) : Below N a w' := h.grown hg hN (fun k hk => by cases hk; exact hB)
theorem Below.viaB {a : World} {M : Nat} (hb : Below M w w') (h : Below N a w) (hN : N ≤ M) : Below N a w' := h.trans (hb.mono hN)
end

theorem ret_set2 {fn : Func} {p q : Tmp} {R : Ending → World → Prop} {a : Act} {w : World} {B S : Nat} {v : Value} (h : fn.results = #[.cell p 24, .tmp q]) (hd : a.defers = []) (hp : a.tmps.getD p undef = .pointer (some ⟨B, 0, none⟩))
    (hq : a.tmps.getD q undef = v) (hS : IsSet 24 w B S) (hR : R (.returned (.tuple #[sv S, v])) w) : bodyPost Tryd.prog fn R .ret a w := by
  have hp' : a.tmps[p]?.getD undef = .pointer (some ⟨B, 0, none⟩) := by simpa using hp
  have hq' : a.tmps[q]?.getD undef = v := by simpa using hq
  refine bodyPost_ret (v := .tuple #[sv S, v]) ?_ hd hR
  have hl := run_loadVar_row (P := Tryd.prog) w B 24 24 (sc S) (0, 0) _ hS Tryd.underlying24 (by rfl) (by rw [size24]; rfl)
  simp [results, h, hp', hq', asAddr, hl]
  rfl
def scs2 (A B : Nat) : Array Value := #[.int .u64 (word A 0), .int .u64 (word A 1), .int .u64 (word A 2), .int .u64 (word A 3), .int .u64 (word B 0), .int .u64 (word B 1), .int .u64 (word B 2), .int .u64 (word B 3)]
theorem run_build2 (A B : Nat) (w : World) : (Instr.buildSlice 79 2 #[(0, sv A), (1, sv B)]).run Tryd.prog w = .ok (.slice (some ⟨w.heap.size, 0, none⟩) 2 2) (w.alloc (.cells (scs2 A B) 24)) := by kernel_rfl
def scs3 (A B C : Nat) : Array Value := #[.int .u64 (word A 0), .int .u64 (word A 1), .int .u64 (word A 2), .int .u64 (word A 3), .int .u64 (word B 0), .int .u64 (word B 1), .int .u64 (word B 2), .int .u64 (word B 3), .int .u64 (word C 0), .int .u64 (word C 1), .int .u64 (word C 2), .int .u64 (word C 3)]
theorem run_build3 (A B C : Nat) (w : World) : (Instr.buildSlice 79 3 #[(0, sv A), (1, sv B), (2, sv C)]).run Tryd.prog w = .ok (.slice (some ⟨w.heap.size, 0, none⟩) 3 3) (w.alloc (.cells (scs3 A B C) 24)) := by kernel_rfl
def scs4 (A B C D : Nat) : Array Value := #[.int .u64 (word A 0), .int .u64 (word A 1), .int .u64 (word A 2), .int .u64 (word A 3), .int .u64 (word B 0), .int .u64 (word B 1), .int .u64 (word B 2), .int .u64 (word B 3), .int .u64 (word C 0), .int .u64 (word C 1), .int .u64 (word C 2), .int .u64 (word C 3), .int .u64 (word D 0), .int .u64 (word D 1), .int .u64 (word D 2), .int .u64 (word D 3)]
theorem run_build4 (A B C D : Nat) (w : World) : (Instr.buildSlice 79 4 #[(0, sv A), (1, sv B), (2, sv C), (3, sv D)]).run Tryd.prog w = .ok (.slice (some ⟨w.heap.size, 0, none⟩) 4 4) (w.alloc (.cells (scs4 A B C D) 24)) := by kernel_rfl
section
variable {ops : Array Oper} {Q : Exit → Act → World → Prop} {a : Act} {w : World} {rest : List Oper} {o : Oper}
theorem build_sets2 (hgd : o.guard = none) (x y : Operand) (ho : o.op = .buildSlice 79 2 #[(0, x), (1, y)]) (A B : Nat) (hx : a.eval x = sv A) (hy : a.eval y = sv B)
    (hk : wpList Tryd.prog ops Q rest (a.put o.dst (.slice (some ⟨w.heap.size, 0, none⟩) 2 2)) (w.alloc (.cells (scs2 A B) 24))) : wpList Tryd.prog ops Q (o :: rest) a w :=
  wpList_plain hgd fun K hK => by
    unfold Oper.wp execOp
    simp only [ho, List.map_toArray, List.map_cons, List.map_nil, hx, hy, Sem.run_bind, run_build2, Result.andThen_ok]
    exact hK _ _ hk
theorem build_sets3 (hgd : o.guard = none) (x y z : Operand) (ho : o.op = .buildSlice 79 3 #[(0, x), (1, y), (2, z)]) (A B C : Nat) (hx : a.eval x = sv A) (hy : a.eval y = sv B) (hz : a.eval z = sv C)
    (hk : wpList Tryd.prog ops Q rest (a.put o.dst (.slice (some ⟨w.heap.size, 0, none⟩) 3 3)) (w.alloc (.cells (scs3 A B C) 24))) : wpList Tryd.prog ops Q (o :: rest) a w :=
  wpList_plain hgd fun K hK => by
    unfold Oper.wp execOp
    simp only [ho, List.map_toArray, List.map_cons, List.map_nil, hx, hy, hz, Sem.run_bind, run_build3, Result.andThen_ok]
    exact hK _ _ hk
theorem build_sets4 (hgd : o.guard = none) (x y z u : Operand) (ho : o.op = .buildSlice 79 4 #[(0, x), (1, y), (2, z), (3, u)]) (A B C D : Nat) (hx : a.eval x = sv A) (hy : a.eval y = sv B) (hz : a.eval z = sv C) (hu : a.eval u = sv D)
    (hk : wpList Tryd.prog ops Q rest (a.put o.dst (.slice (some ⟨w.heap.size, 0, none⟩) 4 4)) (w.alloc (.cells (scs4 A B C D) 24))) : wpList Tryd.prog ops Q (o :: rest) a w :=
  wpList_plain hgd fun K hK => by
    unfold Oper.wp execOp
    simp only [ho, List.map_toArray, List.map_cons, List.map_nil, hx, hy, hz, hu, Sem.run_bind, run_build4, Result.andThen_ok]
    exact hK _ _ hk
end
theorem union2 (A B n : Nat) (W : World) (h : n = W.heap.size) :
    Calls Tryd.prog 27 #[.slice (some ⟨n, 0, none⟩) 2 2] (W.alloc (.cells (scs2 A B) 24)) fun e w' => e = .returned (sv (unionL [A, B])) ∧ Below (W.heap.size + 1) (W.alloc (.cells (scs2 A B) 24)) w' := by
  subst h
  have hh := heap_alloc_new W (.cells (scs2 A B) 24)
  have hr := Union_any [A, B] (some ⟨W.heap.size, 0, none⟩) 2 (W.alloc (.cells (scs2 A B) 24)) (by simp) fun i hi => ⟨W.heap.size, rfl, row_lt hh, fun k hk => row_cell hh ?_⟩
  · rw [World.size_alloc] at hr
    exact hr
  · have hi' : i = 0 ∨ i = 1 := by simp at hi; omega
    have hk' : k = 0 ∨ k = 1 ∨ k = 2 ∨ k = 3 := by omega
    rcases hi' with rfl | rfl <;> rcases hk' with rfl | rfl | rfl | rfl <;> rfl
theorem union3 (A B C n : Nat) (W : World) (h : n = W.heap.size) :
    Calls Tryd.prog 27 #[.slice (some ⟨n, 0, none⟩) 3 3] (W.alloc (.cells (scs3 A B C) 24)) fun e w' => e = .returned (sv (unionL [A, B, C])) ∧ Below (W.heap.size + 1) (W.alloc (.cells (scs3 A B C) 24)) w' := by
  subst h
  have hh := heap_alloc_new W (.cells (scs3 A B C) 24)
  have hr := Union_any [A, B, C] (some ⟨W.heap.size, 0, none⟩) 3 (W.alloc (.cells (scs3 A B C) 24)) (by simp) fun i hi => ⟨W.heap.size, rfl, row_lt hh, fun k hk => row_cell hh ?_⟩
  · rw [World.size_alloc] at hr
    exact hr
  · have hi' : i = 0 ∨ i = 1 ∨ i = 2 := by simp at hi; omega
    have hk' : k = 0 ∨ k = 1 ∨ k = 2 ∨ k = 3 := by omega
    rcases hi' with rfl | rfl | rfl <;> rcases hk' with rfl | rfl | rfl | rfl <;> rfl
theorem union4 (A B C D n : Nat) (W : World) (h : n = W.heap.size) :
    Calls Tryd.prog 27 #[.slice (some ⟨n, 0, none⟩) 4 4] (W.alloc (.cells (scs4 A B C D) 24)) fun e w' => e = .returned (sv (unionL [A, B, C, D])) ∧ Below (W.heap.size + 1) (W.alloc (.cells (scs4 A B C D) 24)) w' := by
  subst h
  have hh := heap_alloc_new W (.cells (scs4 A B C D) 24)
  have hr := Union_any [A, B, C, D] (some ⟨W.heap.size, 0, none⟩) 4 (W.alloc (.cells (scs4 A B C D) 24)) (by simp) fun i hi => ⟨W.heap.size, rfl, row_lt hh, fun k hk => row_cell hh ?_⟩
  · rw [World.size_alloc] at hr
    exact hr
  · have hi' : i = 0 ∨ i = 1 ∨ i = 2 ∨ i = 3 := by simp at hi; omega
    have hk' : k = 0 ∨ k = 1 ∨ k = 2 ∨ k = 3 := by omega
    rcases hi' with rfl | rfl | rfl | rfl <;> rcases hk' with rfl | rfl | rfl | rfl <;> rfl
end Go.Proofs.YteeopjgfiojoiaaDoor
