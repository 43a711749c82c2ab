/- What a set in memory is: a block of four words. Lemmas on worlds; no program in sight, no conditions. -/
import Derived.Test.YteeopjgfiojoiaaDoorSetNat
import Derived.Below
import Derived.Lib.Hide
import Derived.OneCell
import Derived.Deep.Quiet
import Derived.BigQuiet
import Derived.Deep.QuietTactic
namespace Go.Proofs.YteeopjgfiojoiaaDoor
open Go Go.RowKit SN

theorem ret_int {k : IntKind} {a b : Int} (h : a = b) : Ending.returned (.int k a) = .returned (.int k b) := by rw [h]
theorem ret_bool {a b : Bool} (h : a = b) : Ending.returned (.bool a) = .returned (.bool b) := by rw [h]

/-- What a 'Below' gives the walk: old cells and old marks read as before. -/
theorem bcell {B : Nat} {W w1 : World} (hb : Below B W w1) : (∀ b o, b < B → w1.cell? ⟨b, o, none⟩ = W.cell? ⟨b, o, none⟩) ∧ (∀ b o, b < B → w1.frozen? ⟨b, o, none⟩ = W.frozen? ⟨b, o, none⟩) :=
  ⟨fun b o h => hb.cell (p := ⟨b, o, none⟩) h, fun b o h => hb.frozen (p := ⟨b, o, none⟩) h⟩

theorem below_drewN {B : Nat} {a w : World} (h : Below B a w) (n : Nat) : Below B a (w.drewN n) := ⟨h.os, h.tape, h.output, h.size, h.block⟩

/-- A block of cells: what a cell is, what the block is behind a store, a new block, a draw. -/
theorem row_cell {w : World} {B : Nat} {cs : Array Value} {t : TypeId} {i : Nat} {v : Value} (h : w.heap[B]? = some (.cells cs t (0, 0))) (hv : cs[i]? = some v) : w.cell? ⟨B, i, none⟩ = some v := by
  rw [cell_of_row w B i cs t (0, 0) h]; exact hv
theorem row_free {w : World} {B : Nat} {cs : Array Value} {t : TypeId} (h : w.heap[B]? = some (.cells cs t (0, 0))) (i : Nat) : w.frozen? ⟨B, i, none⟩ = false := by
  simp [World.frozen?, h]
theorem row_lt {w : World} {B : Nat} {o : Obj} (h : w.heap[B]? = some o) : B < w.heap.size := lt_of_block h
theorem row_set {w : World} {B : Nat} {cs : Array Value} {t : TypeId} (h : w.heap[B]? = some (.cells cs t (0, 0))) (i : Nat) (v : Value) : (w.setCell ⟨B, i, none⟩ v).heap[B]? = some (.cells (cs.setIfInBounds i v) t (0, 0)) := by
  have hlt := lt_of_block h
  have h' : w.heap[B] = .cells cs t (0, 0) := by simpa [Array.getElem?_eq_getElem hlt] using h
  show (w.heap.modify B _)[B]? = _
  rw [Array.getElem?_eq_getElem (by simpa using hlt), Array.getElem_modify_self, h']
  rfl
theorem row_set_other {w : World} {B C : Nat} {o : Option Obj} (h : w.heap[B]? = o) (hne : B ≠ C) (i : Nat) (v : Value) : (w.setCell ⟨C, i, none⟩ v).heap[B]? = o := by
  rw [Below.heap_setCell _ _ _ _ hne]; exact h
theorem row_alloc {w : World} {B : Nat} {o : Obj} (h : w.heap[B]? = some o) (x : Obj) : (w.alloc x).heap[B]? = some o := by
  rw [Below.heap_alloc _ _ _ (lt_of_block h)]; exact h
theorem row_drew {w : World} {B : Nat} {o : Option Obj} (h : w.heap[B]? = o) : w.drew.heap[B]? = o := h
theorem row_below {N B : Nat} {w w' : World} {o : Option Obj} (h : w.heap[B]? = o) (hb : Below N w w') (hB : B < N) : w'.heap[B]? = o := by rw [hb.block B hB]; exact h

/-- The set S lies in block B. -/
def IsSet (ty : TypeId) (w : World) (B S : Nat) : Prop := w.heap[B]? = some (.cells (sc S) ty (0, 0))

theorem sc_get (S k : Nat) (hk : k < 4) : (sc S)[k]? = some (.int .u64 (word S k)) := by
  have : k = 0 ∨ k = 1 ∨ k = 2 ∨ k = 3 := by omega
  rcases this with rfl | rfl | rfl | rfl <;> rfl

section
variable {ty : TypeId} {w : World} {B S : Nat}
theorem IsSet.cell (h : IsSet ty w B S) (k : Nat) (hk : k < 4) : w.cell? ⟨B, k, none⟩ = some (.int .u64 (word S k)) := row_cell h (sc_get S k hk)
theorem IsSet.free (h : IsSet ty w B S) (k : Nat) : w.frozen? ⟨B, k, none⟩ = false := row_free h k
theorem IsSet.lt (h : IsSet ty w B S) : B < w.heap.size := row_lt h
/-- All that a walk asks of a set in memory. -/
theorem IsSet.all (h : IsSet ty w B S) :
    (w.cell? ⟨B, 0, none⟩ = some (.int .u64 (word S 0)) ∧ w.cell? ⟨B, 1, none⟩ = some (.int .u64 (word S 1)) ∧ w.cell? ⟨B, 2, none⟩ = some (.int .u64 (word S 2)) ∧ w.cell? ⟨B, 3, none⟩ = some (.int .u64 (word S 3))) ∧
    (w.frozen? ⟨B, 0, none⟩ = false ∧ w.frozen? ⟨B, 1, none⟩ = false ∧ w.frozen? ⟨B, 2, none⟩ = false ∧ w.frozen? ⟨B, 3, none⟩ = false) ∧ B < w.heap.size :=
  ⟨⟨h.cell 0 (by decide), h.cell 1 (by decide), h.cell 2 (by decide), h.cell 3 (by decide)⟩, ⟨h.free 0, h.free 1, h.free 2, h.free 3⟩, h.lt⟩
/-- A set is made by its four cells. -/
theorem IsSet.of_words {cs : Array Value} (h : w.heap[B]? = some (.cells cs ty (0, 0))) (hc : cs = sc S) : IsSet ty w B S := by subst hc; exact h
end

theorem sc_set {S T : Nat} (k : Nat) (hk : k < 4) (hs : ∀ j, j < 4 → j ≠ k → word T j = word S j) : (sc S).setIfInBounds k (.int .u64 (word T k)) = sc T := by
  have : k = 0 ∨ k = 1 ∨ k = 2 ∨ k = 3 := by omega
  rcases this with rfl | rfl | rfl | rfl
  · simp [sc, hs 1 (by decide) (by decide), hs 2 (by decide) (by decide), hs 3 (by decide) (by decide)]
  · simp [sc, hs 0 (by decide) (by decide), hs 2 (by decide) (by decide), hs 3 (by decide) (by decide)]
  · simp [sc, hs 0 (by decide) (by decide), hs 1 (by decide) (by decide), hs 3 (by decide) (by decide)]
  · simp [sc, hs 0 (by decide) (by decide), hs 1 (by decide) (by decide), hs 2 (by decide) (by decide)]

theorem IsSet.store4 {ty : TypeId} {w : World} {R T : Nat} (h : IsSet ty w R T) (S : Nat) :
    IsSet ty ((((w.setCell ⟨R, 0, none⟩ (.int .u64 (word S 0))).setCell ⟨R, 1, none⟩ (.int .u64 (word S 1))).setCell ⟨R, 2, none⟩ (.int .u64 (word S 2))).setCell ⟨R, 3, none⟩ (.int .u64 (word S 3))) R S := by
  unfold IsSet
  rw [row_set (row_set (row_set (row_set h _ _) _ _) _ _) _ _]
  simp [sc]
theorem IsSet.alloc {ty : TypeId} {w : World} {B S : Nat} (h : IsSet ty w B S) (x : Obj) : IsSet ty (w.alloc x) B S := row_alloc h x
theorem IsSet.below {ty : TypeId} {w w' : World} {B N S : Nat} (h : IsSet ty w B S) (hb : Below N w w') (hB : B < N) : IsSet ty w' B S := row_below h hb hB
theorem IsSet.grown {ty : TypeId} {w w' : World} {B S : Nat} {row : Option Nat} (h : IsSet ty w B S) (hg : w.grownBy w' row) (hB : some B ≠ row) : IsSet ty w' B S := by
  unfold IsSet; rw [hg.block _ h.lt hB]; exact h
theorem IsSet.set_other {ty : TypeId} {w : World} {B C S : Nat} (h : IsSet ty w B S) (hne : B ≠ C) (i : Nat) (v : Value) : IsSet ty (w.setCell ⟨C, i, none⟩ v) B S := row_set_other h hne i v
theorem IsSet.drew {ty : TypeId} {w : World} {B S : Nat} (h : IsSet ty w B S) : IsSet ty w.drew B S := h
theorem IsSet.drewN {ty : TypeId} {w : World} {B S : Nat} (h : IsSet ty w B S) (n : Nat) : IsSet ty (w.drewN n) B S := h
theorem IsSet.new (ty : TypeId) (w : World) (S : Nat) : IsSet ty (w.alloc (.cells (sc S) ty)) w.heap.size S := heap_alloc_new w _
theorem IsSet.zero (ty : TypeId) (w : World) : IsSet ty (w.alloc (.cells #[.int .u64 0, .int .u64 0, .int .u64 0, .int .u64 0] ty)) w.heap.size 0 := by
  have h := IsSet.new ty w 0
  simpa [sc, word_zero] using h

theorem IsSet.zero2 (ty : TypeId) (w : World) : IsSet ty ((w.alloc (.cells #[.int .u64 0, .int .u64 0, .int .u64 0, .int .u64 0] ty)).alloc (.cells #[.int .u64 0, .int .u64 0, .int .u64 0, .int .u64 0] ty)) (w.heap.size + 1) 0 := by
  have h := IsSet.zero ty (w.alloc (.cells #[.int .u64 0, .int .u64 0, .int .u64 0, .int .u64 0] ty))
  rw [World.size_alloc] at h
  exact h

/-! ### The words' arithmetic, as the walk spells it -/
theorem pow_u64 (b : Nat) (hb : b < 64) : IntKind.u64.wrap ((2 : Int) ^ b) = ((2 ^ b : Nat) : Int) := by
  rw [IntKind.wrap_u64]
  have : (2 : Nat) ^ b < 2 ^ 64 := Nat.pow_lt_pow_right (by decide) hb
  have e : ((2 : Int) ^ b) = ((2 ^ b : Nat) : Int) := by simp
  rw [e]
  exact Int.emod_eq_of_lt (Int.natCast_nonneg _) (Int.ofNat_lt.2 this)
theorem bits_add (S b : Nat) : bits .or .u64 (word S (b / 64)) (IntKind.u64.wrap ((2 : Int) ^ (b % 64))) = (word (add S b) (b / 64) : Nat) := by
  rw [pow_u64 _ (Nat.mod_lt _ (by decide)), bits_or_u64_nat _ _ (word_lt' _ _) (Nat.pow_lt_pow_right (by decide) (Nat.mod_lt _ (by decide)) : 2 ^ (b % 64) < 2 ^ 64), word_add_same]

end Go.Proofs.YteeopjgfiojoiaaDoor
