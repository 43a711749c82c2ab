/- Sets of bytes as one natural number; what a set in memory is; counting. Lemmas, no conditions. -/
import Derived.WalkKit
import Derived.Below
import Derived.Lib.Hide
import Derived.OneCell
import Derived.Deep.Quiet
import Derived.BigQuiet
import Derived.Deep.QuietTactic
namespace Go.Proofs.YtfnaooplpofgiaaGreatDoor.SN
open Go

/-- Word k of a set. -/
def word (S k : Nat) : Nat := S / 2 ^ (64 * k) % 2 ^ 64
/-- All 256 bytes. -/
def full : Nat := 2 ^ 256 - 1
def add (S b : Nat) : Nat := S ||| 2 ^ b
def cmpl (S : Nat) : Nat := full ^^^ S
def Ok (S : Nat) : Prop := S < 2 ^ 256

theorem word_lt (S k : Nat) : word S k < 2 ^ 64 := Nat.mod_lt _ (Nat.two_pow_pos _)
theorem word_lt' (S k : Nat) : word S k < 18446744073709551616 := word_lt S k
theorem testBit_word (S k i : Nat) : (word S k).testBit i = (decide (i < 64) && S.testBit (64 * k + i)) := by
  unfold word
  rw [Nat.testBit_mod_two_pow, Nat.testBit_div_two_pow, Nat.add_comm]
theorem big {S : Nat} (h : Ok S) {b : Nat} (hb : ¬ b < 256) : S.testBit b = false :=
  Nat.testBit_lt_two_pow (Nat.lt_of_lt_of_le h (Nat.pow_le_pow_right (by decide) (by omega)))
theorem set_ext {S T : Nat} (hS : Ok S) (hT : Ok T) (h : ∀ b, b < 256 → S.testBit b = T.testBit b) : S = T :=
  Nat.eq_of_testBit_eq fun b => by
    by_cases hb : b < 256
    · exact h b hb
    · rw [big hS hb, big hT hb]
theorem word_ext {S T : Nat} (hS : Ok S) (hT : Ok T) (h : ∀ k, k < 4 → word S k = word T k) : S = T :=
  set_ext hS hT fun b hb => by
    have e := congrArg (fun x => x.testBit (b % 64)) (h (b / 64) (by omega))
    simp only [testBit_word] at e
    have e1 : 64 * (b / 64) + b % 64 = b := by omega
    have e2 : b % 64 < 64 := by omega
    rw [e1] at e
    simpa [e2] using e
theorem word_zero (k : Nat) : word 0 k = 0 := by simp [word]
theorem ok_zero : Ok 0 := by unfold Ok; exact Nat.two_pow_pos _
theorem ok_full : Ok full := by unfold Ok full; have := Nat.two_pow_pos 256; omega

/-- Four words make a set. -/
def mk4 (a b c d : Nat) : Nat := a + 18446744073709551616 * (b + 18446744073709551616 * (c + 18446744073709551616 * d))
theorem mk4_ok {a b c d : Nat} (ha : a < 18446744073709551616) (hb : b < 18446744073709551616) (hc : c < 18446744073709551616) (hd : d < 18446744073709551616) : Ok (mk4 a b c d) := by
  unfold Ok mk4
  show _ < 115792089237316195423570985008687907853269984665640564039457584007913129639936
  omega
theorem word_mk4 {a b c d : Nat} (ha : a < 18446744073709551616) (hb : b < 18446744073709551616) (hc : c < 18446744073709551616) (hd : d < 18446744073709551616) :
    word (mk4 a b c d) 0 = a ∧ word (mk4 a b c d) 1 = b ∧ word (mk4 a b c d) 2 = c ∧ word (mk4 a b c d) 3 = d := by
  have e1 : (18446744073709551616 : Nat) = 2 ^ 64 := by decide
  have s1 : mk4 a b c d / 18446744073709551616 = b + 18446744073709551616 * (c + 18446744073709551616 * d) := by unfold mk4; omega
  have s2 : mk4 a b c d / 18446744073709551616 / 18446744073709551616 = c + 18446744073709551616 * d := by rw [s1]; omega
  have s3 : mk4 a b c d / 18446744073709551616 / 18446744073709551616 / 18446744073709551616 = d := by rw [s2]; omega
  have w1 : ∀ S, word S 1 = S / 18446744073709551616 % 18446744073709551616 := fun S => rfl
  have w2 : ∀ S, word S 2 = S / 18446744073709551616 / 18446744073709551616 % 18446744073709551616 := fun S => by rw [Nat.div_div_eq_div_mul]; rfl
  have w3 : ∀ S, word S 3 = S / 18446744073709551616 / 18446744073709551616 / 18446744073709551616 % 18446744073709551616 := fun S => by rw [Nat.div_div_eq_div_mul, Nat.div_div_eq_div_mul]; rfl
  refine ⟨?_, ?_, ?_, ?_⟩
  · show mk4 a b c d / 1 % 18446744073709551616 = a
    unfold mk4; omega
  · rw [w1, s1]; omega
  · rw [w2, s2]; omega
  · rw [w3, s3]; omega

theorem ok_or {S T : Nat} (hS : Ok S) (hT : Ok T) : Ok (S ||| T) := Nat.or_lt_two_pow hS hT
theorem ok_pow {b : Nat} (hb : b < 256) : Ok (2 ^ b) := Nat.pow_lt_pow_right (by decide) hb
theorem ok_add {S b : Nat} (hS : Ok S) (hb : b < 256) : Ok (add S b) := ok_or hS (ok_pow hb)
theorem ok_cmpl {S : Nat} (hS : Ok S) : Ok (cmpl S) := Nat.xor_lt_two_pow ok_full hS
theorem testBit_full (b : Nat) : full.testBit b = decide (b < 256) := by unfold full; exact Nat.testBit_two_pow_sub_one 256 b
theorem testBit_add (S b c : Nat) : (add S b).testBit c = (S.testBit c || decide (b = c)) := by
  unfold add; rw [Nat.testBit_or, Nat.testBit_two_pow]
theorem testBit_cmpl (S b : Nat) (hb : b < 256) : (cmpl S).testBit b = !S.testBit b := by
  unfold cmpl; rw [Nat.testBit_xor, testBit_full]; simp [hb]
theorem testBit_or (S T b : Nat) : (S ||| T).testBit b = (S.testBit b || T.testBit b) := Nat.testBit_or ..

theorem word_or (S T k : Nat) : word (S ||| T) k = word S k ||| word T k :=
  Nat.eq_of_testBit_eq fun i => by
    rw [Nat.testBit_or, testBit_word, testBit_word, testBit_word, Nat.testBit_or]
    cases decide (i < 64) <;> simp
theorem word_add_same (S b : Nat) : word (add S b) (b / 64) = word S (b / 64) ||| 2 ^ (b % 64) :=
  Nat.eq_of_testBit_eq fun i => by
    rw [Nat.testBit_or, testBit_word, testBit_word, testBit_add, Nat.testBit_two_pow]
    by_cases hi : i < 64
    · have e : (b = 64 * (b / 64) + i) = (b % 64 = i) := by rw [eq_iff_iff]; omega
      simp [hi, e]
    · have e : ¬ b % 64 = i := by omega
      simp [hi, e]
theorem word_add_other (S b k : Nat) (h : b / 64 ≠ k) : word (add S b) k = word S k :=
  Nat.eq_of_testBit_eq fun i => by
    rw [testBit_word, testBit_word, testBit_add]
    by_cases hi : i < 64
    · have e : ¬ b = 64 * k + i := by omega
      simp [e]
    · simp [hi]
theorem word_cmpl (S k : Nat) (hk : k < 4) : word (cmpl S) k = 18446744073709551615 ^^^ word S k :=
  Nat.eq_of_testBit_eq fun i => by
    rw [Nat.testBit_xor, testBit_word, testBit_word, show (18446744073709551615 : Nat) = 2 ^ 64 - 1 by decide, Nat.testBit_two_pow_sub_one]
    by_cases hi : i < 64
    · have := testBit_cmpl S (64 * k + i) (by omega)
      simp [hi, this]
    · simp [hi]

/-- The set of what a test picks. -/
def pick (p : Nat → Bool) : Nat → Nat
  | 0 => 0
  | n + 1 => if p n then add (pick p n) n else pick p n
def ofP (p : Nat → Bool) : Nat := pick p 256
theorem testBit_pick (p : Nat → Bool) (b : Nat) : ∀ n, (pick p n).testBit b = (decide (b < n) && p b)
  | 0 => by simp [pick]
  | n + 1 => by
    unfold pick
    by_cases hp : p n = true
    · rw [if_pos hp, testBit_add, testBit_pick p b n]
      by_cases hb : n = b
      · subst hb; simp [hp]
      · by_cases h2 : b < n
        · have : b < n + 1 := by omega
          simp [h2, this, hb]
        · have : ¬ b < n + 1 := by omega
          simp [h2, this, hb]
    · rw [if_neg hp, testBit_pick p b n]
      by_cases hb : n = b
      · subst hb; simp [hp]
      · by_cases h2 : b < n
        · have : b < n + 1 := by omega
          simp [h2, this]
        · have : ¬ b < n + 1 := by omega
          simp [h2, this]
theorem ok_pick (p : Nat → Bool) : ∀ n, n ≤ 256 → Ok (pick p n)
  | 0, _ => ok_zero
  | n + 1, h => by
    unfold pick
    split
    · exact ok_add (ok_pick p n (by omega)) (by omega)
    · exact ok_pick p n (by omega)
theorem ok_ofP (p : Nat → Bool) : Ok (ofP p) := ok_pick p 256 (Nat.le_refl _)
theorem testBit_ofP (p : Nat → Bool) (b : Nat) (hb : b < 256) : (ofP p).testBit b = p b := by
  unfold ofP; rw [testBit_pick]; simp [hb]
theorem ofP_testBit {S : Nat} (h : Ok S) : ofP S.testBit = S := set_ext (ok_ofP _) h fun b hb => testBit_ofP _ b hb

/-- The bytes of a set, rising; how many. -/
def mem (S : Nat) : List Nat := (List.range 256).filter S.testBit
def cnt (S : Nat) : Nat := (mem S).length
def cntW (x : Nat) : Nat := ((List.range 64).filter x.testBit).length

/-- The value of a set. -/
def sv (S : Nat) : Value := .agg #[.int .u64 (word S 0), .int .u64 (word S 1), .int .u64 (word S 2), .int .u64 (word S 3)]
def sc (S : Nat) : Array Value := #[.int .u64 (word S 0), .int .u64 (word S 1), .int .u64 (word S 2), .int .u64 (word S 3)]

end Go.Proofs.YtfnaooplpofgiaaGreatDoor.SN
namespace Go.Proofs.YtfnaooplpofgiaaGreatDoor
open Go Go.RowKit SN

theorem ret_int {k : IntKind} {a b : Int} (h : a = b) : Ending.returned (.int k a) = .returned (.int k b) := by rw [h]
theorem ret_bool {a b : Bool} (h : a = b) : Ending.returned (.bool a) = .returned (.bool b) := by rw [h]

/-- What a 'Below' gives the walk: old cells and old marks read as before. -/
theorem bcell {B : Nat} {W w1 : World} (hb : Below B W w1) : (∀ b o, b < B → w1.cell? ⟨b, o, none⟩ = W.cell? ⟨b, o, none⟩) ∧ (∀ b o, b < B → w1.frozen? ⟨b, o, none⟩ = W.frozen? ⟨b, o, none⟩) :=
  ⟨fun b o h => hb.cell (p := ⟨b, o, none⟩) h, fun b o h => hb.frozen (p := ⟨b, o, none⟩) h⟩

theorem below_drewN {B : Nat} {a w : World} (h : Below B a w) (n : Nat) : Below B a (w.drewN n) := ⟨h.os, h.tape, h.output, h.size, h.block⟩

/-- A block of cells: what a cell is, what the block is behind a store, a new block, a draw. -/
theorem row_cell {w : World} {B : Nat} {cs : Array Value} {t : TypeId} {i : Nat} {v : Value} (h : w.heap[B]? = some (.cells cs t (0, 0))) (hv : cs[i]? = some v) : w.cell? ⟨B, i, none⟩ = some v := by
  rw [cell_of_row w B i cs t (0, 0) h]; exact hv
theorem row_free {w : World} {B : Nat} {cs : Array Value} {t : TypeId} (h : w.heap[B]? = some (.cells cs t (0, 0))) (i : Nat) : w.frozen? ⟨B, i, none⟩ = false := by
  simp [World.frozen?, h]
theorem row_lt {w : World} {B : Nat} {o : Obj} (h : w.heap[B]? = some o) : B < w.heap.size := lt_of_block h
theorem row_set {w : World} {B : Nat} {cs : Array Value} {t : TypeId} (h : w.heap[B]? = some (.cells cs t (0, 0))) (i : Nat) (v : Value) : (w.setCell ⟨B, i, none⟩ v).heap[B]? = some (.cells (cs.setIfInBounds i v) t (0, 0)) := by
  have hlt := lt_of_block h
  have h' : w.heap[B] = .cells cs t (0, 0) := by simpa [Array.getElem?_eq_getElem hlt] using h
  show (w.heap.modify B _)[B]? = _
  rw [Array.getElem?_eq_getElem (by simpa using hlt), Array.getElem_modify_self, h']
  rfl
theorem row_set_other {w : World} {B C : Nat} {o : Option Obj} (h : w.heap[B]? = o) (hne : B ≠ C) (i : Nat) (v : Value) : (w.setCell ⟨C, i, none⟩ v).heap[B]? = o := by
  rw [Below.heap_setCell _ _ _ _ hne]; exact h
theorem row_alloc {w : World} {B : Nat} {o : Obj} (h : w.heap[B]? = some o) (x : Obj) : (w.alloc x).heap[B]? = some o := by
  rw [Below.heap_alloc _ _ _ (lt_of_block h)]; exact h
theorem row_drew {w : World} {B : Nat} {o : Option Obj} (h : w.heap[B]? = o) : w.drew.heap[B]? = o := h
theorem row_below {N B : Nat} {w w' : World} {o : Option Obj} (h : w.heap[B]? = o) (hb : Below N w w') (hB : B < N) : w'.heap[B]? = o := by rw [hb.block B hB]; exact h

/-- The set S lies in block B. -/
def IsSet (ty : TypeId) (w : World) (B S : Nat) : Prop := w.heap[B]? = some (.cells (sc S) ty (0, 0))

theorem sc_get (S k : Nat) (hk : k < 4) : (sc S)[k]? = some (.int .u64 (word S k)) := by
  have : k = 0 ∨ k = 1 ∨ k = 2 ∨ k = 3 := by omega
  rcases this with rfl | rfl | rfl | rfl <;> rfl

section
variable {ty : TypeId} {w : World} {B S : Nat}
theorem IsSet.cell (h : IsSet ty w B S) (k : Nat) (hk : k < 4) : w.cell? ⟨B, k, none⟩ = some (.int .u64 (word S k)) := row_cell h (sc_get S k hk)
theorem IsSet.free (h : IsSet ty w B S) (k : Nat) : w.frozen? ⟨B, k, none⟩ = false := row_free h k
theorem IsSet.lt (h : IsSet ty w B S) : B < w.heap.size := row_lt h
/-- All that a walk asks of a set in memory. -/
theorem IsSet.all (h : IsSet ty w B S) :
    (w.cell? ⟨B, 0, none⟩ = some (.int .u64 (word S 0)) ∧ w.cell? ⟨B, 1, none⟩ = some (.int .u64 (word S 1)) ∧ w.cell? ⟨B, 2, none⟩ = some (.int .u64 (word S 2)) ∧ w.cell? ⟨B, 3, none⟩ = some (.int .u64 (word S 3))) ∧
    (w.frozen? ⟨B, 0, none⟩ = false ∧ w.frozen? ⟨B, 1, none⟩ = false ∧ w.frozen? ⟨B, 2, none⟩ = false ∧ w.frozen? ⟨B, 3, none⟩ = false) ∧ B < w.heap.size :=
  ⟨⟨h.cell 0 (by decide), h.cell 1 (by decide), h.cell 2 (by decide), h.cell 3 (by decide)⟩, ⟨h.free 0, h.free 1, h.free 2, h.free 3⟩, h.lt⟩
/-- A set is made by its four cells. -/
theorem IsSet.of_words {cs : Array Value} (h : w.heap[B]? = some (.cells cs ty (0, 0))) (hc : cs = sc S) : IsSet ty w B S := by subst hc; exact h
end

theorem sc_set {S T : Nat} (k : Nat) (hk : k < 4) (hs : ∀ j, j < 4 → j ≠ k → word T j = word S j) : (sc S).setIfInBounds k (.int .u64 (word T k)) = sc T := by
  have : k = 0 ∨ k = 1 ∨ k = 2 ∨ k = 3 := by omega
  rcases this with rfl | rfl | rfl | rfl
  · simp [sc, hs 1 (by decide) (by decide), hs 2 (by decide) (by decide), hs 3 (by decide) (by decide)]
  · simp [sc, hs 0 (by decide) (by decide), hs 2 (by decide) (by decide), hs 3 (by decide) (by decide)]
  · simp [sc, hs 0 (by decide) (by decide), hs 1 (by decide) (by decide), hs 3 (by decide) (by decide)]
  · simp [sc, hs 0 (by decide) (by decide), hs 1 (by decide) (by decide), hs 2 (by decide) (by decide)]

theorem IsSet.store4 {ty : TypeId} {w : World} {R T : Nat} (h : IsSet ty w R T) (S : Nat) :
    IsSet ty ((((w.setCell ⟨R, 0, none⟩ (.int .u64 (word S 0))).setCell ⟨R, 1, none⟩ (.int .u64 (word S 1))).setCell ⟨R, 2, none⟩ (.int .u64 (word S 2))).setCell ⟨R, 3, none⟩ (.int .u64 (word S 3))) R S := by
  unfold IsSet
  rw [row_set (row_set (row_set (row_set h _ _) _ _) _ _) _ _]
  simp [sc]
theorem IsSet.alloc {ty : TypeId} {w : World} {B S : Nat} (h : IsSet ty w B S) (x : Obj) : IsSet ty (w.alloc x) B S := row_alloc h x
theorem IsSet.below {ty : TypeId} {w w' : World} {B N S : Nat} (h : IsSet ty w B S) (hb : Below N w w') (hB : B < N) : IsSet ty w' B S := row_below h hb hB
theorem IsSet.grown {ty : TypeId} {w w' : World} {B S : Nat} {row : Option Nat} (h : IsSet ty w B S) (hg : w.grownBy w' row) (hB : some B ≠ row) : IsSet ty w' B S := by
  unfold IsSet; rw [hg.block _ h.lt hB]; exact h
theorem IsSet.set_other {ty : TypeId} {w : World} {B C S : Nat} (h : IsSet ty w B S) (hne : B ≠ C) (i : Nat) (v : Value) : IsSet ty (w.setCell ⟨C, i, none⟩ v) B S := row_set_other h hne i v
theorem IsSet.drew {ty : TypeId} {w : World} {B S : Nat} (h : IsSet ty w B S) : IsSet ty w.drew B S := h
theorem IsSet.drewN {ty : TypeId} {w : World} {B S : Nat} (h : IsSet ty w B S) (n : Nat) : IsSet ty (w.drewN n) B S := h
theorem IsSet.new (ty : TypeId) (w : World) (S : Nat) : IsSet ty (w.alloc (.cells (sc S) ty)) w.heap.size S := heap_alloc_new w _
theorem IsSet.zero (ty : TypeId) (w : World) : IsSet ty (w.alloc (.cells #[.int .u64 0, .int .u64 0, .int .u64 0, .int .u64 0] ty)) w.heap.size 0 := by
  have h := IsSet.new ty w 0
  simpa [sc, word_zero] using h

theorem IsSet.zero2 (ty : TypeId) (w : World) : IsSet ty ((w.alloc (.cells #[.int .u64 0, .int .u64 0, .int .u64 0, .int .u64 0] ty)).alloc (.cells #[.int .u64 0, .int .u64 0, .int .u64 0, .int .u64 0] ty)) (w.heap.size + 1) 0 := by
  have h := IsSet.zero ty (w.alloc (.cells #[.int .u64 0, .int .u64 0, .int .u64 0, .int .u64 0] ty))
  rw [World.size_alloc] at h
  exact h

/-! ### The words' arithmetic, as the walk spells it -/
theorem pow_u64 (b : Nat) (hb : b < 64) : IntKind.u64.wrap ((2 : Int) ^ b) = ((2 ^ b : Nat) : Int) := by
  rw [IntKind.wrap_u64]
  have : (2 : Nat) ^ b < 2 ^ 64 := Nat.pow_lt_pow_right (by decide) hb
  have e : ((2 : Int) ^ b) = ((2 ^ b : Nat) : Int) := by simp
  rw [e]
  exact Int.emod_eq_of_lt (Int.natCast_nonneg _) (Int.ofNat_lt.2 this)
theorem bits_add (S b : Nat) : bits .or .u64 (word S (b / 64)) (IntKind.u64.wrap ((2 : Int) ^ (b % 64))) = (word (add S b) (b / 64) : Nat) := by
  rw [pow_u64 _ (Nat.mod_lt _ (by decide)), bits_or_u64_nat _ _ (word_lt' _ _) (Nat.pow_lt_pow_right (by decide) (Nat.mod_lt _ (by decide)) : 2 ^ (b % 64) < 2 ^ 64), word_add_same]

end Go.Proofs.YtfnaooplpofgiaaGreatDoor
namespace Go.Proofs.YtfnaooplpofgiaaGreatDoor.SN
open Go

theorem and_split (a b r s : Nat) (hr : r < 256) (hs : s < 256) : (256 * a + r) &&& (256 * b + s) = 256 * (a &&& b) + (r &&& s) := by
  have h1 := Nat.and_mod_two_pow (a := 256 * a + r) (b := 256 * b + s) (n := 8)
  have h2 := Nat.and_div_two_pow (a := 256 * a + r) (b := 256 * b + s) (n := 8)
  have e1 : (256 * a + r) % 2 ^ 8 = r := by omega
  have e2 : (256 * b + s) % 2 ^ 8 = s := by omega
  have e3 : (256 * a + r) / 2 ^ 8 = a := by omega
  have e4 : (256 * b + s) / 2 ^ 8 = b := by omega
  rw [e1, e2] at h1
  rw [e3, e4] at h2
  omega

def rep (m : Nat) : Nat → Nat
  | 0 => 0
  | n + 1 => 256 * rep m n + m
theorem rep_succ (m n : Nat) : rep m (n + 1) = 256 * rep m n + m := rfl
def b1 (c : Nat) : Nat := (c / 2 &&& 85) + (c &&& 85)
def b2 (c : Nat) : Nat := (c / 4 &&& 51) + (c &&& 51)
def b3 (c : Nat) : Nat := c / 16 + c % 16
def pcb (c : Nat) : Nat := b3 (b2 (b1 c))
def s1 (n x : Nat) : Nat := (x / 2 &&& rep 85 n) + (x &&& rep 85 n)
def s2 (n x : Nat) : Nat := (x / 4 &&& rep 51 n) + (x &&& rep 51 n)
def s3 (n x : Nat) : Nat := (x / 16 + x) &&& rep 15 n

theorem low1 : ∀ t, t < 2 → ∀ c, c < 256 → (128 * t + c / 2) &&& 85 = c / 2 &&& 85 := by decide +kernel
theorem low2 : ∀ t, t < 4 → ∀ c, c < 256 → (64 * t + c / 4) &&& 51 = c / 4 &&& 51 := by decide +kernel
theorem low3 : ∀ t, t < 5 → ∀ a, a < 5 → ∀ b, b < 5 → (16 * t + a + (16 * a + b)) &&& 15 = a + b := by decide +kernel
theorem byte1 : ∀ c, c < 256 → b1 c < 256 ∧ b2 (b1 c) < 256 ∧ b2 (b1 c) % 16 < 5 ∧ b2 (b1 c) / 16 < 5 ∧ pcb c ≤ 8 ∧ pcb c = ((List.range 8).filter c.testBit).length := by decide +kernel

theorem step1 (n x : Nat) : s1 (n + 1) x = 256 * s1 n (x / 256) + b1 (x % 256) := by
  have e : x = 256 * (x / 256) + x % 256 := by omega
  generalize x / 256 = q at e
  have hc : x % 256 < 256 := Nat.mod_lt _ (by decide)
  generalize x % 256 = c at e hc
  subst e
  unfold s1 b1
  rw [rep_succ]
  have e1 : (256 * q + c) / 2 = 256 * (q / 2) + (128 * (q % 2) + c / 2) := by omega
  rw [e1, and_split _ _ _ _ (by omega) (by omega), and_split _ _ _ _ hc (by omega), low1 _ (Nat.mod_lt _ (by decide)) _ hc]
  omega
theorem step2 (n x : Nat) : s2 (n + 1) x = 256 * s2 n (x / 256) + b2 (x % 256) := by
  have e : x = 256 * (x / 256) + x % 256 := by omega
  generalize x / 256 = q at e
  have hc : x % 256 < 256 := Nat.mod_lt _ (by decide)
  generalize x % 256 = c at e hc
  subst e
  unfold s2 b2
  rw [rep_succ]
  have e1 : (256 * q + c) / 4 = 256 * (q / 4) + (64 * (q % 4) + c / 4) := by omega
  rw [e1, and_split _ _ _ _ (by omega) (by omega), and_split _ _ _ _ hc (by omega), low2 _ (Nat.mod_lt _ (by decide)) _ hc]
  omega
theorem step3 (n x : Nat) (h0 : x % 256 % 16 < 5) (h1 : x % 256 / 16 < 5) (h2 : x / 256 % 16 < 5) : s3 (n + 1) x = 256 * s3 n (x / 256) + b3 (x % 256) := by
  have e : x = 256 * (x / 256) + x % 256 := by omega
  generalize x / 256 = q at e h2
  have hc : x % 256 < 256 := Nat.mod_lt _ (by decide)
  generalize x % 256 = c at e hc h0 h1
  subst e
  unfold s3 b3
  rw [rep_succ]
  have e1 : (256 * q + c) / 16 + (256 * q + c) = 256 * (q / 16 + q) + (16 * (q % 16) + c / 16 + (16 * (c / 16) + c % 16)) := by omega
  rw [e1, and_split _ _ _ _ (by omega) (by omega), low3 _ h2 _ h1 _ h0]

/-- The bytes' counts, a byte each. -/
def F : Nat → Nat → Nat
  | 0, _ => 0
  | n + 1, x => 256 * F n (x / 256) + pcb (x % 256)
theorem s1_zero (n : Nat) : s1 n 0 = 0 := by unfold s1; simp
theorem s12_zero (n : Nat) : s2 n 0 = 0 := by unfold s2; simp
theorem s3_zero (n : Nat) : s3 n 0 = 0 := by unfold s3; simp
theorem s1_split (n x : Nat) : s1 (n + 1) x / 256 = s1 n (x / 256) ∧ s1 (n + 1) x % 256 = b1 (x % 256) := by
  have h := (byte1 (x % 256) (Nat.mod_lt _ (by decide))).1
  rw [step1]; omega
theorem s2_split (n x : Nat) : s2 (n + 1) (s1 (n + 1) x) / 256 = s2 n (s1 n (x / 256)) ∧ s2 (n + 1) (s1 (n + 1) x) % 256 = b2 (b1 (x % 256)) := by
  have h := (byte1 (x % 256) (Nat.mod_lt _ (by decide))).2.1
  rw [step2, (s1_split n x).1, (s1_split n x).2]; omega
theorem three : ∀ n x, x < 256 ^ n → s3 n (s2 n (s1 n x)) = F n x
  | 0, x, _ => by simp [s3, rep, F]
  | n + 1, x, h => by
    have hq : x / 256 < 256 ^ n := by rw [Nat.pow_succ] at h; omega
    have hb := byte1 (x % 256) (Nat.mod_lt _ (by decide))
    have s := s2_split n x
    have hnext : s2 n (s1 n (x / 256)) % 16 < 5 := by
      cases n with
      | zero => simp [s2, s1, rep]
      | succ m =>
        have s' := s2_split m (x / 256)
        have hb' := byte1 (x / 256 % 256) (Nat.mod_lt _ (by decide))
        have := hb'.2.2.1
        omega
    rw [step3 n _ (by rw [s.2]; exact hb.2.2.1) (by rw [s.2]; exact hb.2.2.2.1) (by rw [s.1]; exact hnext), s.1, s.2, three n _ hq]
    rfl

def cntN (n x : Nat) : Nat := ((List.range n).filter x.testBit).length
theorem cntN_byte (n x : Nat) : cntN (8 + n) x = pcb (x % 256) + cntN n (x / 256) := by
  unfold cntN
  rw [List.range_add, List.filter_append, List.length_append, (byte1 (x % 256) (Nat.mod_lt _ (by decide))).2.2.2.2.2, List.filter_map, List.length_map]
  congr 1
  · congr 1
    apply List.filter_congr
    intro i hi
    have hi' : i < 8 := by simpa using hi
    rw [show (256 : Nat) = 2 ^ 8 by decide, Nat.testBit_mod_two_pow]
    simp [hi']
  · congr 1
    apply List.filter_congr
    intro i _
    simp only [Function.comp]
    rw [show (256 : Nat) = 2 ^ 8 by decide, Nat.testBit_div_two_pow, Nat.add_comm]
theorem F_le (n x : Nat) : F (n + 1) x = 256 * F n (x / 256) + pcb (x % 256) := rfl

/-- What the last three steps leave, below 128. -/
def fold3 (y : Nat) : Nat := (y + y / 256 + (y + y / 256) / 65536 + (y + y / 256 + (y + y / 256) / 65536) / 4294967296) % 128
theorem fold_sum (p0 p1 p2 p3 p4 p5 p6 p7 : Nat) (h0 : p0 ≤ 8) (h1 : p1 ≤ 8) (h2 : p2 ≤ 8) (h3 : p3 ≤ 8) (h4 : p4 ≤ 8) (h5 : p5 ≤ 8) (h6 : p6 ≤ 8) (h7 : p7 ≤ 8) :
    fold3 (256 * (256 * (256 * (256 * (256 * (256 * (256 * (256 * 0 + p7) + p6) + p5) + p4) + p3) + p2) + p1) + p0) = p0 + (p1 + (p2 + (p3 + (p4 + (p5 + (p6 + (p7 + 0))))))) := by
  obtain ⟨H7, k7⟩ : ∃ H, H = 256 * 0 + p7 := ⟨_, rfl⟩
  obtain ⟨H6, k6⟩ : ∃ H, H = 256 * H7 + p6 := ⟨_, rfl⟩
  obtain ⟨H5, k5⟩ : ∃ H, H = 256 * H6 + p5 := ⟨_, rfl⟩
  obtain ⟨H4, k4⟩ : ∃ H, H = 256 * H5 + p4 := ⟨_, rfl⟩
  obtain ⟨H3, k3⟩ : ∃ H, H = 256 * H4 + p3 := ⟨_, rfl⟩
  obtain ⟨H2, k2⟩ : ∃ H, H = 256 * H3 + p2 := ⟨_, rfl⟩
  obtain ⟨H1, k1⟩ : ∃ H, H = 256 * H2 + p1 := ⟨_, rfl⟩
  obtain ⟨H0, k0⟩ : ∃ H, H = 256 * H1 + p0 := ⟨_, rfl⟩
  rw [← k7, ← k6, ← k5, ← k4, ← k3, ← k2, ← k1, ← k0]
  have d0 : H0 / 256 = H1 := by omega
  have d1 : (H0 + H1) / 65536 = H2 + H3 := by omega
  have d2 : (H0 + H1 + (H2 + H3)) / 4294967296 = H4 + H5 + (H6 + H7) := by clear d0 d1; omega
  unfold fold3
  rw [d0, d1, d2]
  clear d0 d1 d2
  omega
theorem F8 (x : Nat) : F 8 x = 256 * (256 * (256 * (256 * (256 * (256 * (256 * (256 * 0 + pcb (x / 256 / 256 / 256 / 256 / 256 / 256 / 256 % 256)) + pcb (x / 256 / 256 / 256 / 256 / 256 / 256 % 256)) + pcb (x / 256 / 256 / 256 / 256 / 256 % 256)) + pcb (x / 256 / 256 / 256 / 256 % 256)) + pcb (x / 256 / 256 / 256 % 256)) + pcb (x / 256 / 256 % 256)) + pcb (x / 256 % 256)) + pcb (x % 256) := rfl
theorem pcb_le (x : Nat) : pcb (x % 256) ≤ 8 := (byte1 (x % 256) (Nat.mod_lt _ (by decide))).2.2.2.2.1
theorem count64 (x : Nat) (hx : x < 2 ^ 64) : fold3 (s3 8 (s2 8 (s1 8 x))) = cntW x := by
  rw [three 8 x (by rw [show (256 : Nat) ^ 8 = 2 ^ 64 by decide]; exact hx), F8, fold_sum _ _ _ _ _ _ _ _ (pcb_le _) (pcb_le _) (pcb_le _) (pcb_le _) (pcb_le _) (pcb_le _) (pcb_le _) (pcb_le _)]
  have e : ∀ y, cntN 64 y = pcb (y % 256) + cntN 56 (y / 256) := fun y => cntN_byte 56 y
  have e1 : ∀ y, cntN 56 y = pcb (y % 256) + cntN 48 (y / 256) := fun y => cntN_byte 48 y
  have e2 : ∀ y, cntN 48 y = pcb (y % 256) + cntN 40 (y / 256) := fun y => cntN_byte 40 y
  have e3 : ∀ y, cntN 40 y = pcb (y % 256) + cntN 32 (y / 256) := fun y => cntN_byte 32 y
  have e4 : ∀ y, cntN 32 y = pcb (y % 256) + cntN 24 (y / 256) := fun y => cntN_byte 24 y
  have e5 : ∀ y, cntN 24 y = pcb (y % 256) + cntN 16 (y / 256) := fun y => cntN_byte 16 y
  have e6 : ∀ y, cntN 16 y = pcb (y % 256) + cntN 8 (y / 256) := fun y => cntN_byte 8 y
  have e7 : ∀ y, cntN 8 y = pcb (y % 256) + cntN 0 (y / 256) := fun y => cntN_byte 0 y
  show _ = cntN 64 x
  rw [e, e1, e2, e3, e4, e5, e6, e7]
  rfl
theorem s3_lt (x : Nat) : s3 8 x < 1085102592571150096 := by
  unfold s3
  have := Nat.and_le_right (n := x / 16 + x) (m := rep 15 8)
  have e : rep 15 8 = 1085102592571150095 := by decide
  omega
theorem s1_lt (x : Nat) : s1 8 x < 18446744073709551616 := by
  unfold s1
  have h1 := Nat.and_le_right (n := x / 2) (m := rep 85 8)
  have h2 := Nat.and_le_right (n := x) (m := rep 85 8)
  have e : rep 85 8 = 6148914691236517205 := by decide
  omega
theorem s2_lt (x : Nat) : s2 8 x < 7378697629483820647 := by
  unfold s2
  have h1 := Nat.and_le_right (n := x / 4) (m := rep 51 8)
  have h2 := Nat.and_le_right (n := x) (m := rep 51 8)
  have e : rep 51 8 = 3689348814741910323 := by decide
  omega

/-! ### A set's members, word by word -/
theorem cntN_word (S k : Nat) : cntN 64 (word S k) = ((List.range 64).filter fun i => S.testBit (64 * k + i)).length := by
  unfold cntN
  congr 1
  apply List.filter_congr
  intro i hi
  have hi' : i < 64 := by simpa using hi
  rw [testBit_word]; simp [hi']
theorem cnt_words (S : Nat) : cnt S = cntW (word S 0) + cntW (word S 1) + cntW (word S 2) + cntW (word S 3) := by
  have e : ∀ k, cntW (word S k) = ((List.range 64).filter fun i => S.testBit (64 * k + i)).length := fun k => cntN_word S k
  rw [e, e, e, e]
  unfold cnt mem
  have r : List.range 256 = List.range 64 ++ (List.range 64).map (64 + ·) ++ (List.range 64).map (128 + ·) ++ (List.range 64).map (192 + ·) := by decide +kernel
  rw [r]
  simp only [List.filter_append, List.length_append, List.filter_map, List.length_map, Function.comp_def, Nat.mul_zero, Nat.zero_add, Nat.mul_one]
theorem cntW_le (x : Nat) : cntW x ≤ 64 := by
  unfold cntW
  have := List.length_filter_le x.testBit (List.range 64)
  simpa using this
theorem mem_lt {S b : Nat} (h : b ∈ mem S) : b < 256 := by
  unfold mem at h
  have := (List.mem_filter.1 h).1
  simpa using this
theorem cnt_le (S : Nat) : cnt S ≤ 256 := by
  unfold cnt mem
  have := List.length_filter_le S.testBit (List.range 256)
  simpa using this

end Go.Proofs.YtfnaooplpofgiaaGreatDoor.SN
