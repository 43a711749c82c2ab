/- A plain law on sets of bytes, each kept as one natural number below 2 to the 256th: its words, its members, its count. No program in sight, no conditions. -/
import Derived.WalkKit
namespace Go.Proofs.YteeopjgfiojoiaaDoor.SN
open Go

/-- Word k of a set. -/
def word (S k : Nat) : Nat := S / 2 ^ (64 * k) % 2 ^ 64
/-- All 256 bytes. -/
def full : Nat := 2 ^ 256 - 1
def add (S b : Nat) : Nat := S ||| 2 ^ b
def cmpl (S : Nat) : Nat := full ^^^ S
def Ok (S : Nat) : Prop := S < 2 ^ 256

theorem word_lt (S k : Nat) : word S k < 2 ^ 64 := Nat.mod_lt _ (Nat.two_pow_pos _)
theorem word_lt' (S k : Nat) : word S k < 18446744073709551616 := word_lt S k
theorem testBit_word (S k i : Nat) : (word S k).testBit i = (decide (i < 64) && S.testBit (64 * k + i)) := by
  unfold word
  rw [Nat.testBit_mod_two_pow, Nat.testBit_div_two_pow, Nat.add_comm]
theorem big {S : Nat} (h : Ok S) {b : Nat} (hb : ¬ b < 256) : S.testBit b = false :=
  Nat.testBit_lt_two_pow (Nat.lt_of_lt_of_le h (Nat.pow_le_pow_right (by decide) (by omega)))
theorem set_ext {S T : Nat} (hS : Ok S) (hT : Ok T) (h : ∀ b, b < 256 → S.testBit b = T.testBit b) : S = T :=
  Nat.eq_of_testBit_eq fun b => by
    by_cases hb : b < 256
    · exact h b hb
    · rw [big hS hb, big hT hb]
theorem word_ext {S T : Nat} (hS : Ok S) (hT : Ok T) (h : ∀ k, k < 4 → word S k = word T k) : S = T :=
  set_ext hS hT fun b hb => by
    have e := congrArg (fun x => x.testBit (b % 64)) (h (b / 64) (by omega))
    simp only [testBit_word] at e
    have e1 : 64 * (b / 64) + b % 64 = b := by omega
    have e2 : b % 64 < 64 := by omega
    rw [e1] at e
    simpa [e2] using e
theorem word_zero (k : Nat) : word 0 k = 0 := by simp [word]
theorem ok_zero : Ok 0 := by unfold Ok; exact Nat.two_pow_pos _
theorem ok_full : Ok full := by unfold Ok full; have := Nat.two_pow_pos 256; omega

/-- Four words make a set. -/
def mk4 (a b c d : Nat) : Nat := a + 18446744073709551616 * (b + 18446744073709551616 * (c + 18446744073709551616 * d))
theorem mk4_ok {a b c d : Nat} (ha : a < 18446744073709551616) (hb : b < 18446744073709551616) (hc : c < 18446744073709551616) (hd : d < 18446744073709551616) : Ok (mk4 a b c d) := by
  unfold Ok mk4
  show _ < 115792089237316195423570985008687907853269984665640564039457584007913129639936
  omega
theorem word_mk4 {a b c d : Nat} (ha : a < 18446744073709551616) (hb : b < 18446744073709551616) (hc : c < 18446744073709551616) (hd : d < 18446744073709551616) :
    word (mk4 a b c d) 0 = a ∧ word (mk4 a b c d) 1 = b ∧ word (mk4 a b c d) 2 = c ∧ word (mk4 a b c d) 3 = d := by
  have e1 : (18446744073709551616 : Nat) = 2 ^ 64 := by decide
  have s1 : mk4 a b c d / 18446744073709551616 = b + 18446744073709551616 * (c + 18446744073709551616 * d) := by unfold mk4; omega
  have s2 : mk4 a b c d / 18446744073709551616 / 18446744073709551616 = c + 18446744073709551616 * d := by rw [s1]; omega
  have s3 : mk4 a b c d / 18446744073709551616 / 18446744073709551616 / 18446744073709551616 = d := by rw [s2]; omega
  have w1 : ∀ S, word S 1 = S / 18446744073709551616 % 18446744073709551616 := fun S => rfl
  have w2 : ∀ S, word S 2 = S / 18446744073709551616 / 18446744073709551616 % 18446744073709551616 := fun S => by rw [Nat.div_div_eq_div_mul]; rfl
  have w3 : ∀ S, word S 3 = S / 18446744073709551616 / 18446744073709551616 / 18446744073709551616 % 18446744073709551616 := fun S => by rw [Nat.div_div_eq_div_mul, Nat.div_div_eq_div_mul]; rfl
  refine ⟨?_, ?_, ?_, ?_⟩
  · show mk4 a b c d / 1 % 18446744073709551616 = a
    unfold mk4; omega
  · rw [w1, s1]; omega
  · rw [w2, s2]; omega
  · rw [w3, s3]; omega

theorem ok_or {S T : Nat} (hS : Ok S) (hT : Ok T) : Ok (S ||| T) := Nat.or_lt_two_pow hS hT
theorem ok_pow {b : Nat} (hb : b < 256) : Ok (2 ^ b) := Nat.pow_lt_pow_right (by decide) hb
theorem ok_add {S b : Nat} (hS : Ok S) (hb : b < 256) : Ok (add S b) := ok_or hS (ok_pow hb)
theorem ok_cmpl {S : Nat} (hS : Ok S) : Ok (cmpl S) := Nat.xor_lt_two_pow ok_full hS
theorem testBit_full (b : Nat) : full.testBit b = decide (b < 256) := by unfold full; exact Nat.testBit_two_pow_sub_one 256 b
theorem testBit_add (S b c : Nat) : (add S b).testBit c = (S.testBit c || decide (b = c)) := by
  unfold add; rw [Nat.testBit_or, Nat.testBit_two_pow]
theorem testBit_cmpl (S b : Nat) (hb : b < 256) : (cmpl S).testBit b = !S.testBit b := by
  unfold cmpl; rw [Nat.testBit_xor, testBit_full]; simp [hb]
theorem testBit_or (S T b : Nat) : (S ||| T).testBit b = (S.testBit b || T.testBit b) := Nat.testBit_or ..

theorem word_or (S T k : Nat) : word (S ||| T) k = word S k ||| word T k :=
  Nat.eq_of_testBit_eq fun i => by
    rw [Nat.testBit_or, testBit_word, testBit_word, testBit_word, Nat.testBit_or]
    cases decide (i < 64) <;> simp
theorem word_add_same (S b : Nat) : word (add S b) (b / 64) = word S (b / 64) ||| 2 ^ (b % 64) :=
  Nat.eq_of_testBit_eq fun i => by
    rw [Nat.testBit_or, testBit_word, testBit_word, testBit_add, Nat.testBit_two_pow]
    by_cases hi : i < 64
    · have e : (b = 64 * (b / 64) + i) = (b % 64 = i) := by rw [eq_iff_iff]; omega
      simp [hi, e]
    · have e : ¬ b % 64 = i := by omega
      simp [hi, e]
theorem word_add_other (S b k : Nat) (h : b / 64 ≠ k) : word (add S b) k = word S k :=
  Nat.eq_of_testBit_eq fun i => by
    rw [testBit_word, testBit_word, testBit_add]
    by_cases hi : i < 64
    · have e : ¬ b = 64 * k + i := by omega
      simp [e]
    · simp [hi]
theorem word_cmpl (S k : Nat) (hk : k < 4) : word (cmpl S) k = 18446744073709551615 ^^^ word S k :=
  Nat.eq_of_testBit_eq fun i => by
    rw [Nat.testBit_xor, testBit_word, testBit_word, show (18446744073709551615 : Nat) = 2 ^ 64 - 1 by decide, Nat.testBit_two_pow_sub_one]
    by_cases hi : i < 64
    · have := testBit_cmpl S (64 * k + i) (by omega)
      simp [hi, this]
    · simp [hi]

/-- The set of what a test picks. -/
def pick (p : Nat → Bool) : Nat → Nat
  | 0 => 0
  | n + 1 => if p n then add (pick p n) n else pick p n
def ofP (p : Nat → Bool) : Nat := pick p 256
theorem testBit_pick (p : Nat → Bool) (b : Nat) : ∀ n, (pick p n).testBit b = (decide (b < n) && p b)
  | 0 => by simp [pick]
  | n + 1 => by
    unfold pick
    by_cases hp : p n = true
    · rw [if_pos hp, testBit_add, testBit_pick p b n]
      by_cases hb : n = b
      · subst hb; simp [hp]
      · by_cases h2 : b < n
        · have : b < n + 1 := by omega
          simp [h2, this, hb]
        · have : ¬ b < n + 1 := by omega
          simp [h2, this, hb]
    · rw [if_neg hp, testBit_pick p b n]
      by_cases hb : n = b
      · subst hb; simp [hp]
      · by_cases h2 : b < n
        · have : b < n + 1 := by omega
          simp [h2, this]
        · have : ¬ b < n + 1 := by omega
          simp [h2, this]
theorem ok_pick (p : Nat → Bool) : ∀ n, n ≤ 256 → Ok (pick p n)
  | 0, _ => ok_zero
  | n + 1, h => by
    unfold pick
    split
    · exact ok_add (ok_pick p n (by omega)) (by omega)
    · exact ok_pick p n (by omega)
theorem ok_ofP (p : Nat → Bool) : Ok (ofP p) := ok_pick p 256 (Nat.le_refl _)
theorem testBit_ofP (p : Nat → Bool) (b : Nat) (hb : b < 256) : (ofP p).testBit b = p b := by
  unfold ofP; rw [testBit_pick]; simp [hb]
theorem ofP_testBit {S : Nat} (h : Ok S) : ofP S.testBit = S := set_ext (ok_ofP _) h fun b hb => testBit_ofP _ b hb

/-- The bytes of a set, rising; how many. -/
def mem (S : Nat) : List Nat := (List.range 256).filter S.testBit
def cnt (S : Nat) : Nat := (mem S).length
def cntW (x : Nat) : Nat := ((List.range 64).filter x.testBit).length

/-- The value of a set. -/
def sv (S : Nat) : Value := .agg #[.int .u64 (word S 0), .int .u64 (word S 1), .int .u64 (word S 2), .int .u64 (word S 3)]
def sc (S : Nat) : Array Value := #[.int .u64 (word S 0), .int .u64 (word S 1), .int .u64 (word S 2), .int .u64 (word S 3)]

end Go.Proofs.YteeopjgfiojoiaaDoor.SN
