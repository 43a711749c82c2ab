/- A plain law: how many bits a word of 64 bits has, as math/bits counts them; how many members a set has. No program in sight, no conditions. -/
import Derived.Test.YteeopjgfiojoiaaDoorSetNat
namespace Go.Proofs.YteeopjgfiojoiaaDoor.SN
open Go

theorem and_split (a b r s : Nat) (hr : r < 256) (hs : s < 256) : (256 * a + r) &&& (256 * b + s) = 256 * (a &&& b) + (r &&& s) := by
  have h1 := Nat.and_mod_two_pow (a := 256 * a + r) (b := 256 * b + s) (n := 8)
  have h2 := Nat.and_div_two_pow (a := 256 * a + r) (b := 256 * b + s) (n := 8)
  have e1 : (256 * a + r) % 2 ^ 8 = r := by omega
  have e2 : (256 * b + s) % 2 ^ 8 = s := by omega
  have e3 : (256 * a + r) / 2 ^ 8 = a := by omega
  have e4 : (256 * b + s) / 2 ^ 8 = b := by omega
  rw [e1, e2] at h1
  rw [e3, e4] at h2
  omega

def rep (m : Nat) : Nat → Nat
  | 0 => 0
  | n + 1 => 256 * rep m n + m
theorem rep_succ (m n : Nat) : rep m (n + 1) = 256 * rep m n + m := rfl
def b1 (c : Nat) : Nat := (c / 2 &&& 85) + (c &&& 85)
def b2 (c : Nat) : Nat := (c / 4 &&& 51) + (c &&& 51)
def b3 (c : Nat) : Nat := c / 16 + c % 16
def pcb (c : Nat) : Nat := b3 (b2 (b1 c))
def s1 (n x : Nat) : Nat := (x / 2 &&& rep 85 n) + (x &&& rep 85 n)
def s2 (n x : Nat) : Nat := (x / 4 &&& rep 51 n) + (x &&& rep 51 n)
def s3 (n x : Nat) : Nat := (x / 16 + x) &&& rep 15 n

theorem low1 : ∀ t, t < 2 → ∀ c, c < 256 → (128 * t + c / 2) &&& 85 = c / 2 &&& 85 := by decide +kernel
theorem low2 : ∀ t, t < 4 → ∀ c, c < 256 → (64 * t + c / 4) &&& 51 = c / 4 &&& 51 := by decide +kernel
theorem low3 : ∀ t, t < 5 → ∀ a, a < 5 → ∀ b, b < 5 → (16 * t + a + (16 * a + b)) &&& 15 = a + b := by decide +kernel
theorem byte1 : ∀ c, c < 256 → b1 c < 256 ∧ b2 (b1 c) < 256 ∧ b2 (b1 c) % 16 < 5 ∧ b2 (b1 c) / 16 < 5 ∧ pcb c ≤ 8 ∧ pcb c = ((List.range 8).filter c.testBit).length := by decide +kernel

theorem step1 (n x : Nat) : s1 (n + 1) x = 256 * s1 n (x / 256) + b1 (x % 256) := by
  have e : x = 256 * (x / 256) + x % 256 := by omega
  generalize x / 256 = q at e
  have hc : x % 256 < 256 := Nat.mod_lt _ (by decide)
  generalize x % 256 = c at e hc
  subst e
  unfold s1 b1
  rw [rep_succ]
  have e1 : (256 * q + c) / 2 = 256 * (q / 2) + (128 * (q % 2) + c / 2) := by omega
  rw [e1, and_split _ _ _ _ (by omega) (by omega), and_split _ _ _ _ hc (by omega), low1 _ (Nat.mod_lt _ (by decide)) _ hc]
  omega
theorem step2 (n x : Nat) : s2 (n + 1) x = 256 * s2 n (x / 256) + b2 (x % 256) := by
  have e : x = 256 * (x / 256) + x % 256 := by omega
  generalize x / 256 = q at e
  have hc : x % 256 < 256 := Nat.mod_lt _ (by decide)
  generalize x % 256 = c at e hc
  subst e
  unfold s2 b2
  rw [rep_succ]
  have e1 : (256 * q + c) / 4 = 256 * (q / 4) + (64 * (q % 4) + c / 4) := by omega
  rw [e1, and_split _ _ _ _ (by omega) (by omega), and_split _ _ _ _ hc (by omega), low2 _ (Nat.mod_lt _ (by decide)) _ hc]
  omega
theorem step3 (n x : Nat) (h0 : x % 256 % 16 < 5) (h1 : x % 256 / 16 < 5) (h2 : x / 256 % 16 < 5) : s3 (n + 1) x = 256 * s3 n (x / 256) + b3 (x % 256) := by
  have e : x = 256 * (x / 256) + x % 256 := by omega
  generalize x / 256 = q at e h2
  have hc : x % 256 < 256 := Nat.mod_lt _ (by decide)
  generalize x % 256 = c at e hc h0 h1
  subst e
  unfold s3 b3
  rw [rep_succ]
  have e1 : (256 * q + c) / 16 + (256 * q + c) = 256 * (q / 16 + q) + (16 * (q % 16) + c / 16 + (16 * (c / 16) + c % 16)) := by omega
  rw [e1, and_split _ _ _ _ (by omega) (by omega), low3 _ h2 _ h1 _ h0]

/-- The bytes' counts, a byte each. -/
def F : Nat → Nat → Nat
  | 0, _ => 0
  | n + 1, x => 256 * F n (x / 256) + pcb (x % 256)
theorem s1_zero (n : Nat) : s1 n 0 = 0 := by unfold s1; simp
theorem s12_zero (n : Nat) : s2 n 0 = 0 := by unfold s2; simp
theorem s3_zero (n : Nat) : s3 n 0 = 0 := by unfold s3; simp
theorem s1_split (n x : Nat) : s1 (n + 1) x / 256 = s1 n (x / 256) ∧ s1 (n + 1) x % 256 = b1 (x % 256) := by
  have h := (byte1 (x % 256) (Nat.mod_lt _ (by decide))).1
  rw [step1]; omega
theorem s2_split (n x : Nat) : s2 (n + 1) (s1 (n + 1) x) / 256 = s2 n (s1 n (x / 256)) ∧ s2 (n + 1) (s1 (n + 1) x) % 256 = b2 (b1 (x % 256)) := by
  have h := (byte1 (x % 256) (Nat.mod_lt _ (by decide))).2.1
  rw [step2, (s1_split n x).1, (s1_split n x).2]; omega
theorem three : ∀ n x, x < 256 ^ n → s3 n (s2 n (s1 n x)) = F n x
  | 0, x, _ => by simp [s3, rep, F]
  | n + 1, x, h => by
    have hq : x / 256 < 256 ^ n := by rw [Nat.pow_succ] at h; omega
    have hb := byte1 (x % 256) (Nat.mod_lt _ (by decide))
    have s := s2_split n x
    have hnext : s2 n (s1 n (x / 256)) % 16 < 5 := by
      cases n with
      | zero => simp [s2, s1, rep]
      | succ m =>
        have s' := s2_split m (x / 256)
        have hb' := byte1 (x / 256 % 256) (Nat.mod_lt _ (by decide))
        have := hb'.2.2.1
        omega
    rw [step3 n _ (by rw [s.2]; exact hb.2.2.1) (by rw [s.2]; exact hb.2.2.2.1) (by rw [s.1]; exact hnext), s.1, s.2, three n _ hq]
    rfl

def cntN (n x : Nat) : Nat := ((List.range n).filter x.testBit).length
theorem cntN_byte (n x : Nat) : cntN (8 + n) x = pcb (x % 256) + cntN n (x / 256) := by
  unfold cntN
  rw [List.range_add, List.filter_append, List.length_append, (byte1 (x % 256) (Nat.mod_lt _ (by decide))).2.2.2.2.2, List.filter_map, List.length_map]
  congr 1
  · congr 1
    apply List.filter_congr
    intro i hi
    have hi' : i < 8 := by simpa using hi
    rw [show (256 : Nat) = 2 ^ 8 by decide, Nat.testBit_mod_two_pow]
    simp [hi']
  · congr 1
    apply List.filter_congr
    intro i _
    simp only [Function.comp]
    rw [show (256 : Nat) = 2 ^ 8 by decide, Nat.testBit_div_two_pow, Nat.add_comm]
theorem F_le (n x : Nat) : F (n + 1) x = 256 * F n (x / 256) + pcb (x % 256) := rfl

/-- What the last three steps leave, below 128. -/
def fold3 (y : Nat) : Nat := (y + y / 256 + (y + y / 256) / 65536 + (y + y / 256 + (y + y / 256) / 65536) / 4294967296) % 128
theorem fold_sum (p0 p1 p2 p3 p4 p5 p6 p7 : Nat) (h0 : p0 ≤ 8) (h1 : p1 ≤ 8) (h2 : p2 ≤ 8) (h3 : p3 ≤ 8) (h4 : p4 ≤ 8) (h5 : p5 ≤ 8) (h6 : p6 ≤ 8) (h7 : p7 ≤ 8) :
    fold3 (256 * (256 * (256 * (256 * (256 * (256 * (256 * (256 * 0 + p7) + p6) + p5) + p4) + p3) + p2) + p1) + p0) = p0 + (p1 + (p2 + (p3 + (p4 + (p5 + (p6 + (p7 + 0))))))) := by
  obtain ⟨H7, k7⟩ : ∃ H, H = 256 * 0 + p7 := ⟨_, rfl⟩
  obtain ⟨H6, k6⟩ : ∃ H, H = 256 * H7 + p6 := ⟨_, rfl⟩
  obtain ⟨H5, k5⟩ : ∃ H, H = 256 * H6 + p5 := ⟨_, rfl⟩
  obtain ⟨H4, k4⟩ : ∃ H, H = 256 * H5 + p4 := ⟨_, rfl⟩
  obtain ⟨H3, k3⟩ : ∃ H, H = 256 * H4 + p3 := ⟨_, rfl⟩
  obtain ⟨H2, k2⟩ : ∃ H, H = 256 * H3 + p2 := ⟨_, rfl⟩
  obtain ⟨H1, k1⟩ : ∃ H, H = 256 * H2 + p1 := ⟨_, rfl⟩
  obtain ⟨H0, k0⟩ : ∃ H, H = 256 * H1 + p0 := ⟨_, rfl⟩
  rw [← k7, ← k6, ← k5, ← k4, ← k3, ← k2, ← k1, ← k0]
  have d0 : H0 / 256 = H1 := by omega
  have d1 : (H0 + H1) / 65536 = H2 + H3 := by omega
  have d2 : (H0 + H1 + (H2 + H3)) / 4294967296 = H4 + H5 + (H6 + H7) := by clear d0 d1; omega
  unfold fold3
  rw [d0, d1, d2]
  clear d0 d1 d2
  omega
theorem F8 (x : Nat) : F 8 x = 256 * (256 * (256 * (256 * (256 * (256 * (256 * (256 * 0 + pcb (x / 256 / 256 / 256 / 256 / 256 / 256 / 256 % 256)) + pcb (x / 256 / 256 / 256 / 256 / 256 / 256 % 256)) + pcb (x / 256 / 256 / 256 / 256 / 256 % 256)) + pcb (x / 256 / 256 / 256 / 256 % 256)) + pcb (x / 256 / 256 / 256 % 256)) + pcb (x / 256 / 256 % 256)) + pcb (x / 256 % 256)) + pcb (x % 256) := rfl
theorem pcb_le (x : Nat) : pcb (x % 256) ≤ 8 := (byte1 (x % 256) (Nat.mod_lt _ (by decide))).2.2.2.2.1
theorem count64 (x : Nat) (hx : x < 2 ^ 64) : fold3 (s3 8 (s2 8 (s1 8 x))) = cntW x := by
  rw [three 8 x (by rw [show (256 : Nat) ^ 8 = 2 ^ 64 by decide]; exact hx), F8, fold_sum _ _ _ _ _ _ _ _ (pcb_le _) (pcb_le _) (pcb_le _) (pcb_le _) (pcb_le _) (pcb_le _) (pcb_le _) (pcb_le _)]
  have e : ∀ y, cntN 64 y = pcb (y % 256) + cntN 56 (y / 256) := fun y => cntN_byte 56 y
  have e1 : ∀ y, cntN 56 y = pcb (y % 256) + cntN 48 (y / 256) := fun y => cntN_byte 48 y
  have e2 : ∀ y, cntN 48 y = pcb (y % 256) + cntN 40 (y / 256) := fun y => cntN_byte 40 y
  have e3 : ∀ y, cntN 40 y = pcb (y % 256) + cntN 32 (y / 256) := fun y => cntN_byte 32 y
  have e4 : ∀ y, cntN 32 y = pcb (y % 256) + cntN 24 (y / 256) := fun y => cntN_byte 24 y
  have e5 : ∀ y, cntN 24 y = pcb (y % 256) + cntN 16 (y / 256) := fun y => cntN_byte 16 y
  have e6 : ∀ y, cntN 16 y = pcb (y % 256) + cntN 8 (y / 256) := fun y => cntN_byte 8 y
  have e7 : ∀ y, cntN 8 y = pcb (y % 256) + cntN 0 (y / 256) := fun y => cntN_byte 0 y
  show _ = cntN 64 x
  rw [e, e1, e2, e3, e4, e5, e6, e7]
  rfl
theorem s3_lt (x : Nat) : s3 8 x < 1085102592571150096 := by
  unfold s3
  have := Nat.and_le_right (n := x / 16 + x) (m := rep 15 8)
  have e : rep 15 8 = 1085102592571150095 := by decide
  omega
theorem s1_lt (x : Nat) : s1 8 x < 18446744073709551616 := by
  unfold s1
  have h1 := Nat.and_le_right (n := x / 2) (m := rep 85 8)
  have h2 := Nat.and_le_right (n := x) (m := rep 85 8)
  have e : rep 85 8 = 6148914691236517205 := by decide
  omega
theorem s2_lt (x : Nat) : s2 8 x < 7378697629483820647 := by
  unfold s2
  have h1 := Nat.and_le_right (n := x / 4) (m := rep 51 8)
  have h2 := Nat.and_le_right (n := x) (m := rep 51 8)
  have e : rep 51 8 = 3689348814741910323 := by decide
  omega

/-! ### A set's members, word by word -/
theorem cntN_word (S k : Nat) : cntN 64 (word S k) = ((List.range 64).filter fun i => S.testBit (64 * k + i)).length := by
  unfold cntN
  congr 1
  apply List.filter_congr
  intro i hi
  have hi' : i < 64 := by simpa using hi
  rw [testBit_word]; simp [hi']
theorem cnt_words (S : Nat) : cnt S = cntW (word S 0) + cntW (word S 1) + cntW (word S 2) + cntW (word S 3) := by
  have e : ∀ k, cntW (word S k) = ((List.range 64).filter fun i => S.testBit (64 * k + i)).length := fun k => cntN_word S k
  rw [e, e, e, e]
  unfold cnt mem
  have r : List.range 256 = List.range 64 ++ (List.range 64).map (64 + ·) ++ (List.range 64).map (128 + ·) ++ (List.range 64).map (192 + ·) := by decide +kernel
  rw [r]
  simp only [List.filter_append, List.length_append, List.filter_map, List.length_map, Function.comp_def, Nat.mul_zero, Nat.zero_add, Nat.mul_one]
theorem cntW_le (x : Nat) : cntW x ≤ 64 := by
  unfold cntW
  have := List.length_filter_le x.testBit (List.range 64)
  simpa using this
theorem mem_lt {S b : Nat} (h : b ∈ mem S) : b < 256 := by
  unfold mem at h
  have := (List.mem_filter.1 h).1
  simpa using this
theorem cnt_le (S : Nat) : cnt S ≤ 256 := by
  unfold cnt mem
  have := List.length_filter_le S.testBit (List.range 256)
  simpa using this

end Go.Proofs.YteeopjgfiojoiaaDoor.SN
