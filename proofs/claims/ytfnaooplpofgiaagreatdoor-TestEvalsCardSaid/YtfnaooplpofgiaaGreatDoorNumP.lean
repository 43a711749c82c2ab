/- Numbers as texts write them: what test reads, what scan.Text prints (plain lists, no program). No conditions. -/
import Derived.Lib.SlTrimSet
import Derived.Lib.Strings
namespace Go.Proofs.YtfnaooplpofgiaaGreatDoor

/-- The number that digits write behind n, no greater than lim. -/
def numF (lim : Nat) : Nat → List UInt8 → Option Nat
  | n, [] => some n
  | n, c :: r => if 48 ≤ c.toNat ∧ c.toNat ≤ 57 ∧ n * 10 + (c.toNat - 48) ≤ lim then numF lim (n * 10 + (c.toNat - 48)) r else none
theorem numF_cons (lim n : Nat) (c : UInt8) (r : List UInt8) : numF lim n (c :: r) = if 48 ≤ c.toNat ∧ c.toNat ≤ 57 ∧ n * 10 + (c.toNat - 48) ≤ lim then numF lim (n * 10 + (c.toNat - 48)) r else none := rfl
/-- The greatest of either side. -/
def limOf (neg : Bool) : Nat := if neg then 9223372036854775808 else 9223372036854775807
/-- A text's number with its sign told. -/
def wholeS (neg : Bool) (r : List UInt8) : Option Int := if r = [] then none else (numF (limOf neg) 0 r).map fun n : Nat => if neg then -(n : Int) else (n : Int)
def isNeg (l : List UInt8) : Bool := l.head? == some 45
def unNeg (l : List UInt8) : List UInt8 := if isNeg l then l.drop 1 else l
def whole (l : List UInt8) : Option Int := wholeS (isNeg l) (unNeg l)
def trimW (l : List UInt8) : List UInt8 := Lib.trimS l [32, 9, 10]
/-- An operand's number. -/
def number (l : List UInt8) : Option Int := if (trimW l).head? = some 43 then (if (trimW l)[1]? = some 45 then none else whole ((trimW l).drop 1)) else whole (trimW l)

theorem numF_le (lim : Nat) : ∀ (l : List UInt8) (n m : Nat), n ≤ lim → numF lim n l = some m → n ≤ m ∧ m ≤ lim
  | [], n, m, hn, h => by simp only [numF, Option.some.injEq] at h; subst h; exact ⟨Nat.le_refl _, hn⟩
  | c :: r, n, m, hn, h => by
    unfold numF at h
    split at h
    · rename_i hc
      have := numF_le lim r _ m hc.2.2 h
      omega
    · cases h
theorem numF_append (lim : Nat) : ∀ (l k : List UInt8) (n : Nat), numF lim n (l ++ k) = (numF lim n l).bind fun m => numF lim m k
  | [], k, n => rfl
  | c :: r, k, n => by
    show numF lim n (c :: (r ++ k)) = _
    rw [numF_cons, numF_cons]
    split
    · exact numF_append lim r k _
    · rfl
/-- Both limits read the same but at the one number between. -/
theorem numF_two : ∀ (r : List UInt8) (n : Nat), n ≤ 9223372036854775807 → numF 9223372036854775807 n r = (numF 9223372036854775808 n r).bind fun m => if m ≤ 9223372036854775807 then some m else none
  | [], n, hn => by
    simp only [numF, Option.bind_some]
    rw [if_pos hn]
  | c :: r, n, hn => by
    unfold numF
    by_cases h1 : 48 ≤ c.toNat ∧ c.toNat ≤ 57 ∧ n * 10 + (c.toNat - 48) ≤ 9223372036854775807
    · rw [if_pos h1, if_pos ⟨h1.1, h1.2.1, by omega⟩]
      exact numF_two r _ h1.2.2
    · rw [if_neg h1]
      by_cases h2 : 48 ≤ c.toNat ∧ c.toNat ≤ 57 ∧ n * 10 + (c.toNat - 48) ≤ 9223372036854775808
      · rw [if_pos h2]
        have e : n * 10 + (c.toNat - 48) = 9223372036854775808 := by omega
        rw [e]
        cases r with
        | nil => rfl
        | cons d r =>
          unfold numF
          rw [if_neg (by omega)]
          rfl
      · rw [if_neg h2]
        rfl
def isW (c : UInt8) : Bool := ([32, 9, 10] : List UInt8).contains c
def ltrim (l : List UInt8) : List UInt8 := l.dropWhile isW
def rtrim (l : List UInt8) : List UInt8 := (l.reverse.dropWhile isW).reverse
theorem rtrim_cons (x : UInt8) (t : List UInt8) : rtrim (x :: t) = if isW x = true ∧ rtrim t = [] then [] else x :: rtrim t := by
  unfold rtrim
  rw [List.reverse_cons, List.dropWhile_append]
  cases h : t.reverse.dropWhile isW with
  | nil => cases hx : isW x <;> simp [hx]
  | cons y z => simp
theorem trim_swap : ∀ l : List UInt8, ltrim (rtrim l) = rtrim (ltrim l)
  | [] => rfl
  | x :: t => by
    have ih := trim_swap t
    rw [rtrim_cons]
    by_cases hx : isW x = true
    · have e : ltrim (x :: t) = ltrim t := by unfold ltrim; rw [List.dropWhile_cons_of_pos hx]
      rw [e, ← ih]
      by_cases h : rtrim t = []
      · rw [if_pos ⟨hx, h⟩, h]
      · rw [if_neg (fun h' => h h'.2)]
        unfold ltrim
        rw [List.dropWhile_cons_of_pos hx]
    · have e : ltrim (x :: t) = x :: t := by unfold ltrim; rw [List.dropWhile_cons_of_neg hx]
      have e2 : ¬(isW x = true ∧ rtrim t = []) := fun h => hx h.1
      rw [e, rtrim_cons, if_neg e2]
      unfold ltrim
      rw [List.dropWhile_cons_of_neg hx]
theorem trimW_eq (l : List UInt8) : trimW l = rtrim (ltrim l) := by rw [← trim_swap]; rfl
/-- The digits of a number. -/
def decs (n : Nat) : List UInt8 := if h : n < 10 then [UInt8.ofNat (48 + n)] else decs (n / 10) ++ [UInt8.ofNat (48 + n % 10)]
termination_by n
decreasing_by omega
theorem decs_lo {n : Nat} (h : n < 10) : decs n = [UInt8.ofNat (48 + n)] := by unfold decs; rw [dif_pos h]
theorem decs_hi {n : Nat} (h : ¬ n < 10) : decs n = decs (n / 10) ++ [UInt8.ofNat (48 + n % 10)] := by
  conv => lhs; unfold decs
  rw [dif_neg h]
theorem dig_toNat {d : Nat} (h : d < 10) : (UInt8.ofNat (48 + d)).toNat = 48 + d := by
  rw [UInt8.toNat_ofNat']; omega
theorem numF_decs (lim : Nat) : ∀ (f n : Nat), n ≤ f → n ≤ lim → numF lim 0 (decs n) = some n
  | f, n, hf, hn => by
    by_cases h : n < 10
    · rw [decs_lo h]
      unfold numF
      rw [dig_toNat h, if_pos (by omega)]
      unfold numF
      congr 1
      omega
    · rw [decs_hi h, numF_append]
      match f, hf with
      | 0, hf => omega
      | f + 1, hf =>
        rw [numF_decs lim f (n / 10) (by omega) (by omega)]
        show numF lim (n / 10) [UInt8.ofNat (48 + n % 10)] = _
        unfold numF
        rw [dig_toNat (by omega), if_pos (by omega)]
        unfold numF
        congr 1
        omega
theorem decs_ne (n : Nat) : decs n ≠ [] := by
  by_cases h : n < 10
  · rw [decs_lo h]; simp
  · rw [decs_hi h]; simp
theorem decs_dig : ∀ (f n : Nat), n ≤ f → ∀ c ∈ decs n, 48 ≤ c.toNat ∧ c.toNat ≤ 57
  | f, n, hf => by
    intro c hc
    by_cases h : n < 10
    · rw [decs_lo h] at hc
      simp only [List.mem_singleton] at hc
      subst hc
      rw [dig_toNat h]; omega
    · rw [decs_hi h] at hc
      rcases List.mem_append.1 hc with hc | hc
      · match f, hf with
        | 0, hf => omega
        | f + 1, hf => exact decs_dig f (n / 10) (by omega) c hc
      · simp only [List.mem_singleton] at hc
        subst hc
        rw [dig_toNat (by omega)]; omega
theorem decs_len : ∀ (k n : Nat), n < 10 ^ (k + 1) → (decs n).length ≤ k + 1
  | k, n, hn => by
    by_cases h : n < 10
    · rw [decs_lo h]; simp
    · rw [decs_hi h]
      match k, hn with
      | 0, hn => omega
      | k + 1, hn =>
        have := decs_len k (n / 10) (by rw [Nat.pow_succ] at hn; omega)
        simp only [List.length_append, List.length_singleton]
        omega
/-- What scan.Text prints. -/
def txt10 (n : Int) : List UInt8 := if n < 0 then 45 :: decs n.natAbs else decs n.natAbs
theorem trimW_id (l : List UInt8) (h : ∀ c ∈ l, 32 < c.toNat) : trimW l = l := by
  have hw : ∀ c ∈ l, ([32, 9, 10] : List UInt8).contains c = false := fun c hc => by
    have := h c hc
    have e1 : c ≠ 32 := fun e => by subst e; exact absurd this (by decide)
    have e2 : c ≠ 9 := fun e => by subst e; exact absurd this (by decide)
    have e3 : c ≠ 10 := fun e => by subst e; exact absurd this (by decide)
    simp [e1, e2, e3]
  have hd : ∀ (k : List UInt8), (∀ c ∈ k, ([32, 9, 10] : List UInt8).contains c = false) → k.dropWhile (([32, 9, 10] : List UInt8).contains ·) = k := fun k hk => by
    cases k with
    | nil => rfl
    | cons a t => rw [List.dropWhile_cons_of_neg (by rw [hk a (by simp)]; simp)]
  unfold trimW Lib.trimS Lib.trimRightS Lib.trimLeftS
  rw [hd l.reverse (fun c hc => hw c (List.mem_reverse.1 hc)), List.reverse_reverse, hd l hw]
theorem head_dec (n : Nat) : ∃ c t, decs n = c :: t ∧ 48 ≤ c.toNat ∧ c.toNat ≤ 57 := by
  have h := decs_dig n n (Nat.le_refl _)
  cases hd : decs n with
  | nil => exact absurd hd (decs_ne n)
  | cons c t => exact ⟨c, t, rfl, h c (by rw [hd]; simp)⟩
/-- What is printed reads back. -/
theorem number_txt10 (n : Int) (h1 : -9223372036854775808 ≤ n) (h2 : n ≤ 9223372036854775807) : number (txt10 n) = some n := by
  obtain ⟨c, t, hc, hc1, hc2⟩ := head_dec n.natAbs
  have hd := decs_dig n.natAbs n.natAbs (Nat.le_refl _)
  have n43 : c ≠ 43 := fun e => by subst e; exact absurd hc1 (by decide)
  have n45 : c ≠ 45 := fun e => by subst e; exact absurd hc1 (by decide)
  unfold txt10 number
  by_cases hn : n < 0
  · rw [if_pos hn, trimW_id _ (fun x hx => by
      rcases List.mem_cons.1 hx with rfl | hx
      · decide
      · have := hd x hx; omega)]
    rw [if_neg (by simp)]
    have e1 : isNeg (45 :: decs n.natAbs) = true := rfl
    unfold whole unNeg
    rw [e1, if_pos rfl]
    show wholeS true (decs n.natAbs) = _
    unfold wholeS limOf
    rw [if_neg (decs_ne _), if_pos rfl, numF_decs _ _ _ (Nat.le_refl _) (by omega)]
    show some (-((n.natAbs : Nat) : Int)) = some n
    congr 1
    omega
  · rw [if_neg hn, trimW_id _ (fun x hx => by have := hd x hx; omega)]
    have e0 : (decs n.natAbs).head? = some c := by rw [hc]; rfl
    rw [if_neg (by rw [e0]; simpa using n43)]
    have e1 : isNeg (decs n.natAbs) = false := by unfold isNeg; rw [e0]; simpa using n45
    unfold whole unNeg
    rw [e1]
    show wholeS false (decs n.natAbs) = _
    unfold wholeS limOf
    rw [if_neg (decs_ne _), if_neg (by decide), numF_decs _ _ _ (Nat.le_refl _) (by omega)]
    show some ((n.natAbs : Nat) : Int) = some n
    congr 1
    omega
theorem txt10_len (n : Int) (h1 : -9223372036854775808 ≤ n) (h2 : n ≤ 9223372036854775807) : (txt10 n).length ≤ 20 := by
  have := decs_len 18 n.natAbs (by omega)
  unfold txt10
  split
  · simp only [List.length_cons]; omega
  · omega
end Go.Proofs.YtfnaooplpofgiaaGreatDoor
