/- A pattern's pieces, written again, are those pieces: a plain law on lists of bytes. No program in sight, no conditions. -/
import Derived.Test.YteeopjgfiojoiaaDoorBrkP
import Derived.Test.YteeopjgfiojoiaaDoorWRanges
namespace Go.Proofs.YteeopjgfiojoiaaDoor
open Go Go.RowKit SN

def esc (l : List UInt8) : List UInt8 := l.flatMap fun c => [92, c]
theorem esc_cons (c : UInt8) (l : List UInt8) : esc (c :: l) = 92 :: c :: esc l := rfl
theorem esc_snoc (l : List UInt8) (c : UInt8) : esc (l ++ [c]) = esc l ++ [92, c] := by simp [esc]
theorem esc_len (l : List UInt8) : (esc l).length = 2 * l.length := by
  induction l with
  | nil => rfl
  | cons c l ih => rw [esc_cons, List.length_cons, List.length_cons, ih, List.length_cons]; omega
/-- A set's bytes. -/
def bts (S : Nat) : List UInt8 := (mem S).map fun c => c.toUInt8
theorem bts_len (S : Nat) : (bts S).length = (mem S).length := by simp [bts]
theorem ofL_bts {S : Nat} (h : Ok S) : ofL (bts S) = S := by
  have := ofL_mem h
  rw [toB_list] at this
  exact this
def back1 (p : Pie) : List UInt8 := if p.kind = 3 then [42] else if p.kind = 2 then [63] else if (mem p.set).length = 1 then esc (bts p.set) else 91 :: (esc (bts p.set) ++ [93])
def back (l : List Pie) : List UInt8 := l.flatMap back1
theorem back_snoc (l : List Pie) (p : Pie) : back (l ++ [p]) = back l ++ back1 p := by simp [back]
theorem back1_len (p : Pie) : (back1 p).length ≤ 514 := by
  have h : (mem p.set).length ≤ 256 := by
    unfold mem
    have := List.length_filter_le p.set.testBit (List.range 256)
    simpa using this
  unfold back1
  split
  · simp
  split
  · simp
  split
  · rw [esc_len, bts_len]; omega
  · simp [esc_len, bts_len]; omega
theorem back_len (l : List Pie) : (back l).length ≤ 514 * l.length := by
  induction l with
  | nil => simp [back]
  | cons p l ih =>
    have e : back (p :: l) = back1 p ++ back l := by simp [back]
    have := back1_len p
    rw [e, List.length_append, List.length_cons]; omega
/-- What a piece that was read is. -/
def good (p : Pie) : Prop := Ok p.set ∧ (p.kind = 1 ∨ p.kind = 2 ∧ p.set = 0 ∨ p.kind = 3 ∧ p.set = 0)
theorem ptF_good : ∀ (n : Nat) (l : List UInt8), ∀ p ∈ ptF n l, good p
  | 0, l, p, h => by simp [ptF] at h
  | n + 1, [], p, h => by simp [ptF] at h
  | n + 1, c :: l, p, h => by
    have one : ∀ c : UInt8, good (oneP c) := fun c => ⟨ok_ofL' c, .inl rfl⟩
    have h1 := ptF_good n l p
    unfold ptF at h
    split at h
    · rcases List.mem_cons.1 h with rfl | h
      · exact ⟨ok_zero, .inr (.inr ⟨rfl, rfl⟩)⟩
      · exact h1 h
    split at h
    · rcases List.mem_cons.1 h with rfl | h
      · exact ⟨ok_zero, .inr (.inl ⟨rfl, rfl⟩)⟩
      · exact h1 h
    split at h
    · split at h
      next S k hb =>
        rcases List.mem_cons.1 h with rfl | h
        · exact ⟨ok_brk hb, .inl rfl⟩
        · exact ptF_good n (l.drop k) p h
      · rcases List.mem_cons.1 h with rfl | h
        · exact one _
        · exact h1 h
    split at h
    · cases l with
      | nil => simp at h; subst h; exact one _
      | cons d l' =>
        rcases List.mem_cons.1 h with rfl | h
        · exact one _
        · exact ptF_good n l' p h
    · rcases List.mem_cons.1 h with rfl | h
      · exact one _
      · exact h1 h
theorem pt_good (l : List UInt8) : ∀ p ∈ pt l, good p := ptF_good _ l
/-- A byte behind a backslash, with no '-' behind it. -/
theorem step_esc {l : List UInt8} {i : Nat} {b c : UInt8} (h : l[i]? = some 92) (h1 : l[i + 1]? = some b) (h2 : l[i + 2]? = some c) (hc : c.toNat ≠ 45) : step l true i = .ok (ofL [b]) (i + 2) := by
  have hl : i + 1 < l.length := by
    rcases Nat.lt_or_ge (i + 1) l.length with h' | h'
    · exact h'
    · rw [List.getElem?_eq_none h'] at h1; cases h1
  have hi : item l true i = .byte b (i + 2) := by
    unfold item
    rw [show isL l i 91 = false from isL_no h 91 (by decide), show isL l i 92 = true by rw [isL_at h]; rfl]
    simp [itemOne, h1]; omega
  unfold step
  rw [hi, ranged_byte, show isL l (i + 2) 45 = false from isL_no h2 45 hc]
  rfl
theorem head_esc (m rest : List UInt8) : ∃ b : UInt8, (esc m ++ 93 :: rest)[0]? = some b ∧ b.toNat ≠ 45 ∧ (m ≠ [] → b = 92) := by
  cases m with
  | nil => exact ⟨93, rfl, by decide, fun h => absurd rfl h⟩
  | cons c m => exact ⟨92, rfl, by decide, fun _ => rfl⟩
theorem ofL_cons_or (S : Nat) (c : UInt8) (m : List UInt8) : S ||| ofL [c] ||| ofL m = S ||| ofL (c :: m) := by
  have key : ∀ (m : List UInt8) (T : Nat), m.foldl (fun S c => add S c.toNat) T = T ||| ofL m := by
    intro m
    induction m with
    | nil => intro T; simp [ofL]
    | cons d m ih =>
      intro T
      rw [List.foldl_cons, ih]
      show add T d.toNat ||| ofL m = T ||| (m.foldl (fun S c => add S c.toNat) (add 0 d.toNat))
      rw [ih (add 0 d.toNat)]
      unfold add
      rw [Nat.zero_or, Nat.or_assoc]
  show _ = S ||| (m.foldl (fun S c => add S c.toNat) (add 0 c.toNat))
  rw [key m]
  show S ||| (add 0 c.toNat) ||| ofL m = _
  rw [Nat.or_assoc]
theorem loop_esc (rest : List UInt8) : ∀ (m pre : List UInt8) (n : Nat) (first : Bool) (S : Nat), m.length + 1 ≤ n → (first = true → m ≠ []) →
    loop (pre ++ (esc m ++ 93 :: rest)) true n first pre.length S = .ok (S ||| ofL m) (pre.length + 2 * m.length)
  | [], pre, n, first, S, hn, hf => by
    obtain ⟨k, rfl⟩ : ∃ k, n = k + 1 := ⟨n - 1, by simp at hn; omega⟩
    have hf' : first = false := by cases first <;> simp_all
    subst hf'
    unfold loop
    rw [if_neg (by simp [esc]), if_pos]
    · simp [ofL]
    · simp [isL, esc]
  | c :: m, pre, n, first, S, hn, _ => by
    obtain ⟨k, rfl⟩ : ∃ k, n = k + 1 := ⟨n - 1, by simp at hn; omega⟩
    obtain ⟨b, hb, hb2, -⟩ := head_esc m rest
    have h0 : (pre ++ (esc (c :: m) ++ 93 :: rest))[pre.length]? = some 92 := by
      rw [List.getElem?_append_right (Nat.le_refl _), Nat.sub_self]; rfl
    have h1 : (pre ++ (esc (c :: m) ++ 93 :: rest))[pre.length + 1]? = some c := by
      rw [List.getElem?_append_right (by omega), Nat.add_sub_cancel_left]; rfl
    have h2 : (pre ++ (esc (c :: m) ++ 93 :: rest))[pre.length + 2]? = some b := by
      rw [List.getElem?_append_right (by omega), Nat.add_sub_cancel_left]; exact hb
    have e : pre ++ (esc (c :: m) ++ 93 :: rest) = (pre ++ [92, c]) ++ (esc m ++ 93 :: rest) := by simp [esc_cons]
    unfold loop
    have h93 : isL (pre ++ (esc (c :: m) ++ 93 :: rest)) pre.length 93 = false := isL_no h0 93 (by decide)
    rw [if_neg (by simp [esc_cons]), h93, Bool.and_false, if_neg (by decide), step_esc h0 h1 h2 hb2]
    show loop _ true k false (pre.length + 2) (S ||| ofL [c]) = _
    have e2 : pre.length + 2 = (pre ++ [92, c]).length := by simp
    rw [e, e2, loop_esc rest m (pre ++ [92, c]) k false (S ||| ofL [c]) (by simp at hn; omega) (fun h => by cases h), ofL_cons_or]
    congr 1
    simp; omega
theorem brk_esc (m rest : List UInt8) (hne : m ≠ []) : brk (esc m ++ 93 :: rest) 0 2 = .ok (ofL m) (2 * m.length + 1) := by
  obtain ⟨b, hb, -, hb2⟩ := head_esc m rest
  have hb3 := hb2 hne
  subst hb3
  have ht : turned (esc m ++ 93 :: rest) ((2 : Int) == 2) 0 = false := turned_no _ (isL_no hb 94 (by decide)) (isL_no hb 33 (by decide))
  have hl := loop_esc rest m [] ((esc m ++ 93 :: rest).length + 1) true 0 (by simp [esc_len]; omega) (fun _ => hne)
  unfold brk read
  rw [if_neg (by simp; omega)]
  show (match loop _ ((2 : Int) == 2) ((esc m ++ 93 :: rest).length + 1) true (if turned (esc m ++ 93 :: rest) ((2 : Int) == 2) 0 = true then 0 + 1 else 0) 0 with | .err c p => Rg.err c p | .ok S n => Rg.ok (if turned (esc m ++ 93 :: rest) ((2 : Int) == 2) 0 = true then cmpl S else S) (n + 1)) = _
  rw [ht]
  simp only [List.nil_append, List.length_nil] at hl
  rw [if_neg (by decide)]
  show (match loop (esc m ++ 93 :: rest) true ((esc m ++ 93 :: rest).length + 1) true 0 0 with | .err c p => Rg.err c p | .ok S n => Rg.ok (if false = true then cmpl S else S) (n + 1)) = _
  rw [hl]
  simp
theorem pt_back1 (p : Pie) (rest : List UInt8) (hg : good p) (hne : p.kind = 1 → mem p.set ≠ []) : pt (back1 p ++ rest) = p :: pt rest := by
  obtain ⟨k, S⟩ := p
  obtain ⟨hok, hk⟩ := hg
  have hbt := ofL_bts hok
  simp only at hok hk hne hbt
  unfold back1
  rcases hk with rfl | ⟨rfl, rfl⟩ | ⟨rfl, rfl⟩
  · have hm := hne rfl
    rw [if_neg (by simp), if_neg (by simp)]
    simp only
    by_cases h1 : (mem S).length = 1
    · rw [if_pos h1]
      have hb1 : (bts S).length = 1 := by rw [bts_len, h1]
      obtain ⟨c, hc⟩ := List.length_eq_one_iff.1 hb1
      rw [hc] at hbt ⊢
      show pt (92 :: c :: rest) = _
      rw [pt_quoted]
      unfold oneP
      rw [hbt]
    · rw [if_neg h1]
      have hbn : bts S ≠ [] := by
        intro h
        have := congrArg List.length h
        rw [bts_len] at this
        exact hm (List.eq_nil_of_length_eq_zero this)
      have e : 91 :: (esc (bts S) ++ [93]) ++ rest = 91 :: (esc (bts S) ++ 93 :: rest) := by simp
      have hb := brk_esc (bts S) rest hbn
      rw [e, pt_set _ _ _ hb, hbt]
      have hd : (esc (bts S) ++ 93 :: rest).drop (2 * (bts S).length + 1) = rest := by
        rw [← esc_len, ← List.drop_drop, List.drop_left]; rfl
      rw [hd]
  · exact pt_any rest
  · exact pt_many rest
theorem pt_back : ∀ (l : List Pie), (∀ p ∈ l, good p) → (∀ p ∈ l, p.kind = 1 → mem p.set ≠ []) → pt (back l) = l
  | [], _, _ => rfl
  | p :: l, hg, hn => by
    have e : back (p :: l) = back1 p ++ back l := by simp [back]
    rw [e, pt_back1 p _ (hg p (by simp)) (hn p (by simp)), pt_back l (fun q hq => hg q (by simp [hq])) (fun q hq => hn q (by simp [hq]))]
end Go.Proofs.YteeopjgfiojoiaaDoor
