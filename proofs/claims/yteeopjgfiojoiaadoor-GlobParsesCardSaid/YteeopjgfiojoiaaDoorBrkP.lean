/- Brackets and patterns as plain laws on lists of bytes. No program in sight, no conditions. -/
import Derived.Test.YteeopjgfiojoiaaDoorBrt
namespace Go.Proofs.YteeopjgfiojoiaaDoor
open Go Go.RowKit SN

/-! ### One byte ahead: every place is one farther on -/
def shI : It → It
  | .err c p => .err c (p + 1)
  | .byte c n => .byte c (n + 1)
  | .cls S n => .cls S (n + 1)
def shR : Rg → Rg
  | .err c p => .err c (p + 1)
  | .ok S n => .ok S (n + 1)
section
variable (x : UInt8) (l : List UInt8) (glob : Bool)
theorem isL_sh (i : Nat) (c : Int) : isL (x :: l) (i + 1) c = isL l i c := by simp [isL]
theorem itemOne_sh (i : Nat) : itemOne (x :: l) (i + 1) = shI (itemOne l i) := by simp [itemOne, shI]
theorem itemCls_sh (i : Nat) : itemCls (x :: l) (i + 1) = shI (itemCls l i) := by
  unfold itemCls
  rw [show i + 1 + 2 = (i + 2) + 1 by omega, List.drop_succ_cons]
  unfold itemCut
  split
  · simp [shI]; omega
  · simp [shI]
theorem item_sh (i : Nat) : item (x :: l) glob (i + 1) = shI (item l glob i) := by
  unfold item
  rw [isL_sh, isL_sh, isL_sh, isL_sh, isL_sh, itemCls_sh, itemOne_sh, itemOne_sh]
  simp only [List.length_cons, Nat.add_le_add_iff_right]
  split
  · rfl
  split
  · rfl
  split
  · split
    · rfl
    · rfl
  · rfl
/-- What stands behind a '-' that makes a range. -/
def hiR (c : UInt8) (st n : Nat) : It → Rg
  | .err k p => .err k p
  | .cls _ _ => .err 8 (n + 1)
  | .byte d p => if d.toNat < c.toNat then .err 7 st else .ok (rng c.toNat d.toNat) p
theorem ranged_byte (c : UInt8) (n st : Nat) : ranged l glob (.byte c n) st = if !isL l n 45 || isL l (n + 1) 93 || decide (l.length ≤ n + 1) then .ok (ofL [c]) n else hiR c st n (item l glob (n + 1)) := by
  show (if !isL l n 45 || isL l (n + 1) 93 || decide (l.length ≤ n + 1) then _ else _) = _
  cases item l glob (n + 1) <;> rfl
theorem ranged_sh (y : It) (st : Nat) : ranged (x :: l) glob (shI y) (st + 1) = shR (ranged l glob y st) := by
  cases y with
  | err c p => rfl
  | cls S n => rfl
  | byte c n =>
    show ranged (x :: l) glob (.byte c (n + 1)) (st + 1) = _
    rw [ranged_byte, ranged_byte, isL_sh, isL_sh, item_sh]
    simp only [List.length_cons, Nat.add_le_add_iff_right]
    split
    · rfl
    · cases item l glob (n + 1) with
      | err k p => rfl
      | cls S p => rfl
      | byte d p =>
        show (if d.toNat < c.toNat then Rg.err 7 (st + 1) else _) = shR (if d.toNat < c.toNat then _ else _)
        split <;> rfl
theorem step_sh (i : Nat) : step (x :: l) glob (i + 1) = shR (step l glob i) := by
  unfold step; rw [item_sh, ranged_sh]
theorem loop_sh : ∀ (n : Nat) (first : Bool) (i S : Nat), loop (x :: l) glob n first (i + 1) S = shR (loop l glob n first i S)
  | 0, first, i, S => by simp [loop, shR]
  | n + 1, first, i, S => by
    unfold loop
    rw [isL_sh, step_sh]
    simp only [List.length_cons, Nat.add_le_add_iff_right]
    split
    · rfl
    split
    · rfl
    cases step l glob i with
    | err c p => rfl
    | ok T next => exact loop_sh n false next (S ||| T)
end
/-! ### As many rounds as there are bytes are enough -/
theorem loop_fuel (l : List UInt8) (glob : Bool) (k : Nat) : ∀ (n : Nat) (first : Bool) (i S : Nat), l.length + 1 ≤ n + i → loop l glob (n + k) first i S = loop l glob n first i S
  | 0, first, i, S, h => by
    cases k with
    | zero => rfl
    | succ k =>
      rw [Nat.zero_add]
      unfold loop
      rw [if_pos (by omega)]
  | n + 1, first, i, S, h => by
    rw [show n + 1 + k = (n + k) + 1 by omega]
    unfold loop
    split
    · rfl
    split
    · rfl
    cases hs : step l glob i with
    | err c p => rfl
    | ok T next =>
      have := step_ok (by omega) hs
      exact loop_fuel l glob k n false next (S ||| T) (by omega)
theorem turned_no {l : List UInt8} (glob : Bool) (h1 : isL l 0 94 = false) (h2 : isL l 0 33 = false) : turned l glob 0 = false := by simp [turned, h1, h2]
theorem turned_yes (l : List UInt8) (glob : Bool) : turned (94 :: l) glob 0 = true := by simp [turned, isL]
/-- A bracket with ^ ahead: the others, one place farther on; an error too. -/
def turnR : Rg → Rg
  | .err c p => .err c (p + 1)
  | .ok S n => .ok (cmpl S) (n + 1)
theorem read_turned (l : List UInt8) (glob : Bool) (h1 : isL l 0 94 = false) (h2 : isL l 0 33 = false) : read (94 :: l) glob 0 = turnR (read l glob 0) := by
  unfold read
  rw [turned_no glob h1 h2, turned_yes]
  simp only [if_true, List.length_cons]
  rw [show ∀ b : Bool, (if false = true then 0 + 1 else 0) = 0 from fun _ => rfl] <;> try exact true
  have h := loop_sh 94 l glob (l.length + 1 + 1) true 0 0
  rw [h, loop_fuel l glob 1 (l.length + 1) true 0 0 (by omega)]
  cases loop l glob (l.length + 1) true 0 0 with
  | err c p => rfl
  | ok S n => simp [shR, turnR]
/-! ### What stands behind the end makes no difference -/
def Agr (l l' : List UInt8) (m : Nat) : Prop := m ≤ l.length ∧ m ≤ l'.length ∧ l.take m = l'.take m
theorem Agr.get {l l' : List UInt8} {m i : Nat} (h : Agr l l' m) (hi : i < m) : l[i]? = l'[i]? := by
  have e := congrArg (fun x => x[i]?) h.2.2
  simpa [List.getElem?_take, hi] using e
theorem Agr.isL {l l' : List UInt8} {m i : Nat} (h : Agr l l' m) (hi : i < m) (c : Int) : isL l i c = isL l' i c := by
  unfold Proofs.YteeopjgfiojoiaaDoor.isL; rw [h.get hi]
theorem Agr.one {l l' : List UInt8} {m i : Nat} (h : Agr l l' m) (hi : i < m) : itemOne l i = itemOne l' i := by
  unfold itemOne; rw [h.get hi]
theorem index2 (b : UInt8) (l : List UInt8) : Lib.index (b :: l) [58, 93] = if b = 58 ∧ l.head? = some 93 then 0 else if Lib.index l [58, 93] == -1 then -1 else Lib.index l [58, 93] + 1 := by
  show (if ([58, 93] : List UInt8).isPrefixOf (b :: l) then _ else _) = _
  have e : ([58, 93] : List UInt8).isPrefixOf (b :: l) = true ↔ b = 58 ∧ l.head? = some 93 := by
    cases l with
    | nil => simp [List.isPrefixOf]
    | cons c l =>
      simp only [List.isPrefixOf, Bool.and_true, Bool.and_eq_true, beq_iff_eq, List.head?_cons, Option.some.injEq]
      constructor
      · rintro ⟨rfl, rfl⟩; exact ⟨rfl, rfl⟩
      · rintro ⟨rfl, rfl⟩; exact ⟨rfl, rfl⟩
  by_cases h : b = 58 ∧ l.head? = some 93
  · rw [if_pos h, if_pos (e.2 h)]
  · rw [if_neg h, if_neg (fun hh => h (e.1 hh))]
theorem index_agr : ∀ (s s' : List UInt8) (k : Nat), Lib.index s [58, 93] = k → s.take (k + 2) = s'.take (k + 2) → Lib.index s' [58, 93] = k
  | [], s', k, h, ht => by
    simp [Lib.index] at h
  | b :: l, s', k, h, ht => by
    cases s' with
    | nil => simp at ht
    | cons b' l' =>
      rw [index2] at h
      rw [index2]
      rw [List.take_succ_cons, List.take_succ_cons] at ht
      injection ht with hb ht
      subst hb
      have hh : l.head? = l'.head? := by
        have := congrArg List.head? ht
        rw [List.head?_take, List.head?_take] at this
        simpa using this
      rw [hh] at h
      by_cases hc : b = 58 ∧ l'.head? = some 93
      · rw [if_pos hc] at h ⊢; exact h
      · rw [if_neg hc] at h ⊢
        by_cases hm : Lib.index l [58, 93] = -1
        · rw [hm] at h; simp at h
        · have hg := Lib.index_ge l [58, 93]
          rw [if_neg (by simpa using hm)] at h
          obtain ⟨j, hj⟩ : ∃ j : Nat, Lib.index l [58, 93] = j := ⟨(Lib.index l [58, 93]).toNat, by omega⟩
          have hk : k = j + 1 := by omega
          subst hk
          rw [index_agr l l' j hj ht]
          simp
theorem cut_agr {s s' : List UInt8} (h : (Lib.cut s [58, 93]).2.2 = true) (ht : s.take ((Lib.cut s [58, 93]).1.length + 2) = s'.take ((Lib.cut s [58, 93]).1.length + 2)) :
    (Lib.cut s' [58, 93]).1 = (Lib.cut s [58, 93]).1 ∧ (Lib.cut s' [58, 93]).2.2 = true := by
  have h0 : 0 ≤ Lib.index s [58, 93] := by
    unfold Lib.cut at h
    split at h
    · assumption
    · simp at h
  obtain ⟨k, hk⟩ : ∃ k : Nat, Lib.index s [58, 93] = k := ⟨_, (Int.toNat_of_nonneg h0).symm⟩
  have hr := Lib.index_room s [58, 93] h0
  have hc : (Lib.cut s [58, 93]).1 = s.take k := by unfold Lib.cut; rw [if_pos h0, hk]; rfl
  have hl : (Lib.cut s [58, 93]).1.length = k := by rw [hc, List.length_take]; simp at hr; omega
  rw [hl] at ht
  have hk' := index_agr s s' k hk ht
  have e : (Lib.cut s' [58, 93]).1 = s'.take k ∧ (Lib.cut s' [58, 93]).2.2 = true := by
    unfold Lib.cut; rw [hk', if_pos (by omega)]; exact ⟨rfl, rfl⟩
  refine ⟨?_, e.2⟩
  rw [e.1, hc]
  have := congrArg (List.take k) ht
  rw [List.take_take, List.take_take, Nat.min_eq_left (by omega)] at this
  exact this.symm
theorem item_agr_byte {l l' : List UInt8} {glob : Bool} {i m : Nat} {c : UInt8} {n : Nat} (h : Agr l l' m) (hi : i + 2 ≤ m) (hx : item l glob i = .byte c n) : item l' glob i = .byte c n := by
  have e0 := h.isL (i := i) (by omega)
  have e1 := h.isL (i := i + 1) (by omega)
  have o0 := h.one (i := i) (by omega)
  have o1 := h.one (i := i + 1) (by omega)
  have hl := h.1
  have hl' := h.2.1
  unfold item at hx ⊢
  rw [← e0, ← e0, ← e1, ← e1, ← e1, ← o0, ← o1]
  split at hx
  · cases hx
  next h1 =>
    rw [if_neg h1]
    split at hx
    · unfold itemCls itemCut at hx; split at hx <;> cases hx
    next h2 =>
      rw [if_neg h2]
      split at hx
      next h3 =>
        rw [if_pos h3, if_neg (by omega)]
        rw [if_neg (by omega)] at hx
        exact hx
      next h3 => rw [if_neg h3]; exact hx
theorem item_agr_cls {l l' : List UInt8} {glob : Bool} {i m S n : Nat} (h : Agr l l' m) (hi : i + 2 ≤ m) (hn : n ≤ m) (hx : item l glob i = .cls S n) : item l' glob i = .cls S n := by
  have e0 := h.isL (i := i) (by omega)
  have e1 := h.isL (i := i + 1) (by omega)
  have o0 := h.one (i := i) (by omega)
  have o1 := h.one (i := i + 1) (by omega)
  unfold item at hx ⊢
  rw [← e0, ← e0, ← e1, ← e1, ← e1, ← o0, ← o1]
  split at hx
  · cases hx
  next h1 =>
    rw [if_neg h1]
    split at hx
    next h2 =>
      rw [if_pos h2]
      unfold itemCls itemCut at hx ⊢
      split at hx
      next h3 h4 =>
        have hlen : i + ((Lib.cut (l.drop (i + 2)) [58, 93]).1.length + 4) = n := by cases hx; rfl
        have ht : (l.drop (i + 2)).take ((Lib.cut (l.drop (i + 2)) [58, 93]).1.length + 2) = (l'.drop (i + 2)).take ((Lib.cut (l.drop (i + 2)) [58, 93]).1.length + 2) := by
          generalize (Lib.cut (l.drop (i + 2)) [58, 93]).1.length = q at hlen ⊢
          have := congrArg (List.drop (i + 2)) h.2.2
          rw [List.drop_take, List.drop_take] at this
          have := congrArg (List.take (q + 2)) this
          rw [List.take_take, List.take_take, Nat.min_eq_left (by omega)] at this
          exact this
        obtain ⟨c1, c2⟩ := cut_agr h3 ht
        rw [c1, c2, h4]
        exact hx
      next => cases hx
    next h2 =>
      rw [if_neg h2]
      split at hx
      · split at hx <;> cases hx
      · cases hx
theorem ranged_agr {l l' : List UInt8} {glob : Bool} {M st S n : Nat} {x : It} (h : Agr l l' (M + 1)) (hM : isL l M 93 = true) (hx : ∀ c k, x = .byte c k → k ≤ M) (hn : n ≤ M) (hr : ranged l glob x st = .ok S n) : ranged l' glob x st = .ok S n := by
  cases x with
  | err c p => cases hr
  | cls T k => exact hr
  | byte c k =>
    have hk := hx c k rfl
    have hl := h.1
    have hl' := h.2.1
    rw [ranged_byte] at hr ⊢
    by_cases h45 : isL l k 45 = true
    · have hne : k ≠ M := fun e => by
        subst e
        unfold isL at h45 hM
        cases hg : l[k]? with
        | none => rw [hg] at h45; cases h45
        | some b => rw [hg] at h45 hM; simp at h45 hM; omega
      rw [← h.isL (by omega), ← h.isL (by omega)]
      simp only [h45, Bool.not_true, Bool.false_or] at hr ⊢
      by_cases h93 : isL l (k + 1) 93 = true
      · simp only [h93, Bool.true_or, if_true] at hr ⊢; exact hr
      · have hne2 : k + 1 ≠ M := fun e => h93 (e ▸ hM)
        have h93' : isL l (k + 1) 93 = false := by simpa using h93
        have d1 : decide (l.length ≤ k + 1) = false := by simp; omega
        have d2 : decide (l'.length ≤ k + 1) = false := by simp; omega
        rw [h93', d1] at hr
        rw [h93', d2]
        simp only [Bool.or_false, Bool.false_eq_true, if_false] at hr ⊢
        cases hy : item l glob (k + 1) with
        | err a p => rw [hy] at hr; cases hr
        | cls T p => rw [hy] at hr; cases hr
        | byte d p =>
          rw [item_agr_byte h (by omega) hy]
          rw [hy] at hr
          exact hr
    · have h45' : isL l k 45 = false := by simpa using h45
      rw [← h.isL (by omega)]
      simp only [h45', Bool.not_false, Bool.true_or, if_true] at hr ⊢
      exact hr
theorem loop_ge {l : List UInt8} {glob : Bool} : ∀ (n : Nat) (first : Bool) (i S T M : Nat), loop l glob n first i S = .ok T M → i ≤ M ∧ M < l.length ∧ isL l M 93 = true
  | 0, first, i, S, T, M, h => by cases h
  | n + 1, first, i, S, T, M, h => by
    unfold loop at h
    split at h
    · cases h
    split at h
    next h2 => cases h; simp at h2; exact ⟨Nat.le_refl _, by omega, h2.2⟩
    next =>
      cases hs : step l glob i with
      | err c p => rw [hs] at h; cases h
      | ok U next =>
        rw [hs] at h
        have h1 := step_ok (by omega) hs
        have h2 := loop_ge n false next (S ||| U) T M h
        exact ⟨by omega, h2.2⟩
theorem step_agr {l l' : List UInt8} {glob : Bool} {M i S n : Nat} (h : Agr l l' (M + 1)) (hM : isL l M 93 = true) (hi : i < n) (hn : n ≤ M) (hr : step l glob i = .ok S n) : step l' glob i = .ok S n := by
  unfold step at hr ⊢
  have hl := h.1
  cases hx : item l glob i with
  | err c p => rw [hx] at hr; cases hr
  | cls T k =>
    rw [hx] at hr
    have e : k = n := by cases hr; rfl
    rw [item_agr_cls h (by omega) (by omega) hx]
    exact hr
  | byte c k =>
    rw [hx] at hr
    rw [item_agr_byte h (by omega) hx]
    have hk : k ≤ M := by
      have hr' := hr
      rw [ranged_byte] at hr'
      split at hr'
      · cases hr'; exact hn
      next hh =>
        simp at hh
        cases hy : item l glob (k + 1) with
        | err a p => rw [hy] at hr'; cases hr'
        | cls T p => rw [hy] at hr'; cases hr'
        | byte d p =>
          rw [hy] at hr'
          have hb := item_byte (by omega) hy
          have : p = n := by
            have hr2 : (if d.toNat < c.toNat then Rg.err 7 i else .ok (rng c.toNat d.toNat) p) = .ok S n := hr'
            by_cases hdc : d.toNat < c.toNat
            · rw [if_pos hdc] at hr2; cases hr2
            · rw [if_neg hdc] at hr2; cases hr2; rfl
          omega
    exact ranged_agr h hM (fun c' k' e => by cases e; exact hk) hn hr
theorem loop_agr {l l' : List UInt8} {glob : Bool} {M : Nat} (h : Agr l l' (M + 1)) : ∀ (n : Nat) (first : Bool) (i S T : Nat), loop l glob n first i S = .ok T M → loop l' glob n first i S = .ok T M
  | 0, first, i, S, T, hx => by cases hx
  | n + 1, first, i, S, T, hx => by
    have hg := loop_ge (n + 1) first i S T M hx
    have hl' := h.2.1
    unfold loop at hx ⊢
    rw [← h.isL (i := i) (by omega)]
    rw [if_neg (by omega)] at hx ⊢
    split at hx
    next h1 => rw [if_pos h1]; exact hx
    next h1 =>
      rw [if_neg h1]
      cases hs : step l glob i with
      | err c p => rw [hs] at hx; cases hx
      | ok U next =>
        rw [hs] at hx
        have h2 := loop_ge n false next (S ||| U) T M hx
        have h3 := step_ok (by omega) hs
        rw [step_agr h hg.2.2 h3.1 h2.1 hs]
        exact loop_agr h n false next (S ||| U) T hx
/-- What stands behind a bracket makes no difference. -/
theorem read_more (l more : List UInt8) (glob : Bool) (S n : Nat) (h : read l glob 0 = .ok S n) : n ≤ l.length ∧ read (l.take n ++ more) glob 0 = .ok S n := by
  unfold read at h
  generalize hs : (if turned l glob 0 = true then 0 + 1 else 0) = st at h
  cases hl : loop l glob (l.length + 1) true st 0 with
  | err c p => rw [hl] at h; cases h
  | ok T M =>
    rw [hl] at h
    have e : M + 1 = n := by cases h; rfl
    have hg := loop_ge _ _ _ _ _ _ hl
    have hlen : n ≤ l.length := by omega
    have ha : Agr l (l.take n ++ more) (M + 1) := by
      refine ⟨by omega, by simp; omega, ?_⟩
      rw [e, List.take_append_of_le_length (by simp; omega), List.take_take, Nat.min_self]
    have ht : turned (l.take n ++ more) glob 0 = turned l glob 0 := by
      unfold turned; rw [← ha.isL (by omega), ← ha.isL (by omega)]
    refine ⟨hlen, ?_⟩
    unfold read
    rw [ht, hs]
    have h1 := loop_agr ha _ _ _ _ _ hl
    have h2 := loop_fuel (l.take n ++ more) glob (l.length + 1) ((l.take n ++ more).length + 1) true st 0 (by omega)
    have h3 : loop (l.take n ++ more) glob ((l.take n ++ more).length + 1 + (l.length + 1)) true st 0 = .ok T M := by
      have hm : ∀ (k j : Nat) (first : Bool) (i S : Nat), loop (l.take n ++ more) glob k first i S = .ok T M → loop (l.take n ++ more) glob (k + j) first i S = .ok T M := by
        intro k
        induction k with
        | zero => intro j first i S hh; cases hh
        | succ k ih =>
          intro j first i S hh
          rw [show k + 1 + j = (k + j) + 1 by omega]
          unfold loop at hh ⊢
          split at hh
          · cases hh
          next g1 =>
            rw [if_neg g1]
            split at hh
            next g2 => rw [if_pos g2]; exact hh
            next g2 =>
              rw [if_neg g2]
              cases hst : step (l.take n ++ more) glob i with
              | err c p => rw [hst] at hh; cases hh
              | ok U next => rw [hst] at hh; exact ih j false next _ hh
      rw [Nat.add_comm]
      exact hm _ _ _ _ _ h1
    rw [← h2, h3]
    exact h
end Go.Proofs.YteeopjgfiojoiaaDoor
namespace Go.Proofs.YteeopjgfiojoiaaDoor
open Go Go.RowKit SN

/-- A piece of the text: a letter, or a range of letters. -/
abbrev Pc := UInt8 × Option UInt8
def pcTxt : Pc → List UInt8
  | (c, none) => [c]
  | (c, some d) => [c, 45, d]
def pcSet : Pc → Nat
  | (c, none) => ofL [c]
  | (c, some d) => rng c.toNat d.toNat
def pcOk : Pc → Prop
  | (c, none) => 97 ≤ c.toNat ∧ c.toNat ≤ 122
  | (c, some d) => 97 ≤ c.toNat ∧ c.toNat ≤ d.toNat ∧ d.toNat ≤ 122
def pcsTxt (l : List Pc) : List UInt8 := l.flatMap pcTxt
def pcsSet (l : List Pc) : Nat := l.foldl (fun S p => S ||| pcSet p) 0
theorem pcsTxt_snoc (l : List Pc) (p : Pc) : pcsTxt (l ++ [p]) = pcsTxt l ++ pcTxt p := by simp [pcsTxt]
theorem pcsSet_snoc (l : List Pc) (p : Pc) : pcsSet (l ++ [p]) = pcsSet l ||| pcSet p := by simp [pcsSet]
theorem isL_at {l : List UInt8} {i : Nat} {b : UInt8} (h : l[i]? = some b) (c : Int) : isL l i c = ((b.toNat : Int) == c) := by simp [isL, h]
theorem isL_no {l : List UInt8} {i : Nat} {b : UInt8} (h : l[i]? = some b) (c : Nat) (hne : b.toNat ≠ c) : isL l i c = false := by rw [isL_at h]; simp; omega
/-- An item at a letter is this letter. -/
theorem item_letter {l : List UInt8} {glob : Bool} {i : Nat} {b : UInt8} (h : l[i]? = some b) (hb : 97 ≤ b.toNat) : item l glob i = .byte b (i + 1) := by
  have e1 := isL_no h 91 (by omega)
  have e2 := isL_no h 92 (by omega)
  unfold item
  rw [show isL l i 91 = false from e1, show isL l i 92 = false from e2]
  simp [itemOne, h]
theorem step_one {l : List UInt8} {glob : Bool} {i : Nat} {b c : UInt8} (h : l[i]? = some b) (hb : 97 ≤ b.toNat) (h1 : l[i + 1]? = some c) (hc : c.toNat ≠ 45) : step l glob i = .ok (ofL [b]) (i + 1) := by
  unfold step
  rw [item_letter h hb, ranged_byte, show isL l (i + 1) 45 = false from isL_no h1 45 hc]
  rfl
theorem step_rng {l : List UInt8} {glob : Bool} {i : Nat} {b d : UInt8} (h : l[i]? = some b) (hb : 97 ≤ b.toNat) (h1 : l[i + 1]? = some 45) (h2 : l[i + 2]? = some d) (hbd : b.toNat ≤ d.toNat) : step l glob i = .ok (rng b.toNat d.toNat) (i + 3) := by
  have hl : i + 2 < l.length := by
    rcases Nat.lt_or_ge (i + 2) l.length with h' | h'
    · exact h'
    · rw [List.getElem?_eq_none h'] at h2; cases h2
  unfold step
  rw [item_letter h hb, ranged_byte, show isL l (i + 1) 45 = true by rw [isL_at h1]; rfl, show isL l (i + 1 + 1) 93 = false from isL_no h2 93 (by omega), show decide (l.length ≤ i + 1 + 1) = false by simp; omega, item_letter (i := i + 1 + 1) h2 (by omega)]
  show (if d.toNat < b.toNat then _ else _) = _
  rw [if_neg (by omega)]
theorem pcTxt_len (p : Pc) : 0 < (pcTxt p).length := by obtain ⟨c, o⟩ := p; cases o <;> simp [pcTxt]
theorem head_letter (ps : List Pc) (h : ∀ p ∈ ps, pcOk p) : ∃ b : UInt8, (pcsTxt ps ++ [93])[0]? = some b ∧ b.toNat ≠ 45 ∧ (ps ≠ [] → 97 ≤ b.toNat) := by
  cases ps with
  | nil => exact ⟨93, rfl, by decide, fun h => absurd rfl h⟩
  | cons p ps =>
    have hp := h p (by simp)
    obtain ⟨c, o⟩ := p
    cases o with
    | none => simp only [pcOk] at hp; exact ⟨c, by simp [pcsTxt, pcTxt], by omega, fun _ => hp.1⟩
    | some d => simp only [pcOk] at hp; exact ⟨c, by simp [pcsTxt, pcTxt], by omega, fun _ => hp.1⟩
theorem foldl_or (ps : List Pc) : ∀ S, ps.foldl (fun S p => S ||| pcSet p) S = S ||| pcsSet ps := by
  induction ps with
  | nil => intro S; simp [pcsSet]
  | cons p ps ih =>
    intro S
    unfold pcsSet
    rw [List.foldl_cons, List.foldl_cons, ih, ih, Nat.zero_or, Nat.or_assoc]
theorem loop_pcs (glob : Bool) : ∀ (ps : List Pc) (pre : List UInt8) (n : Nat) (first : Bool) (S : Nat), (∀ p ∈ ps, pcOk p) → ps.length + 1 ≤ n → (first = true → ps ≠ []) →
    loop (pre ++ (pcsTxt ps ++ [93])) glob n first pre.length S = .ok (S ||| pcsSet ps) (pre.length + (pcsTxt ps).length)
  | [], pre, n, first, S, _, hn, hf => by
    obtain ⟨m, rfl⟩ : ∃ m, n = m + 1 := ⟨n - 1, by simp at hn; omega⟩
    have hf' : first = false := by cases first <;> simp_all
    subst hf'
    unfold loop
    rw [if_neg (by simp [pcsTxt]), if_pos]
    · simp [pcsTxt, pcsSet]
    · simp [isL, pcsTxt]
  | p :: ps, pre, n, first, S, hok, hn, _ => by
    obtain ⟨m, rfl⟩ : ∃ m, n = m + 1 := ⟨n - 1, by simp at hn; omega⟩
    have hp := hok p (by simp)
    have hps : ∀ q ∈ ps, pcOk q := fun q hq => hok q (by simp [hq])
    obtain ⟨b1, hb1, hb2, -⟩ := head_letter ps hps
    have e : pre ++ (pcsTxt (p :: ps) ++ [93]) = (pre ++ pcTxt p) ++ (pcsTxt ps ++ [93]) := by simp [pcsTxt]
    have key : step (pre ++ (pcsTxt (p :: ps) ++ [93])) glob pre.length = .ok (pcSet p) (pre ++ pcTxt p).length ∧ isL (pre ++ (pcsTxt (p :: ps) ++ [93])) pre.length 93 = false := by
      obtain ⟨c, o⟩ := p
      have hnx : ∀ k, k = (pre ++ pcTxt (c, o)).length → (pre ++ (pcsTxt ((c, o) :: ps) ++ [93]))[k]? = some b1 := fun k hk => by
        rw [e, hk, List.getElem?_append_right (Nat.le_refl _), Nat.sub_self]; exact hb1
      have h0 : (pre ++ (pcsTxt ((c, o) :: ps) ++ [93]))[pre.length]? = some c := by
        rw [List.getElem?_append_right (Nat.le_refl _), Nat.sub_self]
        cases o <;> simp [pcsTxt, pcTxt]
      cases o with
      | none =>
        simp only [pcOk] at hp
        refine ⟨?_, isL_no h0 93 (by omega)⟩
        rw [step_one h0 hp.1 (hnx _ (by simp [pcTxt])) hb2]
        simp [pcSet, pcTxt]
      | some d =>
        simp only [pcOk] at hp
        have h1 : (pre ++ (pcsTxt ((c, some d) :: ps) ++ [93]))[pre.length + 1]? = some 45 := by
          rw [List.getElem?_append_right (by omega), Nat.add_sub_cancel_left]; simp [pcsTxt, pcTxt]
        have h2 : (pre ++ (pcsTxt ((c, some d) :: ps) ++ [93]))[pre.length + 2]? = some d := by
          rw [List.getElem?_append_right (by omega), Nat.add_sub_cancel_left]; simp [pcsTxt, pcTxt]
        refine ⟨?_, isL_no h0 93 (by omega)⟩
        rw [step_rng h0 hp.1 h1 h2 hp.2.1]
        simp [pcSet, pcTxt]
    unfold loop
    rw [if_neg (by have := pcTxt_len p; simp [pcsTxt]; omega), key.2, Bool.and_false, if_neg (by decide), key.1]
    show loop _ glob m false (pre ++ pcTxt p).length (S ||| pcSet p) = _
    rw [e, loop_pcs glob ps (pre ++ pcTxt p) m false (S ||| pcSet p) hps (by simp at hn; omega) (fun h => by cases h)]
    congr 1
    · rw [Nat.or_assoc]
      congr 1
      have h1 : pcsSet (p :: ps) = ps.foldl (fun S p => S ||| pcSet p) (0 ||| pcSet p) := rfl
      rw [h1, foldl_or, Nat.zero_or]
    · simp [pcsTxt]; omega
theorem brk_pcs (ps : List Pc) (lang : Int) (hl : lang = 2 ∨ lang = 3 ∨ lang = 4) (hok : ∀ p ∈ ps, pcOk p) (hne : ps ≠ []) : brk (pcsTxt ps ++ [93]) 0 lang = .ok (pcsSet ps) ((pcsTxt ps).length + 1) := by
  have hn : ps.length ≤ (pcsTxt ps).length := by
    clear hne
    induction ps with
    | nil => simp
    | cons p ps ih =>
      have := ih (fun q hq => hok q (by simp [hq]))
      have := pcTxt_len p
      have e : pcsTxt (p :: ps) = pcTxt p ++ pcsTxt ps := by simp [pcsTxt]
      rw [e, List.length_append, List.length_cons]; omega
  obtain ⟨b, hb, -, hb2⟩ := head_letter ps hok
  have hb3 := hb2 hne
  have ht : turned (pcsTxt ps ++ [93]) (lang == 2) 0 = false := turned_no _ (isL_no hb 94 (by omega)) (isL_no hb 33 (by omega))
  unfold brk read
  rw [if_neg (by rcases hl with rfl | rfl | rfl <;> simp <;> omega)]
  show (match loop _ (lang == 2) ((pcsTxt ps ++ [93]).length + 1) true (if turned (pcsTxt ps ++ [93]) (lang == 2) 0 = true then 0 + 1 else 0) 0 with | .err c p => Rg.err c p | .ok S n => Rg.ok (if turned (pcsTxt ps ++ [93]) (lang == 2) 0 = true then cmpl S else S) (n + 1)) = _
  rw [ht]
  have h := loop_pcs (lang == 2) ps [] ((pcsTxt ps ++ [93]).length + 1) true 0 hok (by simp; omega) (fun _ => hne)
  simp only [List.nil_append, List.length_nil] at h
  rw [if_neg (by decide), h]
  simp
end Go.Proofs.YteeopjgfiojoiaaDoor
namespace Go.Proofs.YteeopjgfiojoiaaDoor
open Go Go.RowKit SN

/-! ### A bracket from any place is one from the front of what is left -/
def shRn (k : Nat) : Rg → Rg
  | .err c p => .err c (p + k)
  | .ok S n => .ok S (n + k)
theorem read_sh (x : UInt8) (l : List UInt8) (glob : Bool) (i : Nat) : read (x :: l) glob (i + 1) = shR (read l glob i) := by
  have ht : turned (x :: l) glob (i + 1) = turned l glob i := by unfold turned; rw [isL_sh, isL_sh]
  have key : ∀ st, i ≤ st → loop (x :: l) glob ((x :: l).length + 1) true (st + 1) 0 = shR (loop l glob (l.length + 1) true st 0) := fun st hst => by
    rw [loop_sh, List.length_cons, loop_fuel l glob 1 (l.length + 1) true st 0 (by omega)]
  unfold read
  rw [ht]
  cases turned l glob i with
  | true =>
    simp only [if_true]
    rw [key (i + 1) (by omega)]
    cases loop l glob (l.length + 1) true (i + 1) 0 <;> rfl
  | false =>
    simp only [Bool.false_eq_true, if_false]
    rw [key i (Nat.le_refl _)]
    cases loop l glob (l.length + 1) true i 0 <;> rfl
theorem brk_sh (x : UInt8) (l : List UInt8) (i : Nat) (hi : i ≤ l.length) : brk (x :: l) ((i + 1 : Nat) : Int) 2 = shR (brk l (i : Nat) 2) := by
  unfold brk
  have h1 : ¬ (((i + 1 : Nat) : Int) < 0 ∨ ((x :: l).length : Int) < ((i + 1 : Nat) : Int) ∨ ((2 : Int) ≠ 2 ∧ (2 : Int) ≠ 3 ∧ (2 : Int) ≠ 4)) := by simp; omega
  have h2 : ¬ (((i : Nat) : Int) < 0 ∨ (l.length : Int) < ((i : Nat) : Int) ∨ ((2 : Int) ≠ 2 ∧ (2 : Int) ≠ 3 ∧ (2 : Int) ≠ 4)) := by simp; omega
  rw [if_neg h1, if_neg h2]
  exact read_sh x l _ i
theorem shRn_succ (k : Nat) (r : Rg) : shR (shRn k r) = shRn (k + 1) r := by cases r <;> simp [shR, shRn] <;> omega
theorem brk_drop : ∀ (l : List UInt8) (i : Nat), i ≤ l.length → brk l (i : Nat) 2 = shRn i (brk (l.drop i) 0 2)
  | l, 0, _ => by
    have : shRn 0 (brk (l.drop 0) 0 2) = brk l 0 2 := by
      rw [List.drop_zero]; cases brk l 0 2 <;> rfl
    rw [this]; rfl
  | [], i + 1, h => by simp at h
  | x :: l, i + 1, h => by
    rw [brk_sh x l i (by simpa using h), brk_drop l i (by simpa using h), shRn_succ, List.drop_succ_cons]
theorem read_le (l : List UInt8) (glob : Bool) (i S n : Nat) (h : read l glob i = .ok S n) : i < n ∧ n ≤ l.length := by
  unfold read at h
  cases hl : loop l glob (l.length + 1) true (if turned l glob i = true then i + 1 else i) 0 with
  | err c p => rw [hl] at h; cases h
  | ok T M =>
    rw [hl] at h
    have := loop_ge _ _ _ _ _ _ hl
    have e : M + 1 = n := by cases h; rfl
    split at this <;> omega
theorem brk_le (l : List UInt8) (i lang : Int) (S n : Nat) (h : brk l i lang = .ok S n) : i < n ∧ n ≤ l.length := by
  unfold brk at h
  split at h
  · cases h
  · have := read_le _ _ _ _ _ h; omega
theorem ok_ofL' (c : UInt8) : Ok (ofL [c]) := by
  show Ok (add 0 c.toNat)
  exact ok_add ok_zero c.toNat_lt
theorem ok_tab : clsTab.all (fun x => decide (x.2 < 2 ^ 256)) = true := by decide +kernel
theorem ok_cls {l : List UInt8} {S : Nat} (h : cls l = some S) : Ok S := by
  unfold cls at h
  obtain ⟨x, hx, rfl⟩ := Option.map_eq_some_iff.1 h
  have h1 := List.mem_of_find?_eq_some hx
  have h2 := List.all_eq_true.1 ok_tab x h1
  have h3 : x.2 < 2 ^ 256 := of_decide_eq_true h2
  exact h3
theorem ok_item_cls {l : List UInt8} {glob : Bool} {i S n : Nat} (h : item l glob i = .cls S n) : Ok S := by
  unfold item at h
  split at h
  · cases h
  split at h
  · unfold itemCls itemCut at h
    split at h
    next h3 =>
      cases h
      exact ok_cls h3
    · cases h
  split at h
  · split at h <;> cases h
  · cases h
theorem ok_step {l : List UInt8} {glob : Bool} {i S n : Nat} (h : step l glob i = .ok S n) : Ok S := by
  unfold step at h
  cases hx : item l glob i with
  | err c p => rw [hx] at h; cases h
  | cls T k => rw [hx] at h; cases h; exact ok_item_cls hx
  | byte c k =>
    rw [hx, ranged_byte] at h
    split at h
    · cases h; exact ok_ofL' c
    · cases hy : item l glob (k + 1) with
      | err a p => rw [hy] at h; cases h
      | cls T p => rw [hy] at h; cases h
      | byte d p =>
        rw [hy] at h
        have h2 : (if d.toNat < c.toNat then Rg.err 7 i else .ok (rng c.toNat d.toNat) p) = .ok S n := h
        by_cases hdc : d.toNat < c.toNat
        · rw [if_pos hdc] at h2; cases h2
        · rw [if_neg hdc] at h2; cases h2; exact ok_ofP _
theorem ok_loop {l : List UInt8} {glob : Bool} : ∀ (n : Nat) (first : Bool) (i S T M : Nat), Ok S → loop l glob n first i S = .ok T M → Ok T
  | 0, _, _, _, _, _, _, h => by cases h
  | n + 1, first, i, S, T, M, hS, h => by
    unfold loop at h
    split at h
    · cases h
    split at h
    · cases h; exact hS
    cases hs : step l glob i with
    | err c p => rw [hs] at h; cases h
    | ok U next => rw [hs] at h; exact ok_loop n false next (S ||| U) T M (ok_or hS (ok_step hs)) h
theorem ok_brk {l : List UInt8} {i lang : Int} {S n : Nat} (h : brk l i lang = .ok S n) : Ok S := by
  unfold brk at h
  split at h
  · cases h
  unfold read at h
  cases hl : loop l (lang == 2) (l.length + 1) true (if turned l (lang == 2) i.toNat = true then i.toNat + 1 else i.toNat) 0 with
  | err c p => rw [hl] at h; cases h
  | ok T M =>
    rw [hl] at h
    have ho := ok_loop _ _ _ _ _ _ ok_zero hl
    have e : (if turned l (lang == 2) i.toNat = true then cmpl T else T) = S := by cases h; rfl
    rw [← e]
    split
    · exact ok_cmpl ho
    · exact ho

/-! ### A pattern's pieces -/
/-- A piece: its kind (1: a byte of a set; 2: one byte; 3: many) and its set. -/
structure Pie where
  kind : Nat
  set : Nat
deriving DecidableEq
def oneP (c : UInt8) : Pie := ⟨1, ofL [c]⟩
def ptF : Nat → List UInt8 → List Pie
  | 0, _ => []
  | _ + 1, [] => []
  | n + 1, c :: l =>
    if c = 42 then ⟨3, 0⟩ :: ptF n l
    else if c = 63 then ⟨2, 0⟩ :: ptF n l
    else if c = 91 then (match brk l 0 2 with | .ok S k => ⟨1, S⟩ :: ptF n (l.drop k) | .err _ _ => oneP 91 :: ptF n l)
    else if c = 92 then (match l with | [] => [oneP 92] | d :: l' => oneP d :: ptF n l')
    else oneP c :: ptF n l
def pt (l : List UInt8) : List Pie := ptF l.length l
theorem ptF_fuel : ∀ (n : Nat) (l : List UInt8), l.length ≤ n → ptF n l = pt l := by
  have key : ∀ (n m : Nat) (l : List UInt8), l.length ≤ n → l.length ≤ m → ptF n l = ptF m l := by
    intro n
    induction n with
    | zero =>
      intro m l hn hm
      have : l = [] := List.eq_nil_of_length_eq_zero (by omega)
      subst this
      cases m <;> rfl
    | succ n ih =>
      intro m l hn hm
      cases l with
      | nil => cases m <;> rfl
      | cons c l =>
        simp only [List.length_cons] at hn hm
        obtain ⟨m, rfl⟩ : ∃ k, m = k + 1 := ⟨m - 1, by omega⟩
        have e1 := ih m l (by omega) (by omega)
        have e2 : ∀ k, ptF n (l.drop k) = ptF m (l.drop k) := fun k => ih m _ (by simp; omega) (by simp; omega)
        unfold ptF
        rw [e1]
        simp only [e2]
        cases l with
        | nil => rfl
        | cons d l' =>
          have e3 := ih m l' (by simp at hn; omega) (by simp at hm; omega)
          simp only [e3]
  intro n l h
  exact key n l.length l h (Nat.le_refl _)
theorem pt_nil : pt [] = [] := rfl
theorem pt_many (l : List UInt8) : pt (42 :: l) = ⟨3, 0⟩ :: pt l := rfl
theorem pt_any (l : List UInt8) : pt (63 :: l) = ⟨2, 0⟩ :: pt l := rfl
theorem pt_end : pt [92] = [oneP 92] := rfl
theorem pt_quoted (d : UInt8) (l : List UInt8) : pt (92 :: d :: l) = oneP d :: pt l := by
  show oneP d :: ptF (l.length + 1) l = _
  rw [ptF_fuel _ _ (by omega)]
theorem pt_set (l : List UInt8) (S k : Nat) (h : brk l 0 2 = .ok S k) : pt (91 :: l) = ⟨1, S⟩ :: pt (l.drop k) := by
  show (match brk l 0 2 with | .ok S k => (⟨1, S⟩ : Pie) :: ptF l.length (l.drop k) | .err _ _ => oneP 91 :: ptF l.length l) = _
  rw [h]
  show _ :: ptF l.length (l.drop k) = _
  rw [ptF_fuel _ _ (by simp)]
theorem pt_open (l : List UInt8) (c p : Nat) (h : brk l 0 2 = .err c p) : pt (91 :: l) = oneP 91 :: pt l := by
  show (match brk l 0 2 with | .ok S k => (⟨1, S⟩ : Pie) :: ptF l.length (l.drop k) | .err _ _ => oneP 91 :: ptF l.length l) = _
  rw [h]; rfl
theorem pt_else (c : UInt8) (l : List UInt8) (h1 : c ≠ 42) (h2 : c ≠ 63) (h3 : c ≠ 91) (h4 : c ≠ 92) : pt (c :: l) = oneP c :: pt l := by
  show (if c = 42 then _ else if c = 63 then _ else if c = 91 then _ else if c = 92 then _ else _) = _
  rw [if_neg h1, if_neg h2, if_neg h3, if_neg h4]; rfl
/-- No more pieces than bytes. -/
theorem ptF_len : ∀ (n : Nat) (l : List UInt8), (ptF n l).length ≤ l.length
  | 0, l => by simp [ptF]
  | n + 1, [] => by simp [ptF]
  | n + 1, c :: l => by
    unfold ptF
    have h1 := ptF_len n l
    split
    · simp; omega
    split
    · simp; omega
    split
    · split
      next S k _ => have := ptF_len n (l.drop k); simp at this ⊢; omega
      · simp; omega
    split
    · cases l with
      | nil => simp
      | cons d l' => have := ptF_len n l'; simp; omega
    · simp; omega
theorem pt_len (l : List UInt8) : (pt l).length ≤ l.length := ptF_len _ l
/-- Each piece's set is a set of bytes. -/
theorem ptF_ok : ∀ (n : Nat) (l : List UInt8), ∀ p ∈ ptF n l, Ok p.set ∧ (p.kind = 1 ∨ p.kind = 2 ∨ p.kind = 3)
  | 0, l, p, h => by simp [ptF] at h
  | n + 1, [], p, h => by simp [ptF] at h
  | n + 1, c :: l, p, h => by
    have one : ∀ c : UInt8, Ok (oneP c).set ∧ ((oneP c).kind = 1 ∨ (oneP c).kind = 2 ∨ (oneP c).kind = 3) := fun c => ⟨ok_ofL' c, .inl rfl⟩
    have h1 := ptF_ok n l p
    unfold ptF at h
    split at h
    · rcases List.mem_cons.1 h with rfl | h
      · exact ⟨ok_zero, .inr (.inr rfl)⟩
      · exact h1 h
    split at h
    · rcases List.mem_cons.1 h with rfl | h
      · exact ⟨ok_zero, .inr (.inl rfl)⟩
      · exact h1 h
    split at h
    · split at h
      next S k hb =>
        rcases List.mem_cons.1 h with rfl | h
        · exact ⟨ok_brk hb, .inl rfl⟩
        · exact ptF_ok n (l.drop k) p h
      · rcases List.mem_cons.1 h with rfl | h
        · exact one _
        · exact h1 h
    split at h
    · cases l with
      | nil => simp at h; subst h; exact one _
      | cons d l' =>
        rcases List.mem_cons.1 h with rfl | h
        · exact one _
        · exact ptF_ok n l' p h
    · rcases List.mem_cons.1 h with rfl | h
      · exact one _
      · exact h1 h
theorem pt_ok (l : List UInt8) : ∀ p ∈ pt l, Ok p.set ∧ (p.kind = 1 ∨ p.kind = 2 ∨ p.kind = 3) := ptF_ok _ l

/-! ### Two patterns, one behind the other -/
/-- No bracket; no backslash at the end. -/
def safe : List UInt8 → Bool
  | [] => true
  | [c] => c != 91 && c != 92
  | c :: d :: l => if c = 91 then false else if c = 92 then safe l else safe (d :: l)
theorem pt_join : ∀ (n : Nat) (a b : List UInt8), a.length ≤ n → safe a = true → pt (a ++ b) = pt a ++ pt b
  | _, [], b, _, _ => by simp [pt_nil]
  | 0, c :: a, b, hn, _ => by simp at hn
  | n + 1, [c], b, _, h => by
    simp [safe] at h
    show pt (c :: b) = pt [c] ++ pt b
    by_cases h1 : c = 42
    · subst h1; rw [pt_many, pt_many]; rfl
    by_cases h2 : c = 63
    · subst h2; rw [pt_any, pt_any]; rfl
    rw [pt_else c b h1 h2 h.1 h.2, pt_else c [] h1 h2 h.1 h.2]; rfl
  | n + 1, c :: d :: a, b, hn, h => by
    simp only [List.length_cons] at hn
    show pt (c :: d :: (a ++ b)) = pt (c :: d :: a) ++ pt b
    unfold safe at h
    split at h
    · cases h
    next h3 =>
      split at h
      next h4 =>
        subst h4
        rw [pt_quoted, pt_quoted, pt_join n a b (by omega) h]; rfl
      next h4 =>
        have ih := pt_join n (d :: a) b (by simp; omega) h
        rw [List.cons_append] at ih
        by_cases h1 : c = 42
        · subst h1; rw [pt_many, pt_many, ih]; rfl
        by_cases h2 : c = 63
        · subst h2; rw [pt_any, pt_any, ih]; rfl
        rw [pt_else c _ h1 h2 h3 h4, pt_else c _ h1 h2 h3 h4, ih]; rfl

/-! ### What is quoted stands for itself -/
def qt1 (c : UInt8) : List UInt8 := if c = 42 ∨ c = 63 ∨ c = 91 ∨ c = 92 then [92, c] else [c]
def qt (l : List UInt8) : List UInt8 := l.flatMap qt1
theorem pt_qt : ∀ l : List UInt8, pt (qt l) = l.map oneP
  | [] => rfl
  | c :: l => by
    have ih := pt_qt l
    have e : qt (c :: l) = qt1 c ++ qt l := by simp [qt]
    rw [e]
    unfold qt1
    split
    · show pt (92 :: c :: qt l) = _
      rw [pt_quoted, ih]; rfl
    next h =>
      simp only [not_or] at h
      show pt (c :: qt l) = _
      rw [pt_else c _ h.1 h.2.1 h.2.2.1 h.2.2.2, ih]; rfl
theorem qt_len (l : List UInt8) : l.length ≤ (qt l).length ∧ (qt l).length ≤ 2 * l.length := by
  induction l with
  | nil => simp [qt]
  | cons c l ih =>
    have e : qt (c :: l) = qt1 c ++ qt l := by simp [qt]
    rw [e, List.length_append, List.length_cons]
    unfold qt1
    split <;> simp <;> omega
theorem qt_snoc (l : List UInt8) (c : UInt8) : qt (l ++ [c]) = qt l ++ qt1 c := by simp [qt]
end Go.Proofs.YteeopjgfiojoiaaDoor
