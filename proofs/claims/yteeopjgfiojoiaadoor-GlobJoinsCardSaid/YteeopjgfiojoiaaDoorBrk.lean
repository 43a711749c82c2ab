/- Bracket expressions as a plain law on lists of bytes: items, ranges, the loop, the bracket. No program in sight, no conditions. -/
import Derived.Test.YteeopjgfiojoiaaDoorSetCls
import Derived.Lib.CutLaws
namespace Go.Proofs.YteeopjgfiojoiaaDoor
open Go Go.RowKit SN

/-- Does the byte stand there? -/
def isL (l : List UInt8) (i : Nat) (c : Int) : Bool := (l[i]?).any fun b => (b.toNat : Int) == c
/-- An item: an error (code, place); a byte; a class's set; each with the place behind. -/
inductive It where
  | err (code pos : Nat) | byte (c : UInt8) (next : Nat) | cls (S next : Nat)
/-- What a reader hands on: an error; a set and the place behind. -/
inductive Rg where
  | err (code pos : Nat) | ok (S next : Nat)
def itemCut (c : List UInt8 × List UInt8 × Bool) (at' : Nat) : It :=
  match c.2.2, cls c.1 with
  | true, some S => .cls S (at' + (c.1.length + 4))
  | _, _ => .err 8 at'
def itemCls (l : List UInt8) (at' : Nat) : It := itemCut (Lib.cut (l.drop (at' + 2)) [58, 93]) at'
def itemOne (l : List UInt8) (at' : Nat) : It := .byte (l[at']?.getD 0) (at' + 1)
def item (l : List UInt8) (glob : Bool) (at' : Nat) : It :=
  if isL l at' 91 && (isL l (at' + 1) 46 || isL l (at' + 1) 61) then .err 8 at'
  else if isL l at' 91 && isL l (at' + 1) 58 then itemCls l at'
  else if isL l at' 92 && glob then (if l.length ≤ at' + 1 then .err 8 l.length else itemOne l (at' + 1))
  else itemOne l at'
def ranged (l : List UInt8) (glob : Bool) (x : It) (start : Nat) : Rg :=
  match x with
  | .err c p => .err c p
  | .cls S next => .ok S next
  | .byte c next =>
    if !isL l next 45 || isL l (next + 1) 93 || decide (l.length ≤ next + 1) then .ok (ofL [c]) next
    else match item l glob (next + 1) with
      | .err k p => .err k p
      | .cls _ _ => .err 8 (next + 1)
      | .byte d n => if d.toNat < c.toNat then .err 7 start else .ok (rng c.toNat d.toNat) n
def step (l : List UInt8) (glob : Bool) (at' : Nat) : Rg := ranged l glob (item l glob at') at'
def loop (l : List UInt8) (glob : Bool) : Nat → Bool → Nat → Nat → Rg
  | 0, _, _, _ => .err 8 l.length
  | n + 1, first, at', S =>
    if l.length ≤ at' then .err 8 l.length
    else if !first && isL l at' 93 then .ok S at'
    else match step l glob at' with
      | .err c p => .err c p
      | .ok T next => loop l glob n false next (S ||| T)
def turned (l : List UInt8) (glob : Bool) (at' : Nat) : Bool := isL l at' 94 || isL l at' 33 && glob
def read (l : List UInt8) (glob : Bool) (at' : Nat) : Rg :=
  match loop l glob (l.length + 1) true (if turned l glob at' then at' + 1 else at') 0 with
  | .err c p => .err c p
  | .ok S n => .ok (if turned l glob at' then cmpl S else S) (n + 1)

/-! ### Places go forward, and stay within -/
theorem isL_lt {l : List UInt8} {i : Nat} {c : Int} (h : isL l i c = true) : i < l.length := by
  rcases Nat.lt_or_ge i l.length with h1 | h1
  · exact h1
  · simp [isL, List.getElem?_eq_none h1] at h
theorem cut_len (l sep : List UInt8) (h : (Lib.cut l sep).2.2 = true) : (Lib.cut l sep).1.length + sep.length ≤ l.length := by
  unfold Lib.cut at h ⊢
  split at h
  next h0 =>
    rw [if_pos h0]
    have hr := Lib.index_room l sep h0
    simp only [List.length_take]
    omega
  next => simp at h
theorem item_byte {l : List UInt8} {glob : Bool} {at' : Nat} (hat : at' < l.length) {c : UInt8} {n : Nat} (h : item l glob at' = .byte c n) : at' < n ∧ n ≤ l.length ∧ l[n - 1]? = some c := by
  have one : ∀ i, i < l.length → itemOne l i = .byte c n → n = i + 1 ∧ l[i]? = some c := by
    intro i hi h
    simp only [itemOne, List.getElem?_eq_getElem hi, Option.getD_some, It.byte.injEq] at h
    exact ⟨h.2.symm, by rw [List.getElem?_eq_getElem hi, h.1]⟩
  unfold item itemCls itemCut at h
  split at h
  · cases h
  split at h
  · split at h <;> cases h
  split at h
  · split at h
    · cases h
    · obtain ⟨rfl, e⟩ := one _ (by omega) h
      exact ⟨by omega, by omega, e⟩
  · obtain ⟨rfl, e⟩ := one _ hat h
    exact ⟨by omega, by omega, e⟩
theorem item_cls {l : List UInt8} {glob : Bool} {at' S n : Nat} (h : item l glob at' = .cls S n) : at' < n ∧ n ≤ l.length := by
  unfold item itemCls itemCut itemOne at h
  split at h
  · cases h
  split at h
  next h1 =>
    split at h
    next h2 h3 =>
      have hc := cut_len _ _ h2
      simp at hc h
      have := isL_lt (by simpa using h1 : isL l at' 91 = true ∧ isL l (at' + 1) 58 = true).2
      omega
    next => cases h
  split at h
  · split at h <;> cases h
  · cases h
theorem step_ok {l : List UInt8} {glob : Bool} {at' S n : Nat} (hat : at' < l.length) (h : step l glob at' = .ok S n) : at' < n ∧ n ≤ l.length := by
  unfold step ranged at h
  split at h
  · cases h
  next hx =>
    cases h
    exact item_cls hx
  next c next hx =>
    have hb := item_byte hat hx
    split at h
    · cases h; exact ⟨hb.1, hb.2.1⟩
    · rename_i hh
      simp at hh
      split at h
      · cases h
      · cases h
      next d n2 hy =>
        split at h
        · cases h
        · cases h
          have := item_byte (by omega) hy
          omega
end Go.Proofs.YteeopjgfiojoiaaDoor
