/- The plain table of classes; bracket expressions as a plain law on lists of bytes. No conditions. -/
import Derived.Test.YteeopjgfiojoiaaDoorWal
import Derived.Lib.CutLaws
namespace Go.Proofs.YteeopjgfiojoiaaDoor
open Go Go.RowKit SN

def clsTab : List (List UInt8 × Nat) := [([97, 108, 110, 117, 109], rng 97 122 ||| rng 65 90 ||| rng 48 57), ([97, 108, 112, 104, 97], rng 97 122 ||| rng 65 90), ([100, 105, 103, 105, 116], rng 48 57), ([117, 112, 112, 101, 114], rng 65 90), ([108, 111, 119, 101, 114], rng 97 122), ([115, 112, 97, 99, 101], rng 9 13 ||| rng 32 32), ([98, 108, 97, 110, 107], rng 9 9 ||| rng 32 32), ([112, 114, 105, 110, 116], rng 33 126 ||| rng 32 32), ([103, 114, 97, 112, 104], rng 33 126), ([112, 117, 110, 99, 116], cmpl (cmpl (rng 33 126) ||| (rng 97 122 ||| rng 65 90 ||| rng 48 57))), ([99, 110, 116, 114, 108], rng 0 31 ||| rng 127 127), ([120, 100, 105, 103, 105, 116], rng 48 57 ||| (rng 97 102 ||| rng 65 70))]
/-- The set of a class's name. -/
def cls (l : List UInt8) : Option Nat := (clsTab.find? fun x => l == x.1).map (·.2)
def clsNo (s : ByteArray) : Prop := (s.toList == [97, 108, 110, 117, 109]) = false ∧ (s.toList == [97, 108, 112, 104, 97]) = false ∧ (s.toList == [100, 105, 103, 105, 116]) = false ∧ (s.toList == [117, 112, 112, 101, 114]) = false ∧ (s.toList == [108, 111, 119, 101, 114]) = false ∧ (s.toList == [115, 112, 97, 99, 101]) = false ∧ (s.toList == [98, 108, 97, 110, 107]) = false ∧ (s.toList == [112, 114, 105, 110, 116]) = false ∧ (s.toList == [103, 114, 97, 112, 104]) = false ∧ (s.toList == [112, 117, 110, 99, 116]) = false ∧ (s.toList == [99, 110, 116, 114, 108]) = false ∧ (s.toList == [120, 100, 105, 103, 105, 116]) = false
theorem cls_none (s : ByteArray) (h : clsNo s) : cls s.data.toList = none := by
  obtain ⟨h0, h1, h2, h3, h4, h5, h6, h7, h8, h9, h10, h11⟩ := h
  rw [ByteArray.toList_eq] at h0 h1 h2 h3 h4 h5 h6 h7 h8 h9 h10 h11
  unfold cls clsTab
  simp only [List.find?_cons, List.find?_nil, h0, h1, h2, h3, h4, h5, h6, h7, h8, h9, h10, h11, Option.map_none]
theorem cls_cases (s : ByteArray) : s = ⟨#[97, 108, 110, 117, 109]⟩ ∨ s = ⟨#[97, 108, 112, 104, 97]⟩ ∨ s = ⟨#[100, 105, 103, 105, 116]⟩ ∨ s = ⟨#[117, 112, 112, 101, 114]⟩ ∨ s = ⟨#[108, 111, 119, 101, 114]⟩ ∨ s = ⟨#[115, 112, 97, 99, 101]⟩ ∨ s = ⟨#[98, 108, 97, 110, 107]⟩ ∨ s = ⟨#[112, 114, 105, 110, 116]⟩ ∨ s = ⟨#[103, 114, 97, 112, 104]⟩ ∨ s = ⟨#[112, 117, 110, 99, 116]⟩ ∨ s = ⟨#[99, 110, 116, 114, 108]⟩ ∨ s = ⟨#[120, 100, 105, 103, 105, 116]⟩ ∨ clsNo s := by
  have e : ∀ l : List UInt8, (s.toList == l) = true → s = ⟨l.toArray⟩ := fun l h => by
    rw [ByteArray.toList_eq] at h
    have h' : s.data.toList = l := by simpa using h
    cases s; simp at h'; subst h'; simp
  by_cases h0 : (s.toList == [97, 108, 110, 117, 109]) = true
  · exact (.inl (e _ h0))
  by_cases h1 : (s.toList == [97, 108, 112, 104, 97]) = true
  · exact .inr ((.inl (e _ h1)))
  by_cases h2 : (s.toList == [100, 105, 103, 105, 116]) = true
  · exact .inr (.inr ((.inl (e _ h2))))
  by_cases h3 : (s.toList == [117, 112, 112, 101, 114]) = true
  · exact .inr (.inr (.inr ((.inl (e _ h3)))))
  by_cases h4 : (s.toList == [108, 111, 119, 101, 114]) = true
  · exact .inr (.inr (.inr (.inr ((.inl (e _ h4))))))
  by_cases h5 : (s.toList == [115, 112, 97, 99, 101]) = true
  · exact .inr (.inr (.inr (.inr (.inr ((.inl (e _ h5)))))))
  by_cases h6 : (s.toList == [98, 108, 97, 110, 107]) = true
  · exact .inr (.inr (.inr (.inr (.inr (.inr ((.inl (e _ h6))))))))
  by_cases h7 : (s.toList == [112, 114, 105, 110, 116]) = true
  · exact .inr (.inr (.inr (.inr (.inr (.inr (.inr ((.inl (e _ h7)))))))))
  by_cases h8 : (s.toList == [103, 114, 97, 112, 104]) = true
  · exact .inr (.inr (.inr (.inr (.inr (.inr (.inr (.inr ((.inl (e _ h8))))))))))
  by_cases h9 : (s.toList == [112, 117, 110, 99, 116]) = true
  · exact .inr (.inr (.inr (.inr (.inr (.inr (.inr (.inr (.inr ((.inl (e _ h9)))))))))))
  by_cases h10 : (s.toList == [99, 110, 116, 114, 108]) = true
  · exact .inr (.inr (.inr (.inr (.inr (.inr (.inr (.inr (.inr (.inr ((.inl (e _ h10))))))))))))
  by_cases h11 : (s.toList == [120, 100, 105, 103, 105, 116]) = true
  · exact .inr (.inr (.inr (.inr (.inr (.inr (.inr (.inr (.inr (.inr (.inr ((.inl (e _ h11)))))))))))))
  exact .inr (.inr (.inr (.inr (.inr (.inr (.inr (.inr (.inr (.inr (.inr (.inr (⟨by simpa using h0, by simpa using h1, by simpa using h2, by simpa using h3, by simpa using h4, by simpa using h5, by simpa using h6, by simpa using h7, by simpa using h8, by simpa using h9, by simpa using h10, by simpa using h11⟩))))))))))))
end Go.Proofs.YteeopjgfiojoiaaDoor
namespace Go.Proofs.YteeopjgfiojoiaaDoor
open Go Go.RowKit SN

/-- Does the byte stand there? -/
def isL (l : List UInt8) (i : Nat) (c : Int) : Bool := (l[i]?).any fun b => (b.toNat : Int) == c
/-- An item: an error (code, place); a byte; a class's set; each with the place behind. -/
inductive It where
  | err (code pos : Nat) | byte (c : UInt8) (next : Nat) | cls (S next : Nat)
/-- What a reader hands on: an error; a set and the place behind. -/
inductive Rg where
  | err (code pos : Nat) | ok (S next : Nat)
def itemCut (c : List UInt8 × List UInt8 × Bool) (at' : Nat) : It :=
  match c.2.2, cls c.1 with
  | true, some S => .cls S (at' + (c.1.length + 4))
  | _, _ => .err 8 at'
def itemCls (l : List UInt8) (at' : Nat) : It := itemCut (Lib.cut (l.drop (at' + 2)) [58, 93]) at'
def itemOne (l : List UInt8) (at' : Nat) : It := .byte (l[at']?.getD 0) (at' + 1)
def item (l : List UInt8) (glob : Bool) (at' : Nat) : It :=
  if isL l at' 91 && (isL l (at' + 1) 46 || isL l (at' + 1) 61) then .err 8 at'
  else if isL l at' 91 && isL l (at' + 1) 58 then itemCls l at'
  else if isL l at' 92 && glob then (if l.length ≤ at' + 1 then .err 8 l.length else itemOne l (at' + 1))
  else itemOne l at'
def ranged (l : List UInt8) (glob : Bool) (x : It) (start : Nat) : Rg :=
  match x with
  | .err c p => .err c p
  | .cls S next => .ok S next
  | .byte c next =>
    if !isL l next 45 || isL l (next + 1) 93 || decide (l.length ≤ next + 1) then .ok (ofL [c]) next
    else match item l glob (next + 1) with
      | .err k p => .err k p
      | .cls _ _ => .err 8 (next + 1)
      | .byte d n => if d.toNat < c.toNat then .err 7 start else .ok (rng c.toNat d.toNat) n
def step (l : List UInt8) (glob : Bool) (at' : Nat) : Rg := ranged l glob (item l glob at') at'
def loop (l : List UInt8) (glob : Bool) : Nat → Bool → Nat → Nat → Rg
  | 0, _, _, _ => .err 8 l.length
  | n + 1, first, at', S =>
    if l.length ≤ at' then .err 8 l.length
    else if !first && isL l at' 93 then .ok S at'
    else match step l glob at' with
      | .err c p => .err c p
      | .ok T next => loop l glob n false next (S ||| T)
def turned (l : List UInt8) (glob : Bool) (at' : Nat) : Bool := isL l at' 94 || isL l at' 33 && glob
def read (l : List UInt8) (glob : Bool) (at' : Nat) : Rg :=
  match loop l glob (l.length + 1) true (if turned l glob at' then at' + 1 else at') 0 with
  | .err c p => .err c p
  | .ok S n => .ok (if turned l glob at' then cmpl S else S) (n + 1)

/-! ### Places go forward, and stay within -/
theorem isL_lt {l : List UInt8} {i : Nat} {c : Int} (h : isL l i c = true) : i < l.length := by
  rcases Nat.lt_or_ge i l.length with h1 | h1
  · exact h1
  · simp [isL, List.getElem?_eq_none h1] at h
theorem cut_len (l sep : List UInt8) (h : (Lib.cut l sep).2.2 = true) : (Lib.cut l sep).1.length + sep.length ≤ l.length := by
  unfold Lib.cut at h ⊢
  split at h
  next h0 =>
    rw [if_pos h0]
    have hr := Lib.index_room l sep h0
    simp only [List.length_take]
    omega
  next => simp at h
theorem item_byte {l : List UInt8} {glob : Bool} {at' : Nat} (hat : at' < l.length) {c : UInt8} {n : Nat} (h : item l glob at' = .byte c n) : at' < n ∧ n ≤ l.length ∧ l[n - 1]? = some c := by
  have one : ∀ i, i < l.length → itemOne l i = .byte c n → n = i + 1 ∧ l[i]? = some c := by
    intro i hi h
    simp only [itemOne, List.getElem?_eq_getElem hi, Option.getD_some, It.byte.injEq] at h
    exact ⟨h.2.symm, by rw [List.getElem?_eq_getElem hi, h.1]⟩
  unfold item itemCls itemCut at h
  split at h
  · cases h
  split at h
  · split at h <;> cases h
  split at h
  · split at h
    · cases h
    · obtain ⟨rfl, e⟩ := one _ (by omega) h
      exact ⟨by omega, by omega, e⟩
  · obtain ⟨rfl, e⟩ := one _ hat h
    exact ⟨by omega, by omega, e⟩
theorem item_cls {l : List UInt8} {glob : Bool} {at' S n : Nat} (h : item l glob at' = .cls S n) : at' < n ∧ n ≤ l.length := by
  unfold item itemCls itemCut itemOne at h
  split at h
  · cases h
  split at h
  next h1 =>
    split at h
    next h2 h3 =>
      have hc := cut_len _ _ h2
      simp at hc h
      have := isL_lt (by simpa using h1 : isL l at' 91 = true ∧ isL l (at' + 1) 58 = true).2
      omega
    next => cases h
  split at h
  · split at h <;> cases h
  · cases h
theorem step_ok {l : List UInt8} {glob : Bool} {at' S n : Nat} (hat : at' < l.length) (h : step l glob at' = .ok S n) : at' < n ∧ n ≤ l.length := by
  unfold step ranged at h
  split at h
  · cases h
  next hx =>
    cases h
    exact item_cls hx
  next c next hx =>
    have hb := item_byte hat hx
    split at h
    · cases h; exact ⟨hb.1, hb.2.1⟩
    · rename_i hh
      simp at hh
      split at h
      · cases h
      · cases h
      next d n2 hy =>
        split at h
        · cases h
        · cases h
          have := item_byte (by omega) hy
          omega
end Go.Proofs.YteeopjgfiojoiaaDoor
