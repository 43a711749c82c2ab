/- What test's operands tell, in plain words: true or false, or an error's code and place. No program, no conditions. -/
import Derived.Test.YtfnaooplpofgiaaGreatDoorNumP
namespace Go.Proofs.YtfnaooplpofgiaaGreatDoor

inductive Out where
  | val (b : Bool)
  | err (c p : Nat)
def Out.neg : Out → Out
  | .val b => .val (!b)
  | .err c p => .err c (p + 1)
def Out.mov : Out → Out
  | .val b => .val b
  | .err c p => .err c (p + 1)
def Out.up (k : Nat) : Out → Out
  | .val b => .val b
  | .err c p => .err c (p + k)
def Out.bool : Out → Bool
  | .val b => b
  | .err _ _ => false
def Out.code : Out → Nat
  | .val _ => 0
  | .err c _ => c
def Out.pos : Out → Nat
  | .val _ => 0
  | .err _ p => p
def Out.lang : Out → Nat
  | .val _ => 0
  | .err _ _ => 6
def Out.isErr : Out → Bool
  | .val _ => false
  | .err _ _ => true
/-- What two operands' numbers tell, by the operator's number. -/
def cmpZ : Nat → Int → Int → Bool
  | 0, x, y => x == y
  | 1, x, y => x != y
  | 2, x, y => decide (y < x)
  | 3, x, y => decide (y ≤ x)
  | 4, x, y => decide (x < y)
  | 5, x, y => decide (x ≤ y)
  | _, _, _ => false
def cmpOut (k : Nat) : Option Int → Option Int → Out
  | none, _ => .err 13 0
  | some _, none => .err 13 2
  | some x, some y => .val (cmpZ k x y)
/-- Which operator of numbers it is. -/
def opN (o : List UInt8) : Option Nat :=
  if o == [45, 101, 113] then some 0 else if o == [45, 110, 101] then some 1 else if o == [45, 103, 116] then some 2
  else if o == [45, 103, 101] then some 3 else if o == [45, 108, 116] then some 4 else if o == [45, 108, 101] then some 5 else none
/-- What an operator of two operands tells. -/
def binO (a o b : List UInt8) : Option Out :=
  if o == [61] then some (.val (a == b)) else if o == [33, 61] then some (.val (!(a == b)))
  else (opN o).map fun k => cmpOut k (number a) (number b)
/-- What operands tell; U: what an operator of one operand tells. -/
def eval2O (U : List UInt8 → List UInt8 → Option Bool) (a b : List UInt8) : Out :=
  if a == [33] then (Out.val (!b.isEmpty)).neg else match U a b with
    | some x => .val x
    | none => .err 14 0
def eval3O (U : List UInt8 → List UInt8 → Option Bool) (a b c : List UInt8) : Out :=
  match binO a b c with
  | some r => r
  | none => if a == [33] then (eval2O U b c).neg else if a == [40] && c == [41] then .val (!b.isEmpty) else .err 14 1
def eval4O (U : List UInt8 → List UInt8 → Option Bool) (a b c d : List UInt8) : Out :=
  if a == [33] then (eval3O U b c d).neg else if a == [40] && d == [41] then (eval2O U b c).mov else .err 14 0
def evalO (U : List UInt8 → List UInt8 → Option Bool) : List (List UInt8) → Out
  | [] => .val false
  | [a] => .val (!a.isEmpty)
  | [a, b] => eval2O U a b
  | [a, b, c] => eval3O U a b c
  | [a, b, c, d] => eval4O U a b c d
  | _ => .err 14 4
/-- The first operand that is too long. -/
def longAt : List (List UInt8) → Option Nat
  | [] => none
  | s :: l => if 1024 < s.length then some 0 else (longAt l).map (· + 1)
/-- The whole: too many, too long, or what they tell. -/
def testO (U : List UInt8 → List UInt8 → Option Bool) (l : List (List UInt8)) : Out :=
  if 64 < l.length then .err 5 0 else match longAt l with
    | some i => .err 2 i
    | none => evalO U l
def Out.ok : Out → Prop
  | .val _ => True
  | .err c _ => 1 ≤ c ∧ c ≤ 21
theorem neg_ok {O : Out} (h : O.ok) : O.neg.ok := by cases O <;> exact h
theorem mov_ok {O : Out} (h : O.ok) : O.mov.ok := by cases O <;> exact h
theorem cmpOut_ok (k : Nat) (a b : Option Int) : (cmpOut k a b).ok := by
  cases a with
  | none => exact ⟨by decide, by decide⟩
  | some x => cases b with
    | none => exact ⟨by decide, by decide⟩
    | some y => trivial
theorem binO_ok {a o b : List UInt8} {O : Out} (h : binO a o b = some O) : O.ok := by
  unfold binO at h
  split at h
  · cases h; trivial
  · split at h
    · cases h; trivial
    · cases hk : opN o with
      | none => rw [hk] at h; cases h
      | some k => rw [hk] at h; cases h; exact cmpOut_ok _ _ _
theorem ok14 (p : Nat) : (Out.err 14 p).ok := ⟨by decide, by decide⟩
theorem eval2_ok' (U : List UInt8 → List UInt8 → Option Bool) (a b : List UInt8) : (eval2O U a b).ok := by
  unfold eval2O
  split
  · trivial
  · split
    · trivial
    · exact ok14 _
theorem eval3_ok' (U : List UInt8 → List UInt8 → Option Bool) (a b c : List UInt8) : (eval3O U a b c).ok := by
  unfold eval3O
  split
  · next O h => exact binO_ok h
  · split
    · exact neg_ok (eval2_ok' U b c)
    · split
      · trivial
      · exact ok14 _
theorem eval4_ok' (U : List UInt8 → List UInt8 → Option Bool) (a b c d : List UInt8) : (eval4O U a b c d).ok := by
  unfold eval4O
  split
  · exact neg_ok (eval3_ok' U b c d)
  · split
    · exact mov_ok (eval2_ok' U b c)
    · exact ok14 _
theorem evalO_ok (U : List UInt8 → List UInt8 → Option Bool) (l : List (List UInt8)) : (evalO U l).ok := by
  match l with
  | [] => trivial
  | [a] => trivial
  | [a, b] => exact eval2_ok' U a b
  | [a, b, c] => exact eval3_ok' U a b c
  | [a, b, c, d] => exact eval4_ok' U a b c d
  | a :: b :: c :: d :: e :: r => exact ok14 _
theorem longAt_none : ∀ (l : List (List UInt8)), (∀ s ∈ l, s.length ≤ 1024) → longAt l = none
  | [], _ => rfl
  | s :: l, h => by
    unfold longAt
    rw [if_neg (by have := h s (by simp); omega), longAt_none l (fun x hx => h x (by simp [hx]))]
    rfl
theorem longAt_some : ∀ (l : List (List UInt8)) (k : Nat) (s : List UInt8), (∀ i t, i < k → l[i]? = some t → t.length ≤ 1024) → l[k]? = some s → 1024 < s.length → longAt l = some k
  | [], k, s, _, h, _ => by cases h
  | t :: l, 0, s, _, h, h1 => by
    cases h
    unfold longAt
    rw [if_pos h1]
  | t :: l, k + 1, s, hi, h, h1 => by
    unfold longAt
    rw [if_neg (by have := hi 0 t (by omega) rfl; omega), longAt_some l k s (fun i u hk hu => hi (i + 1) u (by omega) hu) h h1]
    rfl
/-- What an operator of one operand tells, by what is known of the path: nothing, or a directory or a file and its size. -/
def unP (st : Option (Bool × Nat)) (o s : List UInt8) : Option Bool :=
  if o == [45, 110] then some (!s.isEmpty) else if o == [45, 122] then some s.isEmpty
  else if o == [45, 101] then some st.isSome
  else if o == [45, 102] then some (match st with | some (false, _) => true | _ => false)
  else if o == [45, 100] then some (match st with | some (true, _) => true | _ => false)
  else if o == [45, 115] then some (match st with | some (_, n) => decide (0 < n) | none => false)
  else none
end Go.Proofs.YtfnaooplpofgiaaGreatDoor
