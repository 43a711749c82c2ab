/- A tree of files, in plain words: its nodes by their blocks, what a path leads to. No program, no conditions. -/
import Derived.Test.YtfnaooplpofgiaaGreatDoorClnP
namespace Go.Proofs.YtfnaooplpofgiaaGreatDoor

/-- A node: is it a directory; how many bytes; the block of its map; its entries. -/
structure Nd where
  dir : Bool
  len : Nat
  mp : Nat
  ents : List (ByteArray × Nat)
def lookE (es : List (ByteArray × Nat)) (s : List UInt8) : Option Nat := (es.find? fun x => x.1.data.toList == s).map (·.2)
/-- One part farther on: none: there is no directory. -/
def stepT (T : Nat → Option Nd) : Option Nat → List UInt8 → Option (Option Nat)
  | none, _ => none
  | some B, s => match T B with
    | some nd => if nd.dir then some (lookE nd.ents s) else none
    | none => none
def walkT (T : Nat → Option Nd) : Option Nat → List UInt8 → Option Nat → List (List UInt8) → Option (Option Nat × List UInt8 × Option Nat)
  | a, nm, n, [] => some (a, nm, n)
  | _, _, n, s :: l => match stepT T n s with
    | none => none
    | some c => walkT T n s c l
/-- Where a path leads, or the error's code. -/
def findP (T : Nat → Option Nd) (r : Nat) (p : List UInt8) : Nat ⊕ (Option Nat × List UInt8 × Option Nat) := match cleanP p with
  | none => .inl 15
  | some L => match walkT T none [] (some r) L with
    | none => .inl 16
    | some x => .inr x
/-- What is known of a path: a directory or a file, its size. -/
def statP (T : Nat → Option Nd) (r : Nat) (p : List UInt8) : Option (Bool × Nat) := match findP T r p with
  | .inr (_, _, some B) => (T B).map fun nd => (nd.dir, if nd.dir then nd.ents.length else nd.len)
  | _ => none
theorem step_file {T : Nat → Option Nd} {B : Nat} {nd : Nd} (h : T B = some nd) (hd : nd.dir = false) (s : List UInt8) : stepT T (some B) s = none := by
  show (match T B with | some nd => if nd.dir then some (lookE nd.ents s) else none | none => none) = none
  rw [h]
  show (if nd.dir then _ else _) = none
  rw [hd]
  rfl
theorem step_dir {T : Nat → Option Nd} {B : Nat} {nd : Nd} (h : T B = some nd) (hd : nd.dir = true) (s : List UInt8) : stepT T (some B) s = some (lookE nd.ents s) := by
  show (match T B with | some nd => if nd.dir then some (lookE nd.ents s) else none | none => none) = _
  rw [h]
  show (if nd.dir then _ else _) = _
  rw [hd]
  rfl
theorem walk_none (T : Nat → Option Nd) (a : Option Nat) (nm s : List UInt8) (l : List (List UInt8)) : walkT T a nm none (s :: l) = none := rfl
theorem walk_file {T : Nat → Option Nd} {B : Nat} {nd : Nd} (h : T B = some nd) (hd : nd.dir = false) (a : Option Nat) (nm s : List UInt8) (l : List (List UInt8)) : walkT T a nm (some B) (s :: l) = none := by
  show (match stepT T (some B) s with | none => none | some c => walkT T (some B) s c l) = none
  rw [step_file h hd]
theorem walk_dir {T : Nat → Option Nd} {B : Nat} {nd : Nd} (h : T B = some nd) (hd : nd.dir = true) (a : Option Nat) (nm s : List UInt8) (l : List (List UInt8)) : walkT T a nm (some B) (s :: l) = walkT T (some B) s (lookE nd.ents s) l := by
  show (match stepT T (some B) s with | none => none | some c => walkT T (some B) s c l) = _
  rw [step_dir h hd]
end Go.Proofs.YtfnaooplpofgiaaGreatDoor
