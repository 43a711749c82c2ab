/- Walks over package set: the reader's item reads what the plain law says. Conditions: the reader, its bytes, the errors' variables lie in memory; fewer than 4294967281 bytes. -/
import Derived.Test.YteeopjgfiojoiaaDoorItem2
import Derived.Test.YteeopjgfiojoiaaDoorItem3
import Derived.Test.YteeopjgfiojoiaaDoorItem4
namespace Go.Proofs.YteeopjgfiojoiaaDoor
open Go Go.RowKit SN

/-- What an item's call leaves. -/
def ItemPost (E : Nat → Addr) (w : World) (B : Nat) (p : Option Addr) (s : ByteArray) (cap : Nat) (lang : Int) (at' : Nat) : It → Ending → World → Prop
  | .err code pos, e, w' => ∃ v, e = .returned (.tuple #[.agg (itc true 0 0 at'), v]) ∧ IsErr w' E v code pos lang ∧ w.grownBy w' (some B) ∧ ∃ at2, IsR w' B p s.size cap at2 lang
  | .byte c next, e, w' => e = .returned (.tuple #[.agg (itc true (c.toNat : Int) (ofL [c]) at'), .nilIface]) ∧ w.grownBy w' (some B) ∧ IsR w' B p s.size cap next lang
  | .cls S next, e, w' => e = .returned (.tuple #[.agg (itc false 0 S at'), .nilIface]) ∧ w.grownBy w' (some B) ∧ IsR w' B p s.size cap next lang
theorem isL_two {l : List UInt8} {i : Nat} {a b : Int} (h : isL l i a = true) (hne : a ≠ b) : isL l i b = false := by
  unfold isL at h ⊢
  cases hl : l[i]? with
  | none => rfl
  | some c =>
    rw [hl] at h
    simp at h ⊢
    omega
theorem itemOne_eq (s : ByteArray) (i : Nat) (hi : i < s.size) : itemOne s.data.toList i = .byte s[i] (i + 1) := by
  unfold itemOne
  have : s.data.toList[i]? = some s[i] := by simp [ByteArray.getElem_eq_getElem_data]
  rw [this]
  rfl
theorem item_any {N : Nat} {E : Nat → Addr} (B : Nat) (p : Option Addr) (cap at' : Nat) (lang : Int) (s : ByteArray) (w : World) (hR : IsR w B p s.size cap at' lang) (hS : HasB w p s) (hs : s.size < 4294967281) (hat : at' < s.size) (hcap : s.size ≤ cap)
    (hN : N ≤ B) (hE : Errs N E w) :
    Calls Tryd.prog 73 #[.pointer (some ⟨B, 0, none⟩)] w (ItemPost E w B p s cap lang at' (item s.data.toList (lang == 2) at')) := by
  have hs' : s.size < 2 ^ 61 := by omega
  have hsz : s.data.toList.length = s.size := by simp
  unfold item
  cases h91 : isL s.data.toList at' 91 with
  | false =>
    simp only [Bool.false_and, Bool.false_eq_true, ↓reduceIte]
    cases h92 : isL s.data.toList at' 92 with
    | false =>
      simp only [Bool.false_and, Bool.false_eq_true, ↓reduceIte, itemOne_eq s at' hat]
      exact item_plain1 B p cap at' lang s w hR hS hs' hat hcap h91 h92
    | true =>
      cases hg : (lang == 2) with
      | false =>
        simp only [Bool.and_false, Bool.false_eq_true, ↓reduceIte, itemOne_eq s at' hat]
        exact item_plain2 B p cap at' lang s w hR hS hs' hat hcap h91 h92 hg
      | true =>
        simp only [Bool.and_self, ↓reduceIte]
        by_cases hm : s.data.toList.length ≤ at' + 1
        · rw [if_pos hm, hsz]
          exact item_escEnd B p cap at' lang s w hR hS hs' hat hcap hN hE h91 h92 hg (by omega)
        · rw [if_neg hm, itemOne_eq s (at' + 1) (by omega)]
          exact item_esc B p cap at' lang s w hR hS hs' hat hcap h91 h92 hg (by omega)
  | true =>
    have h92 : isL s.data.toList at' 92 = false := isL_two h91 (by decide)
    simp only [Bool.true_and, h92, Bool.false_and]
    cases h46 : isL s.data.toList (at' + 1) 46 with
    | true =>
      simp only [Bool.true_or, ↓reduceIte]
      exact item_dot B p cap at' lang s w hR hS hs' hat hcap hN hE h91 h46
    | false =>
      cases h61 : isL s.data.toList (at' + 1) 61 with
      | true =>
        simp only [Bool.or_true, ↓reduceIte]
        exact item_eq B p cap at' lang s w hR hS hs' hat hcap hN hE h91 h46 h61
      | false =>
        simp only [Bool.or_self, Bool.false_eq_true, ↓reduceIte]
        cases h58 : isL s.data.toList (at' + 1) 58 with
        | false =>
          simp only [Bool.false_eq_true, ↓reduceIte, itemOne_eq s at' hat]
          exact item_plain3 B p cap at' lang s w hR hS hs' hat hcap h91 h46 h61 h58 h92
        | true =>
          simp only [↓reduceIte, itemCls]
          rcases hc : Lib.cut (s.data.toList.drop (at' + 2)) [58, 93] with ⟨nm, rest, c⟩
          cases c with
          | false => exact item_noEnd B p cap at' lang s w hR hS hs' hat hcap hN hE hs h91 h46 h61 h58 nm rest hc
          | true =>
            cases hcl : cls nm with
            | none =>
              simp only [itemCut, hcl]
              exact item_noName B p cap at' lang s w hR hS hs' hat hcap hN hE hs h91 h46 h61 h58 nm rest hc hcl
            | some S =>
              simp only [itemCut, hcl]
              exact item_named S B p cap at' lang s w hR hS hs' hat hcap hN hE hs h91 h46 h61 h58 nm rest hc hcl
end Go.Proofs.YteeopjgfiojoiaaDoor
