/- A plain table: the classes' names and their sets, and no others. No program in sight, no conditions. -/
import Derived.Test.YteeopjgfiojoiaaDoorSetW2
namespace Go.Proofs.YteeopjgfiojoiaaDoor
open Go Go.RowKit SN

def clsTab : List (List UInt8 × Nat) := [([97, 108, 110, 117, 109], rng 97 122 ||| rng 65 90 ||| rng 48 57), ([97, 108, 112, 104, 97], rng 97 122 ||| rng 65 90), ([100, 105, 103, 105, 116], rng 48 57), ([117, 112, 112, 101, 114], rng 65 90), ([108, 111, 119, 101, 114], rng 97 122), ([115, 112, 97, 99, 101], rng 9 13 ||| rng 32 32), ([98, 108, 97, 110, 107], rng 9 9 ||| rng 32 32), ([112, 114, 105, 110, 116], rng 33 126 ||| rng 32 32), ([103, 114, 97, 112, 104], rng 33 126), ([112, 117, 110, 99, 116], cmpl (cmpl (rng 33 126) ||| (rng 97 122 ||| rng 65 90 ||| rng 48 57))), ([99, 110, 116, 114, 108], rng 0 31 ||| rng 127 127), ([120, 100, 105, 103, 105, 116], rng 48 57 ||| (rng 97 102 ||| rng 65 70))]
/-- The set of a class's name. -/
def cls (l : List UInt8) : Option Nat := (clsTab.find? fun x => l == x.1).map (·.2)
def clsNo (s : ByteArray) : Prop := (s.toList == [97, 108, 110, 117, 109]) = false ∧ (s.toList == [97, 108, 112, 104, 97]) = false ∧ (s.toList == [100, 105, 103, 105, 116]) = false ∧ (s.toList == [117, 112, 112, 101, 114]) = false ∧ (s.toList == [108, 111, 119, 101, 114]) = false ∧ (s.toList == [115, 112, 97, 99, 101]) = false ∧ (s.toList == [98, 108, 97, 110, 107]) = false ∧ (s.toList == [112, 114, 105, 110, 116]) = false ∧ (s.toList == [103, 114, 97, 112, 104]) = false ∧ (s.toList == [112, 117, 110, 99, 116]) = false ∧ (s.toList == [99, 110, 116, 114, 108]) = false ∧ (s.toList == [120, 100, 105, 103, 105, 116]) = false
theorem cls_none (s : ByteArray) (h : clsNo s) : cls s.data.toList = none := by
  obtain ⟨h0, h1, h2, h3, h4, h5, h6, h7, h8, h9, h10, h11⟩ := h
  rw [ByteArray.toList_eq] at h0 h1 h2 h3 h4 h5 h6 h7 h8 h9 h10 h11
  unfold cls clsTab
  simp only [List.find?_cons, List.find?_nil, h0, h1, h2, h3, h4, h5, h6, h7, h8, h9, h10, h11, Option.map_none]
theorem cls_cases (s : ByteArray) : s = ⟨#[97, 108, 110, 117, 109]⟩ ∨ s = ⟨#[97, 108, 112, 104, 97]⟩ ∨ s = ⟨#[100, 105, 103, 105, 116]⟩ ∨ s = ⟨#[117, 112, 112, 101, 114]⟩ ∨ s = ⟨#[108, 111, 119, 101, 114]⟩ ∨ s = ⟨#[115, 112, 97, 99, 101]⟩ ∨ s = ⟨#[98, 108, 97, 110, 107]⟩ ∨ s = ⟨#[112, 114, 105, 110, 116]⟩ ∨ s = ⟨#[103, 114, 97, 112, 104]⟩ ∨ s = ⟨#[112, 117, 110, 99, 116]⟩ ∨ s = ⟨#[99, 110, 116, 114, 108]⟩ ∨ s = ⟨#[120, 100, 105, 103, 105, 116]⟩ ∨ clsNo s := by
  have e : ∀ l : List UInt8, (s.toList == l) = true → s = ⟨l.toArray⟩ := fun l h => by
    rw [ByteArray.toList_eq] at h
    have h' : s.data.toList = l := by simpa using h
    cases s; simp at h'; subst h'; simp
  by_cases h0 : (s.toList == [97, 108, 110, 117, 109]) = true
  · exact (.inl (e _ h0))
  by_cases h1 : (s.toList == [97, 108, 112, 104, 97]) = true
  · exact .inr ((.inl (e _ h1)))
  by_cases h2 : (s.toList == [100, 105, 103, 105, 116]) = true
  · exact .inr (.inr ((.inl (e _ h2))))
  by_cases h3 : (s.toList == [117, 112, 112, 101, 114]) = true
  · exact .inr (.inr (.inr ((.inl (e _ h3)))))
  by_cases h4 : (s.toList == [108, 111, 119, 101, 114]) = true
  · exact .inr (.inr (.inr (.inr ((.inl (e _ h4))))))
  by_cases h5 : (s.toList == [115, 112, 97, 99, 101]) = true
  · exact .inr (.inr (.inr (.inr (.inr ((.inl (e _ h5)))))))
  by_cases h6 : (s.toList == [98, 108, 97, 110, 107]) = true
  · exact .inr (.inr (.inr (.inr (.inr (.inr ((.inl (e _ h6))))))))
  by_cases h7 : (s.toList == [112, 114, 105, 110, 116]) = true
  · exact .inr (.inr (.inr (.inr (.inr (.inr (.inr ((.inl (e _ h7)))))))))
  by_cases h8 : (s.toList == [103, 114, 97, 112, 104]) = true
  · exact .inr (.inr (.inr (.inr (.inr (.inr (.inr (.inr ((.inl (e _ h8))))))))))
  by_cases h9 : (s.toList == [112, 117, 110, 99, 116]) = true
  · exact .inr (.inr (.inr (.inr (.inr (.inr (.inr (.inr (.inr ((.inl (e _ h9)))))))))))
  by_cases h10 : (s.toList == [99, 110, 116, 114, 108]) = true
  · exact .inr (.inr (.inr (.inr (.inr (.inr (.inr (.inr (.inr (.inr ((.inl (e _ h10))))))))))))
  by_cases h11 : (s.toList == [120, 100, 105, 103, 105, 116]) = true
  · exact .inr (.inr (.inr (.inr (.inr (.inr (.inr (.inr (.inr (.inr (.inr ((.inl (e _ h11)))))))))))))
  exact .inr (.inr (.inr (.inr (.inr (.inr (.inr (.inr (.inr (.inr (.inr (.inr (⟨by simpa using h0, by simpa using h1, by simpa using h2, by simpa using h3, by simpa using h4, by simpa using h5, by simpa using h6, by simpa using h7, by simpa using h8, by simpa using h9, by simpa using h10, by simpa using h11⟩))))))))))))
end Go.Proofs.YteeopjgfiojoiaaDoor
