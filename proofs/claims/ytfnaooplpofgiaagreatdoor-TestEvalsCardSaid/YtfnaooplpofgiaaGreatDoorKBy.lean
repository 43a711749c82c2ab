/- Texts and rows of texts in memory. No conditions. -/
import Derived.Test.YtfnaooplpofgiaaGreatDoorKErr
import Derived.Lib.Strings
namespace Go.Proofs.YtfnaooplpofgiaaGreatDoor
open Go Go.RowKit SN

theorem bytes_eq {s : ByteArray} {l : List UInt8} (h : (s.data.toList == l) = true) : s = ⟨l.toArray⟩ := by
  have := eq_of_beq h
  apply ByteArray.ext
  apply Array.toList_inj.1
  rw [this]
theorem beq_no {s : ByteArray} {l : List UInt8} (h : ¬ (s.data.toList == l) = true) : (s.toList == l) = false := by rw [Lib.toList_data]; simpa using h
/-- Operands in memory, from a place on. -/
def RowAt (w : World) (b f : Nat) (l : List ByteArray) : Prop := ∀ i s, l[i]? = some s → w.cell? ⟨b, f + i, none⟩ = some (.string s)
theorem RowAt.tail {w : World} {b f : Nat} {s : ByteArray} {l : List ByteArray} (h : RowAt w b f (s :: l)) : RowAt w b (f + 1) l := fun i s hs => by
  have := h (i + 1) s hs
  rwa [show f + (i + 1) = f + 1 + i by omega] at this
theorem RowAt.below {w w' : World} {b f : Nat} {l : List ByteArray} {M : Nat} (h : RowAt w b f l) (hb : Below M w w') (hM : b < M) : RowAt w' b f l := fun i s hs => (hb.cell (p := ⟨b, f + i, none⟩) hM).trans (h i s hs)
theorem RowAt.init {w : World} {b f : Nat} {l m : List ByteArray} (h : RowAt w b f (l ++ m)) : RowAt w b f l := fun i s hs => h i s (by
  have hi : i < l.length := by
    by_cases hi : i < l.length
    · exact hi
    · rw [List.getElem?_eq_none (by omega)] at hs; cases hs
  rw [List.getElem?_append_left hi]; exact hs)
/-- A row of operands as a slice holds them: nil or in memory. -/
def IsOps (w : World) (sl : Value) (l : List ByteArray) : Prop := ∃ p c, sl = .slice p l.length c ∧ l.length ≤ c ∧ (l = [] ∨ ∃ b, p = some ⟨b, 0, none⟩ ∧ b < w.heap.size ∧ RowAt w b 0 l)
theorem IsOps.below {w w' : World} {sl : Value} {l : List ByteArray} {M : Nat} (h : IsOps w sl l) (hb : Below M w w') (hM : w.heap.size ≤ M) : IsOps w' sl l := by
  obtain ⟨p, c, e, hc, h⟩ := h
  refine ⟨p, c, e, hc, h.imp id ?_⟩
  rintro ⟨b, e, hl, hR⟩
  exact ⟨b, e, Nat.lt_of_lt_of_le hl hb.size, hR.below hb (Nat.lt_of_lt_of_le hl hM)⟩
end Go.Proofs.YtfnaooplpofgiaaGreatDoor
