/- Slices of bytes that a call owns, read as texts: their conversion, their comparison. Lemmas for walks; their conditions stand with each. -/
import Derived.Test.YteeopjgfiojoiaaDoorSetB1
import Derived.Test.YteeopjgfiojoiaaDoorSetW3
import Derived.Test.YteeopjgfiojoiaaDoorSetL
import Derived.Laws.IdiomStrings
import Derived.Shelf.Bytes.SlSmallAll
namespace Go.Proofs.YteeopjgfiojoiaaDoor
open Go Go.RowKit SN

/-- The bytes of a list of numbers. -/
def toB (l : List Nat) : ByteArray := ⟨(l.map fun n => n.toUInt8).toArray⟩
theorem toB_size (l : List Nat) : (toB l).size = l.length := by show (l.map _).toArray.size = _; simp
theorem toB_list (l : List Nat) : (toB l).data.toList = l.map fun n => n.toUInt8 := by simp [toB]
theorem toB_get (l : List Nat) (hl : ∀ b ∈ l, b < 256) (i : Nat) (hi : i < (toB l).size) : (((toB l)[i]).toNat : Int) = ((l[i]'(by rw [← toB_size]; exact hi) : Nat) : Int) := by
  have hi' : i < l.length := by rw [← toB_size]; exact hi
  have h1 : (toB l)[i] = (l[i]).toUInt8 := by
    show (toB l).data[i] = _
    simp [toB]
  rw [h1]
  have := hl l[i] (List.getElem_mem hi')
  simp
  omega
/-- An own row of bytes reads as a text. -/
theorem OwnsB.hasB {w : World} {base : Nat} {v : Value} {l : List Nat} (h : OwnsB w base v l) (hl : ∀ b ∈ l, b < 256) : ∃ p cap, v = .slice p (toB l).size cap ∧ (toB l).size ≤ cap ∧ HasB w p (toB l) ∧ (∀ b o, p = some ⟨b, o, none⟩ → base ≤ b) := by
  rw [toB_size]
  rcases h.2 with ⟨rfl, h0⟩ | ⟨g, cap, cur, rfl, hg, hh, hnc, hcs⟩
  · have : l.length = 0 := h0
    exact ⟨none, 0, by rw [this], by omega, .inl (by rw [toB_size]; exact this), fun _ _ e => by cases e⟩
  · refine ⟨some ⟨g, 0, none⟩, cap, rfl, hnc, .inr ⟨g, 0, rfl, fun i hi => ?_, lt_of_block hh⟩, fun b o e => by cases e; exact hg⟩
    have hi' : i < l.length := by rw [← toB_size]; exact hi
    have hc := h.cells (g := g) rfl i (.int .u8 (l[i] : Nat)) (by simp [bv, hi'])
    rw [toB_get l hl i hi]
    have e : (⟨g, 0, none⟩ : Addr).add i = ⟨g, 0 + i, none⟩ := by unfold Addr.add; split <;> simp_all
    rw [← e]
    exact hc
theorem conv_any (p : Option Addr) (cap : Nat) (s : ByteArray) (w : World) (h : HasB w p s) : (convert 36 9 (.slice p s.size cap)).run Tryd.prog w = .ok (.string s) w := by
  rcases h with h | ⟨b, o, rfl, hc, -⟩
  · have hs : s = ByteArray.empty := by
      cases s with
      | mk d =>
        have : d = #[] := Array.size_eq_zero_iff.1 h
        subst this; rfl
    subst hs
    exact run_convert_bytes_zero w 36 5 Tryd.underlying36 Tryd.underlying5 p cap 9 Tryd.underlying9
  · have h := run_convert_bytes_back (P := Tryd.prog) w 36 9 5 ⟨b, o, none⟩ cap s.data.toList Tryd.underlying36 Tryd.underlying5 Tryd.underlying9 (fun j hj => by
      have hj' : j < s.size := by simpa using hj
      have h := hc j hj'
      have e : (⟨b, o, none⟩ : Addr).add j = ⟨b, o + j, none⟩ := by unfold Addr.add; split <;> simp_all
      rw [e, h]
      simp [ByteArray.getElem_eq_getElem_data])
    simpa using h
theorem HasB.below {w w' : World} {p : Option Addr} {s : ByteArray} {M : Nat} (h : HasB w p s) (hb : Below M w w') (hM : w.heap.size ≤ M) : HasB w' p s := h.keep (fun b _ _ hlt => hb.block b (by omega)) hb.size
/-- Two slices of bytes, as texts: the same or not. -/
theorem r1Bytes_any (p q : Option Addr) (c d : Nat) (s t : ByteArray) (w : World) (hp : HasB w p s) (hq : HasB w q t) :
    Calls Tryd.prog 33 #[.slice p s.size c, .slice q t.size d] w fun e w' => e = .returned (.bool (s.toList == t.toList)) ∧ w = w' := by
  have h1 := conv_any p c s w hp
  have h2 := conv_any q d t w hq
  clear hp hq
  go_enter Tryd.func33, Tryd.ntmps33
  go_wp2_with fail
  go_ret
  exact ⟨rfl, rfl⟩
end Go.Proofs.YteeopjgfiojoiaaDoor
