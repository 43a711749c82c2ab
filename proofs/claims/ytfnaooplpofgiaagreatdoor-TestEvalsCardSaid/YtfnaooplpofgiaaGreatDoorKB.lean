/- Bytes in memory, as a slice holds them; a string's conversions. No conditions. -/
import Derived.Test.YtfnaooplpofgiaaGreatDoorKErr
import Derived.Lib.ConvBytes
import Derived.Lib.SlBytesRow
import Derived.Laws.IdiomStrings
import Derived.Shelf.Bytes.SlSmallAll
import Derived.WalkMore
namespace Go.Proofs.YtfnaooplpofgiaaGreatDoor
open Go Go.RowKit SN

def HasB (w : World) (p : Option Addr) (s : ByteArray) : Prop := s.size = 0 ∨ ∃ b o, p = some ⟨b, o, none⟩ ∧ Lib.Bytes w b o s ∧ b < w.heap.size
theorem HasB.drewN {w : World} {p : Option Addr} {s : ByteArray} (h : HasB w p s) (q : Nat) : HasB (w.drewN q) p s := by
  rcases h with h | ⟨b, o, hp, hb, hl⟩
  · exact .inl h
  · exact .inr ⟨b, o, hp, hb.drewN q, hl⟩
theorem HasB.keep {w w' : World} {p : Option Addr} {s : ByteArray} (h : HasB w p s) (hb : ∀ b o, p = some ⟨b, o, none⟩ → b < w.heap.size → w'.heap[b]? = w.heap[b]?) (hz : w.heap.size ≤ w'.heap.size) : HasB w' p s := by
  rcases h with h | ⟨b, o, hp, hc, hl⟩
  · exact .inl h
  · exact .inr ⟨b, o, hp, fun i hi => by rw [World.cell?_of_block (w := w) (by exact hb b o hp hl)]; exact hc i hi, by omega⟩
theorem HasB.below {w w' : World} {p : Option Addr} {s : ByteArray} {M : Nat} (h : HasB w p s) (hb : Below M w w') (hM : w.heap.size ≤ M) : HasB w' p s := h.keep (fun b _ _ hlt => hb.block b (by omega)) hb.size
theorem conv_any (p : Option Addr) (cap : Nat) (s : ByteArray) (w : World) (h : HasB w p s) : (convert 62 9 (.slice p s.size cap)).run Tryz.prog w = .ok (.string s) w := by
  rcases h with h | ⟨b, o, rfl, hc, -⟩
  · have hs : s = ByteArray.empty := by
      cases s with
      | mk d =>
        have : d = #[] := Array.size_eq_zero_iff.1 h
        subst this; rfl
    subst hs
    exact run_convert_bytes_zero w 62 5 Tryz.underlying62 Tryz.underlying5 p cap 9 Tryz.underlying9
  · have h := run_convert_bytes_back (P := Tryz.prog) w 62 9 5 ⟨b, o, none⟩ cap s.data.toList Tryz.underlying62 Tryz.underlying5 Tryz.underlying9 (fun j hj => by
      have hj' : j < s.size := by simpa using hj
      have h := hc j hj'
      have e : (⟨b, o, none⟩ : Addr).add j = ⟨b, o + j, none⟩ := by unfold Addr.add; split <;> simp_all
      rw [e, h]
      simp [ByteArray.getElem_eq_getElem_data])
    simpa using h
theorem bytesWorld_below (w : World) (e : TypeId) (s : ByteArray) : Below w.heap.size w (Lib.bytesWorld w e s) :=
  ⟨rfl, rfl, rfl, by rw [Lib.bytesWorld_size]; omega, fun k hk => Lib.bytesWorld_at_old w e s k hk⟩
end Go.Proofs.YtfnaooplpofgiaaGreatDoor
