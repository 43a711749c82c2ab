/- set.Class at every name: one contract from the walks name by name. -/
import Derived.Test.YteeopjgfiojoiaaDoorSetC1
import Derived.Test.YteeopjgfiojoiaaDoorSetC2
import Derived.Test.YteeopjgfiojoiaaDoorBrk
namespace Go.Proofs.YteeopjgfiojoiaaDoor
open Go Go.RowKit SN

set_option maxHeartbeats 2000000 in
set_option maxRecDepth 100000 in
theorem Class_other (s : ByteArray) (w : World) (h0 : (s.toList == [97, 108, 110, 117, 109]) = false) (h1 : (s.toList == [97, 108, 112, 104, 97]) = false) (h2 : (s.toList == [100, 105, 103, 105, 116]) = false) (h3 : (s.toList == [117, 112, 112, 101, 114]) = false) (h4 : (s.toList == [108, 111, 119, 101, 114]) = false) (h5 : (s.toList == [115, 112, 97, 99, 101]) = false) (h6 : (s.toList == [98, 108, 97, 110, 107]) = false) (h7 : (s.toList == [112, 114, 105, 110, 116]) = false) (h8 : (s.toList == [103, 114, 97, 112, 104]) = false) (h9 : (s.toList == [112, 117, 110, 99, 116]) = false) (h10 : (s.toList == [99, 110, 116, 114, 108]) = false) (h11 : (s.toList == [120, 100, 105, 103, 105, 116]) = false) :
    Calls Tryd.prog 17 #[.string s] w fun e w' => e = .returned (.tuple #[sv 0, .bool false]) ∧ Below w.heap.size w w' := by
  go_enter Tryd.func17, Tryd.ntmps17
  go_wp2_with (first | (refine store_set rfl rfl _ _ rfl _ _ rfl rfl ?_ ?_; (focus (apply Exists.intro; (repeat' (first | (with_reducible assumption) | (with_reducible apply IsSet.zero'; first | (with_reducible rfl) | (simp only [World.size_alloc]; done)) | (with_reducible apply IsSet.new'; first | (with_reducible rfl) | (simp only [World.size_alloc]; done)) | (with_reducible apply IsSet.sv; first | (with_reducible rfl) | (simp only [World.size_alloc]; done)) | (with_reducible apply IsSet.viaG; with_reducible assumption) | (with_reducible apply IsSet.viaB; with_reducible assumption) | (with_reducible apply IsSet.drew) | (with_reducible apply IsSet.store4) | (with_reducible apply IsSet.set_other) | (with_reducible apply IsSet.alloc) | (simp only [World.size_alloc]; omega) | omega | (simp; omega) | (simp; done))); done)); intro wX hX gX zX; (try simp only [World.size_alloc] at zX)) | (refine store_set rfl rfl _ _ rfl _ 0 rfl rfl ?_ ?_; (focus (apply Exists.intro; (repeat' (first | (with_reducible assumption) | (with_reducible apply IsSet.zero'; first | (with_reducible rfl) | (simp only [World.size_alloc]; done)) | (with_reducible apply IsSet.new'; first | (with_reducible rfl) | (simp only [World.size_alloc]; done)) | (with_reducible apply IsSet.sv; first | (with_reducible rfl) | (simp only [World.size_alloc]; done)) | (with_reducible apply IsSet.viaG; with_reducible assumption) | (with_reducible apply IsSet.viaB; with_reducible assumption) | (with_reducible apply IsSet.drew) | (with_reducible apply IsSet.store4) | (with_reducible apply IsSet.set_other) | (with_reducible apply IsSet.alloc) | (simp only [World.size_alloc]; omega) | omega | (simp; omega) | (simp; done))); done)); intro wX hX gX zX; (try simp only [World.size_alloc] at zX)) | (go_at_call 23; refine (Range_any _ _ (by decide) (by decide) _).mono ?_; rintro e wX ⟨rfl, bX⟩; have zX := bX.size; (try simp only [World.size_alloc] at zX)))
  refine ret_set2 rfl rfl rfl rfl (by (repeat' (first | (with_reducible assumption) | (with_reducible apply IsSet.zero'; first | (with_reducible rfl) | (simp only [World.size_alloc]; done)) | (with_reducible apply IsSet.new'; first | (with_reducible rfl) | (simp only [World.size_alloc]; done)) | (with_reducible apply IsSet.sv; first | (with_reducible rfl) | (simp only [World.size_alloc]; done)) | (with_reducible apply IsSet.viaG; with_reducible assumption) | (with_reducible apply IsSet.viaB; with_reducible assumption) | (with_reducible apply IsSet.drew) | (with_reducible apply IsSet.store4) | (with_reducible apply IsSet.set_other) | (with_reducible apply IsSet.alloc) | (simp only [World.size_alloc]; omega) | omega | (simp; omega) | (simp; done)))) ⟨rfl, by (repeat' (first | (with_reducible assumption) | (with_reducible exact Below.refl _ _) | (with_reducible apply Below.viaG1; with_reducible assumption) | (with_reducible apply Below.viaB; with_reducible assumption) | (with_reducible apply Below.alloc) | (with_reducible apply Below.drew) | (with_reducible apply Below.setCell) | (dsimp only; omega) | omega | (simp only [World.size_alloc]; omega) | (simp; omega) | (simp; done)))⟩

theorem Class_any (s : ByteArray) (w : World) :
    Calls Tryd.prog 17 #[.string s] w fun e w' => e = .returned (.tuple #[sv ((cls s.data.toList).getD 0), .bool (cls s.data.toList).isSome]) ∧ Below w.heap.size w w' := by
  have key : ∀ (l : List UInt8) (v v' : Nat), cls l = some v → v' = v → Calls Tryd.prog 17 #[.string ⟨l.toArray⟩] w (fun e w' => e = .returned (.tuple #[sv v', .bool true]) ∧ Below w.heap.size w w') →
      Calls Tryd.prog 17 #[.string ⟨l.toArray⟩] w (fun e w' => e = .returned (.tuple #[sv ((cls (⟨l.toArray⟩ : ByteArray).data.toList).getD 0), .bool (cls (⟨l.toArray⟩ : ByteArray).data.toList).isSome]) ∧ Below w.heap.size w w') := by
    intro l v v' h e hc
    rw [show ((⟨l.toArray⟩ : ByteArray).data.toList) = l from rfl, h, ← e]
    exact hc
  rcases cls_cases s with rfl | rfl | rfl | rfl | rfl | rfl | rfl | rfl | rfl | rfl | rfl | rfl | h
  · exact key [97, 108, 110, 117, 109] _ _ rfl (by decide +kernel) (Class_alnum w)
  · exact key [97, 108, 112, 104, 97] _ _ rfl (by decide +kernel) (Class_alpha w)
  · exact key [100, 105, 103, 105, 116] _ _ rfl (by decide +kernel) (Class_digit w)
  · exact key [117, 112, 112, 101, 114] _ _ rfl (by decide +kernel) (Class_upper w)
  · exact key [108, 111, 119, 101, 114] _ _ rfl (by decide +kernel) (Class_lower w)
  · exact key [115, 112, 97, 99, 101] _ _ rfl (by decide +kernel) (Class_space w)
  · exact key [98, 108, 97, 110, 107] _ _ rfl (by decide +kernel) (Class_blank w)
  · exact key [112, 114, 105, 110, 116] _ _ rfl (by decide +kernel) (Class_print w)
  · exact key [103, 114, 97, 112, 104] _ _ rfl (by decide +kernel) (Class_graph w)
  · exact key [112, 117, 110, 99, 116] _ _ rfl (by decide +kernel) (Class_punct w)
  · exact key [99, 110, 116, 114, 108] _ _ rfl (by decide +kernel) (Class_cntrl w)
  · exact key [120, 100, 105, 103, 105, 116] _ _ rfl (by decide +kernel) (Class_xdigit w)
  · rw [cls_none s h]
    obtain ⟨h0, h1, h2, h3, h4, h5, h6, h7, h8, h9, h10, h11⟩ := h
    exact Class_other s w h0 h1 h2 h3 h4 h5 h6 h7 h8 h9 h10 h11
end Go.Proofs.YteeopjgfiojoiaaDoor
