/- The scan of a class's name: a plain law on lists of bytes. No program in sight, no conditions. -/
import Derived.Test.YteeopjgfiojoiaaDoorBrk
import Derived.Lib.IndexLaws
namespace Go.Proofs.YteeopjgfiojoiaaDoor
open Go Go.RowKit SN

theorem isL_drop (l : List UInt8) (s j : Nat) (c : Int) : isL (l.drop s) j c = isL l (s + j) c := by unfold isL; rw [List.getElem?_drop]
theorem u8_beq (a : UInt8) (n : Nat) (hn : n < 256) : (n.toUInt8 == a) = ((a.toNat : Int) == n) := by
  rw [Bool.eq_iff_iff]
  simp only [beq_iff_eq]
  constructor
  · rintro rfl; simp; omega
  · intro h
    apply UInt8.toNat_inj.1
    simp; omega
theorem occ2 (s : List UInt8) (i : Nat) : Lib.occAt s [58, 93] i = (isL s i 58 && isL s (i + 1) 93) := by
  have e0 : isL s i 58 = isL (s.drop i) 0 58 := by rw [isL_drop]; rfl
  have e1 : isL s (i + 1) 93 = isL (s.drop i) 1 93 := by rw [isL_drop]
  rw [e0, e1]
  unfold Lib.occAt
  rcases s.drop i with _ | ⟨a, _ | ⟨b, t⟩⟩
  · rfl
  · simp [List.isPrefixOf, isL]
  · have h1 := u8_beq a 58 (by decide)
    have h2 := u8_beq b 93 (by decide)
    show ((58 : UInt8) == a && ((93 : UInt8) == b && true)) = (((a.toNat : Int) == 58) && ((b.toNat : Int) == 93))
    rw [Bool.and_true]
    exact congr (congrArg and h1) h2
/-- No end of a class's name has been met before place k. -/
def NoEnd (l : List UInt8) (i k : Nat) : Prop := i + 2 ≤ k ∧ Lib.NoOcc (l.drop (i + 2)) [58, 93] (k - (i + 2))
theorem NoEnd.start (l : List UInt8) (i : Nat) : NoEnd l i (i + 2) := ⟨Nat.le_refl _, by rw [Nat.sub_self]; exact Lib.NoOcc.zero _ _⟩
theorem NoEnd.step {l : List UInt8} {i k : Nat} (h : NoEnd l i k) (hk : (isL l k 58 && isL l (k + 1) 93) = false) : NoEnd l i (k + 1) := by
  obtain ⟨h1, h2⟩ := h
  refine ⟨by omega, ?_⟩
  rw [show k + 1 - (i + 2) = (k - (i + 2)) + 1 by omega]
  refine h2.succ ?_
  rw [occ2, isL_drop, isL_drop, show i + 2 + (k - (i + 2)) = k by omega, show i + 2 + (k - (i + 2) + 1) = k + 1 by omega]
  exact hk
theorem NoEnd.hit {l : List UInt8} {i k : Nat} (h : NoEnd l i k) (h0 : isL l k 58 = true) (h1 : isL l (k + 1) 93 = true) :
    itemCls l i = (match cls ((l.drop (i + 2)).take (k - (i + 2))) with | some S => .cls S (k + 2) | none => .err 8 i) := by
  obtain ⟨g1, g2⟩ := h
  have hlt := isL_lt h1
  have ho : Lib.occAt (l.drop (i + 2)) [58, 93] (k - (i + 2)) = true := by
    rw [occ2, isL_drop, isL_drop, show i + 2 + (k - (i + 2)) = k by omega, show i + 2 + (k - (i + 2) + 1) = k + 1 by omega, h0, h1]; rfl
  have hi := Lib.index_hit g2 (by simp; omega) ho
  have hlen : ((l.drop (i + 2)).take (k - (i + 2))).length = k - (i + 2) := by simp; omega
  unfold itemCls itemCut Lib.cut
  rw [hi, if_pos (by omega)]
  simp only [Int.toNat_natCast]
  cases hc : cls ((l.drop (i + 2)).take (k - (i + 2))) with
  | none => rfl
  | some S =>
    show It.cls S _ = It.cls S _
    rw [hlen]
    congr 1
    omega
theorem NoEnd.miss {l : List UInt8} {i k : Nat} (h : NoEnd l i k) (he : l.length ≤ k + 1) : itemCls l i = .err 8 i := by
  obtain ⟨g1, g2⟩ := h
  have hi := Lib.index_past (by simp) g2 (by simp; omega)
  unfold itemCls itemCut Lib.cut
  rw [hi, if_neg (by decide)]
end Go.Proofs.YteeopjgfiojoiaaDoor
