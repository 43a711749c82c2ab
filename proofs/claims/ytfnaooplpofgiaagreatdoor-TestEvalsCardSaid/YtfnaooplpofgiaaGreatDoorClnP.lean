/- A path's parts, in plain words: cut at each slash; no empty part, no dot; two dots take one part away. No program, no conditions. -/
import Derived.Lib.Split
import Derived.Lib.SplitLaws
import Derived.Lib.IndexBytes
namespace Go.Proofs.YtfnaooplpofgiaaGreatDoor
open Go

def spl : List UInt8 → List (List UInt8)
  | [] => [[]]
  | b :: l => if b = 47 then [] :: spl l else match spl l with
    | [] => [[b]]
    | h :: t => (b :: h) :: t
theorem spl_ne (l : List UInt8) : ∃ h t, spl l = h :: t := by
  cases l with
  | nil => exact ⟨_, _, rfl⟩
  | cons b l =>
    unfold spl
    split
    · exact ⟨_, _, rfl⟩
    · split
      · exact ⟨_, _, rfl⟩
      · exact ⟨_, _, rfl⟩
theorem spl_cons {b : UInt8} (hb : b ≠ 47) (l h : List UInt8) (t : List (List UInt8)) (e : spl l = h :: t) : spl (b :: l) = (b :: h) :: t := by
  rw [spl, if_neg hb, e]
theorem splitK_spl : ∀ s : List UInt8, Lib.splitK [47] 0 (s.count 47) s = spl s
  | [] => rfl
  | b :: l => by
    have ih := splitK_spl l
    by_cases hb : b = 47
    · subst hb
      rw [List.count_cons_self, Lib.splitK, Lib.index_one, spl, if_pos rfl]
      have h0 : Lib.indexByte ((47 : UInt8) :: l) 47 = 0 := by unfold Lib.indexByte; rw [if_pos (beq_self_eq_true _)]
      rw [h0, if_neg (by decide)]
      show [] :: Lib.splitK [47] 0 (l.count 47) l = _
      rw [ih]
    · rw [List.count_cons_of_ne hb]
      obtain ⟨h, t, e⟩ := spl_ne l
      rw [spl_cons hb l h t e]
      rw [e] at ih
      cases hk : l.count 47 with
      | zero =>
        rw [hk] at ih
        unfold Lib.splitK at ih ⊢
        injection ih with e1 e2
        rw [← e1, ← e2]
      | succ k =>
        rw [hk] at ih
        unfold Lib.splitK at ih ⊢
        rw [Lib.index_one] at ih ⊢
        have hi : Lib.indexByte (b :: l) 47 = if Lib.indexByte l 47 == -1 then -1 else Lib.indexByte l 47 + 1 := by
          conv => lhs; unfold Lib.indexByte
          rw [if_neg (by simpa using hb)]
        rw [hi]
        have hge := Lib.indexByte_ge l 47
        by_cases hm : (Lib.indexByte l 47 == -1) = true
        · rw [if_pos hm] at ih ⊢
          rw [if_pos (by decide)]
          injection ih with e1 e2
          rw [← e1, ← e2]
        · rw [if_neg hm] at ih ⊢
          have hm' : ¬ Lib.indexByte l 47 = -1 := fun e => hm (by rw [e]; decide)
          rw [if_neg (by simp; omega)]
          injection ih with e1 e2
          have et : (Lib.indexByte l 47 + 1).toNat = (Lib.indexByte l 47).toNat + 1 := by omega
          rw [et, ← e1, ← e2]
          show (b :: l).take ((Lib.indexByte l 47).toNat + 1) :: _ = (b :: l.take (Lib.indexByte l 47).toNat) :: _
          rw [List.take_succ_cons]
          rfl
/-- The pieces of a text between slashes. -/
theorem pieces_spl (s : ByteArray) : (Lib.splitB ⟨#[47]⟩ 0 (Lib.countB s ⟨#[47]⟩) s).map (·.data.toList) = spl s.data.toList := by
  rw [Lib.splitB_data]
  show Lib.splitK [47] 0 (Lib.count s.data.toList [47]) s.data.toList = _
  rw [Lib.count_one]
  exact splitK_spl _
def cstep (out : List (List UInt8)) (s : List UInt8) : List (List UInt8) :=
  if s.isEmpty || s == [46] then out else if s == [46, 46] then out.dropLast else out ++ [s]
def cleanL (l : List (List UInt8)) : List (List UInt8) := l.foldl cstep []
/-- A path's parts; none: it is no path. -/
def cleanP (p : List UInt8) : Option (List (List UInt8)) :=
  if p.length < 1 ∨ 256 < p.length ∨ 0 ∈ p then none else if ∀ s ∈ cleanL (spl p), s.length ≤ 64 then some (cleanL (spl p)) else none
/-- The same of texts. -/
def cstepB (out : List ByteArray) (s : ByteArray) : List ByteArray :=
  if s.data.toList.isEmpty || s.data.toList == [46] then out else if s.data.toList == [46, 46] then out.dropLast else out ++ [s]
theorem cstepB_map (out : List ByteArray) (s : ByteArray) : (cstepB out s).map (·.data.toList) = cstep (out.map (·.data.toList)) s.data.toList := by
  unfold cstepB cstep
  split
  · rfl
  · split
    · rw [List.map_dropLast]
    · rw [List.map_append]; rfl
theorem cfoldB_map : ∀ (l out : List ByteArray), (l.foldl cstepB out).map (·.data.toList) = (l.map (·.data.toList)).foldl cstep (out.map (·.data.toList))
  | [], _ => rfl
  | s :: l, out => by
    show (l.foldl cstepB (cstepB out s)).map (·.data.toList) = (l.map (·.data.toList)).foldl cstep (cstep (out.map (·.data.toList)) s.data.toList)
    rw [cfoldB_map l, cstepB_map]
end Go.Proofs.YtfnaooplpofgiaaGreatDoor
