/- test's number: the number that an operand writes. Conditions: the text has fewer bytes than a machine's word counts. -/
import Derived.Test.YtfnaooplpofgiaaGreatDoorKNum
namespace Go.Proofs.YtfnaooplpofgiaaGreatDoor
open Go Go.RowKit SN

theorem cut_plus (l : List UInt8) : Lib.trimPrefix l [43] = (if l.head? = some 43 then l.drop 1 else l) ∧ Lib.hasPrefix l [43] = (l.head? == some 43) := by
  cases l with
  | nil => exact ⟨rfl, rfl⟩
  | cons c t =>
    by_cases h : c = 43
    · subst h
      exact ⟨rfl, rfl⟩
    · have e2 : Lib.hasPrefix (c :: t) [43] = false := by simp [Lib.hasPrefix, List.isPrefixOf, Ne.symm h]
      have e1 : ¬ (c :: t).head? = some 43 := by simpa using h
      refine ⟨by unfold Lib.trimPrefix; rw [e2, if_neg e1]; rfl, by rw [e2]; simp [h]⟩
theorem has_minus (l : List UInt8) : Lib.hasPrefix l [45] = (l.head? == some 45) := (cut_neg l).2
theorem trimW_len (l : List UInt8) : (trimW l).length ≤ l.length := by
  have h1 : ∀ (p : UInt8 → Bool) (k : List UInt8), (k.dropWhile p).length ≤ k.length := fun p k => (List.dropWhile_sublist p).length_le
  unfold trimW Lib.trimS Lib.trimLeftS Lib.trimRightS
  refine Nat.le_trans (h1 _ _) ?_
  rw [List.length_reverse]
  refine Nat.le_trans (h1 _ _) ?_
  rw [List.length_reverse]
  exact Nat.le_refl _
set_option maxHeartbeats 1000000 in
set_option maxRecDepth 100000 in
theorem number_of (s T U : ByteArray) (b d : Bool) (v : Option Int) (w : World)
    (hT : Calls Tryz.prog 66 #[.string s, .string ⟨#[32, 9, 10]⟩] w fun e w' => e = .returned (.string T) ∧ Below w.heap.size w w')
    (hC : ∀ W, Calls Tryz.prog 67 #[.string T, .string ⟨#[43]⟩] W fun e w' => e = .returned (.tuple #[.string U, .bool b]) ∧ w' = W)
    (hH : ∀ W, Calls Tryz.prog 68 #[.string U, .string ⟨#[45]⟩] W fun e w' => e = .returned (.bool d) ∧ w' = W)
    (hW : ∀ W, Calls Tryz.prog 69 #[.string (if b then U else T)] W fun e w' => e = .returned (numV v) ∧ Below W.heap.size W w') :
    Calls Tryz.prog 55 #[.string s] w fun e w' => e = .returned (numV (if b && d then none else v)) ∧ Below w.heap.size w w' := by
  have hT' := Lib.hid hT
  have hC' := Lib.hid hC
  have hH' := Lib.hid hH
  have hW' := Lib.hid hW
  obtain ⟨q, z, hq⟩ : ∃ q z, numV v = .tuple #[.int .i64 q, .bool z] := by cases v <;> exact ⟨_, _, rfl⟩
  clear hT hC hH hW
  rw [hq] at hW'
  have hq' := Lib.hid hq
  clear hq
  cases b
  · go_enter Tryz.func55, Tryz.ntmps55
    go_wp2_with (first | (go_at_call 66; refine hT'.out.mono ?_; rintro e w1 ⟨rfl, b1⟩; have b1' := Lib.hid b1; clear b1) | (go_at_call 67; refine (hC'.out _).mono ?_; rintro e w2 ⟨rfl, rfl⟩) | (go_at_call 68; refine (hH'.out _).mono ?_; rintro e w3 ⟨rfl, rfl⟩) | (go_at_call 69; refine (hW'.out _).mono ?_; rintro e w4 ⟨rfl, b4⟩))
    go_ret2
    exact ⟨by show _ = Ending.returned (numV v); rw [hq'.out]; rfl, b1'.out.trans (b4.mono b1'.out.size)⟩
  · cases d
    · go_enter Tryz.func55, Tryz.ntmps55
      go_wp2_with (first | (go_at_call 66; refine hT'.out.mono ?_; rintro e w1 ⟨rfl, b1⟩; have b1' := Lib.hid b1; clear b1) | (go_at_call 67; refine (hC'.out _).mono ?_; rintro e w2 ⟨rfl, rfl⟩) | (go_at_call 68; refine (hH'.out _).mono ?_; rintro e w3 ⟨rfl, rfl⟩) | (go_at_call 69; refine (hW'.out _).mono ?_; rintro e w4 ⟨rfl, b4⟩))
      go_ret2
      exact ⟨by show _ = Ending.returned (numV v); rw [hq'.out]; rfl, b1'.out.trans (b4.mono b1'.out.size)⟩
    · go_enter Tryz.func55, Tryz.ntmps55
      go_wp2_with (first | (go_at_call 66; refine hT'.out.mono ?_; rintro e w1 ⟨rfl, b1⟩; have b1' := Lib.hid b1; clear b1) | (go_at_call 67; refine (hC'.out _).mono ?_; rintro e w2 ⟨rfl, rfl⟩) | (go_at_call 68; refine (hH'.out _).mono ?_; rintro e w3 ⟨rfl, rfl⟩) | (go_at_call 69; refine (hW'.out _).mono ?_; rintro e w4 ⟨rfl, b4⟩))
      go_ret2
      exact ⟨rfl, b1'.out⟩
theorem number_any (s : ByteArray) (hs : s.size ≤ 9223372036854775807) (w : World) :
    Calls Tryz.prog 55 #[.string s] w fun e w' => e = .returned (numV (number s.data.toList)) ∧ Below w.heap.size w w' := by
  have hT := Any.strings_Trim_laid Tryz.lays160 (by kernel_rfl) s ⟨#[32, 9, 10]⟩ w hs (by decide) (ascii_of_all (by decide))
  have hlen : s.data.toList.length = s.size := by simp
  have htl := trimW_len s.data.toList
  obtain ⟨t, ht⟩ : ∃ t, t = trimW s.data.toList := ⟨_, rfl⟩
  have hC := fun W => Tryz.strings_CutPrefix ⟨t.toArray⟩ ⟨#[43]⟩ W
  obtain ⟨c1, c2⟩ := cut_plus t
  rw [c1, c2] at hC
  obtain ⟨U, hU⟩ : ∃ U : List UInt8, U = if t.head? = some 43 then t.drop 1 else t := ⟨_, rfl⟩
  rw [← hU] at hC
  have hH := fun W => Tryz.strings_HasPrefix ⟨U.toArray⟩ ⟨#[45]⟩ W
  rw [has_minus] at hH
  rw [← ht] at htl
  have hUl : U.length ≤ s.size := by rw [hU]; split <;> (try simp only [List.length_drop]) <;> omega
  have hW := fun W => Whole_any ⟨U.toArray⟩ (by show U.toArray.size ≤ _; simp; omega) W
  have he : (if (t.head? == some 43) then (⟨U.toArray⟩ : ByteArray) else ⟨t.toArray⟩) = ⟨U.toArray⟩ := by
    by_cases h : t.head? = some 43
    · rw [if_pos (by simpa using h)]
    · rw [if_neg (by simpa using h), hU, if_neg h]
  have hn : number s.data.toList = if (t.head? == some 43) && (U.head? == some 45) then none else whole U := by
    unfold number
    rw [← ht, hU]
    by_cases h : t.head? = some 43
    · rw [if_pos h, if_pos h, h, List.head?_drop]
      simp
    · rw [if_neg h, if_neg h]
      simp [h]
  rw [hn]
  exact number_of s ⟨t.toArray⟩ ⟨U.toArray⟩ (t.head? == some 43) (U.head? == some 45) (whole U) w (by rw [ht]; exact hT) hC hH (by rw [he]; exact hW)
end Go.Proofs.YtfnaooplpofgiaaGreatDoor
