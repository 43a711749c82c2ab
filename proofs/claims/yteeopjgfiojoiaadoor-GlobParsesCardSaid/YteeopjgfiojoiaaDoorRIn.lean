/- pidginref2.In: is a byte in a text. Condition: the text is no longer than a text may be. -/
import Derived.Test.YteeopjgfiojoiaaDoorWal
import Derived.Handy
import Derived.Outline
namespace Go.Proofs.YteeopjgfiojoiaaDoor
open Go Go.RowKit SN

set_option maxHeartbeats 1000000 in
/-- Is a byte in a text. -/
theorem r2In_any (c : Nat) (s : ByteArray) (hs : s.size ≤ maxLen) (w : World) :
    Calls Tryd.prog 20 #[.int .u8 c, .string s] w fun e w' => e = .returned (.bool (s.data.toList.any fun x => x.toNat == c)) ∧ w' = w := by
  unfold maxLen at hs
  generalize hR : (s.data.toList.any fun x => x.toNat == c) = R
  have hR' := Lib.hid hR
  clear hR
  go_enter Tryd.func20, Tryd.ntmps20
  go_wp2_with fail
  go_loop [8] (fun i => ∃ k : Nat, k ≤ s.size ∧ i = .int .i64 k ∧ ((s.data.toList.take k).any fun x => x.toNat == c) = false) (fun i => s.size - (intOf i).toNat)
  case atStart => exact ⟨0, Nat.zero_le _, rfl, rfl⟩
  case round =>
    obtain ⟨k, hk, rfl, hn⟩ := hrel
    have hn' := Lib.hid hn
    clear hn
    by_cases hlt : k < s.size
    · have hts := Lib.hid (take_snoc s k hlt)
      have hget : s.data.toList[k]'(by simpa using hlt) = s[k] := by simp; rfl
      by_cases hc : s[k].toNat = c
      · have hci : (s[k].toNat : Int) = c := by omega
        go_wp2_with fail
        go_ret
        refine ⟨?_, rfl⟩
        have : R = true := hR'.out.symm.trans (List.any_eq_true.2 ⟨s[k], by rw [← hget]; exact List.getElem_mem _, by simpa using hc⟩)
        subst this
        rfl
      · have hci : ¬(s[k].toNat : Int) = c := by omega
        go_wp2_with fail
        go_round
        case rel => exact ⟨k + 1, by omega, by go_num, by rw [hts.out, List.any_append, hn'.out]; simpa using hc⟩
        case measure => simp [intOf]; omega
    · have hke : k = s.size := by omega
      subst hke
      go_wp2_with fail
      go_ret
      refine ⟨?_, rfl⟩
      have h := hn'.out
      rw [List.take_of_length_le (by simp)] at h
      have : R = false := hR'.out.symm.trans h
      subst this
      rfl
end Go.Proofs.YteeopjgfiojoiaaDoor
