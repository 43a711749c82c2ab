/- scan.Whole and test's number: what they read. Conditions: the text has fewer bytes than a machine's word counts. -/
import Derived.Test.YtfnaooplpofgiaaGreatDoorKB
import Derived.Test.YtfnaooplpofgiaaGreatDoorNumP
import Derived.Test.YtfnaooplpofgiaaGreatDoorShelf
import Derived.Shelf.Strings.SlTrimAscii
import Derived.WalkMore
import Derived.Handy
import Derived.Outline
namespace Go.Proofs.YtfnaooplpofgiaaGreatDoor
open Go Go.RowKit SN

/-- What is told of a number. -/
def numV : Option Int → Value
  | none => .tuple #[.int .i64 0, .bool false]
  | some n => .tuple #[.int .i64 n, .bool true]
theorem numF_end (lim : Nat) (n : Nat) : numF lim n [] = some n := rfl
theorem cut_neg (l : List UInt8) : Lib.trimPrefix l [45] = unNeg l ∧ Lib.hasPrefix l [45] = isNeg l := by
  cases l with
  | nil => exact ⟨rfl, rfl⟩
  | cons c t => 
    by_cases h : c = 45
    · subst h
      exact ⟨rfl, rfl⟩
    · have e1 : isNeg (c :: t) = false := by simpa [isNeg] using h
      have e2 : Lib.hasPrefix (c :: t) [45] = false := by simp [Lib.hasPrefix, List.isPrefixOf, Ne.symm h]
      exact ⟨by unfold Lib.trimPrefix unNeg; rw [e1, e2]; rfl, by rw [e1, e2]⟩
set_option maxHeartbeats 1000000 in
set_option maxRecDepth 100000 in
theorem whole_loop (neg : Bool) (r : ByteArray) (w : World) (hr : r.size ≤ 9223372036854775807) (s : ByteArray)
    (hc : Calls Tryz.prog 67 #[.string s, .string ⟨#[45]⟩] w fun e w' => e = .returned (.tuple #[.string r, .bool neg]) ∧ w' = w) :
    Calls Tryz.prog 69 #[.string s] w fun e w' => e = .returned (numV (wholeS neg r.data.toList)) ∧ Below w.heap.size w w' := by
  have hc' := Lib.hid hc
  obtain ⟨l, hl⟩ : ∃ l, l = r.data.toList := ⟨_, rfl⟩
  have hlen : l.length = r.size := by rw [hl]; simp
  have hget : ∀ k, (hk : k < r.size) → l[k]? = some r[k] := fun k hk => by rw [hl, Array.getElem?_toList]; exact Array.getElem?_eq_getElem hk
  rw [← hl]
  have hcv := Lib.hid (Lib.run_convert_string_bytes (P := Tryz.prog) w 9 62 5 r Tryz.underlying9 Tryz.underlying62 Tryz.underlying5)
  have hbl := bytesWorld_below w 5 r
  have hcell : ∀ i (h : i < r.size), (Lib.bytesWorld w 5 r).cell? ⟨w.heap.size, i, none⟩ = some (.int .u8 r[i].toNat) := fun i h => by
    have := Lib.bytesWorld_cell w 5 r i h
    rw [this]
    simp [h, ByteArray.getElem_eq_getElem_data]
  have hcp : r.size ≤ grownCap w r.size 0 5 := grownCap_ge _ _ _ _
  generalize Lib.bytesWorld w 5 r = W at hcv hbl hcell
  generalize grownCap w r.size 0 5 = gc at hcv hcp
  have hbl' := Lib.hid hbl
  have hcell' := Lib.hid hcell
  have hget' := Lib.hid hget
  clear hc hcell hbl hget
  obtain ⟨Post, hPost⟩ : ∃ Post : Ending → World → Prop, Post = fun e w' => e = .returned (numV (wholeS neg l)) ∧ Below w.heap.size w w' := ⟨_, rfl⟩
  rw [← hPost]
  obtain ⟨L, hL⟩ : ∃ L, L = limOf neg := ⟨_, rfl⟩
  by_cases he : r.toList.isEmpty = true
  · have h0 : l = [] := by rw [Lib.toList_data, ← hl] at he; simpa using he
    go_enter Tryz.func69, Tryz.ntmps69
    go_wp2_with (go_at_call 67; refine hc'.out.mono ?_; rintro e w1 ⟨rfl, rfl⟩)
    rw [hPost]
    refine ⟨?_, Below.refl _ _⟩
    rw [h0]
    rfl
  have h0 : l ≠ [] := fun e => he (by rw [Lib.toList_data, ← hl, e]; rfl)
  have he' : r.toList.isEmpty = false := by simpa using he
  have hw : numV (wholeS neg l) = numV ((numF L 0 l).map fun n : Nat => if neg then -(n : Int) else (n : Int)) := by unfold wholeS; rw [if_neg h0, hL]
  rw [hw] at hPost
  have hP := Lib.hid hPost
  have hdr := Lib.hid (fun (k : Nat) (hk : k < r.size) => show l.drop k = r[k] :: l.drop (k + 1) by
    have := hget'.out k hk
    rw [List.drop_eq_getElem_cons (by omega)]
    rw [List.getElem?_eq_getElem (by omega)] at this
    rw [Option.some.inj this])
  clear hw he hPost hget'
  cases neg
  · skip
    have hLI : L = 9223372036854775807 := hL
    clear hL
    go_enter Tryz.func69, Tryz.ntmps69
    go_wp2_with (go_at_call 67; refine hc'.out.mono ?_; rintro e w1 ⟨rfl, rfl⟩)
    rw [hcv.out]
    go_wp2_with fail
    go_loopw [6, 24] (fun n i wr => ∃ (k m : Nat), k ≤ r.size ∧ n = .int .u64 m ∧ i = .int .i64 k ∧ m ≤ L ∧ numF L 0 l = numF L m (l.drop k) ∧ wr = W) (fun _ i _ => r.size - (intOf i).toNat)
    case atStart => exact ⟨0, 0, Nat.zero_le _, rfl, rfl, Nat.zero_le _, by rw [List.drop_zero], rfl⟩
    case round =>
      obtain ⟨k, m, hk, rfl, rfl, hm, hnum, rfl⟩ := hrel
      have hnum' := Lib.hid hnum
      clear hnum
      by_cases hkk : k < r.size
      · have hld := hcell'.out k hkk
        have hkI : (k : Int) < (r.size : Int) := by omega
        have hn2 := Lib.hid (show numF L 0 l = if 48 ≤ r[k].toNat ∧ r[k].toNat ≤ 57 ∧ m * 10 + (r[k].toNat - 48) ≤ L then numF L (m * 10 + (r[k].toNat - 48)) (l.drop (k + 1)) else none by rw [hnum'.out, hdr.out k hkk, numF_cons])
        have h256 := r[k].toNat_lt
        generalize r[k].toNat = d at hld hn2 h256
        go_wp2_with fail
        case roundEnd =>
          refine ⟨⟨k + 1, m * 10 + (d - 48), by omega, ?_, rfl, by omega, ?_, trivial⟩, ?_⟩
          · congr 1; omega
          · rw [hn2.out, if_pos (by omega)]
          · simp [intOf]; omega
        all_goals
          rw [hP.out]
          refine ⟨?_, hbl'.out⟩
          rw [hn2.out, if_neg (by omega)]
          rfl
      · have hke : k = r.size := by omega
        subst hke
        have hn2 : numF L 0 l = some m := by rw [hnum'.out, List.drop_eq_nil_of_le (by omega)]; rfl
        go_wp2_with fail
        rw [hP.out]
        refine ⟨?_, hbl'.out⟩
        rw [hn2]
        simp [numV]
  · skip
    have hLI : L = 9223372036854775808 := hL
    clear hL
    go_enter Tryz.func69, Tryz.ntmps69
    go_wp2_with (go_at_call 67; refine hc'.out.mono ?_; rintro e w1 ⟨rfl, rfl⟩)
    rw [hcv.out]
    go_wp2_with fail
    go_loopw [6, 24] (fun n i wr => ∃ (k m : Nat), k ≤ r.size ∧ n = .int .u64 m ∧ i = .int .i64 k ∧ m ≤ L ∧ numF L 0 l = numF L m (l.drop k) ∧ wr = W) (fun _ i _ => r.size - (intOf i).toNat)
    case atStart => exact ⟨0, 0, Nat.zero_le _, rfl, rfl, Nat.zero_le _, by rw [List.drop_zero], rfl⟩
    case round =>
      obtain ⟨k, m, hk, rfl, rfl, hm, hnum, rfl⟩ := hrel
      have hnum' := Lib.hid hnum
      clear hnum
      by_cases hkk : k < r.size
      · have hld := hcell'.out k hkk
        have hkI : (k : Int) < (r.size : Int) := by omega
        have hn2 := Lib.hid (show numF L 0 l = if 48 ≤ r[k].toNat ∧ r[k].toNat ≤ 57 ∧ m * 10 + (r[k].toNat - 48) ≤ L then numF L (m * 10 + (r[k].toNat - 48)) (l.drop (k + 1)) else none by rw [hnum'.out, hdr.out k hkk, numF_cons])
        have h256 := r[k].toNat_lt
        generalize r[k].toNat = d at hld hn2 h256
        go_wp2_with fail
        case roundEnd =>
          refine ⟨⟨k + 1, m * 10 + (d - 48), by omega, ?_, rfl, by omega, ?_, trivial⟩, ?_⟩
          · congr 1; omega
          · rw [hn2.out, if_pos (by omega)]
          · simp [intOf]; omega
        all_goals
          rw [hP.out]
          refine ⟨?_, hbl'.out⟩
          rw [hn2.out, if_neg (by omega)]
          rfl
      · have hke : k = r.size := by omega
        subst hke
        have hn2 : numF L 0 l = some m := by rw [hnum'.out, List.drop_eq_nil_of_le (by omega)]; rfl
        go_wp2_with fail
        rw [hP.out]
        refine ⟨?_, hbl'.out⟩
        rw [hn2]
        simp [numV, wrap64]
        omega
theorem Whole_any (s : ByteArray) (hs : s.size ≤ 9223372036854775807) (w : World) :
    Calls Tryz.prog 69 #[.string s] w fun e w' => e = .returned (numV (whole s.data.toList)) ∧ Below w.heap.size w w' := by
  have h := Tryz.strings_CutPrefix s ⟨#[45]⟩ w
  obtain ⟨e1, e2⟩ := cut_neg s.data.toList
  rw [show (⟨#[45]⟩ : ByteArray).data.toList = [45] from rfl, e1, e2] at h
  refine whole_loop (isNeg s.data.toList) ⟨(unNeg s.data.toList).toArray⟩ w ?_ s h
  show (unNeg s.data.toList).toArray.size ≤ _
  have : s.data.toList.length = s.size := by simp
  unfold unNeg
  split <;> simp <;> omega
end Go.Proofs.YtfnaooplpofgiaaGreatDoor
