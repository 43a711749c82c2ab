/- The walk over set.Text: a set's text. Its condition: the set is a set of bytes. -/
import Derived.Test.YteeopjgfiojoiaaDoorTxt
import Derived.Test.YteeopjgfiojoiaaDoorBld
import Derived.Test.YteeopjgfiojoiaaDoorWRanges
import Derived.Test.YteeopjgfiojoiaaDoorCat
namespace Go.Proofs.YteeopjgfiojoiaaDoor
open Go Go.RowKit SN

theorem dash_size (n : Nat) : (⟨#[45]⟩ ++ hexB n : ByteArray).size = 3 := rfl
theorem dash_list (n : Nat) : (⟨#[45]⟩ ++ hexB n : ByteArray).data.toList = 45 :: hx n := rfl
theorem emit_yes (o : List UInt8) (k j : Nat) (h : k < j) : o ++ emit k j = o ++ (hexB k).data.toList ++ (45 :: hx j) := by unfold emit; rw [if_pos h, hexB_list]; simp
theorem emit_no (o : List UInt8) (k j : Nat) (h : ¬ k < j) : o ++ emit k j = o ++ (hexB k).data.toList := by unfold emit; rw [if_neg h, hexB_list]; simp
theorem dash_room (o : List UInt8) (k j : Nat) (h : o.length ≤ 1537) : (o ++ (hexB k).data.toList).length + ((⟨#[45]⟩ : ByteArray) ++ hexB j).size ≤ 140737488355328 := by
  have h1 : (hx k).length = 2 := rfl
  rw [dash_size, List.length_append, hexB_list, h1]; omega
theorem txt_join (S : Nat) : (⟨#[91]⟩ ++ ⟨(inner S).toArray⟩ ++ ⟨#[93]⟩ : ByteArray) = ⟨(txt S).toArray⟩ := by
  have h1 := ba_append [91] (inner S)
  have h2 := ba_append ([91] ++ inner S) [93]
  rw [← h1] at h2
  exact h2.trans (by simp [txt])
set_option maxHeartbeats 4000000 in
set_option maxRecDepth 100000 in
theorem Text_pos (S : Nat) (oS : Ok S) (h0 : S ≠ 0) (w : World) : Calls Tryd.prog 35 #[sv S] w fun e w' => e = .returned (.string ⟨(txt S).toArray⟩) ∧ Below w.heap.size w w' := by
  show Calls Tryd.prog 35 #[.agg #[.int .u64 (word S 0), .int .u64 (word S 1), .int .u64 (word S 2), .int .u64 (word S 3)]] w _
  have hb : (Instr.build 24 #[]).run Tryd.prog = fun w => .ok (sv 0) w := by funext w; kernel_rfl
  have he : ∀ W, (binOp .eql 24 (sv S) (sv 0)).run Tryd.prog W = .ok (.bool false) W := fun W => by rw [run_eql_set S 0 oS ok_zero W, decide_eq_false h0]
  have he' := Lib.hid he
  clear he h0
  go_enter Tryd.func35, Tryd.ntmps35
  go_wp2_with (first | (refine load_set rfl _ rfl _ rfl ⟨S, IsSet.new' _ _ _ _ rfl, ?_⟩) | (refine eq_setsg rfl _ _ rfl S 0 rfl rfl false (he'.out _) ?_))
  have iB := IsB.fresh (w.alloc (.cells #[.int .u64 (word S 0), .int .u64 (word S 1), .int .u64 (word S 2), .int .u64 (word S 3)] 24))
  rw [World.size_alloc] at iB
  have iB' := Lib.hid iB
  clear iB hb he'
  go_loopw [4] (fun i wr => ∃ (k : Nat) (o : List UInt8), k ≤ 256 ∧ i = .int .i64 k ∧ w.heap.size + 1 < wr.heap.size ∧ TxtAt S o k ∧ IsB (w.heap.size + 1) (w.heap.size + 1) o wr ∧ IsSet 24 wr w.heap.size S ∧ Below w.heap.size w wr) (fun i _ => 256 - (intOf i).toNat)
  case atStart => exact ⟨0, [], Nat.zero_le _, rfl, by simp, txt_start S, iB'.out, (IsSet.new' _ _ _ _ rfl).alloc _, ((Below.refl _ _).alloc (Nat.le_refl _) _).alloc (by simp) _⟩
  case round =>
    clear iB'
    obtain ⟨k, o, hk, rfl, hz, hT, hB, hR, hbl⟩ := hrel
    have hT' := Lib.hid hT
    have hB' := Lib.hid hB
    have hbl' := Lib.hid hbl
    have hR' := Lib.hid hR
    clear hT hB hbl
    by_cases hlt : k < 256
    · cases hbit : S.testBit k with
      | false =>
        have hbit' := Lib.hid hbit
        have hh := Lib.hid (show ∀ W, Calls Tryd.prog 30 #[sv S, .int .u8 k] W fun e w' => e = .returned (.bool false) ∧ Below W.heap.size W w' from fun W => by rw [← hbit]; exact Has_any S k hlt W)
        clear hbit
        go_wp2_with (first | (refine load_set rfl _ rfl _ rfl ⟨S, hR, ?_⟩) | (go_at_call 30; refine (hh.out _).mono ?_; rintro e w1 ⟨rfl, b1⟩; have z1 := b1.size))
        have q1 := hB'.out.below b1 (Nat.le_refl _)
        have q2 := hR'.out.below b1 (by omega)
        have q3 := hbl'.out.trans (b1.mono (by omega))
        have q1' := Lib.hid q1
        have q2' := Lib.hid q2
        have q3' := Lib.hid q3
        clear q1 q2 q3 b1
        go_roundw
        case rel => exact ⟨k + 1, o, by omega, by go_num, by omega, txt_skip S k o hlt hT'.out hbit'.out, q1'.out, q2'.out, q3'.out⟩
        case measure => simp [intOf]; omega
      | true =>
        have hbit' := Lib.hid hbit
        have hh := Lib.hid (show ∀ W, Calls Tryd.prog 30 #[sv S, .int .u8 k] W fun e w' => e = .returned (.bool true) ∧ Below W.heap.size W w' from fun W => by rw [← hbit]; exact Has_any S k hlt W)
        clear hbit
        go_wp2_with (first | (refine load_set rfl _ rfl _ rfl ⟨S, hR, ?_⟩) | (go_at_call 30; refine (hh.out _).mono ?_; rintro e w1 ⟨rfl, b1⟩; have z1 := b1.size))
        have q1 := hB'.out.below b1 (Nat.le_refl _)
        have q2 := hR'.out.below b1 (by omega)
        have q3 := hbl'.out.trans (b1.mono (by omega))
        have qT := txt_open S k o hlt hT'.out hbit'.out
        have q1' := Lib.hid q1
        have q2' := Lib.hid q2
        have q3' := Lib.hid q3
        have qT' := Lib.hid qT
        have hz1 : w.heap.size + 1 < w1.heap.size := by omega
        clear q1 q2 q3 qT b1 hB' hR' hR hbl' hT' hh hbit' z1 hz
        go_loopw [4] (fun i wi => ∃ (j : Nat), k ≤ j ∧ j < 256 ∧ i = .int .i64 j ∧ w.heap.size + 1 < wi.heap.size ∧ TxtRun S o k j ∧ IsB (w.heap.size + 1) (w.heap.size + 1) o wi ∧ IsSet 24 wi w.heap.size S ∧ Below w.heap.size w wi) (fun i _ => 256 - (intOf i).toNat)
        case atStart => exact ⟨k, Nat.le_refl _, hlt, rfl, hz1, qT'.out, q1'.out, q2'.out, q3'.out⟩
        case round =>
          clear q1' q2' q3' qT' hz1
          obtain ⟨j, hkj, hj, rfl, hz, hT, hB, hR, hbl⟩ := hrel
          have hT' := Lib.hid hT
          have hB' := Lib.hid hB
          have hbl' := Lib.hid hbl
          have hR' := Lib.hid hR
          clear hT hB hbl
          by_cases hgo : j < 255 ∧ S.testBit (j + 1) = true
          · obtain ⟨hj5, hbit⟩ := hgo
            have hbit' := Lib.hid hbit
            have hh := Lib.hid (show ∀ W, Calls Tryd.prog 30 #[sv S, .int .u8 ((j : Int) + 1)] W fun e w' => e = .returned (.bool true) ∧ Below W.heap.size W w' from fun W => by rw [← hbit]; exact Has_any S (j + 1) (by omega) W)
            obtain ⟨⟨c0, c1, c2, c3⟩, -, -⟩ := hR.all
            clear hbit hR
            go_wp2_with (first | (go_at_call 30; refine (hh.out _).mono ?_; rintro e w1 ⟨rfl, b1⟩; have z1 := b1.size))
            have q1 := hB'.out.below b1 (Nat.le_refl _)
            have q2 := hR'.out.below b1 (by omega)
            have q3 := hbl'.out.trans (b1.mono (by omega))
            have q1' := Lib.hid q1
            have q2' := Lib.hid q2
            have q3' := Lib.hid q3
            clear q1 q2 q3 b1
            go_roundw
            case rel => exact ⟨j + 1, by omega, by omega, by go_num, by omega, txt_on S k j o (by omega) hT'.out hbit'.out, q1'.out, q2'.out, q3'.out⟩
            case measure => simp [intOf]; omega
          · have hend : j = 255 ∨ S.testBit (j + 1) = false := by
              by_cases h5 : j = 255
              · exact .inl h5
              · right
                cases hb : S.testBit (j + 1) with
                | false => rfl
                | true => exact absurd ⟨by omega, hb⟩ hgo
            have hcl := Lib.hid (txt_close S k j o hj hT'.out hend)
            have hlen := txtRun_len hT'.out
            have hx2 : ∀ n, (hexB n).size = 2 := fun _ => rfl
            clear hgo
            by_cases h5 : j = 255
            case' pos =>
              have hj5 : ¬ j < 255 := by omega
              clear hend hR h5
              go_wp2_with fail
              obtain ⟨w1, rfl⟩ : ∃ x : World, x = wr := ⟨_, rfl⟩
              have q1' := hB'
              have q2' := hR'
              have q3' := hbl'
            case' neg =>
              have hbit := hend.resolve_left h5
              have hh := Lib.hid (show ∀ W, Calls Tryd.prog 30 #[sv S, .int .u8 ((j : Int) + 1)] W fun e w' => e = .returned (.bool false) ∧ Below W.heap.size W w' from fun W => by rw [← hbit]; exact Has_any S (j + 1) (by omega) W)
              obtain ⟨⟨c0, c1, c2, c3⟩, -, -⟩ := hR.all
              clear hbit hend hR
              have hj5 : j < 255 := by omega
              go_wp2_with (go_at_call 30; refine (hh.out _).mono ?_; rintro e w1 ⟨rfl, b1⟩; have z1 := b1.size)
              have q1 := hB'.out.below b1 (Nat.le_refl _)
              have q2 := hR'.out.below b1 (by omega)
              have q3 := hbl'.out.trans (b1.mono (by omega))
              have q1' := Lib.hid q1
              have q2' := Lib.hid q2
              have q3' := Lib.hid q3
              clear q1 q2 q3 b1 c0 c1 c2 c3 hh
            all_goals
              clear hB' hR' hbl' hT'
              have hz1 : w.heap.size + 1 < w1.heap.size := by omega
              refine (BLen_any _ _ o _ q1'.out).mono ?_
              rintro e w2 ⟨rfl, rfl⟩
              by_cases ho : o = []
              case' pos =>
                subst ho
                go_wp2_with fail
                obtain ⟨w3, rfl⟩ : ∃ x : World, x = w1 := ⟨_, rfl⟩
                have r1' := q1'
                have r2' := q2'
                have r3' := q3'
                have r0 : TxtAt S ([] ++ emit k j) (j + 1) := hcl.out
                have r0' := Lib.hid r0
                have r1l : ([] : List UInt8).length ≤ 1537 := by simp
                obtain ⟨o2, ho2⟩ : ∃ x : List UInt8, x = [] := ⟨_, rfl⟩
                rw [← ho2] at r1' r0' r1l
                clear r0 ho2
              case' neg =>
                have hpos : 0 < o.length := List.length_pos_iff.2 ho
                have hposI : (0 : Int) < (o.length : Int) := by omega
                have r0 := hcl.out
                rw [if_neg ho] at r0
                have r0' := Lib.hid r0
                clear r0 ho
                go_wp2_with fail
                refine (WriteByte_any _ _ o 44 _ q1'.out (by omega) (by omega)).mono ?_
                rintro e w3 ⟨rfl, h3, b3⟩
                have z3 := b3.size
                have r2 := q2'.out.below b3 (by omega)
                have r3 := q3'.out.trans (b3.mono (by omega))
                have r1' := Lib.hid h3
                have r2' := Lib.hid r2
                have r3' := Lib.hid r3
                have r1l : (o ++ [44]).length ≤ 1537 := by simp; omega
                clear h3 r2 r3 b3
                go_wp2_with fail
                obtain ⟨o2, ho2⟩ : ∃ x : List UInt8, x = o ++ [44] := ⟨_, rfl⟩
                rw [← ho2] at r1' r0' r1l
                clear ho2
            all_goals
              have hz3 : w.heap.size + 1 < w3.heap.size := by omega
              clear q1' q2' q3' hcl hlen
              refine (Hex_any k (by omega) _).mono ?_
              rintro e w4 ⟨rfl, b4⟩
              have z4 := b4.size
              have r1 := r1'.out.below b4 (Nat.le_refl _)
              have r2 := r2'.out.below b4 (by omega)
              have r3 := r3'.out.trans (b4.mono (by omega))
              have s1' := Lib.hid r1
              have s2' := Lib.hid r2
              have s3' := Lib.hid r3
              clear r1 r2 r3 b4 r1' r2' r3'
              go_wp2_with fail
              refine (WriteString_any _ _ o2 (hexB k) _ s1'.out (by rw [hx2]; omega) (by omega)).mono ?_
              rintro e w5 ⟨rfl, h5, b5⟩
              have z5 := b5.size
              have r2 := s2'.out.below b5 (by omega)
              have r3 := s3'.out.trans (b5.mono (by omega))
              have s1' := Lib.hid h5
              have s2' := Lib.hid r2
              have s3' := Lib.hid r3
              clear r2 r3 b5 h5
              by_cases hkj2 : k < j
              case' pos =>
                go_wp2_with fail
                refine (Hex_any j hj _).mono ?_
                rintro e w6 ⟨rfl, b6⟩
                have z6 := b6.size
                have r1 := s1'.out.below b6 (Nat.le_refl _)
                have r2 := s2'.out.below b6 (by omega)
                have r3 := s3'.out.trans (b6.mono (by omega))
                have t1' := Lib.hid r1
                have t2' := Lib.hid r2
                have t3' := Lib.hid r3
                clear r1 r2 r3 b6 s1' s2' s3'
                go_wp2_with fail
                refine (WriteString_any _ _ (o2 ++ (hexB k).data.toList) ((⟨#[45]⟩ : ByteArray) ++ hexB j) _ t1'.out (dash_room o2 k j r1l) (by omega)).mono ?_
                rintro e w7 ⟨rfl, h7, b7⟩
                have z7 := b7.size
                have r2 := t2'.out.below b7 (by omega)
                have r3 := t3'.out.trans (b7.mono (by omega))
                have t1' := Lib.hid h7
                have t2' := Lib.hid r2
                have t3' := Lib.hid r3
                clear r2 r3 b7 h7
                go_wp2_with fail
                go_roundw
                case rel => exact ⟨j + 1, o2 ++ (hexB k).data.toList ++ (⟨#[45]⟩ ++ hexB j : ByteArray).data.toList, by omega, by go_num, by omega, by rw [dash_list, ← emit_yes o2 k j hkj2]; exact r0'.out, t1'.out, t2'.out, t3'.out⟩
                case measure => simp [intOf]; omega
              case' neg =>
                go_wp2_with fail
                go_roundw
                case rel => exact ⟨j + 1, o2 ++ (hexB k).data.toList, by omega, by go_num, by omega, by rw [← emit_no o2 k j hkj2]; exact r0'.out, s1'.out, s2'.out, s3'.out⟩
                case measure => simp [intOf]; omega
    · have hke : k = 256 := by omega
      subst hke
      have hio := txt_end S o hT'.out
      subst hio
      clear hR hlt hk
      go_wp2_with fail
      refine (BText_any _ _ _ _ hB'.out (by omega)).mono ?_
      rintro e w2 ⟨rfl, b2⟩
      have q3 := hbl'.out.trans (b2.mono (by omega))
      have q3' := Lib.hid q3
      clear q3 b2
      have hi := inner_len S
      have hn1 : ¬ 9223372036854775807 < 1 + (inner S).length := by omega
      have hn2 : ¬ 9223372036854775807 < 1 + (inner S).length + 1 := by omega
      go_wp2_with fail
      go_ret
      exact ⟨congrArg (fun s => Ending.returned (Value.string s)) (txt_join S), q3'.out⟩
/-- set.Text: every set's text. -/
theorem Text_any (S : Nat) (oS : Ok S) (w : World) : Calls Tryd.prog 35 #[sv S] w fun e w' => e = .returned (.string ⟨(txt S).toArray⟩) ∧ Below w.heap.size w w' := by
  by_cases h : S = 0
  · subst h
    rw [txt_zero]
    exact Text_zero w
  · exact Text_pos S oS h w
end Go.Proofs.YteeopjgfiojoiaaDoor
