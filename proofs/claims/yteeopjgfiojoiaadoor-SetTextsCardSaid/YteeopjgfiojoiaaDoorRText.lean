/- The walk over pidginref5.Text: a set's text, by the reference. No conditions. -/
import Derived.Test.YteeopjgfiojoiaaDoorRHex
import Derived.Test.YteeopjgfiojoiaaDoorSetR2
import Derived.Test.YteeopjgfiojoiaaDoorItem1
import Derived.Test.YteeopjgfiojoiaaDoorWText
import Derived.IntWalk
namespace Go.Proofs.YteeopjgfiojoiaaDoor
open Go Go.RowKit SN

theorem hx_len (n : Nat) : (hx n).length = 2 := rfl
theorem r1Hex_two (b : Nat) (hb : b < 256) (w : World) :
    Calls Tryd.prog 58 #[.string (toB [b])] w fun e w' => e = .returned (.string ⟨(hx b).toArray⟩) ∧ Below w.heap.size w w' := r1Hex_one b hb w
theorem emit_lo (a b : Nat) (h : ¬ a < b) : emit a b = hx a := by unfold emit; rw [if_neg h]; simp
theorem emit_hi (a b : Nat) (h : a < b) : emit a b = hx a ++ ([45] ++ hx b) := by unfold emit; rw [if_pos h]; rfl
theorem mcell {w : World} {b o : Nat} {l : List Nat} (hl : ∀ x ∈ l, x < 256) (h : HasB w (some ⟨b, o, none⟩) (toB l)) (k : Nat) (hk : k < l.length) : w.cell? ⟨b, o + k, none⟩ = some (.int .u8 ((l.getD k 0 : Nat) : Int)) := by
  obtain ⟨b', o', e, hc, -⟩ := hasB_at h (i := k) (by rw [toB_size]; exact hk)
  cases e
  rw [toB_get l hl k (by rw [toB_size]; exact hk)] at hc
  rw [hc, List.getD_eq_getElem?_getD, List.getElem?_eq_getElem hk]; rfl
theorem win_run (b o cap m n : Nat) (hm : m < n) (hcap : n ≤ cap) (W : World) : (Instr.slice 36 (.slice (some ⟨b, o, none⟩) n cap) (some (.int .i64 (m : Int))) (some (.int .i64 ((m : Int) + 1))) none).run Tryd.prog W = .ok (.slice (some ⟨b, o + m, none⟩) 1 (cap - m)) W := by
  have h := Lib.run_slice_window (P := Tryd.prog) W 36 5 Tryd.underlying36 (fun _ => by kernel_rfl) b o n cap m (m + 1) (by omega) (by omega)
  rw [show m + 1 - m = 1 by omega] at h
  simpa using h
theorem win_conv (b o cap m x : Nat) (hx : x < 256) (W : World) (hc : W.cell? ⟨b, o + m, none⟩ = some (.int .u8 (x : Int))) : (convert 36 9 (.slice (some ⟨b, o + m, none⟩) 1 (cap - m))).run Tryd.prog W = .ok (.string (toB [x])) W :=
  run_convert_bytes_back (P := Tryd.prog) W 36 9 5 ⟨b, o + m, none⟩ (cap - m) [x.toUInt8] Tryd.underlying36 Tryd.underlying5 Tryd.underlying9 (by
      intro j hj
      have : j = 0 := by simp at hj; omega
      subst this
      have e : ((x.toUInt8).toNat : Int) = x := by simp; omega
      have e2 : (⟨b, o + m, none⟩ : Addr).add 0 = ⟨b, o + m, none⟩ := rfl
      rw [e2, hc]
      simp; omega)
theorem lt_room (o : List UInt8) (h : o.length ≤ 1600) (s : ByteArray) (hs : s.size ≤ 10) : (⟨(91 :: o).toArray⟩ ++ s : ByteArray).size ≤ 9223372036854775807 := by
  have e : (⟨(91 :: o).toArray⟩ : ByteArray).size = o.length + 1 := rfl
  rw [ByteArray.size_append, e]; omega
set_option maxHeartbeats 4000000 in
set_option maxRecDepth 100000 in
theorem r5Text_any (S : Nat) (w : World) : Calls Tryd.prog 36 #[sv S] w fun e w' => e = .returned (.string ⟨(txt S).toArray⟩) ∧ Below w.heap.size w w' := by
  show Calls Tryd.prog 36 #[.agg #[.int .u64 (word S 0), .int .u64 (word S 1), .int .u64 (word S 2), .int .u64 (word S 3)]] w _
  have hlt : ∀ b ∈ mem S, b < 256 := fun b hb => mem_lt hb
  have hlt' := Lib.hid hlt
  have hn := mem_len S
  clear hlt
  go_enter Tryd.func36, Tryd.ntmps36
  go_wp2_with (first | (refine load_set rfl _ rfl _ rfl ⟨S, IsSet.new' _ _ _ _ rfl, ?_⟩) | (go_at_call 29; refine (r5Bytes_any S _).mono ?_; rintro e wY ⟨v, rfl, hv, bY⟩; obtain ⟨p, cap, rfl, hcap, hB, -⟩ := hv.hasB' (fun _ h => mem_lt h); have zY := bY.size; simp only [World.size_alloc] at zY; have hB' := Lib.hid hB; clear hv hB))
  have q3 := ((Below.refl w.heap.size w).alloc (Nat.le_refl _) (.cells #[.int .u64 (word S 0), .int .u64 (word S 1), .int .u64 (word S 2), .int .u64 (word S 3)] 24)).trans (bY.mono (by simp))
  have q3' := Lib.hid q3
  clear q3 bY
  go_loopw [4, 5] (fun t i wr => ∃ (k : Nat) (o : List UInt8), k ≤ (mem S).length ∧ i = .int .i64 k ∧ t = .string ⟨(91 :: o).toArray⟩ ∧ LAt S o k ∧ HasB wr p (toB (mem S)) ∧ w.heap.size ≤ wr.heap.size ∧ Below w.heap.size w wr) (fun _ i _ => (mem S).length - (intOf i).toNat)
  case atStart => exact ⟨0, [], Nat.zero_le _, rfl, rfl, l_start S, hB'.out, by omega, q3'.out⟩
  case round =>
    clear hB' q3'
    obtain ⟨k, o, hk, rfl, rfl, hL, hB, hz, hbl⟩ := hrel
    have hL' := Lib.hid hL
    have hB' := Lib.hid hB
    have hbl' := Lib.hid hbl
    have hol := l_len hL
    clear hL hB hbl
    by_cases hlt : k < (mem S).length
    · obtain ⟨b, ob, rfl, -, -⟩ := hasB_at hB'.out (i := k) (by rw [toB_size]; exact hlt)
      have hR' := Lib.hid (l_open S k o hlt hL'.out)
      clear hL'
      go_wp2_with fail
      go_loopw [6] (fun i wi => ∃ (j : Nat), k ≤ j ∧ j < (mem S).length ∧ i = .int .i64 j ∧ LRun S o k j ∧ HasB wi (some ⟨b, ob, none⟩) (toB (mem S)) ∧ w.heap.size ≤ wi.heap.size ∧ Below w.heap.size w wi) (fun i _ => (mem S).length - (intOf i).toNat)
      case atStart => exact ⟨k, Nat.le_refl _, hlt, rfl, hR'.out, hB'.out, hz, hbl'.out⟩
      case round =>
        clear hB' hbl' hR' hz
        obtain ⟨j, hkj, hj, rfl, hR, hB, hz, hbl⟩ := hrel
        have hR' := Lib.hid hR
        have hB' := Lib.hid hB
        have hbl' := Lib.hid hbl
        have hol2 := lRun_len hR
        have hmj := mem_getD_lt S j
        have hcj := mcell hlt'.out hB j hj
        generalize hgj : (mem S).getD j 0 = mj at hmj hcj
        have hgj' := Lib.hid hgj
        clear hR hB hbl hgj
        by_cases hgo : j + 1 < (mem S).length
        · have hcj1 := mcell hlt'.out hB'.out (j + 1) hgo
          have hmj1 := mem_getD_lt S (j + 1)
          have hrise := mem_rise S j (j + 1) (by omega) hgo
          rw [hgj'.out] at hrise
          generalize hgj1 : (mem S).getD (j + 1) 0 = mj1 at hmj1 hcj1 hrise
          have hgj1' := Lib.hid hgj1
          clear hgj1
          have hw1 : IntKind.u8.wrap ((mj : Int) + 1) = (mj : Int) + 1 := by rw [IntKind.wrap_u8]; omega
          have hw2 : IntKind.i64.wrap ((j : Int) + 1) = (j : Int) + 1 := IntWalk.i64_in _ (by omega)
          have hw3 : ((j : Int) + 1).toNat = j + 1 := by omega
          have hw4 : (0 : Int) ≤ (j : Int) + 1 := by omega
          have hd1 : decide ((j : Int) + 1 < ((mem S).length : Int)) = true := by simp; omega
          by_cases heq : mj1 = mj + 1
          · have he1 : ((mj1 : Int) == (mj : Int) + 1) = true := by simp; omega
            go_wp2_with fail
            go_quiet (fail)
            go_wp2_with fail
            clear hw1 hw2 hw3 hw4 hd1 he1
            go_roundw
            case rel => exact ⟨j + 1, by omega, hgo, by go_num, l_on S k j o hgo hR'.out (by rw [hgj1'.out, hgj'.out, heq]), hB'.out.drewN _, hz, below_drewN hbl'.out _⟩
            case measure => simp [intOf]; omega
          · have he1 : ((mj1 : Int) == (mj : Int) + 1) = false := by simp; omega
            have hcl := l_close S k j o hj hR'.out (.inr (by rw [hgj1'.out, hgj'.out]; exact heq))
            have hcl' := Lib.hid hcl
            clear hcl
            have hmk := mem_getD_lt S k
            have hck := mcell hlt'.out hB'.out k hlt
            generalize hgk : (mem S).getD k 0 = mk at hmk hck
            have hs1 := win_run b ob cap k (mem S).length hlt hcap
            have hs2 := win_run b ob cap j (mem S).length hj hcap
            have hv1 : ∀ n, (convert 36 9 (.slice (some ⟨b, ob + k, none⟩) 1 (cap - k))).run Tryd.prog (wr.drewN n) = .ok (.string (toB [mk])) (wr.drewN n) := fun n => win_conv b ob cap k mk hmk _ hck
            have hgk' := Lib.hid hgk
            clear hgk hck
            rw [hgk'.out, hgj'.out] at hcl'
            have hm1 := Lib.hid (show k < j → mk < mj from fun h => by rw [← hgk'.out, ← hgj'.out]; exact mem_rise S k j h hj)
            have hm2 := Lib.hid (show ¬ k < j → ¬ mk < mj from fun h => by
              have e : k = j := by omega
              subst e
              have e2 := hgk'.out.symm.trans hgj'.out
              omega)
            by_cases hk1 : 0 < k
            case' pos =>
              have hcl2 := hcl'.out
              rw [if_neg (by omega : ¬ k = 0)] at hcl2
            case' neg =>
              have hcl2 := hcl'.out
              rw [if_pos (by omega : k = 0), List.append_nil] at hcl2
            all_goals
              have hcl2' := Lib.hid hcl2
              clear hcl2
              go_wp2_with fail
              go_quiet (fail)
              go_wp2_with (refine cat_arm rfl _ _ rfl _ _ rfl rfl (by simp only [List.length_cons, List.length_nil]; omega) ?_)
              refine (r1Hex_two mk hmk _).mono ?_
              rintro e w1 ⟨rfl, b1⟩
              have r1 := (hB'.out.drewN nq).below b1 (Nat.le_refl _)
              have r2 := (below_drewN hbl'.out nq).trans (b1.mono hz)
              have z1 : w.heap.size ≤ w1.heap.size := Nat.le_trans hz b1.size
              have hv2 := win_conv b ob cap j mj hmj w1 (by rw [← hgj'.out]; exact mcell hlt'.out r1 j hj)
              have r1' := Lib.hid r1
              have r2' := Lib.hid r2
              clear r1 r2 b1
              by_cases hkj2 : k < j
              case' neg =>
                go_wp2_with (refine cat_arm rfl _ _ rfl _ _ rfl rfl (by simp only [List.length_append, List.length_cons, List.length_nil, hx_len]; omega) ?_)
                go_roundw
                case rel => exact ⟨j + 1, _, by omega, by go_num, rfl, by have h := hcl2'.out; rw [emit_lo _ _ (hm2.out hkj2)] at h; simpa using h, r1'.out, z1, r2'.out⟩
                case measure => simp [intOf]; omega
              case' pos =>
                go_wp2_with (refine cat_arm rfl _ _ rfl _ _ rfl rfl (by simp only [List.length_append, List.length_cons, List.length_nil, hx_len]; omega) ?_)
                refine (r1Hex_two mj hmj _).mono ?_
                rintro e w2 ⟨rfl, b2⟩
                have t1 := r1'.out.below b2 (Nat.le_refl _)
                have t2 := r2'.out.trans (b2.mono z1)
                have z2 : w.heap.size ≤ w2.heap.size := Nat.le_trans z1 b2.size
                have t1' := Lib.hid t1
                have t2' := Lib.hid t2
                clear t1 t2 b2 hv1 hv2 hs1 hs2
                go_wp2_with (refine cat_arm rfl _ _ rfl _ _ rfl rfl (by simp only [List.length_append, List.length_cons, List.length_nil, hx_len]; omega) ?_)
                go_roundw
                case rel => exact ⟨j + 1, _, by omega, by go_num, rfl, by have h := hcl2'.out; rw [emit_hi _ _ (hm1.out hkj2)] at h; simpa using h, t1'.out, z2, t2'.out⟩
                case measure => simp [intOf]; omega
        · have hw2 : IntKind.i64.wrap ((j : Int) + 1) = (j : Int) + 1 := IntWalk.i64_in _ (by omega)
          have hd1 : decide ((j : Int) + 1 < ((mem S).length : Int)) = false := by simp; omega
          have hcl := l_close S k j o hj hR'.out (.inl (by omega))
          have hcl' := Lib.hid hcl
          clear hcl
          have hmk := mem_getD_lt S k
          have hck := mcell hlt'.out hB'.out k hlt
          generalize hgk : (mem S).getD k 0 = mk at hmk hck
          have hs1 := win_run b ob cap k (mem S).length hlt hcap
          have hs2 := win_run b ob cap j (mem S).length hj hcap
          have hv1 : ∀ n, (convert 36 9 (.slice (some ⟨b, ob + k, none⟩) 1 (cap - k))).run Tryd.prog (wr.drewN n) = .ok (.string (toB [mk])) (wr.drewN n) := fun n => win_conv b ob cap k mk hmk _ hck
          have hgk' := Lib.hid hgk
          clear hgk hck
          rw [hgk'.out, hgj'.out] at hcl'
          have hm1 := Lib.hid (show k < j → mk < mj from fun h => by rw [← hgk'.out, ← hgj'.out]; exact mem_rise S k j h hj)
          have hm2 := Lib.hid (show ¬ k < j → ¬ mk < mj from fun h => by
            have e : k = j := by omega
            subst e
            have e2 := hgk'.out.symm.trans hgj'.out
            omega)
          by_cases hk1 : 0 < k
          case' pos =>
            have hcl2 := hcl'.out
            rw [if_neg (by omega : ¬ k = 0)] at hcl2
          case' neg =>
            have hcl2 := hcl'.out
            rw [if_pos (by omega : k = 0), List.append_nil] at hcl2
          all_goals
            have hcl2' := Lib.hid hcl2
            clear hcl2
            go_wp2_with fail
            go_quiet (fail)
            go_wp2_with (refine cat_arm rfl _ _ rfl _ _ rfl rfl (by simp only [List.length_cons, List.length_nil]; omega) ?_)
            refine (r1Hex_two mk hmk _).mono ?_
            rintro e w1 ⟨rfl, b1⟩
            have r1 := (hB'.out.drewN nq).below b1 (Nat.le_refl _)
            have r2 := (below_drewN hbl'.out nq).trans (b1.mono hz)
            have z1 : w.heap.size ≤ w1.heap.size := Nat.le_trans hz b1.size
            have hv2 := win_conv b ob cap j mj hmj w1 (by rw [← hgj'.out]; exact mcell hlt'.out r1 j hj)
            have r1' := Lib.hid r1
            have r2' := Lib.hid r2
            clear r1 r2 b1
            by_cases hkj2 : k < j
            case' neg =>
              go_wp2_with (refine cat_arm rfl _ _ rfl _ _ rfl rfl (by simp only [List.length_append, List.length_cons, List.length_nil, hx_len]; omega) ?_)
              go_roundw
              case rel => exact ⟨j + 1, _, by omega, by go_num, rfl, by have h := hcl2'.out; rw [emit_lo _ _ (hm2.out hkj2)] at h; simpa using h, r1'.out, z1, r2'.out⟩
              case measure => simp [intOf]; omega
            case' pos =>
              go_wp2_with (refine cat_arm rfl _ _ rfl _ _ rfl rfl (by simp only [List.length_append, List.length_cons, List.length_nil, hx_len]; omega) ?_)
              refine (r1Hex_two mj hmj _).mono ?_
              rintro e w2 ⟨rfl, b2⟩
              have t1 := r1'.out.below b2 (Nat.le_refl _)
              have t2 := r2'.out.trans (b2.mono z1)
              have z2 : w.heap.size ≤ w2.heap.size := Nat.le_trans z1 b2.size
              have t1' := Lib.hid t1
              have t2' := Lib.hid t2
              clear t1 t2 b2 hv1 hv2 hs1 hs2
              go_wp2_with (refine cat_arm rfl _ _ rfl _ _ rfl rfl (by simp only [List.length_append, List.length_cons, List.length_nil, hx_len]; omega) ?_)
              go_roundw
              case rel => exact ⟨j + 1, _, by omega, by go_num, rfl, by have h := hcl2'.out; rw [emit_hi _ _ (hm1.out hkj2)] at h; simpa using h, t1'.out, z2, t2'.out⟩
              case measure => simp [intOf]; omega
    · have hke : k = (mem S).length := by omega
      subst hke
      have hio := l_end S o hL'.out
      subst hio
      clear hlt hk
      go_wp2_with (refine cat_arm rfl _ _ rfl _ _ rfl rfl (by simp only [List.length_cons, List.length_nil]; omega) ?_)
      go_ret
      exact ⟨rfl, hbl'.out⟩
end Go.Proofs.YteeopjgfiojoiaaDoor
