/- pidginref5.Quote, equal to the plain law of quoting. Conditions: at most 1048576 bytes. -/
import Derived.Test.YteeopjgfiojoiaaDoorWBackG
import Derived.Test.YteeopjgfiojoiaaDoorRIn
import Derived.Lib.ConvBytes
import Derived.WalkMore
import Derived.Handy
import Derived.Outline
namespace Go.Proofs.YteeopjgfiojoiaaDoor
open Go Go.RowKit SN

theorem in_q (x : UInt8) : ((⟨#[42, 63, 91, 92]⟩ : ByteArray).data.toList.any fun y => y.toNat == x.toNat) = decide (x = 42 ∨ x = 63 ∨ x = 91 ∨ x = 92) := by
  have h : ∀ n : Fin 256, ((⟨#[42, 63, 91, 92]⟩ : ByteArray).data.toList.any fun y => y.toNat == n.val) = decide (n.val.toUInt8 = 42 ∨ n.val.toUInt8 = 63 ∨ n.val.toUInt8 = 91 ∨ n.val.toUInt8 = 92) := by decide +kernel
  have := h ⟨x.toNat, x.toNat_lt⟩
  simpa using this
set_option maxHeartbeats 1000000 in
set_option maxRecDepth 100000 in
theorem r5quote_any (s : ByteArray) (hs : s.size ≤ 1048576) (w : World) :
    Calls Tryd.prog 49 #[.string s] w fun e w' => e = .returned (.string ⟨(qt s.data.toList).toArray⟩) ∧ Below w.heap.size w w' := by
  obtain ⟨l, hl⟩ : ∃ l, l = s.data.toList := ⟨_, rfl⟩
  have hlen : l.length = s.size := by rw [hl]; simp
  have hget : ∀ k, (hk : k < s.size) → l[k]? = some s[k] := fun k hk => by rw [hl, Array.getElem?_toList]; exact Array.getElem?_eq_getElem hk
  rw [← hl]
  have hlen' := Lib.hid hlen
  have hget' := Lib.hid hget
  have hcv := Lib.hid (Lib.run_convert_string_bytes (P := Tryd.prog) w 9 36 5 s Tryd.underlying9 Tryd.underlying36 Tryd.underlying5)
  have hB : HasB (Lib.bytesWorld w 5 s) (some ⟨w.heap.size, 0, none⟩) s := by
    refine .inr ⟨_, 0, rfl, fun i hi => ?_, by rw [Lib.bytesWorld_size]; omega⟩
    have := Lib.bytesWorld_cell w 5 s i hi
    rw [Nat.zero_add, this]
    simp [hi, ByteArray.getElem_eq_getElem_data]
  have hbl := bytesWorld_below w 5 s
  generalize Lib.bytesWorld w 5 s = W at hcv hB hbl
  generalize grownCap w s.size 0 5 = gc at hcv
  have hcell := fun (k : Nat) (hk : k < s.size) (W' : World) (hb : Below W.heap.size W W') => hasB_at (hB.below hb (Nat.le_refl _)) (i := k) hk
  have hcell' := Lib.hid hcell
  have hbl' := Lib.hid hbl
  have hWz := hbl.size
  clear hl hlen hget hB hcell hbl
  go_enter Tryd.func49, Tryd.ntmps49
  go_wp2_with fail
  rw [hcv.out]
  go_wp2_with fail
  go_loopw [9, 3] (fun i v wr => ∃ (k : Nat), k ≤ s.size ∧ i = .int .i64 k ∧ OwnsB wr W.heap.size v (nn (qt (l.take k))) ∧ Below W.heap.size W wr) (fun i _ _ => s.size - (intOf i).toNat)
  case atStart => exact ⟨0, Nat.zero_le _, rfl, OwnsB.nil _ _, Below.refl _ _⟩
  case round =>
    obtain ⟨k, hk, rfl, hr, hb⟩ := hrel
    have hr' := Lib.hid hr
    have hb' := Lib.hid hb
    have hzb := hb.size
    clear hr hb
    by_cases hlt : k < s.size
    · obtain ⟨b, o, eq, hc, -⟩ := hcell'.out k hlt wr hb'.out
      cases eq
      rw [Nat.zero_add] at hc
      have hx := (s[k]).toNat_lt
      have hgk := hget'.out k hlt
      have hq2 := (qt_len (l.take k)).2
      have hq3 : (l.take k).length ≤ k := by simp; omega
      have htk : l.take (k + 1) = l.take k ++ [s[k]] := by rw [List.take_add_one, hgk]; rfl
      obtain ⟨x, hxe⟩ : ∃ x, x = s[k] := ⟨_, rfl⟩
      rw [← hxe] at htk hx hc
      have htk' := Lib.hid htk
      clear hgk htk hxe
      have hql : (nn (qt (l.take k))).length ≤ 2 * s.size := by rw [nn_len]; omega
      have hlow' := Lib.hid hr'.out.lt
      have hin := r2In_any x.toNat ⟨#[42, 63, 91, 92]⟩ (by decide) wr
      rw [in_q] at hin
      by_cases hsp : x = 42 ∨ x = 63 ∨ x = 91 ∨ x = 92
      · have hq1 := Lib.hid (qt1_two x hsp)
        rw [decide_eq_true hsp] at hin
        have hin' := Lib.hid hin
        clear hin hsp
        go_wp2_with fail
        refine hin'.out.mono ?_
        rintro e w0 ⟨rfl, rfl⟩
        go_wp2_with (at_builtin; refine append_at rfl _ _ rfl W.heap.size _ _ rfl (hr'.out.alloc _) ⟨_, 0, none⟩ 1 1 [92] rfl rfl (by decide) (one_newN _ _ _ (by simp)) (by omega) (by simp; omega) ?_)
        intro v1 w1 own1 hg1 _
        have hz1b := hg1.size
        rw [World.size_alloc] at hz1b
        have hb1 := Lib.hid ((hb'.out.alloc hzb (.cells #[.int .u8 92] 5)).grown hg1 (by simp; omega) (fun j hj => (hlow'.out j hj).1))
        have own1' := Lib.hid own1
        have hlow1 := Lib.hid own1.lt
        clear own1 hg1 hc
        go_wp2_with (at_builtin; refine append_at rfl _ _ rfl W.heap.size _ _ rfl (own1'.out.alloc _) ⟨_, 0, none⟩ 1 1 [x.toNat] rfl rfl (by decide) (one_newN _ _ _ (by simp)) (by rw [List.length_append]; simp only [List.length_cons, List.length_nil]; omega) (by simp; omega) ?_)
        intro v2 w2 own2 hg2 _
        have hb2 := Lib.hid ((hb1.out.alloc (by omega) (.cells #[.int .u8 x.toNat] 5)).grown hg2 (by simp; omega) (fun j hj => (hlow1.out j hj).1))
        have own3 := Lib.hid (show OwnsB w2 W.heap.size v2 (nn (qt (l.take (k + 1)))) by
          rw [htk'.out, qt_snoc, nn_append, hq1.out]
          have e : nn (qt (l.take k)) ++ nn [92, x] = nn (qt (l.take k)) ++ [92] ++ [x.toNat] := by simp [nn]
          rw [e]
          simpa using own2)
        clear own2 hg2
        go_wp2_with fail
        go_round
        case rel => exact ⟨k + 1, by omega, by go_num, own3.out, hb2.out⟩
        case measure => simp [intOf]; omega
      · have hq1 := Lib.hid (qt1_one x hsp)
        rw [decide_eq_false hsp] at hin
        have hin' := Lib.hid hin
        clear hin hsp
        go_wp2_with fail
        refine hin'.out.mono ?_
        rintro e w0 ⟨rfl, rfl⟩
        go_wp2_with (at_builtin; refine append_at rfl _ _ rfl W.heap.size _ _ rfl (hr'.out.alloc _) ⟨_, 0, none⟩ 1 1 [x.toNat] rfl rfl (by decide) (one_newN _ _ _ (by simp)) (by omega) (by simp; omega) ?_)
        intro v2 w2 own2 hg2 _
        have hb2 := Lib.hid ((hb'.out.alloc hzb (.cells #[.int .u8 x.toNat] 5)).grown hg2 (by simp; omega) (fun j hj => (hlow'.out j hj).1))
        have own3 := Lib.hid (show OwnsB w2 W.heap.size v2 (nn (qt (l.take (k + 1)))) by
          rw [htk'.out, qt_snoc, nn_append, hq1.out]
          exact own2)
        clear own2 hg2 hc
        go_wp2_with fail
        go_round
        case rel => exact ⟨k + 1, by omega, by go_num, own3.out, hb2.out⟩
        case measure => simp [intOf]; omega
    · have hke : k = s.size := by omega
      subst hke
      have hr2 := hr'.out
      rw [List.take_of_length_le (Nat.le_of_eq hlen'.out)] at hr2
      have hcv2 := Lib.hid (conv_own hr2)
      clear hr2
      go_wp2_with fail
      rw [hcv2.out]
      go_wp2_with fail
      go_ret
      exact ⟨rfl, hbl'.out.trans (hb'.out.mono hWz)⟩
end Go.Proofs.YteeopjgfiojoiaaDoor
