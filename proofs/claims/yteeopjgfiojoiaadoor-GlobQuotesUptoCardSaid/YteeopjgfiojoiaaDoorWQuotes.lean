/- The walk over GlobQuotes: a quoted text reads back as itself; no more pieces than bytes. Conditions: the text and the bytes have at most 1048576 bytes, the bytes lie in memory, the errors hold their values. -/
import Derived.Test.YteeopjgfiojoiaaDoorGlobB
import Derived.WalkMore
import Derived.Lib.ConvBytes
import Derived.Handy
import Derived.Outline
namespace Go.Proofs.YteeopjgfiojoiaaDoor
open Go Go.RowKit SN

set_option maxHeartbeats 1000000 in
set_option maxRecDepth 100000 in
theorem gquotes_any {N : Nat} {E : Nat → Addr} (s : ByteArray) (p : Option Addr) (m : ByteArray) (cap : Nat) (w : World) (hs : s.size ≤ 1048576) (hM : HasB w p m) (hcap : m.size ≤ cap) (hm : m.size ≤ 1048576) (hE : Errs N E w) (hN : N ≤ w.heap.size) :
    Calls Tryd.prog 14 #[.string s, .slice p m.size cap] w fun e w' => e = .returned (.bool true) ∧ Below w.heap.size w w' := by
  have hE' := Lib.hid hE
  have hM' := Lib.hid hM
  have haw := fun (W : World) (hb : Below w.heap.size w W) => awake6_any (N := N) (E := E) W (hE'.out.below hb hN) (by have := hb.size; omega)
  have haw' := Lib.hid haw
  clear hE hM haw
  go_enter Tryd.func14, Tryd.ntmps14
  go_wp2_with fail
  refine (quote_any s hs w).mono ?_
  rintro e w1 ⟨rfl, b1⟩
  have b1' := Lib.hid b1
  have z1 := b1.size
  clear b1
  obtain ⟨q, hq⟩ : ∃ q : ByteArray, q = ⟨(qt s.data.toList).toArray⟩ := ⟨_, rfl⟩
  rw [← hq]
  have hq' := Lib.hid hq
  clear hq
  by_cases hle : q.size ≤ 256
  · have hleI : (q.size : Int) ≤ 256 := by omega
    have hcv := Lib.hid (Lib.run_convert_string_bytes (P := Tryd.prog) w1 9 36 5 q Tryd.underlying9 Tryd.underlying36 Tryd.underlying5)
    have hB : HasB (Lib.bytesWorld w1 5 q) (some ⟨w1.heap.size, 0, none⟩) q := by
      refine .inr ⟨_, 0, rfl, fun i hi => ?_, by rw [Lib.bytesWorld_size]; omega⟩
      have := Lib.bytesWorld_cell w1 5 q i hi
      rw [Nat.zero_add, this]
      simp [hi, ByteArray.getElem_eq_getElem_data]
    have hbl := bytesWorld_below w1 5 q
    have hcp : q.size ≤ grownCap w1 q.size 0 5 := grownCap_ge _ _ _ _
    generalize Lib.bytesWorld w1 5 q = W at hcv hB hbl
    generalize grownCap w1 q.size 0 5 = gc at hcv hcp
    have hcq := Lib.hid hcp
    have hB' := Lib.hid hB
    have yW := Lib.hid (b1'.out.trans (hbl.mono z1))
    have hql : q.data.toList = qt s.data.toList := by rw [hq'.out]
    have hqsz : s.data.toList.length ≤ 256 := by
      have h1 := (qt_len s.data.toList).1
      rw [← hql] at h1
      have : q.data.toList.length = q.size := by simp
      omega
    have hql' := Lib.hid hql
    clear hB hbl hql hcp
    go_wp2_with fail
    rw [hcv.out]
    go_wp2_with fail
    refine (parse_any (N := N) (E := E) _ q gc W hB'.out hle hcq.out (hE'.out.below yW.out hN) (by have := yW.out.size; omega)).mono ?_
    rintro e w2 ⟨B2, rfl, hI2, b2⟩
    rw [hql'.out, pt_qt] at hI2
    have hI2' := Lib.hid hI2
    have y2 := Lib.hid (yW.out.trans (b2.mono yW.out.size))
    clear b2 hI2
    go_wp2_with fail
    refine (plain_any B2 _ s.data.toList w2 hI2'.out (by omega)).mono ?_
    rintro e w3 ⟨rfl, b3⟩
    have y3 := Lib.hid (y2.out.trans (b3.mono y2.out.size))
    clear b3
    rw [show (⟨s.data.toList.toArray⟩ : ByteArray) = s by simp]
    go_wp2_with fail
    by_cases hmm : m.size ≤ 256
    · have hmI : ¬ (256 : Int) < (m.size : Int) := by omega
      refine (parse_any (N := N) (E := E) p m cap w3 (hM'.out.below y3.out (Nat.le_refl _)) hmm hcap (hE'.out.below y3.out hN) (by have := y3.out.size; omega)).mono ?_
      rintro e w5 ⟨B5, rfl, hI5, b5⟩
      have z5 := y3.out.size
      have y5 := Lib.hid (y3.out.trans (b5.mono z5))
      have hI5' := Lib.hid hI5
      have hpl := pt_len m.data.toList
      have hml : m.data.toList.length = m.size := by simp
      rw [hml] at hpl
      have hpI : ((pt m.data.toList).length : Int) ≤ (m.size : Int) := by omega
      clear b5 hI5 hml
      go_wp2_with fail
      refine (pieces_any B5 _ _ w5 hI5'.out (by omega)).mono ?_
      rintro e w6 ⟨v6, rfl, own6, b6⟩
      obtain ⟨a6, c6, rfl⟩ := own_slice own6
      have y6 := Lib.hid (y5.out.trans (b6.mono y5.out.size))
      clear own6 b6
      go_wp2_with fail
      refine (haw'.out w6 y6.out).mono ?_
      rintro e w7 ⟨rfl, b7⟩
      have y7 := Lib.hid (y6.out.trans (b7.mono y6.out.size))
      clear b7
      go_wp2_with fail
      go_ret
      refine ⟨?_, y7.out⟩
      show Ending.returned (.bool (!decide ((256 : Int) < (m.size : Int)))) = _
      rw [decide_eq_false (by omega)]
      rfl
    · have hmI : (256 : Int) < (m.size : Int) := by omega
      refine (parse_long (N := N) (E := E) p m.size cap w3 (by omega) (hE'.out.below y3.out hN)).mono ?_
      rintro e w5 ⟨v5, rfl, ⟨S5, P5, rfl, -, -⟩, b5⟩
      have z5 := y3.out.size
      have y5 := Lib.hid (y3.out.trans (b5.mono z5))
      clear b5
      go_wp2_with fail
      refine (pieces_nil w5).mono ?_
      rintro e w6 ⟨rfl, rfl⟩
      go_wp2_with fail
      refine (haw'.out _ y5.out).mono ?_
      rintro e w7 ⟨rfl, b7⟩
      have y7 := Lib.hid (y5.out.trans (b7.mono y5.out.size))
      clear b7
      go_wp2_with fail
      go_ret
      exact ⟨rfl, y7.out⟩
  · have hleI : ¬ (q.size : Int) ≤ 256 := by omega
    go_wp2_with fail
    by_cases hmm : m.size ≤ 256
    · have hmI : ¬ (256 : Int) < (m.size : Int) := by omega
      refine (parse_any (N := N) (E := E) p m cap w1 (hM'.out.below b1'.out (Nat.le_refl _)) hmm hcap (hE'.out.below b1'.out hN) (by have := b1'.out.size; omega)).mono ?_
      rintro e w5 ⟨B5, rfl, hI5, b5⟩
      have z5 := b1'.out.size
      have y5 := Lib.hid (b1'.out.trans (b5.mono z5))
      have hI5' := Lib.hid hI5
      have hpl := pt_len m.data.toList
      have hml : m.data.toList.length = m.size := by simp
      rw [hml] at hpl
      have hpI : ((pt m.data.toList).length : Int) ≤ (m.size : Int) := by omega
      clear b5 hI5 hml
      go_wp2_with fail
      refine (pieces_any B5 _ _ w5 hI5'.out (by omega)).mono ?_
      rintro e w6 ⟨v6, rfl, own6, b6⟩
      obtain ⟨a6, c6, rfl⟩ := own_slice own6
      have y6 := Lib.hid (y5.out.trans (b6.mono y5.out.size))
      clear own6 b6
      go_wp2_with fail
      refine (haw'.out w6 y6.out).mono ?_
      rintro e w7 ⟨rfl, b7⟩
      have y7 := Lib.hid (y6.out.trans (b7.mono y6.out.size))
      clear b7
      go_wp2_with fail
      go_ret
      refine ⟨?_, y7.out⟩
      show Ending.returned (.bool (!decide ((256 : Int) < (m.size : Int)))) = _
      rw [decide_eq_false (by omega)]
      rfl
    · have hmI : (256 : Int) < (m.size : Int) := by omega
      refine (parse_long (N := N) (E := E) p m.size cap w1 (by omega) (hE'.out.below b1'.out hN)).mono ?_
      rintro e w5 ⟨v5, rfl, ⟨S5, P5, rfl, -, -⟩, b5⟩
      have z5 := b1'.out.size
      have y5 := Lib.hid (b1'.out.trans (b5.mono z5))
      clear b5
      go_wp2_with fail
      refine (pieces_nil w5).mono ?_
      rintro e w6 ⟨rfl, rfl⟩
      go_wp2_with fail
      refine (haw'.out _ y5.out).mono ?_
      rintro e w7 ⟨rfl, b7⟩
      have y7 := Lib.hid (y5.out.trans (b7.mono y5.out.size))
      clear b7
      go_wp2_with fail
      go_ret
      exact ⟨rfl, y7.out⟩
end Go.Proofs.YteeopjgfiojoiaaDoor
