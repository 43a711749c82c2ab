/- pidginref5.PatternText, equal to the plain law of a pattern's text. Conditions: the pieces lie in memory, at most 512 of them. -/
import Derived.Test.YteeopjgfiojoiaaDoorGlobA
import Derived.Lib.Join
import Derived.WalkMore
import Derived.Handy
import Derived.Outline
namespace Go.Proofs.YteeopjgfiojoiaaDoor
open Go Go.RowKit SN

theorem ptxt_snoc (l : List Pie) (p : Pie) : ptxt (l ++ [p]) = if l = [] then pieT p else ptxt l ++ 32 :: pieT p := by
  cases l with
  | nil => exact Lib.join_one _ _
  | cons q l =>
    have e : ptxts (q :: l ++ [p]) = pieT q :: (ptxts l ++ [pieT p]) := by simp [ptxts]
    have e2 : ptxts (q :: l) = pieT q :: ptxts l := rfl
    unfold ptxt
    rw [e, e2, Lib.join_cons, Lib.join_cons, if_neg (by simp)]
    simp [Lib.joinTail]
set_option maxHeartbeats 1000000 in
set_option maxRecDepth 100000 in
theorem r5ptext_any (base : Nat) (v : Value) (l : List Pie) (w : World) (hown : w.ownsRow base 58 5 v l.length (pvs l)) (hl : l.length ≤ 512) (hok : ∀ p ∈ l, Ok p.set ∧ (p.kind = 1 ∨ p.kind = 2 ∨ p.kind = 3)) :
    Calls Tryd.prog 48 #[v] w fun e w' => e = .returned (.string ⟨(ptxt l).toArray⟩) ∧ Below w.heap.size w w' := by
  have hok' := Lib.hid hok
  have hown' := Lib.hid hown
  have hpv := Lib.hid (pvs_at l)
  obtain ⟨a, c, rfl⟩ := own_slice hown
  clear hown hok
  go_enter Tryd.func48, Tryd.ntmps48
  go_wp2_with fail
  go_loopw [8, 3] (fun i v wr => ∃ (k : Nat) (X : List UInt8), k ≤ l.length ∧ i = .int .i64 k ∧ v = .string ⟨X.toArray⟩ ∧ X = ptxt (l.take k) ∧ Below w.heap.size w wr) (fun i _ _ => l.length - (intOf i).toNat)
  case atStart => exact ⟨0, [], Nat.zero_le _, rfl, rfl, rfl, Below.refl _ _⟩
  case round =>
    obtain ⟨k, X, hk, rfl, rfl, hX, hb⟩ := hrel
    have hXl : X.length ≤ 512 * 1601 := by
      have h1 := ptxt_len (l.take k)
      have h2 : (l.take k).length ≤ 512 := by simp; omega
      rw [hX]; omega
    have hX' := Lib.hid hX
    have hb' := Lib.hid hb
    have hzb := hb.size
    clear hX hb
    by_cases hlt : k < l.length
    · have r1 := own_below hown'.out hb'.out (Nat.le_refl _)
      obtain ⟨-, ⟨e, hn⟩ | ⟨g, cap, cur, e, -⟩⟩ := id r1
      · omega
      injection e with ea _ ec
      subst ea ec
      have q1 : ∀ j, j < 5 → wr.cell? ⟨g, k * 5 + j, none⟩ = (pcl (l[k]'hlt)).toList[j]? := fun j hj => (r1.cellAt _ (by omega)).trans (hpv.out k j hlt hj)
      have htk : l.take (k + 1) = l.take k ++ [l[k]'hlt] := by rw [List.take_succ_eq_append_getElem hlt]
      have hgk := hok'.out _ (List.getElem_mem hlt)
      obtain ⟨x, hxe⟩ : ∃ x, x = l[k]'hlt := ⟨_, rfl⟩
      rw [← hxe] at q1 htk hgk
      clear hxe r1
      obtain ⟨kd, S⟩ := x
      have htx : ptxt (l.take (k + 1)) = if l.take k = [] then pieT ⟨kd, S⟩ else X ++ 32 :: pieT ⟨kd, S⟩ := by rw [htk, ptxt_snoc, hX'.out]
      have hX0 : k = 0 → X = [] := fun h => by rw [hX'.out, h]; rfl
      have hkd : kd = 1 ∨ kd = 2 ∨ kd = 3 := hgk.2
      have a0 : wr.cell? ⟨g, k * 5, none⟩ = some (.int .i64 kd) := q1 0 (by decide)
      have a1 : wr.cell? ⟨g, k * 5 + 1, none⟩ = some (.int .u64 (word S 0)) := q1 1 (by decide)
      have a2 : wr.cell? ⟨g, k * 5 + 2, none⟩ = some (.int .u64 (word S 1)) := q1 2 (by decide)
      have a3 : wr.cell? ⟨g, k * 5 + 3, none⟩ = some (.int .u64 (word S 2)) := q1 3 (by decide)
      have a4 : wr.cell? ⟨g, k * 5 + 4, none⟩ = some (.int .u64 (word S 3)) := q1 4 (by decide)
      have y1 := Lib.hid (hb'.out.alloc hzb (.cells #[.int .i64 kd, .int .u64 (word S 0), .int .u64 (word S 1), .int .u64 (word S 2), .int .u64 (word S 3)] 58))
      clear q1 htk hgk
      by_cases hk0 : k = 0
      · subst hk0
        rw [if_pos (by simp)] at htx
        have htx' := Lib.hid htx
        have hX0' := Lib.hid (hX0 rfl)
        clear htx hX0
        rcases hkd with rfl | rfl | rfl
        · go_wp2_with fail
          refine (r5Text_any S _).mono ?_
          rintro e w2 ⟨rfl, b2⟩
          have htl := txt_le S
          have y2 := Lib.hid (y1.out.trans (b2.mono (by rw [World.size_alloc]; omega)))
          clear b2 a0 a1 a2 a3 a4
          go_wp2_with (refine cat_arm rfl _ _ rfl _ _ rfl rfl (by first | omega | (simp; omega)) ?_)
          go_wp2_with fail
          go_round
          case rel => exact ⟨1, _, by omega, rfl, rfl, by rw [htx'.out, hX0'.out]; rfl, y2.out⟩
          case measure => simp [intOf]; omega
        · go_wp2_with (refine cat_arm rfl _ _ rfl _ _ rfl rfl (by first | omega | (simp; omega)) ?_)
          go_wp2_with fail
          go_round
          case rel => exact ⟨1, _, by omega, rfl, rfl, by rw [htx'.out, hX0'.out]; rfl, y1.out⟩
          case measure => simp [intOf]; omega
        · go_wp2_with (refine cat_arm rfl _ _ rfl _ _ rfl rfl (by first | omega | (simp; omega)) ?_)
          go_wp2_with fail
          go_round
          case rel => exact ⟨1, _, by omega, rfl, rfl, by rw [htx'.out, hX0'.out]; rfl, y1.out⟩
          case measure => simp [intOf]; omega
      · have hkp : (0 : Int) < (k : Int) := by omega
        rw [if_neg (fun h => by
          have h2 : (l.take k).length = 0 := by rw [h]; rfl
          rw [List.length_take] at h2
          omega)] at htx
        have htx' := Lib.hid htx
        clear htx hX0
        rcases hkd with rfl | rfl | rfl
        · go_wp2_with (refine cat_arm rfl _ _ rfl _ _ rfl rfl (by first | omega | (simp; omega)) ?_)
          go_wp2_with fail
          refine (r5Text_any S _).mono ?_
          rintro e w2 ⟨rfl, b2⟩
          have htl := txt_le S
          have y2 := Lib.hid (y1.out.trans (b2.mono (by rw [World.size_alloc]; omega)))
          clear b2 a0 a1 a2 a3 a4
          go_wp2_with (refine cat_arm rfl _ _ rfl _ _ rfl rfl (by first | omega | (simp; omega)) ?_)
          go_wp2_with fail
          go_round
          case rel => exact ⟨k + 1, _, by omega, by go_num, rfl, by rw [htx'.out]; show _ = X ++ 32 :: (txt S); simp, y2.out⟩
          case measure => simp [intOf]; omega
        · go_wp2_with (refine cat_arm rfl _ _ rfl _ _ rfl rfl (by first | omega | (simp; omega)) ?_)
          go_wp2_with (refine cat_arm rfl _ _ rfl _ _ rfl rfl (by first | omega | (simp; omega)) ?_)
          go_wp2_with fail
          go_round
          case rel => exact ⟨k + 1, _, by omega, by go_num, rfl, by rw [htx'.out]; show _ = X ++ 32 :: ([63]); simp, y1.out⟩
          case measure => simp [intOf]; omega
        · go_wp2_with (refine cat_arm rfl _ _ rfl _ _ rfl rfl (by first | omega | (simp; omega)) ?_)
          go_wp2_with (refine cat_arm rfl _ _ rfl _ _ rfl rfl (by first | omega | (simp; omega)) ?_)
          go_wp2_with fail
          go_round
          case rel => exact ⟨k + 1, _, by omega, by go_num, rfl, by rw [htx'.out]; show _ = X ++ 32 :: ([42]); simp, y1.out⟩
          case measure => simp [intOf]; omega
    · have hke : k = l.length := by omega
      subst hke
      have hXe : X = ptxt l := by rw [hX'.out, List.take_length]
      clear hX'
      subst hXe
      go_wp2_with fail
      go_ret
      exact ⟨rfl, hb'.out⟩
end Go.Proofs.YteeopjgfiojoiaaDoor
