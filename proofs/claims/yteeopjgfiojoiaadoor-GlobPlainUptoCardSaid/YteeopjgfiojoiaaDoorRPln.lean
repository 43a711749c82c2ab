/- pidginref5.Plain and Pattern.Plain at every pattern: the bytes, if it is just bytes. Conditions: the pieces lie in memory, at most 512 of them. -/
import Derived.Test.YteeopjgfiojoiaaDoorWBackG
import Derived.Test.YteeopjgfiojoiaaDoorSetR
import Derived.WalkMore
import Derived.Handy
import Derived.Outline
namespace Go.Proofs.YteeopjgfiojoiaaDoor
open Go Go.RowKit SN

/-- Is the piece just one byte? -/
def one1 (p : Pie) : Bool := p.kind == 1 && (mem p.set).length == 1
def plB (l : List Pie) : Bool := l.all one1
def plL (l : List Pie) : List UInt8 := l.flatMap fun p => bts p.set
def plV (l : List Pie) : Value := if plB l then .tuple #[.string ⟨(plL l).toArray⟩, .bool true] else .tuple #[.string ⟨#[]⟩, .bool false]
theorem plL_snoc (l : List Pie) (p : Pie) : plL (l ++ [p]) = plL l ++ bts p.set := by simp [plL]
theorem plB_snoc (l : List Pie) (p : Pie) : plB (l ++ [p]) = (plB l && one1 p) := by simp [plB]
theorem plV_no {l : List Pie} {k : Nat} (h : k < l.length) (hn : one1 (l[k]) = false) : plV l = .tuple #[.string ⟨#[]⟩, .bool false] := by
  unfold plV plB
  rw [if_neg]
  intro ha
  have := List.all_eq_true.1 ha _ (List.getElem_mem h)
  rw [hn] at this
  cases this
theorem plL_len : ∀ (l : List Pie), plB l = true → (plL l).length = l.length
  | [], _ => rfl
  | p :: l, h => by
    have e : plL (p :: l) = bts p.set ++ plL l := by simp [plL]
    have h2 : one1 p = true ∧ plB l = true := by simpa [plB] using h
    have h3 := plL_len l h2.2
    have h4 : (mem p.set).length = 1 := by
      have := h2.1
      unfold one1 at this
      simp at this
      exact this.2
    rw [e, List.length_append, bts_len, h4, h3, List.length_cons]; omega
set_option maxHeartbeats 1000000 in
set_option maxRecDepth 100000 in
theorem r5plain_any (base : Nat) (v : Value) (l : List Pie) (w : World) (hown : w.ownsRow base 58 5 v l.length (pvs l)) (hl : l.length ≤ 512) :
    Calls Tryd.prog 50 #[v] w fun e w' => e = .returned (plV l) ∧ Below w.heap.size w w' := by
  have hown' := Lib.hid hown
  have hpv := Lib.hid (pvs_at l)
  have hno := Lib.hid (show ∀ (k : Nat) (h : k < l.length), one1 (l[k]) = false → plV l = .tuple #[.string ⟨#[]⟩, .bool false] from fun k h => plV_no h)
  obtain ⟨a, c, rfl⟩ := own_slice hown
  clear hown
  obtain ⟨PV, hPV⟩ : ∃ PV, PV = plV l := ⟨_, rfl⟩
  rw [← hPV]
  have hPV' := Lib.hid hPV
  clear hPV
  go_enter Tryd.func50, Tryd.ntmps50
  go_wp2_with fail
  go_loopw [10, 4] (fun i v wr => ∃ (k : Nat), k ≤ l.length ∧ i = .int .i64 k ∧ OwnsB wr w.heap.size v (nn (plL (l.take k))) ∧ plB (l.take k) = true ∧ Below w.heap.size w wr) (fun i _ _ => l.length - (intOf i).toNat)
  case atStart => exact ⟨0, Nat.zero_le _, rfl, OwnsB.nil _ _, rfl, Below.refl _ _⟩
  case round =>
    obtain ⟨k, hk, rfl, hr, hpb, hb⟩ := hrel
    have hr' := Lib.hid hr
    have hb' := Lib.hid hb
    have hzb := hb.size
    have hpl := plL_len _ hpb
    have hpb' := Lib.hid hpb
    rw [List.length_take] at hpl
    clear hr hb hpb
    by_cases hlt : k < l.length
    · have r1 := own_below hown'.out hb'.out (Nat.le_refl _)
      obtain ⟨-, ⟨e, hn⟩ | ⟨g, cap, cur, e, -⟩⟩ := id r1
      · omega
      injection e with ea _ ec
      subst ea ec
      have q1 : ∀ j, j < 5 → wr.cell? ⟨g, k * 5 + j, none⟩ = (pcl (l[k]'hlt)).toList[j]? := fun j hj => (r1.cellAt _ (by omega)).trans (hpv.out k j hlt hj)
      have htk : l.take (k + 1) = l.take k ++ [l[k]'hlt] := by rw [List.take_succ_eq_append_getElem hlt]
      have hbad := hno.out k hlt
      obtain ⟨x, hxe⟩ : ∃ x, x = l[k]'hlt := ⟨_, rfl⟩
      rw [← hxe] at q1 htk hbad
      clear hxe r1
      obtain ⟨kd, S⟩ := x
      have hpbk := Lib.hid (show plB (l.take (k + 1)) = (plB (l.take k) && one1 ⟨kd, S⟩) by rw [htk, plB_snoc])
      have hplk := Lib.hid (show plL (l.take (k + 1)) = plL (l.take k) ++ bts S by rw [htk, plL_snoc])
      have hbad' := Lib.hid hbad
      have a0 : wr.cell? ⟨g, k * 5, none⟩ = some (.int .i64 kd) := q1 0 (by decide)
      have a1 : wr.cell? ⟨g, k * 5 + 1, none⟩ = some (.int .u64 (word S 0)) := q1 1 (by decide)
      have a2 : wr.cell? ⟨g, k * 5 + 2, none⟩ = some (.int .u64 (word S 1)) := q1 2 (by decide)
      have a3 : wr.cell? ⟨g, k * 5 + 3, none⟩ = some (.int .u64 (word S 2)) := q1 3 (by decide)
      have a4 : wr.cell? ⟨g, k * 5 + 4, none⟩ = some (.int .u64 (word S 3)) := q1 4 (by decide)
      have hnl : (nn (plL (l.take k))).length ≤ 512 := by rw [nn_len]; omega
      clear q1 htk hbad
      go_wp2_with fail
      refine (r5Bytes_any S _).mono ?_
      rintro e w3 ⟨v3, rfl, ow3, b3⟩
      have zA := b3.size
      rw [World.size_alloc] at zA
      have hrow := row_below (heap_alloc_new wr (.cells #[.int .i64 kd, .int .u64 (word S 0), .int .u64 (word S 1), .int .u64 (word S 2), .int .u64 (word S 3)] 58)) b3 (by simp)
      have d0 : w3.cell? ⟨wr.heap.size, 0, none⟩ = some (.int .i64 kd) := row_cell hrow rfl
      have y3 := Lib.hid ((hb'.out.alloc hzb (.cells #[.int .i64 kd, .int .u64 (word S 0), .int .u64 (word S 1), .int .u64 (word S 2), .int .u64 (word S 3)] 58)).trans (b3.mono (by rw [World.size_alloc]; omega)))
      have o3 := Lib.hid (own_below (World.ownsRow.alloc hr'.out (.cells #[.int .i64 kd, .int .u64 (word S 0), .int .u64 (word S 1), .int .u64 (word S 2), .int .u64 (word S 3)] 58)) b3 (Nat.le_refl _))
      have hlow := Lib.hid hr'.out.lt
      have hml : ∀ j, (h : j < (mem S).length) → (mem S)[j] < 256 := fun j h => mem_lt_at h
      have hma : ∀ j, (h : j < (mem S).length) → (bts S).take (j + 1) = (bts S).take j ++ [((mem S)[j]).toUInt8] := fun j h => bts_at S j h
      have hbl : (bts S).length = (mem S).length := bts_len S
      have hone : one1 ⟨kd, S⟩ = (kd == 1 && (mem S).length == 1) := rfl
      have hmle := mem_len S
      generalize mem S = ms at ow3 hml hma hbl hmle hone
      obtain ⟨a3', c3, rfl⟩ := own_slice ow3
      have hone' := Lib.hid hone
      clear a0 a1 a2 a3 a4 hrow b3 hone
      by_cases hkd : kd = 1
      · subst hkd
        by_cases h1 : ms.length = 1
        · obtain ⟨c, rfl⟩ := List.length_eq_one_iff.1 h1
          have hc : c < 256 := hml 0 (by simp)
          have hbb : bts S = [c.toUInt8] := by
            have h2 : (bts S).take 1 = bts S := List.take_of_length_le (by rw [hbl]; simp)
            rw [← h2, hma 0 (by simp)]
            rfl
          have hb3 := Lib.hid (show nn (bts S) = [c] by rw [hbb]; exact nn_byte c hc)
          obtain ⟨-, ⟨e, hn⟩ | ⟨g3, cap3, cur3, e, -⟩⟩ := id ow3
          · exact absurd hn (by simp)
          injection e with ea _ ec
          subst ea ec
          have f0 : w3.cell? ⟨g3, 0, none⟩ = some (.int .u8 c) := ow3.cellAt 0 (by simp)
          clear ow3 hml hma hbl hmle h1 hbb
          go_wp2_with (at_builtin; refine append_at rfl _ _ rfl w.heap.size _ _ rfl (o3.out.alloc _) ⟨_, 0, none⟩ 1 1 [c] rfl rfl (by decide) (one_newN _ _ _ (by simp)) (by omega) (by simp; omega) ?_)
          intro v4 w4 own4 hg4 wh4
          have y4 := Lib.hid ((y3.out.alloc (by omega) (.cells #[.int .u8 c] 5)).grown hg4 (by simp; omega) (fun j hj => (hlow.out j hj).1))
          have o4 := Lib.hid (show OwnsB w4 w.heap.size v4 (nn (plL (l.take (k + 1)))) by rw [hplk.out, nn_append, hb3.out]; exact own4)
          clear own4 hg4 wh4 f0
          go_wp2_with fail
          go_round
          case rel => exact ⟨k + 1, by omega, by go_num, o4.out, by rw [hpbk.out, hpb'.out, hone'.out]; rfl, y4.out⟩
          case measure => simp [intOf]; omega
        · have h1I : ((ms.length : Int) != 1) = true := by simp; omega
          have hno2 := Lib.hid (show PV = .tuple #[.string ⟨#[]⟩, .bool false] by rw [hPV'.out]; exact hbad'.out (by rw [hone'.out]; simp [h1]))
          clear ow3 hml hma hbl
          go_wp2_with fail
          go_ret2
          exact ⟨by rw [hno2.out]; rfl, y3.out⟩
      · have hkI : ((kd : Int) != 1) = true := by simp; omega
        have hno2 := Lib.hid (show PV = .tuple #[.string ⟨#[]⟩, .bool false] by rw [hPV'.out]; exact hbad'.out (by rw [hone'.out]; simp [hkd]))
        clear ow3 hml hma hbl
        go_wp2_with fail
        go_ret2
        exact ⟨by rw [hno2.out]; rfl, y3.out⟩
    · have hke : k = l.length := by omega
      subst hke
      have hr2 := hr'.out
      rw [List.take_length] at hr2
      have hcv2 := Lib.hid (conv_own hr2)
      have hp2 := hpb'.out
      rw [List.take_length] at hp2
      have hyes := Lib.hid (show PV = .tuple #[.string ⟨(plL l).toArray⟩, .bool true] by rw [hPV'.out]; unfold plV; rw [if_pos hp2])
      clear hr2 hp2
      go_wp2_with fail
      rw [hcv2.out]
      go_wp2_with fail
      go_ret2
      exact ⟨by rw [hyes.out]; rfl, hb'.out⟩
set_option maxHeartbeats 1000000 in
set_option maxRecDepth 100000 in
theorem gplain_any (B base : Nat) (l : List Pie) (w : World) (h : IsPt w base B l) (hl : l.length ≤ 512) :
    Calls Tryd.prog 45 #[.pointer (some ⟨B, 0, none⟩)] w fun e w' => e = .returned (plV l) ∧ Below w.heap.size w w' := by
  obtain ⟨i0, hi0, hz0, hz1, hz2⟩ := info_parts info_u8
  obtain ⟨hb, v, hv, hown, hne⟩ := h
  have hcv : w.cell? ⟨B, 0, none⟩ = some v := row_cell hv rfl
  clear hne hb hv
  have hown' := Lib.hid hown
  have hpv := Lib.hid (pvs_at l)
  have hno := Lib.hid (show ∀ (k : Nat) (h : k < l.length), one1 (l[k]) = false → plV l = .tuple #[.string ⟨#[]⟩, .bool false] from fun k h => plV_no h)
  obtain ⟨a, c, rfl⟩ := own_slice hown
  clear hown
  obtain ⟨PV, hPV⟩ : ∃ PV, PV = plV l := ⟨_, rfl⟩
  rw [← hPV]
  have hPV' := Lib.hid hPV
  clear hPV
  go_enter Tryd.func45, Tryd.ntmps45
  go_wp2_with fail
  go_loopw [14, 4] (fun i v wr => ∃ (k : Nat), k ≤ l.length ∧ i = .int .i64 k ∧ OwnsB wr w.heap.size v (nn (plL (l.take k))) ∧ plB (l.take k) = true ∧ Below w.heap.size w wr) (fun i _ _ => l.length - (intOf i).toNat)
  case atStart => exact ⟨0, Nat.zero_le _, rfl, OwnsB.nil _ _, rfl, Below.refl _ _⟩
  case round =>
    obtain ⟨k, hk, rfl, hr, hpb, hb⟩ := hrel
    have hr' := Lib.hid hr
    have hb' := Lib.hid hb
    have hzb := hb.size
    have hpl := plL_len _ hpb
    have hpb' := Lib.hid hpb
    rw [List.length_take] at hpl
    clear hr hb hpb
    by_cases hlt : k < l.length
    · have r1 := own_below hown'.out hb'.out (Nat.le_refl _)
      obtain ⟨-, ⟨e, hn⟩ | ⟨g, cap, cur, e, -⟩⟩ := id r1
      · omega
      injection e with ea _ ec
      subst ea ec
      have q1 : ∀ j, j < 5 → wr.cell? ⟨g, k * 5 + j, none⟩ = (pcl (l[k]'hlt)).toList[j]? := fun j hj => (r1.cellAt _ (by omega)).trans (hpv.out k j hlt hj)
      have htk : l.take (k + 1) = l.take k ++ [l[k]'hlt] := by rw [List.take_succ_eq_append_getElem hlt]
      have hbad := hno.out k hlt
      obtain ⟨x, hxe⟩ : ∃ x, x = l[k]'hlt := ⟨_, rfl⟩
      rw [← hxe] at q1 htk hbad
      clear hxe r1
      obtain ⟨kd, S⟩ := x
      have hpbk := Lib.hid (show plB (l.take (k + 1)) = (plB (l.take k) && one1 ⟨kd, S⟩) by rw [htk, plB_snoc])
      have hplk := Lib.hid (show plL (l.take (k + 1)) = plL (l.take k) ++ bts S by rw [htk, plL_snoc])
      have hbad' := Lib.hid hbad
      have a0 : wr.cell? ⟨g, k * 5, none⟩ = some (.int .i64 kd) := q1 0 (by decide)
      have a1 : wr.cell? ⟨g, k * 5 + 1, none⟩ = some (.int .u64 (word S 0)) := q1 1 (by decide)
      have a2 : wr.cell? ⟨g, k * 5 + 2, none⟩ = some (.int .u64 (word S 1)) := q1 2 (by decide)
      have a3 : wr.cell? ⟨g, k * 5 + 3, none⟩ = some (.int .u64 (word S 2)) := q1 3 (by decide)
      have a4 : wr.cell? ⟨g, k * 5 + 4, none⟩ = some (.int .u64 (word S 3)) := q1 4 (by decide)
      have hnl : (nn (plL (l.take k))).length ≤ 512 := by rw [nn_len]; omega
      clear q1 htk hbad
      have hone : one1 ⟨kd, S⟩ = (kd == 1 && (mem S).length == 1) := rfl
      have hmle := mem_len S
      have hcl : cnt S = (mem S).length := rfl
      have hone' := Lib.hid hone
      clear hone
      by_cases hkd : kd = 1
      · subst hkd
        go_wp2_with fail
        refine (Len_any S _).mono ?_
        rintro e w1 ⟨rfl, b1⟩
        have zA := b1.size
        rw [World.size_alloc] at zA
        have hrow := row_below (heap_alloc_new wr (.cells #[.int .i64 (1 : Nat), .int .u64 (word S 0), .int .u64 (word S 1), .int .u64 (word S 2), .int .u64 (word S 3)] 58)) b1 (by simp)
        have d1 : w1.cell? ⟨wr.heap.size, 1, none⟩ = some (.int .u64 (word S 0)) := row_cell hrow rfl
        have d2 : w1.cell? ⟨wr.heap.size, 2, none⟩ = some (.int .u64 (word S 1)) := row_cell hrow rfl
        have d3 : w1.cell? ⟨wr.heap.size, 3, none⟩ = some (.int .u64 (word S 2)) := row_cell hrow rfl
        have d4 : w1.cell? ⟨wr.heap.size, 4, none⟩ = some (.int .u64 (word S 3)) := row_cell hrow rfl
        have hlt1 : wr.heap.size < w1.heap.size := by omega
        have y1 := Lib.hid ((hb'.out.alloc hzb (.cells #[.int .i64 (1 : Nat), .int .u64 (word S 0), .int .u64 (word S 1), .int .u64 (word S 2), .int .u64 (word S 3)] 58)).trans (b1.mono (by rw [World.size_alloc]; omega)))
        have o1 := Lib.hid (own_below (World.ownsRow.alloc hr'.out (.cells #[.int .i64 (1 : Nat), .int .u64 (word S 0), .int .u64 (word S 1), .int .u64 (word S 2), .int .u64 (word S 3)] 58)) b1 (Nat.le_refl _))
        clear b1 hrow a0 a1 a2 a3 a4
        by_cases h1 : cnt S = 1
        · rw [h1]
          have hbl := bts_len S
          go_wp2_with fail
          refine (Bytes_any S _).mono ?_
          rintro e w2 ⟨v2, rfl, ow2, b2⟩
          have zB := b2.size
          have y2 := Lib.hid (y1.out.trans (b2.mono (by omega)))
          have o2 := Lib.hid (own_below o1.out b2 (Nat.le_refl _))
          have hlow := Lib.hid o1.out.lt
          have hnb : nn (bts S) = mem S := by
            unfold nn bts
            rw [List.map_map]
            refine (List.map_congr_left fun x hx => ?_).trans (List.map_id _)
            have := mem_lt hx
            simp; omega
          have hnb' := Lib.hid hnb
          rw [hcl] at h1
          have hy1 := Lib.hid (show one1 ⟨1, S⟩ = true by rw [hone'.out]; simp [h1])
          have ow2' := Lib.hid ow2
          clear b2 ow2 d1 d2 d3 d4 hnb
          have hmO : ∀ u ∈ bv (mem S), u.oneCell' = true := by intro u hu; simp only [bv, List.mem_map] at hu; obtain ⟨y, -, rfl⟩ := hu; rfl
          generalize mem S = ms at ow2' h1 hmO hnb' hcl hmle hbl
          obtain ⟨c, rfl⟩ := List.length_eq_one_iff.1 h1
          clear hmle hcl hbl h1
          go_wp2_with (at_builtin; refine append_rows rfl _ _ 36 rfl w.heap.size 5 i0 (.int .u8 0) 1 1 Tryd.underlying36 hi0 hz0 hz1 hz2 rfl (by decide) _ (nn (plL (l.take k))).length (bv (nn (plL (l.take k)))) rfl o2.out _ 1 v2 (bv [c]) rfl ow2'.out hmO (by unfold maxLen; omega) (by omega) (by omega) ?_)
          intro v3 w3 own3 hg3
          have zC := hg3.size
          have y3 := Lib.hid (y2.out.grown hg3 (by omega) (fun j hj => (hlow.out j hj).1))
          have o3 := Lib.hid (show OwnsB w3 w.heap.size v3 (nn (plL (l.take (k + 1)))) by
            rw [hplk.out, nn_append, hnb'.out]
            unfold OwnsB
            rw [List.length_append, show bv (nn (plL (l.take k)) ++ [c]) = bv (nn (plL (l.take k))) ++ bv [c] by simp [bv]]
            exact own3)
          clear own3 hg3
          go_wp2_with fail
          go_round
          case rel => exact ⟨k + 1, by omega, by go_num, o3.out, by rw [hpbk.out, hpb'.out, hy1.out]; rfl, y3.out⟩
          case measure => simp [intOf]; omega
        · have h1I : ((cnt S : Int) != 1) = true := by simp; omega
          have hno2 := Lib.hid (show PV = .tuple #[.string ⟨#[]⟩, .bool false] by rw [hPV'.out]; exact hbad'.out (by rw [hone'.out]; rw [hcl] at h1; simp [h1]))
          generalize cnt S = cn at h1I
          clear hcl hmle h1
          go_wp2_with fail
          go_ret2
          exact ⟨by rw [hno2.out]; rfl, y1.out⟩
      · have hkI : ((kd : Int) != 1) = true := by simp; omega
        have hno2 := Lib.hid (show PV = .tuple #[.string ⟨#[]⟩, .bool false] by rw [hPV'.out]; exact hbad'.out (by rw [hone'.out]; simp [hkd]))
        have y1 := Lib.hid (hb'.out.alloc hzb (.cells #[.int .i64 kd, .int .u64 (word S 0), .int .u64 (word S 1), .int .u64 (word S 2), .int .u64 (word S 3)] 58))
        clear hcl hmle
        go_wp2_with fail
        go_ret2
        exact ⟨by rw [hno2.out]; rfl, y1.out⟩
    · have hke : k = l.length := by omega
      subst hke
      have hr2 := hr'.out
      rw [List.take_length] at hr2
      have hcv2 := Lib.hid (conv_own hr2)
      have hp2 := hpb'.out
      rw [List.take_length] at hp2
      have hyes := Lib.hid (show PV = .tuple #[.string ⟨(plL l).toArray⟩, .bool true] by rw [hPV'.out]; unfold plV; rw [if_pos hp2])
      clear hr2 hp2
      go_wp2_with fail
      rw [hcv2.out]
      go_wp2_with fail
      go_ret2
      exact ⟨by rw [hyes.out]; rfl, hb'.out⟩
end Go.Proofs.YteeopjgfiojoiaaDoor
