/- The walk over GlobBack: a pattern's pieces, written again, are those pieces. Conditions: the bytes lie in memory, the errors hold their values. -/
import Derived.Test.YteeopjgfiojoiaaDoorGlobB
import Derived.Test.YteeopjgfiojoiaaDoorBackG
import Derived.WalkMore
import Derived.Handy
import Derived.Outline
namespace Go.Proofs.YteeopjgfiojoiaaDoor
open Go Go.RowKit SN

/-- Where an appended row lies: where it lay, or in a new block. -/
theorem append_where {w w1 : World} {base : Nat} {t ty e : TypeId} {i : TypeInfo} {z : Value} {size bytes : Nat} (ht : Tryd.prog.underlying t = some (.slice e)) (hi : Tryd.prog.info? e = some i) (hz : i.zero = some z)
    (hsize : i.size = size) (hby : i.bytes = bytes) {v v1 : Value} {n : Nat} {xs : List Value} (hown : w.ownsRow base e size v n xs)
    {a : Addr} {m c : Nat} {news : List Value} (hl : news.length = m * size) (hnews : ∀ j u, news[j]? = some u → w.cell? (a.add j) = some u) (h1 : ∀ u ∈ news, u.oneCell' = true)
    (h63 : n + m ≤ maxLen) (hbytes : (n + m) * bytes ≤ 140737488355328) (hm : 0 < m)
    (hr : (Builtin.append_ #[t, t] ty #[v, .slice (some a) m c]).run Tryd.prog w = .ok v1 w1) : v1.ownBlock = v.ownBlock ∨ v1.ownBlock = some w.heap.size := by
  subst hsize
  subst hby
  have hsmall : n + m ≤ 9223372036854775807 := by simp only [maxLen] at h63; omega
  rcases hown.2 with ⟨rfl, rfl⟩ | ⟨g, cap, cur, rfl, hbg, hg, hnc, hcm, hcs, htake⟩
  · rw [run_append_nil (P := Tryd.prog) w t ty e i z ht hi hz a m c news hl hnews (by omega) (by omega) (by have hb := hbytes; simp only [Nat.zero_add] at hb; omega)] at hr
    injection hr with hv _
    subst hv
    exact .inr rfl
  · by_cases hroom : n + m ≤ cap
    · have hfit : n * i.size + news.length ≤ cur.size := by rw [hl, hcs, ← Nat.add_mul]; exact Nat.mul_le_mul_right _ hroom
      rw [run_append_room (P := Tryd.prog) w t ty e i ht hi g n cap cur hg a m c news hl hnews h1 hroom hfit] at hr
      injection hr with hv _
      subst hv
      exact .inl rfl
    · have holds : ∀ j u, xs[j]? = some u → w.cell? ((⟨g, 0, none⟩ : Addr).add j) = some u := hown.cells (g := g) rfl
      rw [run_append_grow (P := Tryd.prog) w t ty e i z ht hi hz ⟨g, 0, none⟩ n cap xs hown.1 holds a m c news hl hnews (by omega) (by omega) (growslice_fits (by omega) hbytes)] at hr
      injection hr with hv _
      subst hv
      exact .inr rfl
/-- Bytes appended to a row of bytes that the call owns; where the row then lies. -/
theorem append_at {w : World} {ops : Array Oper} {rest : List Oper} {o : Oper} {a : Act} {Q : Exit → Act → World → Prop} (hgd : o.guard = none) (s x : Operand)
    (ho : o.op = .call { callee := .builtin .append, args := #[s, x], argTypes := #[36, 36] })
    (base : Nat) (v : Value) (xs : List Nat) (hs : a.eval s = v) (hown : OwnsB w base v xs) (ad : Addr) (m c : Nat) (l : List Nat) (hx : a.eval x = .slice (some ad) m c) (hm : l.length = m) (h0 : 0 < m) (hnews : ∀ j u, (bv l)[j]? = some u → w.cell? (ad.add j) = some u)
    (hsm : xs.length + m ≤ 16777216) (hbase : base ≤ w.heap.size)
    (h : ∀ v' w', OwnsB w' base v' (xs ++ l) → w.grownBy w' v.ownBlock → (v'.ownBlock = v.ownBlock ∨ v'.ownBlock = some w.heap.size) → wpList Tryd.prog ops Q rest (a.put o.dst v') w') : wpList Tryd.prog ops Q (o :: rest) a w := by
  obtain ⟨i0, hi0, hz0, hz1, hz2⟩ := info_parts info_u8
  have hl1 : (bv l).length = m * 1 := by simp [bv, hm]
  have h1 : ∀ u ∈ bv l, u.oneCell' = true := by intro u hu; simp only [bv, List.mem_map] at hu; obtain ⟨y, -, rfl⟩ := hu; rfl
  refine wpList_plain hgd fun K hK => ?_
  obtain ⟨v', w', hr, h2, h3, -⟩ := run_append_own (P := Tryd.prog) w base 36 o.type 5 i0 (.int .u8 0) 1 1 Tryd.underlying36 hi0 hz0 hz1 hz2 rfl (by decide) v xs.length (bv xs) hown ad m c (bv l) hl1 hnews h1 (by unfold maxLen; omega) (by omega) hbase
  have h4 := append_where (t := 36) (ty := o.type) Tryd.underlying36 hi0 hz0 hz1 hz2 hown hl1 hnews h1 (by unfold maxLen; omega) (by omega) h0 hr
  unfold Oper.wp execOp
  simp only [ho, resolve, invoke, builtin, Sem.run_bind, Sem.run_pure, Result.andThen_ok, List.map_toArray, List.map_cons, List.map_nil, hs, hx, hr]
  refine hK _ _ (h v' w' ?_ h3 h4)
  unfold OwnsB
  rw [List.length_append, hm, show bv (xs ++ l) = bv xs ++ bv l by simp [bv]]
  exact h2
theorem one_newN (w : World) (c : Nat) (b : Nat) (e : b = w.heap.size) : ∀ (j : Nat) u, (bv [c])[j]? = some u → (w.alloc (.cells #[.int .u8 c] 5)).cell? ((⟨b, 0, none⟩ : Addr).add j) = some u := by
  subst e
  exact one_new _ _ _
theorem two_newN (w : World) (c d : Nat) (b : Nat) (e : b = w.heap.size) : ∀ (j : Nat) u, (bv [c, d])[j]? = some u → (w.alloc (.cells #[.int .u8 c, .int .u8 d] 5)).cell? ((⟨b, 0, none⟩ : Addr).add j) = some u := by
  subst e
  intro j u h
  have hadd : (⟨w.heap.size, 0, none⟩ : Addr).add j = ⟨w.heap.size, j, none⟩ := by unfold Addr.add; split <;> simp_all
  rw [hadd, cell_of_row _ _ _ _ _ _ (heap_alloc_new w _)]
  rcases j with _ | _ | j
  · simpa [bv] using h
  · simpa [bv] using h
  · simp [bv] at h
theorem bts_at (S j : Nat) (h : j < (mem S).length) : (bts S).take (j + 1) = (bts S).take j ++ [((mem S)[j]).toUInt8] := by
  have h' : j < (bts S).length := by rw [bts_len]; exact h
  rw [List.take_succ_eq_append_getElem h']
  simp [bts]
theorem mem_lt_at {S j : Nat} (h : j < (mem S).length) : (mem S)[j] < 256 := List.mem_range.1 (List.mem_filter.1 (List.getElem_mem h)).1
theorem nn_byte (c : Nat) (h : c < 256) : nn [c.toUInt8] = [c] := by simp [nn]; omega
set_option maxHeartbeats 4000000 in
set_option maxRecDepth 100000 in
theorem gback_any {N : Nat} {E : Nat → Addr} (p : Option Addr) (s : ByteArray) (cap : Nat) (w : World) (hS : HasB w p s) (hcap : s.size ≤ cap) (hE : Errs N E w) (hN : N ≤ w.heap.size) :
    Calls Tryd.prog 10 #[.slice p s.size cap] w fun e w' => e = .returned (.bool true) ∧ Below w.heap.size w w' := by
  have hE' := Lib.hid hE
  have hS' := Lib.hid hS
  have haw := fun (W : World) (hb : Below w.heap.size w W) => awake6_any (N := N) (E := E) W (hE'.out.below hb hN) (by have := hb.size; omega)
  have haw' := Lib.hid haw
  clear hE hS haw
  by_cases hle : s.size ≤ 256
  case neg =>
    go_enter Tryd.func10, Tryd.ntmps10
    go_wp2_with fail
    refine (parse_long (N := N) (E := E) p s.size cap w (by omega) hE'.out).mono ?_
    rintro e w5 ⟨v5, rfl, ⟨S5, P5, rfl, -, -⟩, b5⟩
    have y5 := Lib.hid b5
    clear b5
    go_wp2_with fail
    refine (haw'.out _ y5.out).mono ?_
    rintro e w7 ⟨rfl, b7⟩
    have y7 := Lib.hid (y5.out.trans (b7.mono y5.out.size))
    clear b7
    go_wp2_with fail
    go_ret
    exact ⟨rfl, y7.out⟩
  case pos =>
  have hparse := parse_any (N := N) (E := E) p s cap w hS'.out hle hcap hE'.out hN
  have hpl := pt_len s.data.toList
  rw [show s.data.toList.length = s.size by simp] at hpl
  have hgood := pt_good s.data.toList
  generalize pt s.data.toList = ps at hparse hpl hgood
  have hpl2 : ps.length ≤ 256 := by omega
  have hgood' := Lib.hid hgood
  have hparse' := Lib.hid hparse
  clear hgood hpl hparse
  go_enter Tryd.func10, Tryd.ntmps10
  go_wp2_with fail
  refine hparse'.out.mono ?_
  rintro e w1 ⟨B1, rfl, hI1, b1⟩
  have hI1' := Lib.hid hI1
  have y1 := Lib.hid b1
  have z1 := b1.size
  clear hI1 b1 hparse'
  go_wp2_with fail
  refine (pieces_any B1 _ _ w1 hI1'.out (by omega)).mono ?_
  rintro e w2 ⟨v2, rfl, own2, b2⟩
  obtain ⟨a2, c2, rfl⟩ := own_slice own2
  have z2 := b2.size
  have y2 := Lib.hid (y1.out.trans (b2.mono z1))
  have hI2 := Lib.hid (hI1'.out.below b2 (Nat.le_refl _))
  have own2' := Lib.hid own2
  have hpv := Lib.hid (pvs_at ps)
  clear own2 b2
  go_wp2_with fail
  go_loopw [28, 5] (fun i v wr => ∃ (k : Nat), k ≤ ps.length ∧ i = .int .i64 k ∧ OwnsB wr w2.heap.size v (nn (back (ps.take k))) ∧ (∀ q ∈ ps.take k, q.kind = 1 → mem q.set ≠ []) ∧ Below w2.heap.size w2 wr) (fun i _ _ => ps.length - (intOf i).toNat)
  case atStart => exact ⟨0, Nat.zero_le _, rfl, OwnsB.nil _ _, fun q hq => by simp at hq, Below.refl _ _⟩
  case round =>
    obtain ⟨k, hk, rfl, hr, hne, hb⟩ := hrel
    have hr' := Lib.hid hr
    have hb' := Lib.hid hb
    have hne' := Lib.hid hne
    have hzb := hb.size
    clear hr hb hne
    by_cases hlt : k < ps.length
    · have r1 := own_below own2'.out hb'.out (Nat.le_refl _)
      obtain ⟨-, ⟨e, hn⟩ | ⟨g, cap, cur, e, -⟩⟩ := id r1
      · omega
      injection e with ea _ ec
      subst ea ec
      have q1 : ∀ j, j < 5 → wr.cell? ⟨g, k * 5 + j, none⟩ = (pcl (ps[k]'hlt)).toList[j]? := fun j hj => (r1.cellAt _ (by omega)).trans (hpv.out k j hlt hj)
      have htk : ps.take (k + 1) = ps.take k ++ [ps[k]'hlt] := by rw [List.take_succ_eq_append_getElem hlt]
      have hgk := hgood'.out _ (List.getElem_mem hlt)
      obtain ⟨x, hxe⟩ : ∃ x, x = ps[k]'hlt := ⟨_, rfl⟩
      rw [← hxe] at q1 htk hgk
      clear hxe r1
      obtain ⟨kd, S⟩ := x
      have hbk := Lib.hid (show back (ps.take (k + 1)) = back (ps.take k) ++ back1 ⟨kd, S⟩ by rw [htk, back_snoc])
      have htl : (nn (back (ps.take k))).length ≤ 514 * 256 := by
        have h1 := back_len (ps.take k)
        have h2 : (ps.take k).length ≤ 256 := by simp; omega
        rw [nn_len]; omega
      have hkd : kd = 1 ∨ (kd = 2 ∧ S = 0) ∨ (kd = 3 ∧ S = 0) := hgk.2
      have hkd' := Lib.hid hkd
      have htk' := Lib.hid htk
      have a0 : wr.cell? ⟨g, k * 5, none⟩ = some (.int .i64 kd) := q1 0 (by decide)
      have a1 : wr.cell? ⟨g, k * 5 + 1, none⟩ = some (.int .u64 (word S 0)) := q1 1 (by decide)
      have a2 : wr.cell? ⟨g, k * 5 + 2, none⟩ = some (.int .u64 (word S 1)) := q1 2 (by decide)
      have a3 : wr.cell? ⟨g, k * 5 + 3, none⟩ = some (.int .u64 (word S 2)) := q1 3 (by decide)
      have a4 : wr.cell? ⟨g, k * 5 + 4, none⟩ = some (.int .u64 (word S 3)) := q1 4 (by decide)
      clear q1 htk hgk hkd
      go_wp2_with fail
      refine (Bytes_any S _).mono ?_
      rintro e w3 ⟨v3, rfl, ow3, b3⟩
      rw [World.size_alloc] at ow3
      have zA := b3.size
      rw [World.size_alloc] at zA
      have hrow := row_below (heap_alloc_new wr (.cells #[.int .i64 kd, .int .u64 (word S 0), .int .u64 (word S 1), .int .u64 (word S 2), .int .u64 (word S 3)] 58)) b3 (by simp)
      have d0 : w3.cell? ⟨wr.heap.size, 0, none⟩ = some (.int .i64 kd) := row_cell hrow rfl
      have y3 := Lib.hid ((hb'.out.alloc hzb (.cells #[.int .i64 kd, .int .u64 (word S 0), .int .u64 (word S 1), .int .u64 (word S 2), .int .u64 (word S 3)] 58)).trans (b3.mono (by rw [World.size_alloc]; omega)))
      have o3 := Lib.hid (own_below (World.ownsRow.alloc hr'.out (.cells #[.int .i64 kd, .int .u64 (word S 0), .int .u64 (word S 1), .int .u64 (word S 2), .int .u64 (word S 3)] 58)) b3 (Nat.le_refl _))
      have hlow := Lib.hid hr'.out.lt
      have hlow3 := Lib.hid ow3.lt
      have hml : ∀ j, (h : j < (mem S).length) → (mem S)[j] < 256 := fun j h => mem_lt_at h
      have hma : ∀ j, (h : j < (mem S).length) → (bts S).take (j + 1) = (bts S).take j ++ [((mem S)[j]).toUInt8] := fun j h => bts_at S j h
      have hb2 : back1 ⟨1, S⟩ = if (mem S).length = 1 then esc (bts S) else 91 :: (esc (bts S) ++ [93]) := rfl
      have hbl : (bts S).length = (mem S).length := bts_len S
      have hmle : (mem S).length ≤ 256 := by
        unfold mem
        have := List.length_filter_le S.testBit (List.range 256)
        simpa using this
      have hemp : mem S = [] → (mem S).length = 0 := fun h => by rw [h]; rfl
      generalize mem S = ms at ow3 hml hma hb2 hbl hmle hemp
      rcases hkd'.out with rfl | ⟨rfl, rfl⟩ | ⟨rfl, rfl⟩
      · by_cases h1 : ms.length = 1
        · obtain ⟨c, rfl⟩ := List.length_eq_one_iff.1 h1
          have hc : c < 256 := hml 0 (by simp)
          have hbb : bts S = [c.toUInt8] := by
            have h2 : (bts S).take 1 = bts S := List.take_of_length_le (by rw [hbl]; simp)
            rw [← h2, hma 0 (by simp)]
            rfl
          have hb3 : nn (back1 ⟨1, S⟩) = [92, c] := by
            rw [hb2, if_pos (by simp), hbb]
            show nn [92, c.toUInt8] = _
            simp [nn]; omega
          have hms : mem S ≠ [] := fun h => by
            have := bts_len S
            rw [h, hbb] at this
            cases this
          have hms' := Lib.hid hms
          obtain ⟨-, ⟨e, hn⟩ | ⟨g3, cap3, cur3, rfl, -⟩⟩ := id ow3
          · exact absurd hn (by simp)
          have f0 : w3.cell? ⟨g3, 0, none⟩ = some (.int .u8 c) := ow3.cellAt 0 (by simp)
          clear ow3 hml hma hb2 hbl hmle hemp h1 hms hbb a0 a1 a2 a3 a4 hrow b3
          go_wp2_with (at_builtin; refine append_at rfl _ _ rfl w2.heap.size _ _ rfl (o3.out.alloc _) ⟨_, 0, none⟩ 2 2 [92, c] rfl rfl (by decide) (two_newN _ _ _ _ (by simp)) (by omega) (by simp; omega) ?_)
          intro v4 w4 own4 hg4 wh4
          have y4 := Lib.hid ((y3.out.alloc (by omega) (.cells #[.int .u8 92, .int .u8 c] 5)).grown hg4 (by simp; omega) (fun j hj => (hlow.out j hj).1))
          have o4 := Lib.hid (show OwnsB w4 w2.heap.size v4 (nn (back (ps.take (k + 1)))) by rw [hbk.out, nn_append, hb3]; exact own4)
          have ne4 := Lib.hid (show ∀ q ∈ ps.take (k + 1), q.kind = 1 → mem q.set ≠ [] by
            intro q hq h1
            rw [htk'.out] at hq
            rcases List.mem_append.1 hq with h | h
            · exact hne'.out q h h1
            · rw [List.mem_singleton.1 h]; exact hms'.out)
          clear own4 hg4 wh4 f0
          go_wp2_with fail
          go_round
          case rel => exact ⟨k + 1, by omega, by go_num, o4.out, ne4.out, y4.out⟩
          case measure => simp [intOf]; omega
        · have h1I : ((ms.length : Int) == 1) = false := by simp; omega
          have hb3 := Lib.hid (show back1 ⟨1, S⟩ = 91 :: (esc (bts S) ++ [93]) by rw [hb2, if_neg h1])
          obtain ⟨a3', c3, rfl⟩ := own_slice ow3
          obtain ⟨b2, hbase⟩ : ∃ b2, b2 = wr.heap.size + 1 + 1 := ⟨_, rfl⟩
          rw [← hbase] at ow3 hlow3
          have ow3' := Lib.hid ow3
          have hma' := Lib.hid hma
          have hml' := Lib.hid hml
          have hbl' := Lib.hid hbl
          have hmem : Hid (ms ≠ [] → mem S ≠ []) := fun h he => h (List.eq_nil_of_length_eq_zero (by
            have := bts_len S
            rw [he] at this
            rw [← hbl, this]; rfl))
          clear ow3 hml hma hb2 hbl hemp h1 a0 a1 a2 a3 a4 hrow b3
          go_wp2_with (at_builtin; refine append_at rfl _ _ rfl w2.heap.size _ _ rfl (o3.out.alloc _) ⟨_, 0, none⟩ 1 1 [91] rfl rfl (by decide) (one_newN _ _ _ (by simp)) (by omega) (by simp; omega) ?_)
          intro v4 w4 own4 hg4 wh4
          have z4 := hg4.size
          rw [World.size_alloc] at z4
          have y4 := Lib.hid ((y3.out.alloc (by omega) (.cells #[.int .u8 91] 5)).grown hg4 (by simp; omega) (fun j hj => (hlow.out j hj).1))
          have o4 := Lib.hid (show OwnsB w4 w2.heap.size v4 (nn (back (ps.take k)) ++ nn (91 :: esc ((bts S).take 0))) from own4)
          have hd4 : ∀ b, (Value.slice a3' ms.length c3).ownBlock = some b → v4.ownBlock ≠ some b := fun b hb he => by
            have h3 := hlow3.out b hb
            rcases wh4 with h | h
            · rw [h] at he
              have := hlow.out b he
              omega
            · rw [h] at he
              injection he with he
              omega
          have ow4 := Lib.hid (show OwnsB w4 b2 (.slice a3' ms.length c3) ms from World.ownsRow.kept (World.ownsRow.alloc ow3'.out (.cells #[.int .u8 91] 5)) hg4 (by
            cases h : (Value.slice a3' ms.length c3).ownBlock with
            | none => exact .inl rfl
            | some b =>
              refine .inr (fun e => ?_)
              have h3 := hlow3.out b h
              have := hlow.out b e.symm
              omega))
          have hd4' := Lib.hid hd4
          clear own4 hg4 wh4 hd4 d0
          go_wp2_with fail
          go_loopw [40, 5] (fun i v wi => ∃ (j : Nat), j ≤ ms.length ∧ i = .int .i64 j ∧ OwnsB wi w2.heap.size v (nn (back (ps.take k)) ++ nn (91 :: esc ((bts S).take j))) ∧ OwnsB wi b2 (.slice a3' ms.length c3) ms ∧ (∀ b, (Value.slice a3' ms.length c3).ownBlock = some b → v.ownBlock ≠ some b) ∧ Below w2.heap.size w2 wi) (fun i _ _ => ms.length - (intOf i).toNat)
          case atStart => exact ⟨0, Nat.zero_le _, rfl, o4.out, ow4.out, hd4'.out, y4.out⟩
          case round =>
            clear o4 ow4 hd4' y4 y3 o3
            obtain ⟨j, hj, rfl, ro, rw4, rd, rb⟩ := hrel
            have ro' := Lib.hid ro
            have rw4' := Lib.hid rw4
            have rd' := Lib.hid rd
            have rb' := Lib.hid rb
            have zr := rb.size
            have rlow := Lib.hid ro.lt
            have rtl : (nn (back (ps.take k)) ++ nn (91 :: esc ((bts S).take j))).length ≤ 514 * 256 + 600 := by
              have h1 : ((bts S).take j).length ≤ ms.length := by rw [List.length_take, hbl'.out]; omega
              have h2 := esc_len ((bts S).take j)
              rw [List.length_append, nn_len (91 :: _), List.length_cons]
              omega
            clear ro rw4 rd rb
            by_cases hjl : j < ms.length
            · obtain ⟨-, ⟨e, hn⟩ | ⟨g3, cap3, cur3, e, -⟩⟩ := id rw4'.out
              · omega
              injection e with ea _ ec
              subst ea ec
              have f0 : wr.cell? ⟨g3, j, none⟩ = (bv ms)[j]? := rw4'.out.cellAt j (by omega)
              have hx := hml'.out j hjl
              have hxa := hma'.out j hjl
              rw [show (bv ms)[j]? = some (.int .u8 (ms[j] : Nat)) by simp [bv, hjl]] at f0
              obtain ⟨x, hxe⟩ : ∃ x, x = ms[j] := ⟨_, rfl⟩
              rw [← hxe] at f0 hx hxa
              have hnx : Hid (nn (91 :: esc ((bts S).take (j + 1))) = nn (91 :: esc ((bts S).take j)) ++ [92, x]) := by
                show nn (91 :: esc ((bts S).take (j + 1))) = nn (91 :: esc ((bts S).take j)) ++ [92, x]
                rw [hxa, esc_snoc]
                simp [nn]; omega
              clear hxa hxe
              go_wp2_with (at_builtin; refine append_at rfl _ _ rfl w2.heap.size _ _ rfl (ro'.out.alloc _) ⟨_, 0, none⟩ 2 2 [92, x] rfl rfl (by decide) (two_newN _ _ _ _ (by simp)) (by omega) (by simp; omega) ?_)
              intro v5 w5 own5 hg5 wh5
              have z5 := hg5.size
              rw [World.size_alloc] at z5
              have y5 := Lib.hid ((rb'.out.alloc (by omega) (.cells #[.int .u8 92, .int .u8 x] 5)).grown hg5 (by simp; omega) (fun j hj => (rlow.out j hj).1))
              have o5 := Lib.hid (show OwnsB w5 w2.heap.size v5 (nn (back (ps.take k)) ++ nn (91 :: esc ((bts S).take (j + 1)))) by rw [hnx.out]; exact own5)
              have g3lt := rw4'.out.lt g3 rfl
              have hd5 := Lib.hid (show ∀ b, (Value.slice (some ⟨g3, 0, none⟩) ms.length c3).ownBlock = some b → v5.ownBlock ≠ some b from fun b hb he => by
                rcases wh5 with h | h
                · rw [h] at he
                  exact rd'.out b hb he
                · rw [h] at he
                  injection he with he
                  injection hb with hb
                  have hb' : g3 = b := hb
                  omega)
              have ow5 := Lib.hid (show OwnsB w5 b2 (.slice (some ⟨g3, 0, none⟩) ms.length c3) ms from World.ownsRow.kept (World.ownsRow.alloc rw4'.out (.cells #[.int .u8 92, .int .u8 x] 5)) hg5 (.inr (fun e => rd'.out g3 rfl e.symm)))
              clear own5 hg5 wh5 f0
              go_wp2_with fail
              go_round
              case rel => exact ⟨j + 1, by omega, by go_num, o5.out, ow5.out, hd5.out, y5.out⟩
              case measure => simp [intOf]; omega
            · have hje : j = ms.length := by omega
              subst hje
              have htt : (bts S).take ms.length = bts S := List.take_of_length_le (Nat.le_of_eq hbl'.out)
              rw [htt] at ro' rtl
              clear htt
              go_wp2_with (at_builtin; refine append_at rfl _ _ rfl w2.heap.size _ _ rfl (ro'.out.alloc _) ⟨_, 0, none⟩ 1 1 [93] rfl rfl (by decide) (one_newN _ _ _ (by simp)) (by omega) (by simp; omega) ?_)
              intro v5 w5 own5 hg5 wh5
              have z5 := hg5.size
              rw [World.size_alloc] at z5
              have y5 := Lib.hid ((rb'.out.alloc (by omega) (.cells #[.int .u8 93] 5)).grown hg5 (by simp; omega) (fun j hj => (rlow.out j hj).1))
              have o5 := Lib.hid (show OwnsB w5 w2.heap.size v5 (nn (back (ps.take (k + 1)))) by
                rw [hbk.out, nn_append, hb3.out]
                have e : nn (91 :: (esc (bts S) ++ [93])) = nn (91 :: esc (bts S)) ++ [93] := by simp [nn]
                rw [e]
                exact own5)
              clear own5 hg5 wh5
              by_cases h0 : ms.length = 0
              · have h0I : ((ms.length : Int) == 0) = true := by rw [h0]; rfl
                have yW := Lib.hid (y2.out.trans (y5.out.mono y2.out.size))
                go_wp2_with fail
                refine (haw'.out w5 yW.out).mono ?_
                rintro e w7 ⟨rfl, b7⟩
                have y7 := Lib.hid (yW.out.trans (b7.mono yW.out.size))
                clear b7
                go_wp2_with fail
                go_ret
                exact ⟨rfl, y7.out⟩
              · have h0I : ((ms.length : Int) == 0) = false := beq_eq_false_iff_ne.2 (by omega)
                have ne4 := Lib.hid (show ∀ q ∈ ps.take (k + 1), q.kind = 1 → mem q.set ≠ [] by
                  intro q hq h1
                  rw [htk'.out] at hq
                  rcases List.mem_append.1 hq with h | h
                  · exact hne'.out q h h1
                  · rw [List.mem_singleton.1 h]; exact hmem (fun e => h0 (by rw [e]; rfl)))
                go_wp2_with fail
                go_round
                case rel => exact ⟨k + 1, by omega, by go_num, o5.out, ne4.out, y5.out⟩
                case measure => simp [intOf]; omega
      · have hb3 : nn (back1 ⟨2, 0⟩) = [63] := rfl
        clear ow3 hml hma hb2 hbl hmle hemp a0 a1 a2 a3 a4 hrow b3
        go_wp2_with (at_builtin; refine append_at rfl _ _ rfl w2.heap.size _ _ rfl (o3.out.alloc _) ⟨_, 0, none⟩ 1 1 [63] rfl rfl (by decide) (one_newN _ _ _ (by simp)) (by omega) (by simp; omega) ?_)
        intro v4 w4 own4 hg4 wh4
        have y4 := Lib.hid ((y3.out.alloc (by omega) (.cells #[.int .u8 63] 5)).grown hg4 (by simp; omega) (fun j hj => (hlow.out j hj).1))
        have o4 := Lib.hid (show OwnsB w4 w2.heap.size v4 (nn (back (ps.take (k + 1)))) by rw [hbk.out, nn_append, hb3]; exact own4)
        have ne4 := Lib.hid (show ∀ q ∈ ps.take (k + 1), q.kind = 1 → mem q.set ≠ [] by
          intro q hq h1
          rw [htk'.out] at hq
          rcases List.mem_append.1 hq with h | h
          · exact hne'.out q h h1
          · rw [List.mem_singleton.1 h] at h1; cases h1)
        clear own4 hg4 wh4
        go_wp2_with fail
        go_round
        case rel => exact ⟨k + 1, by omega, by go_num, o4.out, ne4.out, y4.out⟩
        case measure => simp [intOf]; omega
      · have hb3 : nn (back1 ⟨3, 0⟩) = [42] := rfl
        clear ow3 hml hma hb2 hbl hmle hemp a0 a1 a2 a3 a4 hrow b3
        go_wp2_with (at_builtin; refine append_at rfl _ _ rfl w2.heap.size _ _ rfl (o3.out.alloc _) ⟨_, 0, none⟩ 1 1 [42] rfl rfl (by decide) (one_newN _ _ _ (by simp)) (by omega) (by simp; omega) ?_)
        intro v4 w4 own4 hg4 wh4
        have y4 := Lib.hid ((y3.out.alloc (by omega) (.cells #[.int .u8 42] 5)).grown hg4 (by simp; omega) (fun j hj => (hlow.out j hj).1))
        have o4 := Lib.hid (show OwnsB w4 w2.heap.size v4 (nn (back (ps.take (k + 1)))) by rw [hbk.out, nn_append, hb3]; exact own4)
        have ne4 := Lib.hid (show ∀ q ∈ ps.take (k + 1), q.kind = 1 → mem q.set ≠ [] by
          intro q hq h1
          rw [htk'.out] at hq
          rcases List.mem_append.1 hq with h | h
          · exact hne'.out q h h1
          · rw [List.mem_singleton.1 h] at h1; cases h1)
        clear own4 hg4 wh4
        go_wp2_with fail
        go_round
        case rel => exact ⟨k + 1, by omega, by go_num, o4.out, ne4.out, y4.out⟩
        case measure => simp [intOf]; omega
    · have hke : k = ps.length := by omega
      subst hke
      have hr2 := hr'.out
      rw [List.take_length] at hr2
      have hn2 := hne'.out
      rw [List.take_length] at hn2
      have hptb := pt_back ps hgood'.out hn2
      obtain ⟨p4, cap4, hve, hcap4, hB4, -⟩ := hr2.hasB' (fun x hx => by obtain ⟨y, -, rfl⟩ := List.mem_map.1 hx; exact y.toNat_lt)
      subst hve
      have y3 := Lib.hid (y2.out.trans (hb'.out.mono y2.out.size))
      have z3 := y3.out.size
      have hIw := Lib.hid (hI2.out.below hb'.out (Nat.le_refl _))
      have hlist : (toB (nn (back ps))).data.toList = back ps := by
        rw [toB_list, nn, List.map_map]
        exact (List.map_congr_left fun x _ => by simp).trans (List.map_id _)
      have hB4' := Lib.hid hB4
      by_cases hbig : (nn (back ps)).length ≤ 256
      · have hpr := parse_any (N := N) (E := E) p4 _ cap4 wr hB4 (by rw [toB_size]; exact hbig) (by rw [toB_size]; exact hcap4) (hE'.out.below y3.out hN) (by omega)
        rw [toB_size, hlist, hptb] at hpr
        generalize (nn (back ps)).length = nl at hpr hbig
        have hbI : ¬ (256 : Int) < (nl : Int) := by omega
        have hpr' := Lib.hid hpr
        have hgk := hgood'.out
        have hok := Lib.hid (show ∀ p ∈ ps, Ok p.set ∧ (p.kind = 1 ∨ p.kind = 2 ∨ p.kind = 3) from fun p hp => ⟨(hgk p hp).1, Or.imp id (Or.imp And.left And.left) (hgk p hp).2⟩)
        clear hpr hB4 hr2 hn2 hptb hlist hcap4 hgk hr' hne'
        go_wp2_with fail
        refine hpr'.out.mono ?_
        rintro e w4 ⟨B4, rfl, hI4, b4⟩
        have hI4' := Lib.hid hI4
        have hI1w := Lib.hid (hIw.out.below b4 (Nat.le_refl _))
        have y4 := Lib.hid (y3.out.trans (b4.mono z3))
        clear hpr' hI4 b4
        go_wp2_with fail
        refine (ptext_any B4 _ ps w4 hI4'.out (by omega) hok.out).mono ?_
        rintro e w5 ⟨rfl, b5⟩
        have y5 := Lib.hid (y4.out.trans (b5.mono y4.out.size))
        have hI15 := Lib.hid (hI1w.out.below b5 (Nat.le_refl _))
        have hI45 := Lib.hid (hI4'.out.below b5 (Nat.le_refl _))
        clear b5
        go_wp2_with fail
        refine (ptext_any B1 _ ps w5 hI15.out (by omega) hok.out).mono ?_
        rintro e w6 ⟨rfl, b6⟩
        have y6 := Lib.hid (y5.out.trans (b6.mono y5.out.size))
        have hI16 := Lib.hid (hI15.out.below b6 (Nat.le_refl _))
        have hI46 := Lib.hid (hI45.out.below b6 (Nat.le_refl _))
        clear b6
        generalize (⟨(ptxt ps).toArray⟩ : ByteArray) = TX
        go_wp2_with fail
        refine (pieces_any B4 _ ps w6 hI46.out (by omega)).mono ?_
        rintro e w7 ⟨v7, rfl, own7, b7⟩
        have y7 := Lib.hid (y6.out.trans (b7.mono y6.out.size))
        have own7' := Lib.hid own7
        have hI17 := Lib.hid (hI16.out.below b7 (Nat.le_refl _))
        clear own7 b7
        go_wp2_with fail
        refine (pieces_any B1 _ ps w7 hI17.out (by omega)).mono ?_
        rintro e w8 ⟨v8, rfl, own8, b8⟩
        have y8 := Lib.hid (y7.out.trans (b8.mono y7.out.size))
        have own78 := Lib.hid (own_below own7'.out b8 (Nat.le_refl _))
        have own8' := Lib.hid own8
        clear own8 b8
        go_wp2_with fail
        refine (same_own _ _ v7 v8 ps w8 (by omega) own78.out own8'.out).mono ?_
        rintro e w9 ⟨rfl, b9⟩
        have y9 := Lib.hid (y8.out.trans (b9.mono y8.out.size))
        clear b9
        go_wp2_with fail
        refine (haw'.out _ y9.out).mono ?_
        rintro e w10 ⟨rfl, b10⟩
        have y10 := Lib.hid (y9.out.trans (b10.mono y9.out.size))
        clear b10
        go_wp2_with fail
        go_ret
        exact ⟨rfl, y10.out⟩
      · generalize (nn (back ps)).length = nl at hbig
        have hbI : (256 : Int) < (nl : Int) := by omega
        clear hB4 hr2 hn2 hptb hlist hcap4 hr' hne'
        go_wp2_with fail
        refine (haw'.out _ y3.out).mono ?_
        rintro e w10 ⟨rfl, b10⟩
        have y10 := Lib.hid (y3.out.trans (b10.mono y3.out.size))
        clear b10
        go_wp2_with fail
        go_ret
        exact ⟨rfl, y10.out⟩
end Go.Proofs.YteeopjgfiojoiaaDoor
