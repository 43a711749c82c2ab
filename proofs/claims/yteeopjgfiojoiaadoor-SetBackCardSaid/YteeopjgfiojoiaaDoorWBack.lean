/- The walk over SetBack: a bracket of letters and of ranges of them is the set of these: it returns true. Conditions: the bytes and the errors' variables lie in memory. -/
import Derived.Test.YteeopjgfiojoiaaDoorBk12
import Derived.Test.YteeopjgfiojoiaaDoorBk19
import Derived.Test.YteeopjgfiojoiaaDoorBrkP
import Derived.IntWalk
import Derived.Deep.Cut
namespace Go.Proofs.YteeopjgfiojoiaaDoor
open Go Go.RowKit SN

theorem lang3 (x : Int) : wrap64 (2 + (wrap64 (x.tmod 3 + 3)).tmod 3) = 2 ∨ wrap64 (2 + (wrap64 (x.tmod 3 + 3)).tmod 3) = 3 ∨ wrap64 (2 + (wrap64 (x.tmod 3 + 3)).tmod 3) = 4 := by
  have h1 : -3 < x.tmod 3 ∧ x.tmod 3 < 3 := by
    have := Int.tmod_lt_of_pos x (by decide : (0 : Int) < 3)
    have := Int.lt_tmod_of_pos x (by decide : (0 : Int) < 3)
    omega
  have e1 : wrap64 (x.tmod 3 + 3) = x.tmod 3 + 3 := by unfold wrap64; omega
  rw [e1, Int.tmod_eq_emod_of_nonneg (by omega)]
  unfold wrap64
  omega
/-- The text of the pieces, as numbers. -/
def pcsNat (ps : List Pc) : List Nat := (pcsTxt ps).map (·.toNat)
theorem pcsNat_lt (ps : List Pc) : ∀ x ∈ pcsNat ps, x < 256 := fun x hx => by
  obtain ⟨c, -, rfl⟩ := List.mem_map.1 hx
  exact c.toNat_lt
theorem pcsNat_len (ps : List Pc) : (pcsNat ps).length ≤ 3 * ps.length := by
  unfold pcsNat
  rw [List.length_map]
  induction ps with
  | nil => simp [pcsTxt]
  | cons q ps ih =>
    have e : pcsTxt (q :: ps) = pcTxt q ++ pcsTxt ps := by simp [pcsTxt]
    have h : (pcTxt q).length ≤ 3 := by obtain ⟨c, o⟩ := q; cases o <;> simp [pcTxt]
    rw [e, List.length_append, List.length_cons]; omega
theorem pcsNat_snoc (ps : List Pc) (q : Pc) : pcsNat (ps ++ [q]) = pcsNat ps ++ (pcTxt q).map (·.toNat) := by unfold pcsNat; rw [pcsTxt_snoc, List.map_append]
theorem OwnsB.snocs {w : World} {base : Nat} {v : Value} {l m : List Nat} (h : w.ownsRow base 5 1 v (l.length + m.length) (bv l ++ bv m)) : OwnsB w base v (l ++ m) := by
  unfold OwnsB bv
  rw [List.map_append, List.length_append]; exact h
theorem three_new (w : World) (u v x : Value) (t : TypeId) : ∀ (j : Nat) y, [u, v, x][j]? = some y → (w.alloc (.cells #[u, v, x] t)).cell? ((⟨w.heap.size, 0, none⟩ : Addr).add j) = some y := by
  intro j y hj
  match j, hj with
  | 0, hj => simp at hj; subst hj; simp [Addr.add]
  | 1, hj => simp at hj; subst hj; simp [Addr.add]
  | 2, hj => simp at hj; subst hj; simp [Addr.add]
theorem ok_pcs (ps : List Pc) : Ok (pcsSet ps) := by
  induction ps with
  | nil => exact ok_zero
  | cons q ps ih =>
    have h1 : pcsSet (q :: ps) = ps.foldl (fun S p => S ||| pcSet p) (0 ||| pcSet q) := rfl
    rw [h1, foldl_or, Nat.zero_or]
    refine ok_or ?_ ih
    obtain ⟨c, o⟩ := q
    cases o with
    | none => exact ok_ofL' c
    | some d => exact (show Ok (rng c.toNat d.toNat) from ok_ofP _)
theorem back_list (ps : List Pc) : (toB (pcsNat ps ++ [93])).data.toList = pcsTxt ps ++ [93] := by
  rw [toB_list, List.map_append]
  congr 1
  unfold pcsNat
  rw [List.map_map]
  have h : ∀ x : UInt8, ((fun n : Nat => n.toUInt8) ∘ fun c : UInt8 => c.toNat) x = x := fun x => by simp
  exact (List.map_congr_left fun x _ => h x).trans (List.map_id _)
theorem u8_nat (c : Nat) (h : c ≤ 122) : (c.toUInt8).toNat = c := by simp; omega
theorem pc_ok2 (c d : Nat) (h1 : 97 ≤ c) (h2 : c ≤ d) (h3 : d ≤ 122) : pcOk (c.toUInt8, some d.toUInt8) := by
  simp only [pcOk]; rw [u8_nat c (by omega), u8_nat d h3]; exact ⟨h1, h2, h3⟩
theorem pc_nat2 (c d : Nat) (_h1 : 97 ≤ c) (h2 : c ≤ d) (h3 : d ≤ 122) : [c, 45, d] = (pcTxt (c.toUInt8, some d.toUInt8)).map (·.toNat) := by
  simp only [pcTxt, List.map_cons, List.map_nil]; rw [u8_nat c (by omega), u8_nat d h3]; rfl
theorem pc_set2 (c d : Nat) (_h1 : 97 ≤ c) (h2 : c ≤ d) (h3 : d ≤ 122) : rng c d = pcSet (c.toUInt8, some d.toUInt8) := by
  simp only [pcSet]; rw [u8_nat c (by omega), u8_nat d h3]
theorem pc_ok1 (c : Nat) (h1 : 97 ≤ c) (h2 : c ≤ 122) : pcOk (c.toUInt8, none) := by
  simp only [pcOk]; rw [u8_nat c h2]; exact ⟨h1, h2⟩
theorem pc_nat1 (c : Nat) (_h1 : 97 ≤ c) (h2 : c ≤ 122) : [c] = (pcTxt (c.toUInt8, none)).map (·.toNat) := by
  simp only [pcTxt, List.map_cons, List.map_nil]; rw [u8_nat c h2]
theorem pc_set1 (c : Nat) (_h1 : 97 ≤ c) (_h2 : c ≤ 122) : ofL (toB [c]).data.toList = pcSet (c.toUInt8, none) := by
  rw [toB_list]; rfl
set_option maxHeartbeats 4000000 in
set_option maxRecDepth 100000 in
theorem back_any {N : Nat} {E : Nat → Addr} (p : Option Addr) (s : ByteArray) (cap : Nat) (lang : Int) (w : World) (hS : HasB w p s) (hs : s.size ≤ 9223372036854775807) (hE : Errs N E w) (hN : N ≤ w.heap.size) :
    Calls Tryd.prog 7 #[.slice p s.size cap, .int .i64 lang] w fun e w' => e = .returned (.bool true) ∧ Below w.heap.size w w' := by
  obtain ⟨i0, hi0, hz0, hz1, hz2⟩ := info_parts info_u8
  have hE' := Lib.hid hE
  have hS' := Lib.hid hS
  have hL := lang3 lang
  clear hE hS
  have hb : (Instr.build 24 #[]).run Tryd.prog = fun w => .ok (sv 0) w := by funext w; kernel_rfl
  go_enter Tryd.func7, Tryd.ntmps7
  go_wp2_with fail
  generalize wrap64 (2 + (wrap64 (lang.tmod 3 + 3)).tmod 3) = L at hL
  have hL' := Lib.hid hL
  have hX' := Lib.hid (IsSet.zero 24 w)
  have bX := (Below.refl w.heap.size w).alloc (Nat.le_refl _) (.cells #[.int .u64 0, .int .u64 0, .int .u64 0, .int .u64 0] 24)
  have bX' := Lib.hid bX
  clear hL bX
  go_loopw [5, 21] (fun v i wr => ∃ (k : Nat) (ps : List Pc), k ≤ s.size ∧ k ≤ 40 ∧ i = .int .i64 k ∧ ps.length = k ∧ (∀ q ∈ ps, pcOk q) ∧ OwnsB wr (w.heap.size + 1) v (pcsNat ps) ∧ IsSet 24 wr w.heap.size (pcsSet ps) ∧ Below w.heap.size w wr) (fun _ i _ => 40 - (intOf i).toNat)
  case atStart => exact ⟨0, [], Nat.zero_le _, Nat.zero_le _, rfl, rfl, (fun q hq => by cases hq), OwnsB.nil _ _, hX'.out, bX'.out⟩
  case round =>
    clear hX' bX'
    obtain ⟨k, ps, hk, hk40, rfl, hlen, hok, hown, hR, hbl⟩ := hrel
    have hlen' := Lib.hid hlen
    have hok' := Lib.hid hok
    have hown' := Lib.hid hown
    have hB' := Lib.hid (hS'.out.below hbl (Nat.le_refl _))
    have hR' := Lib.hid hR
    have hbl' := Lib.hid hbl
    have hlt := hR.lt
    have hnl := pcsNat_len ps
    rw [hlen] at hnl
    clear hlen hok hown hR hbl
    by_cases hgo : k < s.size ∧ k < 40
    · obtain ⟨hk1, hk2⟩ := hgo
      obtain ⟨b, ob, rfl, hc, -⟩ := hasB_at hB'.out (i := k) hk1
      have hx := (s[k]).toNat_lt
      generalize hxe : (s[k]).toNat = x at hc hx
      obtain ⟨c, hcd⟩ : ∃ c : Nat, c = 97 + x % 26 := ⟨_, rfl⟩
      have hci : 97 + (x : Int) % 26 = (c : Int) := by omega
      have hc1 : 97 ≤ c := by omega
      have hc2 : c ≤ 122 := by omega
      have hxi : (x : Int) < 256 := by omega
      clear hxe hcd
      by_cases hk3 : k % 3 = 2
      · have hk3' : ((k : Int) % 3 == 2) = true := by simp; omega
        obtain ⟨d, hdd⟩ : ∃ d : Nat, d = min (c + 3) 122 := ⟨_, rfl⟩
        have hdi : min ((c : Int) + 3) 122 = (d : Int) := by omega
        have hd1 : c ≤ d ∧ d ≤ 122 := by omega
        clear hdd
        go_wp2_with (at_builtin; refine wpList_append_own _ rfl _ _ 36 rfl (w.heap.size + 1) 5 i0 (.int .u8 0) 1 1 Tryd.underlying36 hi0 hz0 hz1 hz2 rfl (by decide) _ _ _ rfl (hown'.out.alloc _) ⟨wr.heap.size, 0, none⟩ 3 3 [.int .u8 c, .int .u8 45, .int .u8 d] rfl rfl ?c1 ?c2 ?c3 ?c4 ?c5 ?_)
        case c1 => exact three_new _ _ _ _ _
        case c2 => intro u hu; simp at hu; rcases hu with rfl | rfl | rfl <;> rfl
        case c3 => unfold maxLen; omega
        case c4 => omega
        case c5 => simp; omega
        intro v' w3 hown3 hg3 _
        have hlow := hown'.out.lt
        have r1 := (hR'.out.alloc (.cells #[.int .u8 c, .int .u8 45, .int .u8 d] 5)).grown hg3 (fun h => by have := hlow _ h.symm; omega)
        have z3 : wr.heap.size + 1 ≤ w3.heap.size := by have := hg3.size; simpa using this
        have r3 := (hbl'.out.alloc (by omega) (.cells #[.int .u8 c, .int .u8 45, .int .u8 d] 5)).grown hg3 (by simp; omega) (fun j hj => by have := hlow _ hj; omega)
        have hown4 : OwnsB w3 (w.heap.size + 1) v' (pcsNat ps ++ [c, 45, d]) := OwnsB.snocs hown3
        have r1' := Lib.hid r1
        have r3' := Lib.hid r3
        have hown4' := Lib.hid hown4
        clear hlow r1 r3 hown3 hown4 hg3 hown' hR' hbl'
        go_wp2_with fail
        refine wp_region_swap (o' := regionOps Tryd.f7 12) (by kernel_rfl) ?_
        refine bk12_wp (base := w3.heap.size) (B := w.heap.size) (S := pcsSet ps) (c := c) (d := d) ⟨by rfl, by rfl, by rfl, by rfl, r1'.out, by omega, by omega, by omega⟩ rfl ?_
        intro u W hg hSW hzW
        have hlow4 := hown4'.out.lt
        have t1 : OwnsB W (w.heap.size + 1) v' (pcsNat ps ++ [c, 45, d]) := World.ownsRow.kept hown4'.out hg (by
          cases hv : v'.ownBlock with
          | none => exact .inl rfl
          | some g => right; intro e; injection e with e; have := hlow4 _ hv; omega)
        have t3 := r3'.out.grown hg (by omega) (fun j hj => by cases hj; omega)
        have t1' := Lib.hid t1
        have t2' := Lib.hid hSW
        have t3' := Lib.hid t3
        clear hlow4 t1 t3 hSW hg r1' r3' hown4'
        rw [bk12_plan]
        simp only [putL, Act.put, List.setIfInBounds_toArray, List.set_cons_succ, List.set_cons_zero]
        go_wp2_with fail
        go_round
        case rel => exact ⟨k + 1, ps ++ [(c.toUInt8, some d.toUInt8)], by omega, by omega, by go_num, by rw [List.length_append, hlen'.out]; rfl, fun q hq => (List.mem_append.1 hq).elim (hok'.out q) (fun h => by rw [List.mem_singleton.1 h]; exact pc_ok2 c d hc1 hd1.1 hd1.2), by rw [pcsNat_snoc]; exact pc_nat2 c d hc1 hd1.1 hd1.2 ▸ t1'.out, by rw [pcsSet_snoc]; exact pc_set2 c d hc1 hd1.1 hd1.2 ▸ t2'.out, t3'.out⟩
        case measure => simp [intOf]; omega
      · have hk3' : ((k : Int) % 3 == 2) = false := by simp; omega
        go_wp2_with (at_builtin; refine wpList_append_own _ rfl _ _ 36 rfl (w.heap.size + 1) 5 i0 (.int .u8 0) 1 1 Tryd.underlying36 hi0 hz0 hz1 hz2 rfl (by decide) _ _ _ rfl (hown'.out.alloc _) ⟨wr.heap.size, 0, none⟩ 1 1 [.int .u8 c] rfl rfl ?c1 ?c2 ?c3 ?c4 ?c5 ?_)
        case c1 => exact one_new _ _ _
        case c2 => intro u hu; simp at hu; subst hu; rfl
        case c3 => unfold maxLen; omega
        case c4 => omega
        case c5 => simp; omega
        intro v' w3 hown3 hg3 _
        have hlow := hown'.out.lt
        have r1 := (hR'.out.alloc (.cells #[.int .u8 c] 5)).grown hg3 (fun h => by have := hlow _ h.symm; omega)
        have z3 : wr.heap.size + 1 ≤ w3.heap.size := by have := hg3.size; simpa using this
        have r3 := (hbl'.out.alloc (by omega) (.cells #[.int .u8 c] 5)).grown hg3 (by simp; omega) (fun j hj => by have := hlow _ hj; omega)
        have hown4 : OwnsB w3 (w.heap.size + 1) v' (pcsNat ps ++ [c]) := OwnsB.snocs hown3
        have r1' := Lib.hid r1
        have r3' := Lib.hid r3
        have hown4' := Lib.hid hown4
        clear hlow r1 r3 hown3 hown4 hg3 hown' hR' hbl'
        go_wp2_with fail
        refine wp_region_swap (o' := regionOps Tryd.f7 14) (by kernel_rfl) ?_
        refine bk14_wp (base := w3.heap.size) (B := w.heap.size) (S := pcsSet ps) (c := c) ⟨by rfl, by rfl, by rfl, r1'.out, by omega, by omega⟩ rfl ?_
        intro u W hg hSW hzW
        have hlow4 := hown4'.out.lt
        have t1 : OwnsB W (w.heap.size + 1) v' (pcsNat ps ++ [c]) := World.ownsRow.kept hown4'.out hg (by
          cases hv : v'.ownBlock with
          | none => exact .inl rfl
          | some g => right; intro e; injection e with e; have := hlow4 _ hv; omega)
        have t3 := r3'.out.grown hg (by omega) (fun j hj => by cases hj; omega)
        have t1' := Lib.hid t1
        have t2' := Lib.hid hSW
        have t3' := Lib.hid t3
        clear hlow4 t1 t3 hSW hg r1' r3' hown4'
        rw [bk14_plan]
        simp only [putL, Act.put, List.setIfInBounds_toArray, List.set_cons_succ, List.set_cons_zero]
        go_wp2_with fail
        go_round
        case rel => exact ⟨k + 1, ps ++ [(c.toUInt8, none)], by omega, by omega, by go_num, by rw [List.length_append, hlen'.out]; rfl, fun q hq => (List.mem_append.1 hq).elim (hok'.out q) (fun h => by rw [List.mem_singleton.1 h]; exact pc_ok1 c hc1 hc2), by rw [pcsNat_snoc]; exact pc_nat1 c hc1 hc2 ▸ t1'.out, by rw [pcsSet_snoc]; exact pc_set1 c hc1 hc2 ▸ t2'.out, t3'.out⟩
        case measure => simp [intOf]; omega
    · have hcase : k = s.size ∨ (k < s.size ∧ k = 40) := by omega
      clear hgo
      have hnl2 := pcsNat_lt ps
      obtain ⟨p2, cap2, rfl, hcap2, hB2, hpb2⟩ := hown'.out.hasB' hnl2
      have hnl2' := Lib.hid hnl2
      have hB2' := Lib.hid hB2
      have hpb2' := Lib.hid hpb2
      clear hnl2 hB2 hpb2
      have hpos0 : ps ≠ [] → 0 < (pcsNat ps).length := fun hps => by
        unfold pcsNat
        rw [List.length_map]
        cases ps with
        | nil => exact absurd rfl hps
        | cons q ps => have := pcTxt_len q; simp [pcsTxt]; omega
      have hzero0 : ps = [] → (pcsNat ps).length = 0 := fun hps => by rw [hps]; rfl
      generalize hnn : (pcsNat ps).length = n at hnl hcap2 hpos0 hzero0
      have hnn' := Lib.hid hnn
      clear hnn
      by_cases hps : ps = []
      case pos =>
        have hz0 := hzero0 hps
        subst hz0
        clear hpos0 hzero0
        rcases hcase with hke | ⟨hks, hke⟩
        case' inl => subst hke; clear hk
        case' inr =>
          obtain ⟨b, ob, rfl, hc, -⟩ := hasB_at hB'.out (i := k) hks
          have hke2 : 40 ≤ k := by omega
          clear hke
        all_goals
          go_wp2_with fail
          refine (awake_any (N := N) (E := E) _ (hE'.out.below hbl'.out hN) (by omega)).mono ?_
          rintro e w3 ⟨rfl, b3⟩
          have q3 := hbl'.out.trans (b3.mono (by omega))
          have q3' := Lib.hid q3
          clear q3 b3
          go_wp2_with fail
          go_ret
          exact ⟨rfl, q3'.out⟩
      case neg =>
        have hpos := hpos0 hps
        clear hpos0 hzero0
        rcases hcase with hke | ⟨hks, hke⟩
        case' inl => subst hke; clear hk
        case' inr =>
          obtain ⟨b, ob, rfl, hc, -⟩ := hasB_at hB'.out (i := k) hks
          have hke2 : 40 ≤ k := by omega
          clear hke
        all_goals
          have hownN : wr.ownsRow (w.heap.size + 1) 5 1 (.slice p2 n cap2) n (bv (pcsNat ps)) := by
            have h := hown'.out
            unfold OwnsB at h
            rw [hnn'.out] at h
            exact h
          have hownN' := Lib.hid hownN
          clear hownN
          go_wp2_with (at_builtin; refine wpList_append_own _ rfl _ _ 36 rfl (w.heap.size + 1) 5 i0 (.int .u8 0) 1 1 Tryd.underlying36 hi0 hz0 hz1 hz2 rfl (by decide) _ n _ rfl (hownN'.out.alloc _) ⟨wr.heap.size, 0, none⟩ 1 1 [.int .u8 93] rfl rfl (one_new _ _ _) (by intro u hu; simp at hu; subst hu; rfl) (by unfold maxLen; omega) (by omega) (by simp; omega) ?_; intro v3 w3 hown3 hg3 _)
          have hlow := hownN'.out.lt
          have r1 := (hR'.out.alloc (.cells #[.int .u8 93] 5)).grown hg3 (fun h => by have := hlow _ h.symm; omega)
          have z3 : wr.heap.size + 1 ≤ w3.heap.size := by have := hg3.size; simpa using this
          have r3 := (hbl'.out.alloc (by omega) (.cells #[.int .u8 93] 5)).grown hg3 (by simp; omega) (fun j hj => by have := hlow _ hj; omega)
          have hown4 : OwnsB w3 (w.heap.size + 1) v3 (pcsNat ps ++ [93]) := OwnsB.snocs (by rw [hnn'.out]; exact hown3)
          obtain ⟨p3, cap3, rfl, hcap3, hB3, -⟩ := hown4.hasB' (fun x hx => by
            rcases List.mem_append.1 hx with h | h
            · exact pcsNat_lt ps x h
            · simp at h; omega)
          have hbr := bracket_any (N := N) (E := E) p3 cap3 0 L (toB (pcsNat ps ++ [93])) w3 hB3 (hE'.out.below r3 hN) (by omega) (by rw [toB_size, List.length_append, hnn'.out]; simp; omega) (by rw [toB_size]; exact hcap3)
          rw [back_list, brk_pcs ps L hL'.out hok'.out hps, toB_size] at hbr
          have hlen3 : (pcsNat ps ++ [93]).length = n + 1 := by rw [List.length_append, hnn'.out]; rfl
          have hlen4 : (pcsTxt ps).length = n := by rw [← hnn'.out]; simp [pcsNat]
          rw [hlen3, hlen4] at hbr
          rw [hlen3]
          have hbr' := Lib.hid hbr
          have r1' := Lib.hid r1
          have r3' := Lib.hid r3
          clear hbr hlow r1 r3 hown3 hown4 hg3 hB3 hlen3 hlen4 hcap3 hR' hbl' hownN'
          refine hbr'.out.mono ?_
          rintro e w4 ⟨rfl, b4⟩
          have z4 := b4.size
          have t1 := r1'.out.below b4 (by omega)
          have t3 := r3'.out.trans (b4.mono (by omega))
          have t1' := Lib.hid t1
          have t3' := Lib.hid t3
          clear t1 t3 b4 r1' r3' hbr'
          go_wp2_with (refine store_set rfl rfl _ _ rfl _ _ rfl rfl ?_ ?_; (focus (apply Exists.intro; (repeat' (first | (with_reducible assumption) | (with_reducible apply IsSet.zero'; first | (with_reducible rfl) | (simp only [World.size_alloc]; done)) | (with_reducible apply IsSet.new'; first | (with_reducible rfl) | (simp only [World.size_alloc]; done)) | (with_reducible apply IsSet.sv; first | (with_reducible rfl) | (simp only [World.size_alloc]; done)) | (with_reducible apply IsSet.viaG; with_reducible assumption) | (with_reducible apply IsSet.viaB; with_reducible assumption) | (with_reducible apply IsSet.drew) | (with_reducible apply IsSet.store4) | (with_reducible apply IsSet.set_other) | (with_reducible apply IsSet.alloc) | (simp only [World.size_alloc]; omega) | omega | (simp; omega) | (simp; done))); done)); intro wX hX gX zX; (try simp only [World.size_alloc] at zX))
          have y6 := (t1'.out.alloc (.cells #[.int .u64 0, .int .u64 0, .int .u64 0, .int .u64 0] 24)).grown gX (fun e => by injection e with e; have := t1'.out.lt; omega)
          have y3 := (t3'.out.alloc (by omega) (.cells #[.int .u64 0, .int .u64 0, .int .u64 0, .int .u64 0] 24)).grown gX (by simp; omega) (fun j hj => by cases hj; omega)
          have y6' := Lib.hid y6
          have y3' := Lib.hid y3
          have hX' := Lib.hid hX
          have hw6 : w.heap.size < wX.heap.size := y6.lt
          have hw10 : w4.heap.size < wX.heap.size := hX.lt
          obtain ⟨t, ht⟩ : ∃ t : ByteArray, t = ⟨(txt (pcsSet ps)).toArray⟩ := ⟨_, rfl⟩
          have hT1 := Lib.hid (show ∀ W, Calls Tryd.prog 35 #[sv (pcsSet ps)] W fun e w' => e = .returned (.string t) ∧ Below W.heap.size W w' from fun W => by rw [ht]; exact Text_any (pcsSet ps) (ok_pcs ps) W)
          clear ht y6 y3 hX gX t1' t3'
          refine wp_region_swap (o' := regionOps Tryd.f7 19) (by kernel_rfl) ?_
          refine bk19_wp (base := wX.heap.size) (B6 := w.heap.size) (B10 := w4.heap.size) (S := pcsSet ps) (n := n) (cap := cap2) (p := p2) (N := N) (E := E) (t := t) ⟨by rfl, by rfl, by rfl, by rfl, by rfl, by rfl, y6'.out, hX'.out, hw6, hw10, ok_pcs ps, by omega, hT1.out, hE'.out.below y3'.out hN, by omega⟩ (Nat.le_refl _) ?_
          intro u W e24 bW hszW
          have j4 := y3'.out.trans (bW.mono (by omega))
          rw [bk19_plan]
          simp only [putL, Act.put, List.setIfInBounds_toArray, List.set_cons_succ, List.set_cons_zero, e24]
          go_wp2_with fail
          go_ret
          exact ⟨rfl, j4⟩
end Go.Proofs.YteeopjgfiojoiaaDoor
