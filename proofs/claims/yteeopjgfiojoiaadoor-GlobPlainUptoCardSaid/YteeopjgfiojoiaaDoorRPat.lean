/- pidginref5.Pattern, equal to the plain law of patterns. Conditions: the bytes lie in memory. -/
import Derived.Test.YteeopjgfiojoiaaDoorRBrk
import Derived.Test.YteeopjgfiojoiaaDoorGlobA
import Derived.Test.YteeopjgfiojoiaaDoorWTurned
import Derived.WalkMore
import Derived.Handy
import Derived.Outline
namespace Go.Proofs.YteeopjgfiojoiaaDoor
open Go Go.RowKit SN

/-- One piece, behind a row of pieces that the call owns. -/
theorem append_pc {w : World} {ops : Array Oper} {rest : List Oper} {o : Oper} {a : Act} {Q : Exit → Act → World → Prop} (hgd : o.guard = none) (s x : Operand)
    (ho : o.op = .call { callee := .builtin .append, args := #[s, x], argTypes := #[55, 55] })
    (base : Nat) (v : Value) (ps : List Pie) (hs : a.eval s = v) (hown : w.ownsRow base 58 5 v ps.length (pvs ps)) (p : Pie) (b : Nat) (hx : a.eval x = .slice (some ⟨b, 0, none⟩) 1 1) (hrow : w.heap[b]? = some (.cells (pcl p) 58 (0, 0)))
    (hsm : ps.length ≤ 10000) (hbase : base ≤ w.heap.size)
    (h : ∀ v' w', w'.ownsRow base 58 5 v' (ps ++ [p]).length (pvs (ps ++ [p])) → w.grownBy w' v.ownBlock → wpList Tryd.prog ops Q rest (a.put o.dst v') w') : wpList Tryd.prog ops Q (o :: rest) a w := by
  obtain ⟨i0, hi0, hz0, hz1, hz2⟩ := info_parts info_pc
  refine wpList_append_own w hgd s x 55 ho base 58 i0 (.agg #[.int .i64 0, .int .u64 0, .int .u64 0, .int .u64 0, .int .u64 0]) 5 40 Tryd.underlying55 hi0 hz0 hz1 hz2 rfl (by decide) v ps.length (pvs ps) hs hown ⟨b, 0, none⟩ 1 1 (pcl p).toList hx rfl ?_ (pc_ones p) (by unfold maxLen; omega) (by omega) hbase ?_
  · intro j u hu
    have hadd : (⟨b, 0, none⟩ : Addr).add j = ⟨b, j, none⟩ := by unfold Addr.add; split <;> simp_all
    rw [hadd, cell_of_row _ _ _ _ _ _ hrow]
    simpa using hu
  · intro v' w' h2 h3 _
    refine h v' w' ?_ h3
    rw [pvs_snoc, List.length_append]
    exact h2
theorem r5add0 (c : Nat) (hc : c < 256) (w : World) : Calls Tryd.prog 21 #[.agg #[.int .u64 0, .int .u64 0, .int .u64 0, .int .u64 0], .int .u8 c] w fun e w' => e = .returned (.agg #[.int .u64 (word (oneP c.toUInt8).set 0), .int .u64 (word (oneP c.toUInt8).set 1), .int .u64 (word (oneP c.toUInt8).set 2), .int .u64 (word (oneP c.toUInt8).set 3)]) ∧ Below w.heap.size w w' := by
  have h := r5Add_any 0 c hc w
  have e : (oneP c.toUInt8).set = add 0 c := by
    show add 0 (c.toUInt8).toNat = _
    rw [show (c.toUInt8).toNat = c by simp; omega]
  rw [e]
  exact h
theorem ret_tf {fn : Func} {q r : Tmp} {R : Ending → World → Prop} {a : Act} {w : World} {C : Nat} {u : Value} {c0 c1 c2 : Int} (h : fn.results = #[.tmp q, .cell r 62]) (hd : a.defers = [])
    (hq : a.tmps.getD q undef = u) (hr : a.tmps.getD r undef = .pointer (some ⟨C, 0, none⟩)) (hF : IsF w C c0 c1 c2)
    (hR : R (.returned (.tuple #[u, fv c0 c1 c2])) w) : bodyPost Tryd.prog fn R .ret a w := by
  have hq' : a.tmps[q]?.getD undef = u := by simpa using hq
  have hr' : a.tmps[r]?.getD undef = .pointer (some ⟨C, 0, none⟩) := by simpa using hr
  refine bodyPost_ret (v := .tuple #[u, fv c0 c1 c2]) ?_ hd hR
  have hl2 := run_loadVar_row (P := Tryd.prog) w C 62 62 (fc c0 c1 c2) (0, 0) _ hF Tryd.underlying62 (by rfl) (by rw [size3]; rfl)
  simp [results, h, hq', hr', asAddr, hl2]
  rfl
set_option maxHeartbeats 1000000 in
set_option maxRecDepth 100000 in
theorem r5pat_long (p : Option Addr) (n cap : Nat) (w : World) (hs : 256 < n) :
    Calls Tryd.prog 47 #[.slice p n cap] w fun e w' => e = .returned (.tuple #[.slice none 0 0, fv 2 0 2]) ∧ Below w.heap.size w w' := by
  have hl : (256 : Int) < (n : Int) := by omega
  go_enter Tryd.func47, Tryd.ntmps47
  go_wp2_with fail
  refine (r1F_any _ _ _ _).mono ?_
  rintro e w1 ⟨rfl, b1⟩
  have i1 : IsF w1 w.heap.size 0 0 0 := row_below (heap_alloc_new w _) b1 (by simp)
  have y1 := ((Below.refl w.heap.size w).alloc (Nat.le_refl _) (.cells #[.int .i64 0, .int .i64 0, .int .i64 0] 62)).trans (b1.mono (by simp))
  clear b1
  go_wp2_with (first | (refine store_flt rfl rfl _ _ rfl _ 2 0 2 0 0 0 rfl rfl i1 ?_; intro wY hY gY zY))
  refine ret_tf rfl rfl rfl rfl hY ⟨rfl, y1.grown gY (by have := row_lt i1; omega) (fun k hk => by cases hk; exact Nat.le_refl _)⟩
set_option maxHeartbeats 4000000 in
set_option maxRecDepth 100000 in
theorem r5pat_any (p : Option Addr) (s : ByteArray) (cap : Nat) (w : World) (hS : HasB w p s) (hs : s.size ≤ 256) (hcap : s.size ≤ cap) :
    Calls Tryd.prog 47 #[.slice p s.size cap] w fun e w' => ∃ v, e = .returned (.tuple #[v, fv 0 0 0]) ∧ w'.ownsRow (w.heap.size + 1) 58 5 v (pt s.data.toList).length (pvs (pt s.data.toList)) ∧ Below w.heap.size w w' := by
  have hS' := Lib.hid hS
  obtain ⟨l, hl⟩ : ∃ l, l = s.data.toList := ⟨_, rfl⟩
  have hlen : l.length = s.size := by rw [hl]; simp
  have hget : ∀ k, (hk : k < s.size) → l[k]? = some s[k] := fun k hk => by rw [hl, Array.getElem?_toList]; exact Array.getElem?_eq_getElem hk
  have hbr := fun (i : Int) (W : World) (hb : Below w.heap.size w W) => rbrk_any p cap i 2 s W (hS'.out.below hb (Nat.le_refl _)) (by omega) hcap
  have hcell := fun (k : Nat) (hk : k < s.size) (W : World) (hb : Below w.heap.size w W) => hasB_at (hS'.out.below hb (Nat.le_refl _)) (i := k) hk
  rw [← hl] at hbr
  rw [← hl]
  have hlen' := Lib.hid hlen
  have hget' := Lib.hid hget
  have hbr' := Lib.hid hbr
  have hcell' := Lib.hid hcell
  clear hS hl hlen hget hbr hcell
  go_enter Tryd.func47, Tryd.ntmps47
  go_wp2_with fail
  have i1 : IsF (w.alloc (.cells #[.int .i64 0, .int .i64 0, .int .i64 0] 62)) w.heap.size 0 0 0 := heap_alloc_new w _
  have b1 := (Below.refl w.heap.size w).alloc (Nat.le_refl _) (.cells #[.int .i64 0, .int .i64 0, .int .i64 0] 62)
  have i1' := Lib.hid i1
  have b1' := Lib.hid b1
  clear i1 b1
  go_loopw [5, 4] (fun i v wr => ∃ (k : Nat) (ps : List Pie), k ≤ s.size ∧ i = .int .i64 k ∧ PtAt l ps k ∧ wr.ownsRow (w.heap.size + 1) 58 5 v ps.length (pvs ps) ∧ IsF wr w.heap.size 0 0 0 ∧ Below w.heap.size w wr) (fun i _ _ => s.size - (intOf i).toNat)
  case atStart => exact ⟨0, [], Nat.zero_le _, rfl, by simp [PtAt], World.ownsRow_nil _ _ _ _, i1'.out, b1'.out⟩
  case round =>
    clear i1' b1'
    obtain ⟨k, ps, hk, rfl, hP, hown, hF, hbl⟩ := hrel
    have hpl := ptAt_len hP
    rw [hlen'.out] at hpl
    have hP' := Lib.hid hP
    have hbl' := Lib.hid hbl
    have hown' := Lib.hid hown
    have hF' := Lib.hid hF
    have hlow' := Lib.hid hown.lt
    have hlw : w.heap.size < wr.heap.size := row_lt hF
    clear hP hbl hown hF
    by_cases hlt : k < s.size
    · obtain ⟨b, o, rfl, hc, -⟩ := hcell'.out k hlt wr hbl'.out
      have hx := (s[k]).toNat_lt
      have hgk := hget'.out k hlt
      obtain ⟨c, hce⟩ : ∃ c, c = (s[k]).toNat := ⟨_, rfl⟩
      have hcu : s[k] = c.toUInt8 := by rw [hce]; simp
      rw [hcu] at hgk
      rw [← hce] at hc hx
      have hd' := Lib.hid (pt_drop hgk)
      clear hgk hce hcu
      by_cases h42 : c = 42
      · subst h42
        go_wp2_with (at_builtin; refine append_pc rfl _ _ rfl (w.heap.size + 1) _ ps rfl (hown'.out.alloc _) ⟨3, 0⟩ _ rfl (heap_alloc_new _ _) (by omega) (by simp; omega) ?_)
        intro v1 w1 own1 hg1
        have f1 := Lib.hid (row_grown (row_alloc hF'.out (.cells #[.int .i64 3, .int .u64 0, .int .u64 0, .int .u64 0, .int .u64 0] 58)) hg1 (fun e => by have := hlow'.out _ e.symm; omega))
        have y1 := Lib.hid ((hbl'.out.alloc (by omega) (.cells #[.int .i64 3, .int .u64 0, .int .u64 0, .int .u64 0, .int .u64 0] 58)).grown hg1 (by simp; omega) (fun j hj => by have := hlow'.out _ hj; omega))
        have own1' := Lib.hid (show w1.ownsRow (w.heap.size + 1) 58 5 v1 (ps ++ [(⟨3, 0⟩ : Pie)]).length (pvs (ps ++ [⟨3, 0⟩])) by rw [List.length_append]; exact own1)
        clear own1 hg1
        go_wp2_with fail
        go_round
        case rel => exact ⟨k + 1, _, by omega, by go_num, ptAt_one hP'.out (by rw [hd'.out]; exact pt_many _), own1'.out, f1.out, y1.out⟩
        case measure => simp [intOf]; omega
      by_cases h63 : c = 63
      · subst h63
        go_wp2_with (at_builtin; refine append_pc rfl _ _ rfl (w.heap.size + 1) _ ps rfl (hown'.out.alloc _) ⟨2, 0⟩ _ rfl (heap_alloc_new _ _) (by omega) (by simp; omega) ?_)
        intro v1 w1 own1 hg1
        have f1 := Lib.hid (row_grown (row_alloc hF'.out (.cells #[.int .i64 2, .int .u64 0, .int .u64 0, .int .u64 0, .int .u64 0] 58)) hg1 (fun e => by have := hlow'.out _ e.symm; omega))
        have y1 := Lib.hid ((hbl'.out.alloc (by omega) (.cells #[.int .i64 2, .int .u64 0, .int .u64 0, .int .u64 0, .int .u64 0] 58)).grown hg1 (by simp; omega) (fun j hj => by have := hlow'.out _ hj; omega))
        have own1' := Lib.hid (show w1.ownsRow (w.heap.size + 1) 58 5 v1 (ps ++ [(⟨2, 0⟩ : Pie)]).length (pvs (ps ++ [⟨2, 0⟩])) by rw [List.length_append]; exact own1)
        clear own1 hg1
        go_wp2_with fail
        go_round
        case rel => exact ⟨k + 1, _, by omega, by go_num, ptAt_one hP'.out (by rw [hd'.out]; exact pt_any _), own1'.out, f1.out, y1.out⟩
        case measure => simp [intOf]; omega
      by_cases h91 : c = 91
      · subst h91
        clear h42 h63
        have hbk : brk l ((k : Int) + 1) 2 = shRn (k + 1) (brk (l.drop (k + 1)) 0 2) := (congrArg (fun i => brk l i 2) (by omega : (k : Int) + 1 = ((k + 1 : Nat) : Int))).trans (brk_drop l (k + 1) (by rw [hlen'.out]; omega))
        have h1 := hbr'.out ((k : Int) + 1) wr hbl'.out
        rw [hbk] at h1
        clear hbk
        have hcd := fun c q (hr : brk (l.drop (k + 1)) 0 2 = .err c q) => brk_code hr
        cases hr : brk (l.drop (k + 1)) 0 2 with
        | err cc q =>
          rw [hr] at h1
          have hcc := hcd _ _ hr
          have hr' := Lib.hid hr
          obtain ⟨q2, h1⟩ : ∃ q2 : Nat, Calls Tryd.prog 43 #[.slice (some ⟨b, o, none⟩) s.size cap, .int .i64 ((k : Int) + 1), .int .i64 2] wr fun e w' => e = .returned (.tuple #[sv 0, .int .i64 0, fv (cc : Nat) (q2 : Nat) 2]) ∧ Below wr.heap.size wr w' := ⟨_, h1⟩
          have h1' := Lib.hid h1
          have hc0 : ((cc : Int) == 0) = false := by rcases hcc with rfl | rfl | rfl <;> rfl
          clear hr h1 hcd hcc
          go_wp2_with fail
          refine h1'.out.mono ?_
          rintro e w1 ⟨rfl, b1⟩
          have z1 := b1.size
          have q1 := (rb_start w1).1
          have q2' := (rb_start w1).2.1
          have q3 := (rb_start w1).2.2.1
          have q4 := (rb_start w1).2.2.2
          go_wp2_with (first | (refine store_set rfl rfl _ _ rfl _ 0 rfl rfl ⟨0, q1⟩ ?_; intro wX hX gX zX; have hFX := row_grown q2' gX (fun e => by injection e; omega)) | (refine store_flt rfl rfl _ _ rfl _ _ _ _ 0 0 0 rfl rfl hFX ?_; intro wY hY gY zY; have hY0 : wY.cell? ⟨w1.heap.size + 1, 0, none⟩ = some (.int .i64 (cc : Nat)) := row_cell hY rfl))
          refine (r5add0 91 (by decide) wY).mono ?_
          rintro e w2 ⟨rfl, b2⟩
          have lX := hX.lt
          have lF := row_lt hFX
          have bY : Below w1.heap.size w1 wY := (q3.grown gX (by omega) (fun k hk => by cases hk; exact Nat.le_refl _)).grown gY (by omega) (fun k hk => by cases hk; omega)
          have zY2 := bY.size
          have bZ : Below wr.heap.size wr w2 := (b1.trans (bY.mono z1)).trans (b2.mono (by omega))
          clear bY b1 b2 hY0 hY hX gX gY hFX q1 q2' q3 q4 lX lF
          have own2' := Lib.hid (own_below hown'.out bZ (Nat.le_refl _))
          have F2 := Lib.hid (row_below hF'.out bZ hlw)
          have y2 := Lib.hid (hbl'.out.trans (bZ.mono (by omega)))
          have low2 := Lib.hid own2'.out.lt
          have zz2 := bZ.size
          clear bZ
          go_wp2_with (at_builtin; refine append_pc rfl _ _ rfl (w.heap.size + 1) _ ps rfl (own2'.out.alloc _) (oneP (91 : Nat).toUInt8) _ rfl (heap_alloc_new _ _) (by omega) (by simp; omega) ?_)
          intro v1 w5 own1 hg1
          have f1 := Lib.hid (row_grown (row_alloc F2.out _) hg1 (fun e => by have := low2.out _ e.symm; omega))
          have y3 := Lib.hid ((y2.out.alloc (by omega) _).grown hg1 (by simp; omega) (fun j hj => by have := low2.out _ hj; omega))
          have own1' := Lib.hid (show w5.ownsRow (w.heap.size + 1) 58 5 v1 (ps ++ [(oneP (91 : Nat).toUInt8 : Pie)]).length (pvs (ps ++ [oneP (91 : Nat).toUInt8])) by rw [List.length_append]; exact own1)
          clear own1 hg1
          go_wp2_with fail
          go_round
          case rel => exact ⟨k + 1, _, by omega, by go_num, ptAt_one hP'.out (by rw [hd'.out]; exact pt_open _ _ _ hr'.out), own1'.out, f1.out, y3.out⟩
          case measure => simp [intOf]; omega
        | ok S n =>
          rw [hr] at h1
          have hn := brk_le _ _ _ _ _ hr
          rw [List.length_drop, hlen'.out] at hn
          have hr' := Lib.hid hr
          have h1' := Lib.hid h1
          clear hr h1 hcd
          go_wp2_with fail
          refine h1'.out.mono ?_
          rintro e w1 ⟨rfl, b1⟩
          have z1 := b1.size
          have q1 := (rb_start w1).1
          have q2' := (rb_start w1).2.1
          have q3 := (rb_start w1).2.2.1
          have q4 := (rb_start w1).2.2.2
          go_upto_region 15 with (first | (refine store_set rfl rfl _ _ rfl _ S rfl rfl ⟨0, q1⟩ ?_; intro wX hX gX zX; have hFX := row_grown q2' gX (fun e => by injection e; omega)) | (refine store_flt rfl rfl _ _ rfl _ 0 0 0 0 0 0 rfl rfl hFX ?_; intro wY hY gY zY; have hY0 : wY.cell? ⟨w1.heap.size + 1, 0, none⟩ = some (.int .i64 0) := row_cell hY rfl))
          have lX := hX.lt
          have lF := row_lt hFX
          have bY : Below w1.heap.size w1 wY := (q3.grown gX (by omega) (fun k hk => by cases hk; exact Nat.le_refl _)).grown gY (by omega) (fun k hk => by cases hk; omega)
          have zY2 := bY.size
          have hXY := hX.grown gY (fun e => by injection e; omega)
          have hs0 : wY.cell? ⟨w1.heap.size, 0, none⟩ = some (.int .u64 (word S 0)) := row_cell hXY rfl
          have hs1 : wY.cell? ⟨w1.heap.size, 1, none⟩ = some (.int .u64 (word S 1)) := row_cell hXY rfl
          have hs2 : wY.cell? ⟨w1.heap.size, 2, none⟩ = some (.int .u64 (word S 2)) := row_cell hXY rfl
          have hs3 : wY.cell? ⟨w1.heap.size, 3, none⟩ = some (.int .u64 (word S 3)) := row_cell hXY rfl
          have lX2 := hXY.lt
          have bZ : Below wr.heap.size wr wY := b1.trans (bY.mono z1)
          clear bY b1 hY0 hY hX gX gY hFX q1 q2' q3 q4 lX lF hXY zX zY
          have own2' := Lib.hid (own_below hown'.out bZ (Nat.le_refl _))
          have F2 := Lib.hid (row_below hF'.out bZ hlw)
          have y2 := Lib.hid (hbl'.out.trans (bZ.mono (by omega)))
          have low2 := Lib.hid own2'.out.lt
          have zz2 := bZ.size
          clear bZ
          go_wp2_with (at_builtin; refine append_pc (w := wY.alloc (.cells (pcl ⟨1, S⟩) 58)) rfl _ _ rfl (w.heap.size + 1) _ ps rfl (own2'.out.alloc _) ⟨1, S⟩ _ rfl (heap_alloc_new wY _) (by omega) (by rw [World.size_alloc]; omega) ?_)
          intro v1 w5 own1 hg1
          have f1 := Lib.hid (row_grown (row_alloc F2.out _) hg1 (fun e => by have := low2.out _ e.symm; omega))
          have y3 := Lib.hid ((y2.out.alloc (by omega) _).grown hg1 (by simp; omega) (fun j hj => by have := low2.out _ hj; omega))
          have own1' := Lib.hid (show w5.ownsRow (w.heap.size + 1) 58 5 v1 (ps ++ [(⟨1, S⟩ : Pie)]).length (pvs (ps ++ [⟨1, S⟩])) by rw [List.length_append]; exact own1)
          clear own1 hg1
          go_wp2_with fail
          go_round
          case rel => exact ⟨n + (k + 1), _, by omega, by go_num, ptAt_one hP'.out (by rw [hd'.out]; exact (pt_set _ _ _ hr'.out).trans (by rw [List.drop_drop, Nat.add_comm (k + 1) n])), own1'.out, f1.out, y3.out⟩
          case measure => simp [intOf]; omega
      by_cases h92 : c = 92
      · subst h92
        clear h42 h63 h91
        by_cases hlt2 : k + 1 < s.size
        · obtain ⟨b', o', eq', hc2, -⟩ := hcell'.out (k + 1) hlt2 wr hbl'.out
          cases eq'
          have hx2 := (s[k + 1]).toNat_lt
          have hgk2 := hget'.out (k + 1) hlt2
          obtain ⟨d, hde⟩ : ∃ d, d = (s[k + 1]).toNat := ⟨_, rfl⟩
          have hdu : s[k + 1] = d.toUInt8 := by rw [hde]; simp
          rw [hdu] at hgk2
          rw [← hde] at hc2 hx2
          have hd2 := Lib.hid (pt_drop hgk2)
          clear hgk2 hdu hde
          have hk0 : (0 : Int) ≤ (k : Int) + 1 := by omega
          have hltI : (k : Int) + 1 < (s.size : Int) := by omega
          go_wp2_with fail
          refine (r5add0 d hx2 wr).mono ?_
          rintro e w2 ⟨rfl, bZ⟩
          have own2' := Lib.hid (own_below hown'.out bZ (Nat.le_refl _))
          have F2 := Lib.hid (row_below hF'.out bZ hlw)
          have y2 := Lib.hid (hbl'.out.trans (bZ.mono (by omega)))
          have low2 := Lib.hid own2'.out.lt
          have zz2 := bZ.size
          clear bZ
          go_wp2_with (at_builtin; refine append_pc rfl _ _ rfl (w.heap.size + 1) _ ps rfl (own2'.out.alloc _) (oneP d.toUInt8) _ rfl (heap_alloc_new _ _) (by omega) (by simp; omega) ?_)
          intro v1 w5 own1 hg1
          have f1 := Lib.hid (row_grown (row_alloc F2.out _) hg1 (fun e => by have := low2.out _ e.symm; omega))
          have y3 := Lib.hid ((y2.out.alloc (by omega) _).grown hg1 (by simp; omega) (fun j hj => by have := low2.out _ hj; omega))
          have own1' := Lib.hid (show w5.ownsRow (w.heap.size + 1) 58 5 v1 (ps ++ [(oneP d.toUInt8 : Pie)]).length (pvs (ps ++ [oneP d.toUInt8])) by rw [List.length_append]; exact own1)
          clear own1 hg1
          go_wp2_with fail
          go_round
          case rel => exact ⟨k + 2, _, by omega, by go_num, ptAt_one hP'.out (by rw [hd'.out, hd2.out]; exact pt_quoted _ _), own1'.out, f1.out, y3.out⟩
          case measure => simp [intOf]; omega
        · have hke : k + 1 = s.size := by omega
          have hltI : ¬ (k : Int) + 1 < (s.size : Int) := by omega
          have hdn' := Lib.hid (show l.drop (k + 1) = [] from List.drop_eq_nil_of_le (by rw [hlen'.out]; omega))
          go_wp2_with fail
          refine (r5add0 92 (by decide) wr).mono ?_
          rintro e w2 ⟨rfl, bZ⟩
          have own2' := Lib.hid (own_below hown'.out bZ (Nat.le_refl _))
          have F2 := Lib.hid (row_below hF'.out bZ hlw)
          have y2 := Lib.hid (hbl'.out.trans (bZ.mono (by omega)))
          have low2 := Lib.hid own2'.out.lt
          have zz2 := bZ.size
          clear bZ
          go_wp2_with (at_builtin; refine append_pc rfl _ _ rfl (w.heap.size + 1) _ ps rfl (own2'.out.alloc _) (oneP (92 : Nat).toUInt8) _ rfl (heap_alloc_new _ _) (by omega) (by simp; omega) ?_)
          intro v1 w5 own1 hg1
          have f1 := Lib.hid (row_grown (row_alloc F2.out _) hg1 (fun e => by have := low2.out _ e.symm; omega))
          have y3 := Lib.hid ((y2.out.alloc (by omega) _).grown hg1 (by simp; omega) (fun j hj => by have := low2.out _ hj; omega))
          have own1' := Lib.hid (show w5.ownsRow (w.heap.size + 1) 58 5 v1 (ps ++ [(oneP (92 : Nat).toUInt8 : Pie)]).length (pvs (ps ++ [oneP (92 : Nat).toUInt8])) by rw [List.length_append]; exact own1)
          clear own1 hg1
          go_wp2_with fail
          go_round
          case rel => exact ⟨k + 1, _, by omega, by go_num, ptAt_one hP'.out (by rw [hd'.out, hdn'.out]; exact pt_end), own1'.out, f1.out, y3.out⟩
          case measure => simp [intOf]; omega
      have e42 : ((c : Int) == 42) = false := by simp; omega
      have e63 : ((c : Int) == 63) = false := by simp; omega
      have e91 : ((c : Int) == 91) = false := by simp; omega
      have e92 : ((c : Int) == 92) = false := by simp; omega
      have hel := Lib.hid (pt_else c.toUInt8 (l.drop (k + 1)) (u8_ne c 42 hx h42) (u8_ne c 63 hx h63) (u8_ne c 91 hx h91) (u8_ne c 92 hx h92))
      clear h42 h63 h91 h92
      go_wp2_with fail
      refine (r5add0 c hx wr).mono ?_
      rintro e w2 ⟨rfl, bZ⟩
      have own2' := Lib.hid (own_below hown'.out bZ (Nat.le_refl _))
      have F2 := Lib.hid (row_below hF'.out bZ hlw)
      have y2 := Lib.hid (hbl'.out.trans (bZ.mono (by omega)))
      have low2 := Lib.hid own2'.out.lt
      have zz2 := bZ.size
      clear bZ
      go_wp2_with (at_builtin; refine append_pc rfl _ _ rfl (w.heap.size + 1) _ ps rfl (own2'.out.alloc _) (oneP c.toUInt8) _ rfl (heap_alloc_new _ _) (by omega) (by simp; omega) ?_)
      intro v1 w5 own1 hg1
      have f1 := Lib.hid (row_grown (row_alloc F2.out _) hg1 (fun e => by have := low2.out _ e.symm; omega))
      have y3 := Lib.hid ((y2.out.alloc (by omega) _).grown hg1 (by simp; omega) (fun j hj => by have := low2.out _ hj; omega))
      have own1' := Lib.hid (show w5.ownsRow (w.heap.size + 1) 58 5 v1 (ps ++ [(oneP c.toUInt8 : Pie)]).length (pvs (ps ++ [oneP c.toUInt8])) by rw [List.length_append]; exact own1)
      clear own1 hg1
      go_wp2_with fail
      go_round
      case rel => exact ⟨k + 1, _, by omega, by go_num, ptAt_one hP'.out (by rw [hd'.out]; exact hel.out), own1'.out, f1.out, y3.out⟩
      case measure => simp [intOf]; omega
    · have hke : k = s.size := by omega
      subst hke
      have hps : pt l = ps := by
        have h := hP'.out
        unfold PtAt at h
        rw [h, List.drop_eq_nil_of_le (Nat.le_of_eq hlen'.out), pt_nil, List.append_nil]
      have hI' := Lib.hid (show wr.ownsRow (w.heap.size + 1) 58 5 _ (pt l).length (pvs (pt l)) by rw [hps]; exact hown'.out)
      clear hps
      have hF := hF'.out
      go_wp2_with (first | (refine store_flt rfl rfl _ _ rfl _ 0 0 0 0 0 0 rfl rfl hF ?_; intro wY hY gY zY))
      refine ret_tf rfl rfl rfl rfl hY ⟨_, rfl, ?_, ?_⟩
      · exact hI'.out.kept gY (Or.inr (fun e => by have := hI'.out.lt _ e; omega))
      · exact hbl'.out.grown gY (by omega) (fun k hk => by cases hk; exact Nat.le_refl _)
end Go.Proofs.YteeopjgfiojoiaaDoor
