/- The document's place: a path of the row, that of its directory, or a fault. Conditions: the tree lies in memory. -/
import Derived.Test.YtfnaooplpofgiaaGreatDoorKRAt
import Derived.StillTailTactics
import Derived.BigQuiet
import Derived.WalkMore
import Derived.OwnWalk
import Derived.Handy
import Derived.Outline
namespace Go.Proofs.YtfnaooplpofgiaaGreatDoor
open Go Go.RowKit SN

/-- Is there a directory at a path of the row? -/
def dirAt (L : DRow) (D : Nat → Option DN) (p : List UInt8) : Bool := match lookE L p with | none => false | some B => match D B with | none => false | some nd => nd.dir
def wayOk (L : DRow) (D : Nat → Option DN) (l : List (List UInt8)) (j : Nat) : Bool := (List.range j).all fun i => dirAt L D (joinD (l.take i))
def placeD (L : DRow) (D : Nat → Option DN) (p : List UInt8) : Nat ⊕ (List UInt8 × List UInt8) := match cleanP p with
  | none => .inl 15
  | some l => if wayOk L D l l.length then .inr (joinD l, joinD (l.take (l.length - 1))) else .inl 16
def PlR (w0 : World) (r : Nat ⊕ (List UInt8 × List UInt8)) (e : Ending) (w' : World) : Prop := Below w0.heap.size w0 w' ∧ match r with
  | .inl c => e = .returned (.tuple #[.string ⟨#[]⟩, .string ⟨#[]⟩, fv c 0 11])
  | .inr (p, d) => e = .returned (.tuple #[.string ⟨p.toArray⟩, .string ⟨d.toArray⟩, fv 0 0 0])
theorem wayOk_succ (L : DRow) (D : Nat → Option DN) (l : List (List UInt8)) (j : Nat) : wayOk L D l (j + 1) = (wayOk L D l j && dirAt L D (joinD (l.take j))) := by
  unfold wayOk
  rw [List.range_succ, List.all_append]
  simp
theorem wayOk_no {L : DRow} {D : Nat → Option DN} {l : List (List UInt8)} {j k : Nat} (h : dirAt L D (joinD (l.take j)) = false) (hk : j < k) : wayOk L D l k = false := by
  unfold wayOk
  rw [Bool.eq_false_iff]
  intro h2
  rw [List.all_eq_true] at h2
  rw [h2 j (List.mem_range.2 hk)] at h
  cases h
theorem ret_ssf {fn : Func} {p1 p2 q : Tmp} {R : Ending → World → Prop} {a : Act} {w : World} {B : Nat} {v1 v2 : Value} {c k l : Int} (h : fn.results = #[.tmp p1, .tmp p2, .cell q 28]) (hd : a.defers = []) (h1 : a.tmps.getD p1 undef = v1) (h2 : a.tmps.getD p2 undef = v2)
    (hq : a.tmps.getD q undef = .pointer (some ⟨B, 0, none⟩)) (hS : IsF w B c k l) (hR : R (.returned (.tuple #[v1, v2, fv c k l])) w) : bodyPost Tryz.prog fn R .ret a w := by
  have h1' : a.tmps[p1]?.getD undef = v1 := by simpa using h1
  have h2' : a.tmps[p2]?.getD undef = v2 := by simpa using h2
  have hq' : a.tmps[q]?.getD undef = .pointer (some ⟨B, 0, none⟩) := by simpa using hq
  refine bodyPost_ret (v := .tuple #[v1, v2, fv c k l]) ?_ hd hR
  have hl := run_loadVar_row (P := Tryz.prog) w B 28 28 (fc c k l) (0, 0) _ hS Tryz.underlying28 (by rfl) (by rw [size3]; rfl)
  simp [results, h, h1', h2', hq', asAddr, hl, fv, fc]
set_option maxHeartbeats 1000000 in
set_option maxRecDepth 100000 in
theorem rplace_name (m : Nat) (s : ByteArray) (w : World) (hc : cleanP s.data.toList = none) : Calls Tryz.prog 46 #[.pointer (some ⟨m, 0, none⟩), .string s] w (PlR w (.inl 15)) := by
  have hz := Lib.hid (zF w)
  have hc' := Lib.hid hc
  clear hc
  go_enter Tryz.func46, Tryz.ntmps46
  go_wp2_with fail
  refine (rclean_any s _).mono ?_
  rw [hc'.out]
  rintro e w1 ⟨b1, rfl⟩
  have h1 := Lib.hid (row_below hz.out b1 (by simp))
  have b2 := Lib.hid (((Below.refl w.heap.size w).alloc (Nat.le_refl _) (.cells #[.int .i64 0, .int .i64 0, .int .i64 0] 28)).trans (b1.mono (by simp)))
  have z1 := b1.size
  rw [World.size_alloc] at z1
  clear b1
  go_wp2_with fail
  refine (rfault_any 15 _).mono ?_
  rintro e w3 ⟨rfl, b3⟩
  have h3 := Lib.hid (row_below h1.out b3 (by omega))
  have b4 := Lib.hid (b2.out.trans (b3.mono (by omega)))
  have z3 := b3.size
  clear b3
  go_wp2_with (refine store_flt rfl rfl _ _ rfl _ 15 0 11 0 0 0 rfl rfl h3.out ?_; intro w2 h2 g2 z2)
  exact ret_ssf rfl rfl rfl rfl rfl h2 ⟨b4.out.grown g2 (by omega) (fun k hk => by cases hk; exact Nat.le_refl _), rfl⟩
theorem IsOps.take {w : World} {p : Option Addr} {n c : Nat} {l : List ByteArray} (h : IsOps w (.slice p n c) l) (k : Nat) (hk : k ≤ n) : IsOps w (.slice p k c) (l.take k) := by
  obtain ⟨p', c', e, hc, hR⟩ := h
  injection e with e1 e2 e3
  subst e1 e2 e3
  have e : (l.take k).length = k := by rw [List.length_take]; omega
  refine ⟨p, c, by rw [e], by rw [e]; omega, ?_⟩
  rcases hR with rfl | ⟨b, rfl, hb, hRow⟩
  · exact .inl (by simp)
  · refine .inr ⟨b, rfl, hb, fun i s hs => hRow i s ?_⟩
    rw [List.getElem?_take] at hs
    split at hs
    · exact hs
    · cases hs
theorem lookE_in {L : DRow} {p : List UInt8} {B : Nat} (h : lookE L p = some B) : ∃ x, x ∈ L ∧ x.2 = B := by
  unfold lookE at h
  rw [Option.map_eq_some_iff] at h
  obtain ⟨x, hx, rfl⟩ := h
  exact ⟨x, List.mem_of_find?_eq_some hx, rfl⟩
theorem IsDt.node {w : World} {m : Nat} {L : DRow} {D : Nat → Option DN} (h : IsDt w m L D) {p : List UInt8} {B : Nat} (hB : lookE L p = some B) : ∃ nd, D B = some nd ∧ IsDn w B nd := by
  obtain ⟨x, hx, rfl⟩ := lookE_in hB
  exact h.nds x hx
theorem map_take (l : List ByteArray) (j : Nat) : (l.take j).map (fun x => x.data.toList) = (l.map (fun x => x.data.toList)).take j := (List.map_take ..)
set_option maxHeartbeats 2000000 in
set_option maxRecDepth 100000 in
theorem rplace_core {m : Nat} {L : DRow} {D : Nat → Option DN} (s : ByteArray) (w : World) (h : IsDt w m L D) (F : List (List UInt8)) (hc : cleanP s.data.toList = some F) (hF : F.length ≤ 1000) (hS : ∀ t ∈ F, t.length ≤ 1000) :
    Calls Tryz.prog 46 #[.pointer (some ⟨m, 0, none⟩), .string s] w (PlR w (if wayOk L D F F.length then .inr (joinD F, joinD (F.take (F.length - 1))) else .inl 16)) := by
  have hz := Lib.hid (zF w)
  have hc' := Lib.hid hc
  have ht := Lib.hid h
  clear hc h
  obtain ⟨R, hR⟩ : ∃ R : Nat ⊕ (List UInt8 × List UInt8), R = (if wayOk L D F F.length then .inr (joinD F, joinD (F.take (F.length - 1))) else .inl 16) := ⟨_, rfl⟩
  rw [← hR]
  have hR' := Lib.hid hR
  obtain ⟨Post, hPost⟩ : ∃ Post : Ending → World → Prop, Post = PlR w R := ⟨_, rfl⟩
  rw [← hPost]
  have hP := Lib.hid hPost
  clear hPost hR
  go_enter Tryz.func46, Tryz.ntmps46
  go_wp2_with fail
  refine (rclean_any s _).mono ?_
  rw [hc'.out]
  rintro e w1 ⟨b1, v, l, rfl, hl, hO⟩
  have h1 := Lib.hid (row_below hz.out b1 (by simp))
  have b2 := Lib.hid (((Below.refl w.heap.size w).alloc (Nat.le_refl _) (.cells #[.int .i64 0, .int .i64 0, .int .i64 0] 28)).trans (b1.mono (by simp)))
  have z1 := b1.size
  rw [World.size_alloc] at z1
  have hlen : F.length = l.length := by rw [← hl, List.length_map]
  have hsz := Lib.hid (show ∀ x ∈ l, x.size ≤ 1000 from fun x hx => by
    have := hS _ (by rw [← hl]; exact List.mem_map.2 ⟨x, hx, rfl⟩)
    simpa using this)
  have hl' := Lib.hid hl
  have hO0 := Lib.hid hO
  obtain ⟨p, c, rfl, hlc, hops⟩ := hO
  clear b1 hl hS hc' hops
  rw [hlen] at hF hR'
  go_wp2_with fail
  go_loopw [9, 10, 21] (fun i9 i10 i wr => ∃ (j : Nat), j ≤ l.length ∧ i = .int .i64 j ∧ w1.heap.size ≤ wr.heap.size ∧ Hid (Below w1.heap.size w1 wr) ∧ Hid (wayOk L D F j = true)) (fun _ _ i _ => l.length - (intOf i).toNat)
  case atStart => exact ⟨0, Nat.zero_le _, rfl, Nat.le_refl _, Lib.hid (Below.refl _ _), Lib.hid rfl⟩
  case round =>
    obtain ⟨j, hj, rfl, hzr, hb, hw⟩ := hrel
    have hOr := Lib.hid (hO0.out.below hb.out (Nat.le_refl _))
    by_cases hjj : j < l.length
    · have hjI : (j : Int) < (l.length : Int) := by omega
      have hj0 : (0 : Int) ≤ (j : Int) := by omega
      have hjc : (j : Int) ≤ (c : Int) := by omega
      obtain ⟨b, rfl⟩ : ∃ b, p = some ⟨b, 0, none⟩ := by
        obtain ⟨p', c', e, -, hR⟩ := hO0.out
        injection e with e1 e2 e3
        rcases hR with rfl | ⟨b, e, -, -⟩
        · simp at hjj
        · exact ⟨b, e1.trans e⟩
      have htr := Lib.hid (ht.out.below ((b2.out.trans (hb.out.mono (by omega)))))
      have hbr := Lib.hid (b2.out.trans (hb.out.mono (by omega)))
      have h1r := Lib.hid (row_below h1.out hb.out (by omega))
      have hq := Lib.hid (show (l.take j).map (fun x => x.data.toList) = F.take j by rw [map_take, hl'.out])
      go_wp2_with fail
      refine (join_any _ (l.take j) wr (hOr.out.take j hj) (by simp; omega) (fun x hx => hsz.out x (List.mem_of_mem_take hx))).mono ?_
      rintro e w2 ⟨rfl, rfl⟩
      rw [hq.out]
      generalize hpp : joinD (F.take j) = pp
      have hpp' := Lib.hid hpp
      clear hpp
      go_wp2_with fail
      refine (rat_any ⟨pp.toArray⟩ _ htr.out).mono ?_
      rintro e w3 ⟨rfl, b3⟩
      have ht3 := Lib.hid (htr.out.below b3)
      have hb3 := Lib.hid (hbr.out.trans (b3.mono (by omega)))
      have hc3 := Lib.hid (hb.out.trans (b3.mono (by omega)))
      have h13 := Lib.hid (row_below h1r.out b3 (by omega))
      have z3 := b3.size
      clear b3 htr hbr h1r
      cases hlk : lookE L pp with
      | none =>
        have hdr : dirAt L D (joinD (F.take j)) = false := by rw [hpp'.out]; unfold dirAt; rw [hlk]
        have hRn := Lib.hid (show R = .inl 16 by rw [hR'.out, if_neg (by rw [wayOk_no hdr hjj]; decide)])
        rw [show aP none = none from rfl]
        clear hdr hlk
        go_wp2_with fail
        refine (rfault_any 16 _).mono ?_
        rintro e w4 ⟨rfl, b4⟩
        have h4 := Lib.hid (row_below h13.out b4 (by omega))
        have hb4 := Lib.hid (hb3.out.trans (b4.mono (by omega)))
        have z4 := b4.size
        clear b4
        go_wp2_with (refine store_flt rfl rfl _ _ rfl _ 16 0 11 0 0 0 rfl rfl h4.out ?_; intro w5 h5 g5 z5)
        refine ret_ssf rfl rfl rfl rfl rfl h5 ?_
        rw [hP.out, hRn.out]
        exact ⟨hb4.out.grown g5 (by omega) (fun k hk => by cases hk; exact Nat.le_refl _), rfl⟩
      | some B =>
        rw [show aP (some B) = some ⟨B, 0, none⟩ from rfl]
        obtain ⟨nd, hD, sl, cap, ti, hn⟩ := ht3.out.node hlk
        have c3 : w3.cell? ⟨B, 0, none⟩ = some (.bool nd.dir) := row_cell hn rfl
        have hdr := Lib.hid (show dirAt L D (joinD (F.take j)) = nd.dir by rw [hpp'.out]; unfold dirAt; rw [hlk]; simp only [hD])
        clear hn hD hlk
        cases hdd : nd.dir with
        | false =>
          rw [hdd] at c3 hdr
          have hRn := Lib.hid (show R = .inl 16 by rw [hR'.out, if_neg (by rw [wayOk_no hdr.out hjj]; decide)])
          go_wp2_with fail
          refine (rfault_any 16 _).mono ?_
          rintro e w4 ⟨rfl, b4⟩
          have h4 := Lib.hid (row_below h13.out b4 (by omega))
          have hb4 := Lib.hid (hb3.out.trans (b4.mono (by omega)))
          have z4 := b4.size
          clear b4
          go_wp2_with (refine store_flt rfl rfl _ _ rfl _ 16 0 11 0 0 0 rfl rfl h4.out ?_; intro w5 h5 g5 z5)
          refine ret_ssf rfl rfl rfl rfl rfl h5 ?_
          rw [hP.out, hRn.out]
          exact ⟨hb4.out.grown g5 (by omega) (fun k hk => by cases hk; exact Nat.le_refl _), rfl⟩
        | true =>
          rw [hdd] at c3 hdr
          have hw2 := Lib.hid (show wayOk L D F (j + 1) = true by rw [wayOk_succ, hw.out, hdr.out]; rfl)
          go_wp2_with fail
          case roundEnd =>
            refine ⟨⟨j + 1, by omega, rfl, by omega, hc3, hw2⟩, ?_⟩
            simp [intOf]; omega
    · have hje : j = l.length := by omega
      subst hje
      have hjI : ¬ ((l.length : Nat) : Int) < (l.length : Int) := by omega
      have hRn := Lib.hid (show R = .inr (joinD F, joinD (F.take (F.length - 1))) by rw [hR'.out, if_pos hw.out, hlen])
      have h1r := Lib.hid (row_below h1.out hb.out (by omega))
      have hbr := Lib.hid (b2.out.trans (hb.out.mono (by omega)))
      clear hjj hjI
      by_cases h0 : l.length = 0
      · rw [h0] at hO0 hOr hlc ⊢
        have m1 : IntKind.i64.wrap (-1) = -1 := by decide
        have m2 : max (0 : Int) (-1) = 0 := by decide
        have h0c : (0 : Int) ≤ (c : Int) := by omega
        go_wp2_with fail
        refine wp_region_still_tail 12 (by kernel_rfl) (by kernel_rfl) ?_
        simp only [List.take_succ_cons, List.take_zero, List.drop_succ_cons, List.drop_zero]
        still_step
        still_call (join_any _ l wr.drew hOr.out hF hsz.out)
        repeat still_step
        still_call (join_any _ (l.take 0) wr.drew (hOr.out.take 0 (Nat.zero_le _)) (by simp) (by simp))
        repeat still_step
        refine wpStill_nil ?_
        change wpList _ _ _ _ _ wr.drew
        have h1d := Lib.hid (row_drew h1r.out)
        have hbd := Lib.hid (below_drewN hbr.out 1)
        have zd : w.heap.size + 1 ≤ wr.drew.heap.size := by show w.heap.size + 1 ≤ wr.heap.size; omega
        change Hid (Below w.heap.size w wr.drew) at hbd
        generalize wr.drew = W at h1d hbd zd
        go_wp2_with (refine store_flt rfl rfl _ _ rfl _ 0 0 0 0 0 0 rfl rfl h1d.out ?_; intro w2 h2 g2 z2)
        refine ret_ssf rfl rfl rfl rfl rfl h2 ?_
        rw [hP.out, hRn.out]
        refine ⟨hbd.out.grown g2 (by omega) (fun k hk => by cases hk; exact Nat.le_refl _), ?_⟩
        show _ = Ending.returned (.tuple #[.string ⟨(joinD F).toArray⟩, .string ⟨(joinD (F.take (F.length - 1))).toArray⟩, fv 0 0 0])
        rw [hlen, h0, ← hl'.out, ← map_take]
        rfl
      · obtain ⟨k, hk⟩ : ∃ k, l.length = k + 1 := ⟨l.length - 1, by omega⟩
        obtain ⟨b, rfl⟩ : ∃ b, p = some ⟨b, 0, none⟩ := by
          obtain ⟨p', c', e, -, hR⟩ := hO0.out
          injection e with e1 e2 e3
          rcases hR with rfl | ⟨b, e, -, -⟩
          · simp at hk
          · exact ⟨b, e1.trans e⟩
        rw [hk] at hO0 hOr hlc ⊢
        have m1 : IntKind.i64.wrap (k : Int) = k := IntWalk.i64_in _ (by omega)
        have m2 : max (0 : Int) (k : Int) = k := by omega
        have hkc : (k : Int) ≤ (c : Int) := by omega
        have hk0 : (0 : Int) ≤ (k : Int) := by omega
        go_wp2_with fail
        refine wp_region_still_tail 12 (by kernel_rfl) (by kernel_rfl) ?_
        simp only [List.take_succ_cons, List.take_zero, List.drop_succ_cons, List.drop_zero]
        still_step
        still_call (join_any _ l wr.drew hOr.out hF hsz.out)
        repeat still_step
        still_call (join_any _ (l.take k) wr.drew (hOr.out.take k (by omega)) (by simp; omega) (fun x hx => hsz.out x (List.mem_of_mem_take hx)))
        repeat still_step
        refine wpStill_nil ?_
        change wpList _ _ _ _ _ wr.drew
        have h1d := Lib.hid (row_drew h1r.out)
        have hbd := Lib.hid (below_drewN hbr.out 1)
        have zd : w.heap.size + 1 ≤ wr.drew.heap.size := by show w.heap.size + 1 ≤ wr.heap.size; omega
        change Hid (Below w.heap.size w wr.drew) at hbd
        generalize wr.drew = W at h1d hbd zd
        go_wp2_with (refine store_flt rfl rfl _ _ rfl _ 0 0 0 0 0 0 rfl rfl h1d.out ?_; intro w2 h2 g2 z2)
        refine ret_ssf rfl rfl rfl rfl rfl h2 ?_
        rw [hP.out, hRn.out]
        refine ⟨hbd.out.grown g2 (by omega) (fun k hk => by cases hk; exact Nat.le_refl _), ?_⟩
        show _ = Ending.returned (.tuple #[.string ⟨(joinD F).toArray⟩, .string ⟨(joinD (F.take (F.length - 1))).toArray⟩, fv 0 0 0])
        rw [hlen, hk, Nat.add_sub_cancel, ← hl'.out, ← map_take]
        rfl
theorem cleanP_part {p : List UInt8} {L : List (List UInt8)} (h : cleanP p = some L) : ∀ t ∈ L, t.length ≤ 1000 := by
  unfold cleanP at h
  split at h
  · cases h
  · split at h
    · next hx => cases h; intro t ht; have := hx t ht; omega
    · cases h
/-- The document's place at every text. -/
theorem rplace_any {m : Nat} {L : DRow} {D : Nat → Option DN} (s : ByteArray) (w : World) (h : IsDt w m L D) : Calls Tryz.prog 46 #[.pointer (some ⟨m, 0, none⟩), .string s] w (PlR w (placeD L D s.data.toList)) := by
  unfold placeD
  cases hc : cleanP s.data.toList with
  | none => exact rplace_name m s w hc
  | some F => exact rplace_core s w h F hc (cleanP_len hc) (cleanP_part hc)
end Go.Proofs.YtfnaooplpofgiaaGreatDoor
