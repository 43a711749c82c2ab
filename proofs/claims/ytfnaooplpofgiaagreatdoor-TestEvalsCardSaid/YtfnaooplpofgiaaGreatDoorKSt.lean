/- (*tree.Tree).Stat at every path. Conditions: the tree lies in memory, and the errors' variables. -/
import Derived.Test.YtfnaooplpofgiaaGreatDoorKTr
import Derived.Test.YtfnaooplpofgiaaGreatDoorKUnP
import Derived.Test.YtfnaooplpofgiaaGreatDoorKStat
import Derived.StillTailTactics
import Derived.WalkMore
import Derived.OwnWalk
import Derived.Handy
import Derived.Outline
namespace Go.Proofs.YtfnaooplpofgiaaGreatDoor
open Go Go.RowKit SN

set_option maxHeartbeats 1000000 in
set_option maxRecDepth 100000 in
theorem stat_err {E : Nat → Addr} (tv : Value) (s : ByteArray) (c : Nat) (w : World) (hF : Calls Tryz.prog 43 #[tv, .string s] (w.alloc (.cells #[.int .i64 0, .int .i64 0, .int .i64 0, .int .i64 0] 117)) (FindR E (w.alloc (.cells #[.int .i64 0, .int .i64 0, .int .i64 0, .int .i64 0] 117)) (.inl c))) :
    Calls Tryz.prog 54 #[tv, .string s] w (StatR none w) := by
  have hF' := Lib.hid hF
  have hz := Lib.hid (zSt w)
  clear hF
  go_enter Tryz.func54, Tryz.ntmps54
  go_wp2_with fail
  refine hF'.out.mono ?_
  rintro e w1 ⟨b1, v, rfl, S, P, rfl, -, -⟩
  have bb1 := Lib.hid (((Below.refl w.heap.size w).alloc (Nat.le_refl _) (.cells #[.int .i64 0, .int .i64 0, .int .i64 0, .int .i64 0] 117)).trans (b1.mono (by simp)))
  have hr1 := Lib.hid (row_below hz.out b1 (by simp))
  have z1 := b1.size
  rw [World.size_alloc] at z1
  clear b1
  have hq := Lib.hid (zSp w1)
  go_wp2_with (first | (refine store_sp rfl rfl _ _ rfl _ none none none none ⟨#[]⟩ ⟨#[]⟩ rfl rfl hq.out ?_; intro w2 h2 g2 z2; have hr2 : IsSt w2 w.heap.size 0 0 0 0 := row_grown (row_alloc hr1.out _) g2 (by intro e; injection e with e; omega)) | (refine store_st rfl rfl _ _ rfl _ 0 0 0 0 0 0 0 0 rfl rfl hr2 ?_; intro w3 h3 g3 z3))
  refine ret_st rfl rfl rfl rfl h3 ⟨?_, _, rfl⟩
  exact (((bb1.out.alloc (by omega) _).grown g2 (by simp; omega) (fun k hk => by cases hk; omega))).grown g3 (by rw [z2]; simp; omega) (fun k hk => by cases hk; exact Nat.le_refl _)
set_option maxHeartbeats 1000000 in
set_option maxRecDepth 100000 in
theorem stat_none {N : Nat} {E : Nat → Addr} (tv : Value) (s nm : ByteArray) (a : Option Addr) (w : World) (hE : Errs N E w) (hN : N ≤ w.heap.size) (hF : Calls Tryz.prog 43 #[tv, .string s] (w.alloc (.cells #[.int .i64 0, .int .i64 0, .int .i64 0, .int .i64 0] 117)) fun e w' => Below (w.alloc (.cells #[.int .i64 0, .int .i64 0, .int .i64 0, .int .i64 0] 117)).heap.size (w.alloc (.cells #[.int .i64 0, .int .i64 0, .int .i64 0, .int .i64 0] 117)) w' ∧ e = .returned (.tuple #[.agg (spC a nm none), .nilIface])) :
    Calls Tryz.prog 54 #[tv, .string s] w (StatR none w) := by
  have hF' := Lib.hid hF
  have hE' := Lib.hid hE
  have hz := Lib.hid (zSt w)
  clear hF hE
  go_enter Tryz.func54, Tryz.ntmps54
  go_wp2_with fail
  refine hF'.out.mono ?_
  rintro e w1 ⟨b1, rfl⟩
  have bb1 := Lib.hid (((Below.refl w.heap.size w).alloc (Nat.le_refl _) (.cells #[.int .i64 0, .int .i64 0, .int .i64 0, .int .i64 0] 117)).trans (b1.mono (by simp)))
  have hr1 := Lib.hid (row_below hz.out b1 (by simp))
  have z1 := b1.size
  rw [World.size_alloc] at z1
  clear b1
  have hq := Lib.hid (zSp w1)
  go_wp2_with (refine store_sp rfl rfl _ _ rfl _ a none none none nm ⟨#[]⟩ rfl rfl hq.out ?_; intro w2 h2 g2 z2; have q2 : w2.cell? ⟨w1.heap.size, 2, none⟩ = some (.pointer none) := row_cell h2 rfl)
  have hr2 := Lib.hid (row_grown (row_alloc hr1.out (.cells #[.pointer none, .string ⟨#[]⟩, .pointer none] 103)) g2 (by intro e; injection e with e; omega))
  have bb2 := Lib.hid ((bb1.out.alloc (by omega) (.cells #[.pointer none, .string ⟨#[]⟩, .pointer none] 103)).grown g2 (by simp; omega) (fun k hk => by cases hk; omega))
  have z2' : w1.heap.size < w2.heap.size := by rw [z2]; simp
  clear g2 z2 h2
  refine (tfail_any _ (hE'.out.below bb2.out hN) 16 (by decide) (by decide)).mono ?_
  rintro e w3 ⟨v, rfl, ⟨S, P, rfl, -, -⟩, b3⟩
  have hr3 := row_below hr2.out b3 (by omega)
  have bb3 := Lib.hid (bb2.out.trans (b3.mono (by omega)))
  have z3 := b3.size
  clear b3
  go_wp2_with (refine store_st rfl rfl _ _ rfl _ 0 0 0 0 0 0 0 0 rfl rfl hr3 ?_; intro w4 h4 g4 z4)
  exact ret_st rfl rfl rfl rfl h4 ⟨bb3.out.grown g4 (by omega) (fun k hk => by cases hk; exact Nat.le_refl _), _, rfl⟩
theorem run_len_map {w : World} {m : Nat} {es : List (ByteArray × Nat)} (h : IsMp w m es) (ty : TypeId) : (Builtin.len_ #[89] ty #[.map (some m)]).run Tryz.prog w = .ok (.int .i64 (es.length : Nat)) w := by
  obtain ⟨l, ck, hb, he⟩ := h
  have hlen : l.size = es.length := by have := congrArg List.length he; simpa using this
  rw [← hlen]
  simp [Builtin.len_, run_underlying Tryz.underlying89, MapKept.run_getObj_map hb, goInt, Result.andThen]
set_option maxHeartbeats 1000000 in
set_option maxRecDepth 100000 in
theorem stat_dir {t r : Nat} {T : Nat → Option Nd} (tv : Value) (s nm : ByteArray) (a : Option Addr) (B : Nat) (nd : Nd) (hd : nd.dir = true) (hnd : T B = some nd) (w : World) (hTr : IsTr w t r T) (hF : Calls Tryz.prog 43 #[tv, .string s] (w.alloc (.cells #[.int .i64 0, .int .i64 0, .int .i64 0, .int .i64 0] 117)) fun e w' => Below (w.alloc (.cells #[.int .i64 0, .int .i64 0, .int .i64 0, .int .i64 0] 117)).heap.size (w.alloc (.cells #[.int .i64 0, .int .i64 0, .int .i64 0, .int .i64 0] 117)) w' ∧ e = .returned (.tuple #[.agg (spC a nm (some ⟨B, 0, none⟩)), .nilIface])) :
    Calls Tryz.prog 54 #[tv, .string s] w (StatR (some (true, nd.ents.length)) w) := by
  have hF' := Lib.hid hF
  have hTr' := Lib.hid hTr
  have hz := Lib.hid (zSt w)
  clear hF hTr
  go_enter Tryz.func54, Tryz.ntmps54
  go_wp2_with fail
  refine hF'.out.mono ?_
  rintro e w1 ⟨b1, rfl⟩
  have bb1 := Lib.hid (((Below.refl w.heap.size w).alloc (Nat.le_refl _) (.cells #[.int .i64 0, .int .i64 0, .int .i64 0, .int .i64 0] 117)).trans (b1.mono (by simp)))
  have hr1 := Lib.hid (row_below hz.out b1 (by simp))
  have z1 := b1.size
  rw [World.size_alloc] at z1
  clear b1
  have hq := Lib.hid (zSp w1)
  obtain ⟨⟨sl, cap, li, ti, hB⟩, hmp⟩ := (hTr'.out.below bb1.out).nds B nd hnd
  have hBl := row_lt hB
  have hB' := Lib.hid hB
  have hmp' := Lib.hid hmp
  clear hB hmp
  go_wp2_with (refine store_sp rfl rfl _ _ rfl _ a (some ⟨B, 0, none⟩) none none nm ⟨#[]⟩ rfl rfl hq.out ?_; intro w2 h2 g2 z2; have q2 : w2.cell? ⟨w1.heap.size, 2, none⟩ = some (.pointer (some ⟨B, 0, none⟩)) := row_cell h2 rfl; have hB2 := row_grown (row_alloc hB'.out (.cells #[.pointer none, .string ⟨#[]⟩, .pointer none] 103)) g2 (by intro e; injection e with e; omega); have d0 : w2.cell? ⟨B, 0, none⟩ = some (.bool true) := row_cell hB2 (by unfold nodeC; rw [hd]; rfl))
  have hr2 := Lib.hid (row_grown (row_alloc hr1.out (.cells #[.pointer none, .string ⟨#[]⟩, .pointer none] 103)) g2 (by intro e; injection e with e; omega))
  have bb2 := Lib.hid ((bb1.out.alloc (by omega) (.cells #[.pointer none, .string ⟨#[]⟩, .pointer none] 103)).grown g2 (by simp; omega) (fun k hk => by cases hk; omega))
  have z2' : w1.heap.size < w2.heap.size := by rw [z2]; simp
  have hm2 : IsMp w2 nd.mp nd.ents := by
    obtain ⟨l, ck, h1, h3⟩ := hmp'.out hd
    have hne : nd.mp < w1.heap.size := row_lt h1
    exact ⟨l, ck, by rw [g2.block nd.mp (by simp; omega) (by intro e; injection e with e; omega)]; rw [Below.heap_alloc _ _ _ hne]; exact h1, h3⟩
  have d2 : w2.drew.cell? ⟨B, 2, none⟩ = some (.map (some nd.mp)) := row_cell hB2 (by unfold nodeC; rw [hd]; rfl)
  have d4 : w2.drew.cell? ⟨B, 4, none⟩ = some (.int .i64 ti) := row_cell hB2 rfl
  have q3 : w2.drew.cell? ⟨w1.heap.size, 2, none⟩ = some (.pointer (some ⟨B, 0, none⟩)) := q2
  have hlen := run_len_map (w := w2.drew) hm2
  clear g2 z2 h2 hm2 hB2 hB' hmp'
  go_still_tail 12, (by kernel_rfl)
  change wpList _ _ _ _ _ w2.drew
  have k1 := Lib.hid (row_drew hr2.out)
  have k2 := Lib.hid (below_drewN bb2.out 1)
  have k3 : w1.heap.size < w2.drew.heap.size := z2'
  change Hid (Below w.heap.size w w2.drew) at k2
  generalize w2.drew = W5 at k1 k2 k3
  go_wp2_with (refine store_st rfl rfl _ _ rfl _ 2 (nd.ents.length : Nat) 1 ti 0 0 0 0 rfl rfl k1.out ?_; intro w6 h6 g6 z6)
  exact ret_st rfl rfl rfl rfl h6 ⟨k2.out.grown g6 (by omega) (fun k hk => by cases hk; exact Nat.le_refl _), 1, ti, rfl⟩
set_option maxHeartbeats 1000000 in
set_option maxRecDepth 100000 in
theorem stat_file {t r : Nat} {T : Nat → Option Nd} (tv : Value) (s nm : ByteArray) (a : Option Addr) (B : Nat) (nd : Nd) (hd : nd.dir = false) (hnd : T B = some nd) (w : World) (hTr : IsTr w t r T) (hF : Calls Tryz.prog 43 #[tv, .string s] (w.alloc (.cells #[.int .i64 0, .int .i64 0, .int .i64 0, .int .i64 0] 117)) fun e w' => Below (w.alloc (.cells #[.int .i64 0, .int .i64 0, .int .i64 0, .int .i64 0] 117)).heap.size (w.alloc (.cells #[.int .i64 0, .int .i64 0, .int .i64 0, .int .i64 0] 117)) w' ∧ e = .returned (.tuple #[.agg (spC a nm (some ⟨B, 0, none⟩)), .nilIface])) :
    Calls Tryz.prog 54 #[tv, .string s] w (StatR (some (false, nd.len)) w) := by
  have hF' := Lib.hid hF
  have hTr' := Lib.hid hTr
  have hz := Lib.hid (zSt w)
  clear hF hTr
  go_enter Tryz.func54, Tryz.ntmps54
  go_wp2_with fail
  refine hF'.out.mono ?_
  rintro e w1 ⟨b1, rfl⟩
  have bb1 := Lib.hid (((Below.refl w.heap.size w).alloc (Nat.le_refl _) (.cells #[.int .i64 0, .int .i64 0, .int .i64 0, .int .i64 0] 117)).trans (b1.mono (by simp)))
  have hr1 := Lib.hid (row_below hz.out b1 (by simp))
  have z1 := b1.size
  rw [World.size_alloc] at z1
  clear b1
  have hq := Lib.hid (zSp w1)
  obtain ⟨⟨sl, cap, li, ti, hB⟩, hmp⟩ := (hTr'.out.below bb1.out).nds B nd hnd
  have hBl := row_lt hB
  have hB' := Lib.hid hB
  have hmp' := Lib.hid hmp
  clear hB hmp
  go_wp2_with (refine store_sp rfl rfl _ _ rfl _ a (some ⟨B, 0, none⟩) none none nm ⟨#[]⟩ rfl rfl hq.out ?_; intro w2 h2 g2 z2; have q2 : w2.cell? ⟨w1.heap.size, 2, none⟩ = some (.pointer (some ⟨B, 0, none⟩)) := row_cell h2 rfl; have hB2 := row_grown (row_alloc hB'.out (.cells #[.pointer none, .string ⟨#[]⟩, .pointer none] 103)) g2 (by intro e; injection e with e; omega); have d0 : w2.cell? ⟨B, 0, none⟩ = some (.bool false) := row_cell hB2 (by unfold nodeC; rw [hd]; rfl))
  have hr2 := Lib.hid (row_grown (row_alloc hr1.out (.cells #[.pointer none, .string ⟨#[]⟩, .pointer none] 103)) g2 (by intro e; injection e with e; omega))
  have bb2 := Lib.hid ((bb1.out.alloc (by omega) (.cells #[.pointer none, .string ⟨#[]⟩, .pointer none] 103)).grown g2 (by simp; omega) (fun k hk => by cases hk; omega))
  have z2' : w1.heap.size < w2.heap.size := by rw [z2]; simp
  have d1 : w2.drew.cell? ⟨B, 1, none⟩ = some (.slice sl nd.len cap) := row_cell hB2 rfl
  have d3 : w2.drew.cell? ⟨B, 3, none⟩ = some (.int .i64 li) := row_cell hB2 rfl
  have d4 : w2.drew.cell? ⟨B, 4, none⟩ = some (.int .i64 ti) := row_cell hB2 rfl
  have q3 : w2.drew.cell? ⟨w1.heap.size, 2, none⟩ = some (.pointer (some ⟨B, 0, none⟩)) := q2
  clear g2 z2 h2 hB2 hB' hmp'
  go_still_tail 17, (by kernel_rfl)
  change wpList _ _ _ _ _ w2.drew
  have k1 := Lib.hid (row_drew hr2.out)
  have k2 := Lib.hid (below_drewN bb2.out 1)
  have k3 : w1.heap.size < w2.drew.heap.size := z2'
  change Hid (Below w.heap.size w w2.drew) at k2
  generalize w2.drew = W5 at k1 k2 k3
  go_wp2_with (refine store_st rfl rfl _ _ rfl _ 1 (nd.len : Nat) li ti 0 0 0 0 rfl rfl k1.out ?_; intro w6 h6 g6 z6)
  exact ret_st rfl rfl rfl rfl h6 ⟨k2.out.grown g6 (by omega) (fun k hk => by cases hk; exact Nat.le_refl _), li, ti, rfl⟩
/-- A node that a walk ends at lies in the tree. -/
theorem ends_in {w : World} {t r : Nat} {T : Nat → Option Nd} (hTr : IsTr w t r T) : ∀ (l : List (List UInt8)) (a n : Option Nat) (nm : List UInt8) (x : Option Nat × List UInt8 × Option Nat), (∀ B, n = some B → ∃ nd, T B = some nd) → walkT T a nm n l = some x → ∀ B, x.2.2 = some B → ∃ nd, T B = some nd
  | [], a, n, nm, x, hn, h, B, hB => by cases h; exact hn B hB
  | s :: l, a, none, nm, x, hn, h, B, hB => by rw [walk_none] at h; cases h
  | s :: l, a, some C, nm, x, hn, h, B, hB => by
    obtain ⟨nd, hnd⟩ := hn C rfl
    cases hd : nd.dir with
    | false => rw [walk_file hnd hd] at h; cases h
    | true =>
      rw [walk_dir hnd hd] at h
      refine ends_in hTr l (some C) _ s x (fun D hD => ?_) h B hB
      unfold lookE at hD
      cases hf : nd.ents.find? (fun x => x.1.data.toList == s) with
      | none => rw [hf] at hD; cases hD
      | some y => rw [hf] at hD; cases hD; exact hTr.kids C nd y hnd (List.mem_of_find?_eq_some hf)
theorem find_in {w : World} {t r : Nat} {T : Nat → Option Nd} (hTr : IsTr w t r T) {p : List UInt8} {x : Option Nat × List UInt8 × Option Nat} (h : findP T r p = .inr x) : ∀ B, x.2.2 = some B → ∃ nd, T B = some nd := by
  unfold findP at h
  split at h
  · cases h
  · split at h
    · cases h
    · next y hy => cases h; exact ends_in hTr _ _ _ _ x (fun B hB => by cases hB; exact hTr.root) hy
/-- (*tree.Tree).Stat at every path. -/
theorem stat_any {N : Nat} {E : Nat → Addr} {t r : Nat} {T : Nat → Option Nd} (s : ByteArray) (w : World) (hE : Errs N E w) (hM : MaxL N w) (hN : N ≤ w.heap.size) (hTr : IsTr w t r T) :
    Calls Tryz.prog 54 #[.pointer (some ⟨t, 0, none⟩), .string s] w (StatR (statP T r s.data.toList) w) := by
  have b0 := (Below.refl w.heap.size w).alloc (Nat.le_refl _) (.cells #[.int .i64 0, .int .i64 0, .int .i64 0, .int .i64 0] 117)
  have hF := find_any (E := E) s (w.alloc (.cells #[.int .i64 0, .int .i64 0, .int .i64 0, .int .i64 0] 117)) (hE.alloc _ hN) (hM.below b0 hN) (by simp; omega) (hTr.below b0)
  unfold statP
  cases hf : findP T r s.data.toList with
  | inl c => rw [hf] at hF; exact stat_err _ s c w hF
  | inr x =>
    obtain ⟨a, nm, n⟩ := x
    rw [hf] at hF
    cases n with
    | none => exact stat_none _ s _ _ w hE hN hF
    | some B =>
      obtain ⟨nd, hnd⟩ := find_in hTr hf B rfl
      show Calls _ _ _ _ (StatR ((T B).map fun nd => (nd.dir, if nd.dir then nd.ents.length else nd.len)) w)
      rw [hnd]
      show Calls _ _ _ _ (StatR (some (nd.dir, if nd.dir then nd.ents.length else nd.len)) w)
      cases hd : nd.dir with
      | true => exact stat_dir _ s _ _ B nd hd hnd w hTr hF
      | false => exact stat_file _ s _ _ B nd hd hnd w hTr hF
end Go.Proofs.YtfnaooplpofgiaaGreatDoor
