/- Walks over package set: the reader's item where a bracket may not be. -/
import Derived.Test.YteeopjgfiojoiaaDoorItem1
namespace Go.Proofs.YteeopjgfiojoiaaDoor
open Go Go.RowKit SN


set_option maxHeartbeats 2000000 in
set_option maxRecDepth 100000 in
theorem item_dot {N : Nat} {E : Nat → Addr} (B : Nat) (p : Option Addr) (cap at' : Nat) (lang : Int) (s : ByteArray) (w : World) (hR : IsR w B p s.size cap at' lang) (hS : HasB w p s) (hs : s.size < 2 ^ 61) (hat : at' < s.size) (_hcap : s.size ≤ cap)
    (hN : N ≤ B) (hE : Errs N E w) (h91 : isB s at' 91 = true) (h46 : isB s (at' + 1) 46 = true) :
    Calls Tryd.prog 73 #[.pointer (some ⟨B, 0, none⟩)] w fun e w' => ∃ v, e = .returned (.tuple #[.agg (itc true 0 0 at'), v]) ∧ IsErr w' E v 8 at' lang ∧ w.grownBy w' (some B) ∧ ∃ at2, IsR w' B p s.size cap at2 lang := by
  obtain ⟨b, o, rfl, hcell, hbl⟩ := hasB_at hS hat
  have hlB : b ≠ B := bytes_ne hR hcell
  clear hcell
  have c1 : w.cell? ⟨B, 1, none⟩ = some (.int .i64 at') := row_cell hR rfl
  have c2 : w.cell? ⟨B, 2, none⟩ = some (.int .i64 lang) := row_cell hR rfl
  have c0 : w.cell? ⟨B, 0, none⟩ = some (.slice (some ⟨b, o, none⟩) s.size cap) := row_cell hR rfl
  have f1 := row_free hR 1
  have hl : B < w.heap.size := row_lt hR
  have hR' := Lib.hid hR
  have hS' := Lib.hid hS
  clear hR hS
  have hE' := Lib.hid hE
  clear hE
  go_enter Tryd.func73, Tryd.ntmps73
  go_wp2_with (first | (go_at_call 72; first | (refine (is_val B _ cap at' lang s _ _ true _ (by repeat (first | exact hR'.out | apply IsR.alloc | apply IsR.drewN)) (by repeat (first | exact hS'.out | apply HasB.alloc | apply HasB.drewN)) (by decide) (by decide) (by omega) (by omega) (by exact h91)).mono ?_; rintro e wX ⟨rfl, q, rfl⟩) | (refine (is_val B _ cap at' lang s _ _ true _ (by repeat (first | exact hR'.out | apply IsR.alloc | apply IsR.drewN)) (by repeat (first | exact hS'.out | apply HasB.alloc | apply HasB.drewN)) (by decide) (by decide) (by omega) (by omega) (by exact h46)).mono ?_; rintro e wX ⟨rfl, q, rfl⟩)))

  refine gen_world (fun W0 => Mid w W0 B (some ⟨b, o, none⟩) s cap at' at' lang ∧ Errs N E W0) ⟨Mid.start hR'.out hS'.out _, ((hE'.out.alloc _ (by omega)).alloc _ (by simp; omega)).drewN _⟩ ?_
  clear c0 c1 c2 f1
  intro W0 ⟨⟨hR0, hS0, hi0, ho0, hg0, hz0⟩, hE0⟩
  clear hS0
  have d0 : W0.cell? ⟨B, 0, none⟩ = some (.slice (some ⟨b, o, none⟩) s.size cap) := row_cell hR0 rfl
  have d1 : W0.cell? ⟨B, 1, none⟩ = some (.int .i64 (at' : Nat)) := row_cell hR0 rfl
  have ti0 : W0.cell? ⟨w.heap.size + 1, 0, none⟩ = some (.bool true) := row_cell hi0 rfl
  have ti1 : W0.cell? ⟨w.heap.size + 1, 1, none⟩ = some (.int .u8 0) := row_cell hi0 rfl
  have ti2 : W0.cell? ⟨w.heap.size + 1, 2, none⟩ = some (.int .u64 0) := row_cell hi0 rfl
  have ti3 : W0.cell? ⟨w.heap.size + 1, 3, none⟩ = some (.int .u64 0) := row_cell hi0 rfl
  have ti4 : W0.cell? ⟨w.heap.size + 1, 4, none⟩ = some (.int .u64 0) := row_cell hi0 rfl
  have ti5 : W0.cell? ⟨w.heap.size + 1, 5, none⟩ = some (.int .u64 0) := row_cell hi0 rfl
  have ti6 : W0.cell? ⟨w.heap.size + 1, 6, none⟩ = some (.int .i64 (at' : Int)) := row_cell hi0 rfl
  have to0 : W0.cell? ⟨w.heap.size, 0, none⟩ = some (.bool false) := row_cell ho0 rfl
  have tof0 := row_free ho0 0
  have to1 : W0.cell? ⟨w.heap.size, 1, none⟩ = some (.int .u8 0) := row_cell ho0 rfl
  have tof1 := row_free ho0 1
  have to2 : W0.cell? ⟨w.heap.size, 2, none⟩ = some (.int .u64 0) := row_cell ho0 rfl
  have tof2 := row_free ho0 2
  have to3 : W0.cell? ⟨w.heap.size, 3, none⟩ = some (.int .u64 0) := row_cell ho0 rfl
  have tof3 := row_free ho0 3
  have to4 : W0.cell? ⟨w.heap.size, 4, none⟩ = some (.int .u64 0) := row_cell ho0 rfl
  have tof4 := row_free ho0 4
  have to5 : W0.cell? ⟨w.heap.size, 5, none⟩ = some (.int .u64 0) := row_cell ho0 rfl
  have tof5 := row_free ho0 5
  have to6 : W0.cell? ⟨w.heap.size, 6, none⟩ = some (.int .i64 0) := row_cell ho0 rfl
  have tof6 := row_free ho0 6
  have hR0' := Lib.hid hR0
  have hi0' := Lib.hid hi0
  have ho0' := Lib.hid ho0
  have hg0' := Lib.hid hg0
  have hE0' := Lib.hid hE0
  clear hR0 hi0 ho0 hg0 hE0
  have n1 : ¬ w.heap.size = B := by omega
  have n2 : ¬ w.heap.size = w.heap.size + 1 := by omega
  have hat2 : at' < 2 ^ 61 := by omega
  have l0 : w.heap.size < W0.heap.size := by omega
  have l1 : w.heap.size + 1 < W0.heap.size := by omega
  have lB : B < W0.heap.size := by omega
  go_region_held3 (fun w' => w'.cell? ⟨B, 1, none⟩ = some (.int .i64 (at' : Nat)) ∧ w'.cell? ⟨w.heap.size + 1, 0, none⟩ = some (.bool true) ∧ w'.cell? ⟨w.heap.size + 1, 1, none⟩ = some (.int .u8 0) ∧ w'.cell? ⟨w.heap.size + 1, 2, none⟩ = some (.int .u64 0) ∧ w'.cell? ⟨w.heap.size + 1, 3, none⟩ = some (.int .u64 0) ∧ w'.cell? ⟨w.heap.size + 1, 4, none⟩ = some (.int .u64 0) ∧ w'.cell? ⟨w.heap.size + 1, 5, none⟩ = some (.int .u64 0) ∧ w'.cell? ⟨w.heap.size + 1, 6, none⟩ = some (.int .i64 (at' : Int))) (go_keep)
    (first | (go_at_call 59; refine (fail_any (N := N) (E := E) (by repeat (first | exact hE0'.out | apply Errs.set_ | apply Errs.drew | omega)) B (some ⟨b, o, none⟩) s.size cap at' lang (by repeat (first | exact hR0'.out | apply IsR.set_ | apply IsR.drew | omega)) 8 (by decide) (by decide) _).mono ?_; rintro e w9 ⟨v, rfl, hv, b9⟩; have hT := (b9.block (w.heap.size + 1) (by simp; omega)).trans (by repeat (first | exact hi0'.out | refine row_set_other ?_ (by omega) _ _ | refine row_drew ?_)); have ui0 := row_cell (i := 0) hT rfl; have ui1 := row_cell (i := 1) hT rfl; have ui2 := row_cell (i := 2) hT rfl; have ui3 := row_cell (i := 3) hT rfl; have ui4 := row_cell (i := 4) hT rfl; have ui5 := row_cell (i := 5) hT rfl; have ui6 := row_cell (i := 6) hT rfl; have hR9 := (b9.block B (by simp; omega)).trans (by repeat (first | exact hR0'.out | refine row_set_other ?_ (by omega) _ _ | refine row_drew ?_)); have ur := row_cell (i := 1) hR9 rfl; clear hT hR9; first | (have hU := (b9.block w.heap.size (by simp; omega)).trans (by repeat (first | exact ho0'.out | refine row_set_other ?_ (by omega) _ _ | refine row_drew ?_)); have uo0 := row_cell (i := 0) hU rfl; have uf0 := row_free hU 0; have uo1 := row_cell (i := 1) hU rfl; have uf1 := row_free hU 1; have uo2 := row_cell (i := 2) hU rfl; have uf2 := row_free hU 2; have uo3 := row_cell (i := 3) hU rfl; have uf3 := row_free hU 3; have uo4 := row_cell (i := 4) hU rfl; have uf4 := row_free hU 4; have uo5 := row_cell (i := 5) hU rfl; have uf5 := row_free hU 5; have uo6 := row_cell (i := 6) hU rfl; have uf6 := row_free hU 6; clear hU) | skip))
  have ho9 := (b9.block w.heap.size (by show _ < W0.heap.size; omega)).trans ho0'.out
  refine gen_q _ (fun W2 => W2.heap[w.heap.size]? = some (.cells (itc true 0 0 at') 120 (0, 0)) ∧ IsErr W2 E v 8 at' lang ∧ w.grownBy W2 (some B) ∧ IsR W2 B (some ⟨b, o, none⟩) s.size cap at' lang) ?_ ?_
  · refine ⟨(row_set (row_set (row_set (row_set (row_set (row_set (row_set ho9 0 _) 1 _) 2 _) 3 _) 4 _) 5 _) 6 _).trans (by simp [itc, word_zero]), hv.keepT ho9 (by decide) (by decide) fun k _ hk => ?_, ?_, ?_⟩
    · iterate 7 (refine (Below.heap_setCell _ _ _ _ hk).trans ?_)
      rfl
    · iterate 7 (refine only_set ?_ _ _ (.inr (Nat.le_refl _)) _)
      exact only_then (w := W0.drew) (only_drewN hg0'.out 1) b9 (by show _ ≤ W0.heap.size; omega)
    · iterate 7 (refine IsR.set_ ?_ (by omega))
      exact hR0'.out.keep (b9.block B (by show _ < W0.heap.size; omega))
  clear hv b9 ho9 hg0' hR0' ho0' hi0' hE0' d0 d1 ti0 to0 tof0 ui0 uo0 uf0 ti1 to1 tof1 ui1 uo1 uf1 ti2 to2 tof2 ui2 uo2 uf2 ti3 to3 tof3 ui3 uo3 uf3 ti4 to4 tof4 ui4 uo4 uf4 ti5 to5 tof5 ui5 uo5 uf5 ti6 to6 tof6 ui6 uo6 uf6 ur
  intro W2 ⟨hU, hv, hg, hR⟩
  have hU' := Lib.hid hU
  have hv' := Lib.hid hv
  have hg' := Lib.hid hg
  have hR' := Lib.hid hR
  clear hU hv hg hR
  go_wp2_with fail
  exact ret_row2 _ rfl rfl rfl rfl hU'.out Tryd.underlying120 (by kernel_rfl) ⟨v, rfl, hv'.out, hg'.out, _, hR'.out⟩


set_option maxHeartbeats 2000000 in
set_option maxRecDepth 100000 in
theorem item_eq {N : Nat} {E : Nat → Addr} (B : Nat) (p : Option Addr) (cap at' : Nat) (lang : Int) (s : ByteArray) (w : World) (hR : IsR w B p s.size cap at' lang) (hS : HasB w p s) (hs : s.size < 2 ^ 61) (hat : at' < s.size) (_hcap : s.size ≤ cap)
    (hN : N ≤ B) (hE : Errs N E w) (h91 : isB s at' 91 = true) (h46 : isB s (at' + 1) 46 = false) (h61 : isB s (at' + 1) 61 = true) :
    Calls Tryd.prog 73 #[.pointer (some ⟨B, 0, none⟩)] w fun e w' => ∃ v, e = .returned (.tuple #[.agg (itc true 0 0 at'), v]) ∧ IsErr w' E v 8 at' lang ∧ w.grownBy w' (some B) ∧ ∃ at2, IsR w' B p s.size cap at2 lang := by
  obtain ⟨b, o, rfl, hcell, hbl⟩ := hasB_at hS hat
  have hlB : b ≠ B := bytes_ne hR hcell
  clear hcell
  have c1 : w.cell? ⟨B, 1, none⟩ = some (.int .i64 at') := row_cell hR rfl
  have c2 : w.cell? ⟨B, 2, none⟩ = some (.int .i64 lang) := row_cell hR rfl
  have c0 : w.cell? ⟨B, 0, none⟩ = some (.slice (some ⟨b, o, none⟩) s.size cap) := row_cell hR rfl
  have f1 := row_free hR 1
  have hl : B < w.heap.size := row_lt hR
  have hR' := Lib.hid hR
  have hS' := Lib.hid hS
  clear hR hS
  have hE' := Lib.hid hE
  clear hE
  go_enter Tryd.func73, Tryd.ntmps73
  go_wp2_with (first | (go_at_call 72; first | (refine (is_val B _ cap at' lang s _ _ true _ (by repeat (first | exact hR'.out | apply IsR.alloc | apply IsR.drewN)) (by repeat (first | exact hS'.out | apply HasB.alloc | apply HasB.drewN)) (by decide) (by decide) (by omega) (by omega) (by exact h91)).mono ?_; rintro e wX ⟨rfl, q, rfl⟩) | (refine (is_val B _ cap at' lang s _ _ false _ (by repeat (first | exact hR'.out | apply IsR.alloc | apply IsR.drewN)) (by repeat (first | exact hS'.out | apply HasB.alloc | apply HasB.drewN)) (by decide) (by decide) (by omega) (by omega) (by exact h46)).mono ?_; rintro e wX ⟨rfl, q, rfl⟩) | (refine (is_val B _ cap at' lang s _ _ true _ (by repeat (first | exact hR'.out | apply IsR.alloc | apply IsR.drewN)) (by repeat (first | exact hS'.out | apply HasB.alloc | apply HasB.drewN)) (by decide) (by decide) (by omega) (by omega) (by exact h61)).mono ?_; rintro e wX ⟨rfl, q, rfl⟩)))

  refine gen_world (fun W0 => Mid w W0 B (some ⟨b, o, none⟩) s cap at' at' lang ∧ Errs N E W0) ⟨Mid.start hR'.out hS'.out _, ((hE'.out.alloc _ (by omega)).alloc _ (by simp; omega)).drewN _⟩ ?_
  clear c0 c1 c2 f1
  intro W0 ⟨⟨hR0, hS0, hi0, ho0, hg0, hz0⟩, hE0⟩
  clear hS0
  have d0 : W0.cell? ⟨B, 0, none⟩ = some (.slice (some ⟨b, o, none⟩) s.size cap) := row_cell hR0 rfl
  have d1 : W0.cell? ⟨B, 1, none⟩ = some (.int .i64 (at' : Nat)) := row_cell hR0 rfl
  have ti0 : W0.cell? ⟨w.heap.size + 1, 0, none⟩ = some (.bool true) := row_cell hi0 rfl
  have ti1 : W0.cell? ⟨w.heap.size + 1, 1, none⟩ = some (.int .u8 0) := row_cell hi0 rfl
  have ti2 : W0.cell? ⟨w.heap.size + 1, 2, none⟩ = some (.int .u64 0) := row_cell hi0 rfl
  have ti3 : W0.cell? ⟨w.heap.size + 1, 3, none⟩ = some (.int .u64 0) := row_cell hi0 rfl
  have ti4 : W0.cell? ⟨w.heap.size + 1, 4, none⟩ = some (.int .u64 0) := row_cell hi0 rfl
  have ti5 : W0.cell? ⟨w.heap.size + 1, 5, none⟩ = some (.int .u64 0) := row_cell hi0 rfl
  have ti6 : W0.cell? ⟨w.heap.size + 1, 6, none⟩ = some (.int .i64 (at' : Int)) := row_cell hi0 rfl
  have to0 : W0.cell? ⟨w.heap.size, 0, none⟩ = some (.bool false) := row_cell ho0 rfl
  have tof0 := row_free ho0 0
  have to1 : W0.cell? ⟨w.heap.size, 1, none⟩ = some (.int .u8 0) := row_cell ho0 rfl
  have tof1 := row_free ho0 1
  have to2 : W0.cell? ⟨w.heap.size, 2, none⟩ = some (.int .u64 0) := row_cell ho0 rfl
  have tof2 := row_free ho0 2
  have to3 : W0.cell? ⟨w.heap.size, 3, none⟩ = some (.int .u64 0) := row_cell ho0 rfl
  have tof3 := row_free ho0 3
  have to4 : W0.cell? ⟨w.heap.size, 4, none⟩ = some (.int .u64 0) := row_cell ho0 rfl
  have tof4 := row_free ho0 4
  have to5 : W0.cell? ⟨w.heap.size, 5, none⟩ = some (.int .u64 0) := row_cell ho0 rfl
  have tof5 := row_free ho0 5
  have to6 : W0.cell? ⟨w.heap.size, 6, none⟩ = some (.int .i64 0) := row_cell ho0 rfl
  have tof6 := row_free ho0 6
  have hR0' := Lib.hid hR0
  have hi0' := Lib.hid hi0
  have ho0' := Lib.hid ho0
  have hg0' := Lib.hid hg0
  have hE0' := Lib.hid hE0
  clear hR0 hi0 ho0 hg0 hE0
  have n1 : ¬ w.heap.size = B := by omega
  have n2 : ¬ w.heap.size = w.heap.size + 1 := by omega
  have hat2 : at' < 2 ^ 61 := by omega
  have l0 : w.heap.size < W0.heap.size := by omega
  have l1 : w.heap.size + 1 < W0.heap.size := by omega
  have lB : B < W0.heap.size := by omega
  go_region_held3 (fun w' => w'.cell? ⟨B, 1, none⟩ = some (.int .i64 (at' : Nat)) ∧ w'.cell? ⟨w.heap.size + 1, 0, none⟩ = some (.bool true) ∧ w'.cell? ⟨w.heap.size + 1, 1, none⟩ = some (.int .u8 0) ∧ w'.cell? ⟨w.heap.size + 1, 2, none⟩ = some (.int .u64 0) ∧ w'.cell? ⟨w.heap.size + 1, 3, none⟩ = some (.int .u64 0) ∧ w'.cell? ⟨w.heap.size + 1, 4, none⟩ = some (.int .u64 0) ∧ w'.cell? ⟨w.heap.size + 1, 5, none⟩ = some (.int .u64 0) ∧ w'.cell? ⟨w.heap.size + 1, 6, none⟩ = some (.int .i64 (at' : Int))) (go_keep)
    (first | (go_at_call 59; refine (fail_any (N := N) (E := E) (by repeat (first | exact hE0'.out | apply Errs.set_ | apply Errs.drew | omega)) B (some ⟨b, o, none⟩) s.size cap at' lang (by repeat (first | exact hR0'.out | apply IsR.set_ | apply IsR.drew | omega)) 8 (by decide) (by decide) _).mono ?_; rintro e w9 ⟨v, rfl, hv, b9⟩; have hT := (b9.block (w.heap.size + 1) (by simp; omega)).trans (by repeat (first | exact hi0'.out | refine row_set_other ?_ (by omega) _ _ | refine row_drew ?_)); have ui0 := row_cell (i := 0) hT rfl; have ui1 := row_cell (i := 1) hT rfl; have ui2 := row_cell (i := 2) hT rfl; have ui3 := row_cell (i := 3) hT rfl; have ui4 := row_cell (i := 4) hT rfl; have ui5 := row_cell (i := 5) hT rfl; have ui6 := row_cell (i := 6) hT rfl; have hR9 := (b9.block B (by simp; omega)).trans (by repeat (first | exact hR0'.out | refine row_set_other ?_ (by omega) _ _ | refine row_drew ?_)); have ur := row_cell (i := 1) hR9 rfl; clear hT hR9; first | (have hU := (b9.block w.heap.size (by simp; omega)).trans (by repeat (first | exact ho0'.out | refine row_set_other ?_ (by omega) _ _ | refine row_drew ?_)); have uo0 := row_cell (i := 0) hU rfl; have uf0 := row_free hU 0; have uo1 := row_cell (i := 1) hU rfl; have uf1 := row_free hU 1; have uo2 := row_cell (i := 2) hU rfl; have uf2 := row_free hU 2; have uo3 := row_cell (i := 3) hU rfl; have uf3 := row_free hU 3; have uo4 := row_cell (i := 4) hU rfl; have uf4 := row_free hU 4; have uo5 := row_cell (i := 5) hU rfl; have uf5 := row_free hU 5; have uo6 := row_cell (i := 6) hU rfl; have uf6 := row_free hU 6; clear hU) | skip))
  have ho9 := (b9.block w.heap.size (by show _ < W0.heap.size; omega)).trans ho0'.out
  refine gen_q _ (fun W2 => W2.heap[w.heap.size]? = some (.cells (itc true 0 0 at') 120 (0, 0)) ∧ IsErr W2 E v 8 at' lang ∧ w.grownBy W2 (some B) ∧ IsR W2 B (some ⟨b, o, none⟩) s.size cap at' lang) ?_ ?_
  · refine ⟨(row_set (row_set (row_set (row_set (row_set (row_set (row_set ho9 0 _) 1 _) 2 _) 3 _) 4 _) 5 _) 6 _).trans (by simp [itc, word_zero]), hv.keepT ho9 (by decide) (by decide) fun k _ hk => ?_, ?_, ?_⟩
    · iterate 7 (refine (Below.heap_setCell _ _ _ _ hk).trans ?_)
      rfl
    · iterate 7 (refine only_set ?_ _ _ (.inr (Nat.le_refl _)) _)
      exact only_then (w := W0.drew) (only_drewN hg0'.out 1) b9 (by show _ ≤ W0.heap.size; omega)
    · iterate 7 (refine IsR.set_ ?_ (by omega))
      exact hR0'.out.keep (b9.block B (by show _ < W0.heap.size; omega))
  clear hv b9 ho9 hg0' hR0' ho0' hi0' hE0' d0 d1 ti0 to0 tof0 ui0 uo0 uf0 ti1 to1 tof1 ui1 uo1 uf1 ti2 to2 tof2 ui2 uo2 uf2 ti3 to3 tof3 ui3 uo3 uf3 ti4 to4 tof4 ui4 uo4 uf4 ti5 to5 tof5 ui5 uo5 uf5 ti6 to6 tof6 ui6 uo6 uf6 ur
  intro W2 ⟨hU, hv, hg, hR⟩
  have hU' := Lib.hid hU
  have hv' := Lib.hid hv
  have hg' := Lib.hid hg
  have hR' := Lib.hid hR
  clear hU hv hg hR
  go_wp2_with fail
  exact ret_row2 _ rfl rfl rfl rfl hU'.out Tryd.underlying120 (by kernel_rfl) ⟨v, rfl, hv'.out, hg'.out, _, hR'.out⟩

end Go.Proofs.YteeopjgfiojoiaaDoor
