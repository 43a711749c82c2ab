/- Walks over package set: the reader's item behind a backslash. -/
import Derived.Test.YteeopjgfiojoiaaDoorItem1
namespace Go.Proofs.YteeopjgfiojoiaaDoor
open Go Go.RowKit SN


set_option maxHeartbeats 2000000 in
set_option maxRecDepth 100000 in
theorem item_esc (B : Nat) (p : Option Addr) (cap at' : Nat) (lang : Int) (s : ByteArray) (w : World) (hR : IsR w B p s.size cap at' lang) (hS : HasB w p s) (hs : s.size < 2 ^ 61) (hat : at' < s.size) (hcap : s.size ≤ cap)
    (h91 : isB s at' 91 = false) (h92 : isB s at' 92 = true) (hlang : (lang == 2) = true) (hm1 : at' + 1 < s.size) :
    Calls Tryd.prog 73 #[.pointer (some ⟨B, 0, none⟩)] w fun e w' => e = .returned (.tuple #[.agg (itc true (s[at' + 1].toNat : Int) (ofL [s[at' + 1]]) at'), .nilIface]) ∧ w.grownBy w' (some B) ∧ IsR w' B p s.size cap (at' + 2) lang := by
  obtain ⟨b, o, rfl, hcell, hbl⟩ := hasB_at hS hat
  have hlB : b ≠ B := bytes_ne hR hcell
  clear hcell
  have c1 : w.cell? ⟨B, 1, none⟩ = some (.int .i64 at') := row_cell hR rfl
  have c2 : w.cell? ⟨B, 2, none⟩ = some (.int .i64 lang) := row_cell hR rfl
  have c0 : w.cell? ⟨B, 0, none⟩ = some (.slice (some ⟨b, o, none⟩) s.size cap) := row_cell hR rfl
  have f1 := row_free hR 1
  have hl : B < w.heap.size := row_lt hR
  have hR' := Lib.hid hR
  have hS' := Lib.hid hS
  clear hR hS
  go_enter Tryd.func73, Tryd.ntmps73
  go_wp2_with (first | (go_at_call 72; first | (refine (is_val B _ cap at' lang s _ _ false _ (by repeat (first | exact hR'.out | apply IsR.alloc | apply IsR.drewN)) (by repeat (first | exact hS'.out | apply HasB.alloc | apply HasB.drewN)) (by decide) (by decide) (by omega) (by omega) (by exact h91)).mono ?_; rintro e wX ⟨rfl, q, rfl⟩) | (refine (is_val B _ cap at' lang s _ _ true _ (by repeat (first | exact hR'.out | apply IsR.alloc | apply IsR.drewN)) (by repeat (first | exact hS'.out | apply HasB.alloc | apply HasB.drewN)) (by decide) (by decide) (by omega) (by omega) (by exact h92)).mono ?_; rintro e wX ⟨rfl, q, rfl⟩)))

  refine gen_world (fun W0 => Mid w W0 B (some ⟨b, o, none⟩) s cap (at' + 1) at' lang ) ((Mid.start hR'.out hS'.out _).next hl (by intro b' o' e; cases e; exact hlB) (at' + 1) _ (by simp)) ?_
  clear c0 c1 c2 f1
  generalize hmm : at' + 1 = m
  have hmlt : m < s.size := by omega
  have hd : decide ((s.size : Int) ≤ (m : Int)) = false := by simp; omega
  intro W0 hM0
  have d0 : W0.cell? ⟨B, 0, none⟩ = some (.slice (some ⟨b, o, none⟩) s.size cap) := row_cell hM0.1 rfl
  have d1 : W0.cell? ⟨B, 1, none⟩ = some (.int .i64 (m : Nat)) := row_cell hM0.1 rfl
  have hM' := Lib.hid hM0
  have hmm' := Lib.hid hmm
  clear hM0 hmm
  go_quiet (fail)
  go_wp2_with fail

  refine gen_world (fun W0 => Mid w W0 B (some ⟨b, o, none⟩) s cap m at' lang) (hM'.out.drewN _) ?_
  clear d0 d1 hd
  have hm : m < s.size := hmlt
  intro W0 ⟨hR0, hS0, hi0, ho0, hg0, hz0⟩
  have hc0 : W0.cell? ⟨b, o + m, none⟩ = some (.int .u8 (s[m].toNat : Int)) := by
    obtain ⟨b', o', e, hc, -⟩ := hasB_at hS0 hm
    cases e; exact hc
  clear hS0
  have d0 : W0.cell? ⟨B, 0, none⟩ = some (.slice (some ⟨b, o, none⟩) s.size cap) := row_cell hR0 rfl
  have d1 : W0.cell? ⟨B, 1, none⟩ = some (.int .i64 (m : Nat)) := row_cell hR0 rfl
  have t1 := row_cell (i := 1) hi0 rfl
  have q1 := row_free hi0 1
  have ql := row_lt hi0
  have hR0' := Lib.hid hR0
  have hi0' := Lib.hid hi0
  have ho0' := Lib.hid ho0
  have hg0' := Lib.hid hg0
  clear hR0 hi0 ho0 hg0
  have hat1 : (m : Int) < (s.size : Int) := by omega
  have n1 : ¬ w.heap.size + 1 = B := by omega
  have n2 : ¬ w.heap.size + 1 = b := by omega
  go_region
  go_wp2_with fail
  refine gen_world (fun W1 => IsR W1 B (some ⟨b, o, none⟩) s.size cap m lang ∧ W1.cell? ⟨b, o + m, none⟩ = some (.int .u8 (s[m].toNat : Int)) ∧ W1.heap[w.heap.size + 1]? = some (.cells #[.bool true, .int .u8 (s[m].toNat : Int), .int .u64 0, .int .u64 0, .int .u64 0, .int .u64 0, .int .i64 (at' : Int)] 120 (0, 0))
    ∧ W1.heap[w.heap.size]? = some (.cells #[.bool false, .int .u8 0, .int .u64 0, .int .u64 0, .int .u64 0, .int .u64 0, .int .i64 0] 120 (0, 0)) ∧ w.grownBy W1 (some B) ∧ w.heap.size + 2 ≤ W1.heap.size) ?_ ?_
  · refine ⟨row_set_other hR0'.out (by omega) _ _, ?_, (row_set hi0'.out 1 _).trans (by rfl), row_set_other ho0'.out (by omega) _ _, only_drewN (only_set hg0'.out _ _ (.inr (by omega)) _) 1, by simpa [World.setCell] using hz0⟩
    show (W0.setCell _ _).cell? _ = _
    rw [World.cell?_setCell_other _ _ _ _ (by intro e; injection e; omega)]
    exact hc0
  clear d0 d1 t1 q1 ql hc0 hR0' hi0' ho0' hg0' hz0
  intro W1 ⟨hR1, hc1, hi1, ho1, hg1, hz1⟩
  have d0 : W1.cell? ⟨B, 0, none⟩ = some (.slice (some ⟨b, o, none⟩) s.size cap) := row_cell hR1 rfl
  have d1 : W1.cell? ⟨B, 1, none⟩ = some (.int .i64 (m : Nat)) := row_cell hR1 rfl
  have hsl := one_run b o cap m s hm hcap
  have hcv := one_conv b o cap m s hm
  have hR1' := Lib.hid hR1
  have hlW : B < W1.heap.size ∧ b < W1.heap.size := ⟨row_lt hR1, by omega⟩
  clear hR1
  have e1 : (m : Int) ≤ (m : Int) + 1 := by omega
  have e2 : (m : Int) + 1 ≤ (cap : Int) := by omega
  have e3 : (0 : Int) ≤ (m : Int) := by omega
  have e4 : (0 : Int) ≤ (m : Int) + 1 := by omega
  have e5 : ¬ cap = m := by omega
  have hat2 : m < 2 ^ 61 := by omega
  have e6 : IntKind.i64.wrap ((m : Int) + 1) = (m : Int) + 1 := by simp [IntKind.wrap, IntKind.bits, IntKind.signed]; omega
  go_region_held3 (fun w' => w'.cell? ⟨B, 0, none⟩ = some (.slice (some ⟨b, o, none⟩) s.size cap) ∧ w'.cell? ⟨B, 1, none⟩ = some (.int .i64 (m : Nat)) ∧ w'.cell? ⟨b, o + m, none⟩ = some (.int .u8 (s[m].toNat : Int))) (go_keep)
    (first | (go_at_call 22; refine (Of_any' _ _ (by show (1 : Nat) ≤ maxLen; decide)).mono ?_; rintro e w9 ⟨rfl, b9⟩; have hT := (b9.block (w.heap.size + 1) (by show _ < W1.heap.size; omega)).trans hi1; have t2 := row_cell (i := 2) hT rfl; have t3 := row_cell (i := 3) hT rfl; have t4 := row_cell (i := 4) hT rfl; have t5 := row_cell (i := 5) hT rfl; have q2 := row_free hT 2; have q3 := row_free hT 3; have q4 := row_free hT 4; have q5 := row_free hT 5; have ql := row_lt hT; clear hT; have hR9 : IsR w9 B (some ⟨b, o, none⟩) s.size cap m lang := hR1'.out.keep (b9.block B (by show _ < W1.heap.size; omega)); have y0 := row_cell (i := 0) hR9 rfl; have y1 := row_cell (i := 1) hR9 rfl; have y2 := (b9.cell (p := ⟨b, o + m, none⟩) (by show b < W1.heap.size; omega)).trans hc1; clear hR9))
  have hR9 : IsR w9 B (some ⟨b, o, none⟩) s.size cap m lang := hR1'.out.keep (b9.block B (by show _ < W1.heap.size; omega))
  have ho9 := (b9.block w.heap.size (by show _ < W1.heap.size; omega)).trans ho1
  have hi9 := (b9.block (w.heap.size + 1) (by show _ < W1.heap.size; omega)).trans hi1
  have hg9 : w.grownBy w9 (some B) := only_then (w := W1.drew) (only_drewN hg1 1) b9 (by show _ ≤ W1.heap.size; omega)
  have hz9 : w.heap.size + 2 ≤ w9.heap.size := by have : W1.heap.size ≤ w9.heap.size := b9.size; omega
  refine gen_q _ (fun W2 => IsR W2 B (some ⟨b, o, none⟩) s.size cap m lang ∧ W2.heap[w.heap.size + 1]? = some (.cells (itc true (s[m].toNat : Int) (ofL [s[m]]) at') 120 (0, 0))
      ∧ W2.heap[w.heap.size]? = some (.cells #[.bool false, .int .u8 0, .int .u64 0, .int .u64 0, .int .u64 0, .int .u64 0, .int .i64 0] 120 (0, 0)) ∧ w.grownBy W2 (some B) ∧ w.heap.size + 2 ≤ W2.heap.size) ?_ ?_
  · refine ⟨?_, ?_, ?_, ?_, ?_⟩
    · exact row_set_other (row_set_other (row_set_other (row_set_other hR9 (by omega) _ _) (by omega) _ _) (by omega) _ _) (by omega) _ _
    · exact (row_set (row_set (row_set (row_set hi9 2 _) 3 _) 4 _) 5 _).trans (by rfl)
    · exact row_set_other (row_set_other (row_set_other (row_set_other ho9 (by omega) _ _) (by omega) _ _) (by omega) _ _) (by omega) _ _
    · exact only_set (only_set (only_set (only_set hg9 _ _ (.inr (by omega)) _) _ _ (.inr (by omega)) _) _ _ (.inr (by omega)) _) _ _ (.inr (by omega)) _
    · simp [World.setCell]; exact hz9
  clear b9 t2 t3 t4 t5 q2 q3 q4 q5 ql y0 y1 y2 hR9 ho9 hi9 hg9 hz9 hi1 ho1 hg1 hz1 hlW hcv hc1 d0 d1 hsl
  intro W2 ⟨hR2, hi2, ho2, hg2, hz2⟩
  have d1 : W2.cell? ⟨B, 1, none⟩ = some (.int .i64 (m : Nat)) := row_cell hR2 rfl
  have d1f := row_free hR2 1
  have hlB2 := row_lt hR2
  have hR2' := Lib.hid hR2
  have hi2' := Lib.hid hi2
  have ho2' := Lib.hid ho2
  have hg2' := Lib.hid hg2
  clear hR2 hi2 ho2 hg2
  go_wp2_with (first
    | (refine wpList_load_row rfl 120 _ rfl _ rfl 120 _ (0, 0) _ (row_set_other hi2'.out (by omega) _ _) Tryd.underlying120 (by rfl) (by kernel_rfl) ?_)
    | (refine wpList_store_row rfl 120 _ _ rfl _ _ rfl rfl 120 _ (row_set_other ho2'.out (by omega) _ _) (by kernel_rfl) rfl (by simp [Value.oneCell', itc]) ?_))
  have hne : ¬ B = w.heap.size := by omega
  obtain rfl := hmm'.out
  refine ret_row2 _ rfl rfl rfl rfl (setRow_heap _ w.heap.size _ _ _ _ (row_set_other ho2'.out (by omega) _ _)) Tryd.underlying120 (by kernel_rfl) ⟨rfl, ?_, ?_⟩
  · exact only_row (only_set hg2'.out _ _ (.inl rfl) _) _ (Nat.le_refl _) _
  · show _ = _
    rw [setRow_other _ _ _ _ hne]
    exact (row_set hR2'.out 1 _).trans (by rfl)


set_option maxHeartbeats 2000000 in
set_option maxRecDepth 100000 in
theorem item_escEnd {N : Nat} {E : Nat → Addr} (B : Nat) (p : Option Addr) (cap at' : Nat) (lang : Int) (s : ByteArray) (w : World) (hR : IsR w B p s.size cap at' lang) (hS : HasB w p s) (hs : s.size < 2 ^ 61) (hat : at' < s.size) (_hcap : s.size ≤ cap)
    (hN : N ≤ B) (hE : Errs N E w) (h91 : isB s at' 91 = false) (h92 : isB s at' 92 = true) (hlang : (lang == 2) = true) (hm1 : s.size ≤ at' + 1) :
    Calls Tryd.prog 73 #[.pointer (some ⟨B, 0, none⟩)] w fun e w' => ∃ v, e = .returned (.tuple #[.agg (itc true 0 0 at'), v]) ∧ IsErr w' E v 8 (s.size : Nat) lang ∧ w.grownBy w' (some B) ∧ ∃ at2, IsR w' B p s.size cap at2 lang := by
  obtain ⟨b, o, rfl, hcell, hbl⟩ := hasB_at hS hat
  have hlB : b ≠ B := bytes_ne hR hcell
  clear hcell
  have c1 : w.cell? ⟨B, 1, none⟩ = some (.int .i64 at') := row_cell hR rfl
  have c2 : w.cell? ⟨B, 2, none⟩ = some (.int .i64 lang) := row_cell hR rfl
  have c0 : w.cell? ⟨B, 0, none⟩ = some (.slice (some ⟨b, o, none⟩) s.size cap) := row_cell hR rfl
  have f1 := row_free hR 1
  have hl : B < w.heap.size := row_lt hR
  have hR' := Lib.hid hR
  have hS' := Lib.hid hS
  clear hR hS
  have hE' := Lib.hid hE
  clear hE
  go_enter Tryd.func73, Tryd.ntmps73
  go_wp2_with (first | (go_at_call 72; first | (refine (is_val B _ cap at' lang s _ _ false _ (by repeat (first | exact hR'.out | apply IsR.alloc | apply IsR.drewN)) (by repeat (first | exact hS'.out | apply HasB.alloc | apply HasB.drewN)) (by decide) (by decide) (by omega) (by omega) (by exact h91)).mono ?_; rintro e wX ⟨rfl, q, rfl⟩) | (refine (is_val B _ cap at' lang s _ _ true _ (by repeat (first | exact hR'.out | apply IsR.alloc | apply IsR.drewN)) (by repeat (first | exact hS'.out | apply HasB.alloc | apply HasB.drewN)) (by decide) (by decide) (by omega) (by omega) (by exact h92)).mono ?_; rintro e wX ⟨rfl, q, rfl⟩)))

  refine gen_world (fun W0 => Mid w W0 B (some ⟨b, o, none⟩) s cap (at' + 1) at' lang ∧ Errs N E W0) ⟨((Mid.start hR'.out hS'.out _).next hl (by intro b' o' e; cases e; exact hlB) (at' + 1) _ (by simp)), (((hE'.out.alloc _ (by omega)).alloc _ (by simp; omega)).drewN _).set_ hN⟩ ?_
  clear c0 c1 c2 f1
  generalize hmm : at' + 1 = m
  have hmlt : s.size ≤ m := by omega
  have hd : decide ((s.size : Int) ≤ (m : Int)) = true := by simp; omega
  have hm61 : m < 2 ^ 61 := by omega
  intro W0 ⟨hM0, hE0⟩
  have d0 : W0.cell? ⟨B, 0, none⟩ = some (.slice (some ⟨b, o, none⟩) s.size cap) := row_cell hM0.1 rfl
  have d1 : W0.cell? ⟨B, 1, none⟩ = some (.int .i64 (m : Nat)) := row_cell hM0.1 rfl
  have hM' := Lib.hid hM0
  have hmm' := Lib.hid hmm
  clear hM0 hmm
  go_quiet (fail)
  go_wp2_with fail

  refine gen_world (fun W0 => Mid w W0 B (some ⟨b, o, none⟩) s cap m at' lang ∧ Errs N E W0) ⟨hM'.out.drewN _, hE0.drewN _⟩ ?_
  clear d0 d1 hd
  intro W0 ⟨⟨hR0, hS0, hi0, ho0, hg0, hz0⟩, hE0⟩
  clear hS0
  have d0 : W0.cell? ⟨B, 0, none⟩ = some (.slice (some ⟨b, o, none⟩) s.size cap) := row_cell hR0 rfl
  have d1 : W0.cell? ⟨B, 1, none⟩ = some (.int .i64 (m : Nat)) := row_cell hR0 rfl
  have ti0 : W0.cell? ⟨w.heap.size + 1, 0, none⟩ = some (.bool true) := row_cell hi0 rfl
  have ti1 : W0.cell? ⟨w.heap.size + 1, 1, none⟩ = some (.int .u8 0) := row_cell hi0 rfl
  have ti2 : W0.cell? ⟨w.heap.size + 1, 2, none⟩ = some (.int .u64 0) := row_cell hi0 rfl
  have ti3 : W0.cell? ⟨w.heap.size + 1, 3, none⟩ = some (.int .u64 0) := row_cell hi0 rfl
  have ti4 : W0.cell? ⟨w.heap.size + 1, 4, none⟩ = some (.int .u64 0) := row_cell hi0 rfl
  have ti5 : W0.cell? ⟨w.heap.size + 1, 5, none⟩ = some (.int .u64 0) := row_cell hi0 rfl
  have ti6 : W0.cell? ⟨w.heap.size + 1, 6, none⟩ = some (.int .i64 (at' : Int)) := row_cell hi0 rfl
  have to0 : W0.cell? ⟨w.heap.size, 0, none⟩ = some (.bool false) := row_cell ho0 rfl
  have tof0 := row_free ho0 0
  have to1 : W0.cell? ⟨w.heap.size, 1, none⟩ = some (.int .u8 0) := row_cell ho0 rfl
  have tof1 := row_free ho0 1
  have to2 : W0.cell? ⟨w.heap.size, 2, none⟩ = some (.int .u64 0) := row_cell ho0 rfl
  have tof2 := row_free ho0 2
  have to3 : W0.cell? ⟨w.heap.size, 3, none⟩ = some (.int .u64 0) := row_cell ho0 rfl
  have tof3 := row_free ho0 3
  have to4 : W0.cell? ⟨w.heap.size, 4, none⟩ = some (.int .u64 0) := row_cell ho0 rfl
  have tof4 := row_free ho0 4
  have to5 : W0.cell? ⟨w.heap.size, 5, none⟩ = some (.int .u64 0) := row_cell ho0 rfl
  have tof5 := row_free ho0 5
  have to6 : W0.cell? ⟨w.heap.size, 6, none⟩ = some (.int .i64 0) := row_cell ho0 rfl
  have tof6 := row_free ho0 6
  have hR0' := Lib.hid hR0
  have hi0' := Lib.hid hi0
  have ho0' := Lib.hid ho0
  have hg0' := Lib.hid hg0
  have hE0' := Lib.hid hE0
  clear hR0 hi0 ho0 hg0 hE0
  have n1 : ¬ w.heap.size = B := by omega
  have n2 : ¬ w.heap.size = w.heap.size + 1 := by omega
  have hat2 : m < 2 ^ 61 := by omega
  have l0 : w.heap.size < W0.heap.size := by omega
  have l1 : w.heap.size + 1 < W0.heap.size := by omega
  have lB : B < W0.heap.size := by omega
  go_region_held3 (fun w' => w'.cell? ⟨B, 0, none⟩ = some (.slice (some ⟨b, o, none⟩) s.size cap) ∧ w'.cell? ⟨w.heap.size + 1, 0, none⟩ = some (.bool true) ∧ w'.cell? ⟨w.heap.size + 1, 1, none⟩ = some (.int .u8 0) ∧ w'.cell? ⟨w.heap.size + 1, 2, none⟩ = some (.int .u64 0) ∧ w'.cell? ⟨w.heap.size + 1, 3, none⟩ = some (.int .u64 0) ∧ w'.cell? ⟨w.heap.size + 1, 4, none⟩ = some (.int .u64 0) ∧ w'.cell? ⟨w.heap.size + 1, 5, none⟩ = some (.int .u64 0) ∧ w'.cell? ⟨w.heap.size + 1, 6, none⟩ = some (.int .i64 (at' : Int))) (go_keep)
    (first | (go_at_call 59; refine (fail_any (N := N) (E := E) (by repeat (first | exact hE0'.out | apply Errs.set_ | apply Errs.drew | omega)) B (some ⟨b, o, none⟩) s.size cap m lang (by repeat (first | exact hR0'.out | apply IsR.set_ | apply IsR.drew | omega)) 8 (by decide) (by decide) _).mono ?_; rintro e w9 ⟨v, rfl, hv, b9⟩; have hT := (b9.block (w.heap.size + 1) (by simp; omega)).trans (by repeat (first | exact hi0'.out | refine row_set_other ?_ (by omega) _ _ | refine row_drew ?_)); have ui0 := row_cell (i := 0) hT rfl; have ui1 := row_cell (i := 1) hT rfl; have ui2 := row_cell (i := 2) hT rfl; have ui3 := row_cell (i := 3) hT rfl; have ui4 := row_cell (i := 4) hT rfl; have ui5 := row_cell (i := 5) hT rfl; have ui6 := row_cell (i := 6) hT rfl; have hR9 := (b9.block B (by simp; omega)).trans (by repeat (first | exact hR0'.out | refine row_set_other ?_ (by omega) _ _ | refine row_drew ?_)); have ur := row_cell (i := 0) hR9 rfl; clear hT hR9; first | (have hU := (b9.block w.heap.size (by simp; omega)).trans (by repeat (first | exact ho0'.out | refine row_set_other ?_ (by omega) _ _ | refine row_drew ?_)); have uo0 := row_cell (i := 0) hU rfl; have uf0 := row_free hU 0; have uo1 := row_cell (i := 1) hU rfl; have uf1 := row_free hU 1; have uo2 := row_cell (i := 2) hU rfl; have uf2 := row_free hU 2; have uo3 := row_cell (i := 3) hU rfl; have uf3 := row_free hU 3; have uo4 := row_cell (i := 4) hU rfl; have uf4 := row_free hU 4; have uo5 := row_cell (i := 5) hU rfl; have uf5 := row_free hU 5; have uo6 := row_cell (i := 6) hU rfl; have uf6 := row_free hU 6; clear hU) | skip))
  have ho9 := (b9.block w.heap.size (by show _ < W0.heap.size; omega)).trans ho0'.out
  refine gen_q _ (fun W2 => W2.heap[w.heap.size]? = some (.cells (itc true 0 0 at') 120 (0, 0)) ∧ IsErr W2 E v 8 (s.size : Nat) lang ∧ w.grownBy W2 (some B) ∧ IsR W2 B (some ⟨b, o, none⟩) s.size cap m lang) ?_ ?_
  · refine ⟨(row_set (row_set (row_set (row_set (row_set (row_set (row_set ho9 0 _) 1 _) 2 _) 3 _) 4 _) 5 _) 6 _).trans (by simp [itc, word_zero]), hv.keepT ho9 (by decide) (by decide) fun k _ hk => ?_, ?_, ?_⟩
    · iterate 7 (refine (Below.heap_setCell _ _ _ _ hk).trans ?_)
      rfl
    · iterate 7 (refine only_set ?_ _ _ (.inr (Nat.le_refl _)) _)
      exact only_then (w := W0.drew) (only_drewN hg0'.out 1) b9 (by show _ ≤ W0.heap.size; omega)
    · iterate 7 (refine IsR.set_ ?_ (by omega))
      exact hR0'.out.keep (b9.block B (by show _ < W0.heap.size; omega))
  clear hv b9 ho9 hg0' hR0' ho0' hi0' hE0' d0 d1 ti0 to0 tof0 ui0 uo0 uf0 ti1 to1 tof1 ui1 uo1 uf1 ti2 to2 tof2 ui2 uo2 uf2 ti3 to3 tof3 ui3 uo3 uf3 ti4 to4 tof4 ui4 uo4 uf4 ti5 to5 tof5 ui5 uo5 uf5 ti6 to6 tof6 ui6 uo6 uf6 ur
  intro W2 ⟨hU, hv, hg, hR⟩
  have hU' := Lib.hid hU
  have hv' := Lib.hid hv
  have hg' := Lib.hid hg
  have hR' := Lib.hid hR
  clear hU hv hg hR
  go_wp2_with fail
  exact ret_row2 _ rfl rfl rfl rfl hU'.out Tryd.underlying120 (by kernel_rfl) ⟨v, rfl, hv'.out, hg'.out, _, hR'.out⟩

end Go.Proofs.YteeopjgfiojoiaaDoor
