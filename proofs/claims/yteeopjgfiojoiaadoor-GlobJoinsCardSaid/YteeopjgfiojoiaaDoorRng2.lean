/- Walks over package set: the reader's ranged where a minus stands: a range, or an error. -/
import Derived.Test.YteeopjgfiojoiaaDoorRng1
namespace Go.Proofs.YteeopjgfiojoiaaDoor
open Go Go.RowKit SN


set_option maxHeartbeats 2000000 in
set_option maxRecDepth 100000 in
theorem ranged_err {N : Nat} {E : Nat → Addr} (B : Nat) (p : Option Addr) (cap at' f : Nat) (lang : Int) (s : ByteArray) (w : World) (hR : IsR w B p s.size cap at' lang) (hS : HasB w p s) (hp : ∀ b o, p = some ⟨b, o, none⟩ → b ≠ B) (hs : s.size < 4294967281) (_hat : at' ≤ s.size) (hcap : s.size ≤ cap) (hN : N ≤ B) (hE : Errs N E w) (c : UInt8) (h45 : isB s at' 45 = true) (h93 : isB s (at' + 1) 93 = false) (hm : at' + 1 < s.size) (code pos : Nat) (hit : item s.data.toList (lang == 2) (at' + 1) = .err code pos) :
    Calls Tryd.prog 74 #[.pointer (some ⟨B, 0, none⟩), .agg (itc true (c.toNat : Int) (ofL [c]) f)] w fun e w' => ∃ v, e = .returned (.tuple #[sv (ofL [c]), v]) ∧ IsErr w' E v code pos lang ∧ w.grownBy w' (some B) ∧ ∃ at2, IsR w' B p s.size cap at2 lang := by
  have hl : B < w.heap.size := row_lt hR
  have hM := RMid.start (w := w) (one := true) (b := (c.toNat : Int)) (S := (ofL [c])) (f := f) hR hS
  have hM' := Lib.hid hM
  clear hR hS hM
  have hE' := Lib.hid hE
  clear hE
  show Calls Tryd.prog 74 #[.pointer (some ⟨B, 0, none⟩), .agg #[.bool true, .int .u8 (c.toNat : Int), .int .u64 (word (ofL [c]) 0), .int .u64 (word (ofL [c]) 1), .int .u64 (word (ofL [c]) 2), .int .u64 (word (ofL [c]) 3), .int .i64 (f : Int)]] w _
  go_enter Tryd.func74, Tryd.ntmps74
  go_wp2_with fail
  refine gen_world (fun W0 => RMid w W0 B p s cap at' lang true (c.toNat : Int) (ofL [c]) f ∧ Errs N E W0) ⟨hM'.out, (hE'.out.alloc _ (by omega)).alloc _ (by simp; omega)⟩ ?_
  clear hM' hE'
  intro W0 ⟨hM, hE0⟩
  have d0 : W0.cell? ⟨B, 0, none⟩ = some (.slice p s.size cap) := row_cell hM.1 rfl
  have d1 : W0.cell? ⟨B, 1, none⟩ = some (.int .i64 (at' : Nat)) := row_cell hM.1 rfl
  obtain ⟨⟨t2, t3, t4, t5⟩, t0, t1, t6⟩ := run_load_mid (ofL [c]) W0 _ _ _ _ hM.2.2.1
  have hR' := Lib.hid hM.1
  have hS' := Lib.hid hM.2.1
  have hX0 := hM.2.2.2.1
  have hg0' := Lib.hid hM.2.2.2.2.1
  have hz0 := hM.2.2.2.2.2
  have hM' := Lib.hid hM
  clear hM
  have e6 : IntKind.i64.wrap ((at' : Int) + 1) = (at' : Int) + 1 := by simp [IntKind.wrap, IntKind.bits, IntKind.signed]; omega
  have hd : decide ((s.size : Int) ≤ (at' : Int) + 1) = false := by simp; omega
  have f1 := row_free hR'.out 1
  have hE0' := Lib.hid hE0
  clear hE0
  go_quiet ((first | (go_at_call 72; exact Calls.quiet_of (is_val B _ cap at' lang s _ _ true _ (hR'.out.drewN _) (hS'.out.drewN _) (by decide) (by decide) (by omega) (by omega) (by exact h45))) | (go_at_call 72; exact Calls.quiet_of (is_val B _ cap at' lang s _ _ false _ (hR'.out.drewN _) (hS'.out.drewN _) (by decide) (by decide) (by omega) (by omega) (by exact h93)))))
  clear e6

  go_wp2_with fail
  have hM2 := (hM'.out.drewN nq).next hl hp (at' + 1) (.int .i64 ((at' : Int) + 1)) (by simp)
  have hi := item_any (N := N) (E := E) B p cap (at' + 1) lang s ((W0.drewN nq).setCell ⟨B, 1, none⟩ (.int .i64 ((at' : Int) + 1))) hM2.1 hM2.2.1 hs (by omega) hcap hN ((hE0'.out.drewN _).set_ hN)
  rw [hit] at hi
  have hM2' := Lib.hid hM2
  have hit' := Lib.hid hit
  clear hM2 hit t0 t1 t2 t3 t4 t5 t6 d0 d1 hX0 hR' hS' hg0' hM' hd f1
  refine hi.mono ?_
  clear hi
  rintro e w3 ⟨v, rfl, hv, hg3, at2, hR3⟩
  have hE3 : Errs N E w3 := ((hE0'.out.drewN nq).set_ (v := .int .i64 ((at' : Int) + 1)) (i := 1) hN).grown hg3 (by simp [World.setCell]; omega) hN
  have hM3 := hM2'.out.grown hl hp hg3 hR3
  have hM3' := Lib.hid hM3
  have hE3' := Lib.hid hE3
  obtain ⟨Sb, Pb, rfl, hvS, hvP⟩ := hv.lt
  have hv' := Lib.hid hv
  clear hv
  clear hM3 hE3 hM2' hE0' hg3 hR3
  go_wp2_with (first | (refine store_item rfl rfl _ _ rfl _ true 0 0 (at' + 1) rfl rfl ⟨_, heap_alloc_new _ _, rfl⟩ ?_; intro w4 hI4 g4 z4; have b4 : Below w3.heap.size w3 w4 := Below.viaG1 g4 ((Below.refl _ _).alloc (Nat.le_refl _) _) (by simp) (Nat.le_refl _); have hM4 := hM3'.out.ext b4 (Nat.le_refl _); have hE4 := hE3'.out.below b4 (by have := hM3'.out.2.2.2.2.2; omega); have zz4 := hM4.2.2.2.2.2; have zz3 := hM3'.out.2.2.2.2.2; obtain ⟨⟨t2, t3, t4, t5⟩, t0, t1, t6⟩ := run_load_mid _ w4 _ _ _ _ hM4.2.2.1; obtain ⟨-, u0, u1, u6⟩ := run_load_mid _ w4 _ _ _ _ hI4; have hX4 := hM4.2.2.2.1; have hM4' := Lib.hid hM4; have hE4' := Lib.hid hE4; have hI4' := Lib.hid hI4; have hv4 := Lib.hid (hv'.out.below b4 (Nat.le_refl _)); clear hv'; clear hM4 hE4 hI4 hM3' hE3' g4) | (refine store_set rfl rfl _ _ rfl _ (ofL [c]) rfl rfl ⟨0, hX4⟩ ?_; intro wX hX gX zX))

  refine ret_set2 rfl rfl rfl rfl (by (repeat' (first | (with_reducible assumption) | (with_reducible apply IsSet.zero'; first | (with_reducible rfl) | (simp only [World.size_alloc]; done)) | (with_reducible apply IsSet.new'; first | (with_reducible rfl) | (simp only [World.size_alloc]; done)) | (with_reducible apply IsSet.sv; first | (with_reducible rfl) | (simp only [World.size_alloc]; done)) | (with_reducible apply IsSet.viaG; with_reducible assumption) | (with_reducible apply IsSet.viaB; with_reducible assumption) | (with_reducible apply IsSet.drew) | (with_reducible apply IsSet.store4) | (with_reducible apply IsSet.set_other) | (with_reducible apply IsSet.alloc) | (simp only [World.size_alloc]; omega) | omega | (simp; omega) | (simp; done)))) ⟨_, rfl, hv4.out.keepT hX4 (by decide) (by decide) (fun k hk hn => gX.block k hk (fun e => hn (by injection e))), only_set_block hM4'.out.2.2.2.2.1 gX (by omega), at2, hM4'.out.1.keep (gX.block B (by omega) (fun e => by injection e; omega))⟩


set_option maxHeartbeats 2000000 in
set_option maxRecDepth 100000 in
theorem ranged_second {N : Nat} {E : Nat → Addr} (B : Nat) (p : Option Addr) (cap at' f : Nat) (lang : Int) (s : ByteArray) (w : World) (hR : IsR w B p s.size cap at' lang) (hS : HasB w p s) (hp : ∀ b o, p = some ⟨b, o, none⟩ → b ≠ B) (hs : s.size < 4294967281) (_hat : at' ≤ s.size) (hcap : s.size ≤ cap) (hN : N ≤ B) (hE : Errs N E w) (c : UInt8) (h45 : isB s at' 45 = true) (h93 : isB s (at' + 1) 93 = false) (hm : at' + 1 < s.size) (S2 next : Nat) (hit : item s.data.toList (lang == 2) (at' + 1) = .cls S2 next) :
    Calls Tryd.prog 74 #[.pointer (some ⟨B, 0, none⟩), .agg (itc true (c.toNat : Int) (ofL [c]) f)] w fun e w' => ∃ v, e = .returned (.tuple #[sv (ofL [c]), v]) ∧ IsErr w' E v 8 (at' + 1 : Nat) lang ∧ w.grownBy w' (some B) ∧ ∃ at2, IsR w' B p s.size cap at2 lang := by
  have hl : B < w.heap.size := row_lt hR
  have hM := RMid.start (w := w) (one := true) (b := (c.toNat : Int)) (S := (ofL [c])) (f := f) hR hS
  have hM' := Lib.hid hM
  clear hR hS hM
  have hE' := Lib.hid hE
  clear hE
  show Calls Tryd.prog 74 #[.pointer (some ⟨B, 0, none⟩), .agg #[.bool true, .int .u8 (c.toNat : Int), .int .u64 (word (ofL [c]) 0), .int .u64 (word (ofL [c]) 1), .int .u64 (word (ofL [c]) 2), .int .u64 (word (ofL [c]) 3), .int .i64 (f : Int)]] w _
  go_enter Tryd.func74, Tryd.ntmps74
  go_wp2_with fail
  refine gen_world (fun W0 => RMid w W0 B p s cap at' lang true (c.toNat : Int) (ofL [c]) f ∧ Errs N E W0) ⟨hM'.out, (hE'.out.alloc _ (by omega)).alloc _ (by simp; omega)⟩ ?_
  clear hM' hE'
  intro W0 ⟨hM, hE0⟩
  have d0 : W0.cell? ⟨B, 0, none⟩ = some (.slice p s.size cap) := row_cell hM.1 rfl
  have d1 : W0.cell? ⟨B, 1, none⟩ = some (.int .i64 (at' : Nat)) := row_cell hM.1 rfl
  obtain ⟨⟨t2, t3, t4, t5⟩, t0, t1, t6⟩ := run_load_mid (ofL [c]) W0 _ _ _ _ hM.2.2.1
  have hR' := Lib.hid hM.1
  have hS' := Lib.hid hM.2.1
  have hX0 := hM.2.2.2.1
  have hg0' := Lib.hid hM.2.2.2.2.1
  have hz0 := hM.2.2.2.2.2
  have hM' := Lib.hid hM
  clear hM
  have e6 : IntKind.i64.wrap ((at' : Int) + 1) = (at' : Int) + 1 := by simp [IntKind.wrap, IntKind.bits, IntKind.signed]; omega
  have hd : decide ((s.size : Int) ≤ (at' : Int) + 1) = false := by simp; omega
  have f1 := row_free hR'.out 1
  have hE0' := Lib.hid hE0
  clear hE0
  go_quiet ((first | (go_at_call 72; exact Calls.quiet_of (is_val B _ cap at' lang s _ _ true _ (hR'.out.drewN _) (hS'.out.drewN _) (by decide) (by decide) (by omega) (by omega) (by exact h45))) | (go_at_call 72; exact Calls.quiet_of (is_val B _ cap at' lang s _ _ false _ (hR'.out.drewN _) (hS'.out.drewN _) (by decide) (by decide) (by omega) (by omega) (by exact h93)))))
  clear e6

  go_wp2_with fail
  have hM2 := (hM'.out.drewN nq).next hl hp (at' + 1) (.int .i64 ((at' : Int) + 1)) (by simp)
  have hi := item_any (N := N) (E := E) B p cap (at' + 1) lang s ((W0.drewN nq).setCell ⟨B, 1, none⟩ (.int .i64 ((at' : Int) + 1))) hM2.1 hM2.2.1 hs (by omega) hcap hN ((hE0'.out.drewN _).set_ hN)
  rw [hit] at hi
  have hM2' := Lib.hid hM2
  have hit' := Lib.hid hit
  clear hM2 hit t0 t1 t2 t3 t4 t5 t6 d0 d1 hX0 hR' hS' hg0' hM' hd f1
  refine hi.mono ?_
  clear hi
  rintro e w3 ⟨rfl, hg3, hR3⟩
  have hE3 : Errs N E w3 := ((hE0'.out.drewN nq).set_ (v := .int .i64 ((at' : Int) + 1)) (i := 1) hN).grown hg3 (by simp [World.setCell]; omega) hN
  have hM3 := hM2'.out.grown hl hp hg3 hR3
  have hM3' := Lib.hid hM3
  have hE3' := Lib.hid hE3
  clear hM3 hE3 hM2' hE0' hg3 hR3
  go_wp2_with (first | (refine store_item rfl rfl _ _ rfl _ false 0 S2 (at' + 1) rfl rfl ⟨_, heap_alloc_new _ _, rfl⟩ ?_; intro w4 hI4 g4 z4; have b4 : Below w3.heap.size w3 w4 := Below.viaG1 g4 ((Below.refl _ _).alloc (Nat.le_refl _) _) (by simp) (Nat.le_refl _); have hM4 := hM3'.out.ext b4 (Nat.le_refl _); have hE4 := hE3'.out.below b4 (by have := hM3'.out.2.2.2.2.2; omega); have zz4 := hM4.2.2.2.2.2; have zz3 := hM3'.out.2.2.2.2.2; obtain ⟨⟨t2, t3, t4, t5⟩, t0, t1, t6⟩ := run_load_mid _ w4 _ _ _ _ hM4.2.2.1; obtain ⟨-, u0, u1, u6⟩ := run_load_mid _ w4 _ _ _ _ hI4; have hX4 := hM4.2.2.2.1; have hM4' := Lib.hid hM4; have hE4' := Lib.hid hE4; have hI4' := Lib.hid hI4; clear hM4 hE4 hI4 hM3' hE3' g4))

  have l3 : w3.heap.size < w4.heap.size := row_lt hI4'.out
  have n1 : ¬ w.heap.size + 1 = w.heap.size := by omega
  have n2 : ¬ w.heap.size + 1 = w3.heap.size := by omega
  go_region_held3 (fun w' => w'.cell? ⟨w.heap.size, 2, none⟩ = some (.int .u64 (word (ofL [c]) 0)) ∧ w'.cell? ⟨w.heap.size, 3, none⟩ = some (.int .u64 (word (ofL [c]) 1)) ∧ w'.cell? ⟨w.heap.size, 4, none⟩ = some (.int .u64 (word (ofL [c]) 2)) ∧ w'.cell? ⟨w.heap.size, 5, none⟩ = some (.int .u64 (word (ofL [c]) 3)) ∧ w'.cell? ⟨w3.heap.size, 6, none⟩ = some (.int .i64 ((at' : Int) + 1))) (go_keep)
    (first | (go_at_call 59; refine (fail_any (N := N) (E := E) (by first | exact hE4'.out | exact hE4'.out.drewN 1) B p s.size cap next lang (by first | exact hM4'.out.1 | exact hM4'.out.1.drewN 1) 8 (by decide) (by decide) _).mono ?_; rintro e w9 ⟨v, rfl, hv, b9⟩; have hz9 : w4.heap.size ≤ w9.heap.size := b9.size; have hT := (b9.block w.heap.size (by show _ < w4.heap.size; omega)).trans hM4'.out.2.2.1; obtain ⟨⟨r2, r3, r4, r5⟩, r0, r1, r6⟩ := run_load_mid _ w9 _ _ _ _ hT; have hI := (b9.block w3.heap.size (by show _ < w4.heap.size; omega)).trans hI4'.out; obtain ⟨-, v0, v1, v6⟩ := run_load_mid _ w9 _ _ _ _ hI; have hX9 : IsSet 24 w9 (w.heap.size + 1) 0 := IsSet.below (w := w4.drew) hX4 b9 (by show _ < w4.heap.size; omega); obtain ⟨⟨x0, x1, x2, x3⟩, ⟨y0, y1, y2, y3⟩, xl⟩ := hX9.all; clear hT hI))
  refine gen_q _ (fun W2 => IsSet 24 W2 (w.heap.size + 1) (ofL [c]) ∧ IsErr W2 E v 8 (at' + 1 : Nat) lang ∧ w.grownBy W2 (some B) ∧ IsR W2 B p s.size cap next lang) ⟨hX9.store4 _, hv.keepT hX9 (by decide) (by decide) (fun k _ hk => ?_), ?_, ?_⟩ ?_
  · iterate 4 (refine (Below.heap_setCell _ _ _ _ hk).trans ?_)
    rfl
  · iterate 4 (refine only_set ?_ _ _ (.inr (by omega)) _)
    exact only_then (w := w4.drew) (only_drewN hM4'.out.2.2.2.2.1 1) b9 (by show _ ≤ w4.heap.size; omega)
  · iterate 4 (refine IsR.set_ ?_ (by omega))
    exact hM4'.out.1.keep (b9.block B (by show _ < w4.heap.size; omega))
  clear hv b9 r0 r1 r2 r3 r4 r5 r6 v0 v1 v6 hX9 x0 x1 x2 x3 y0 y1 y2 y3 xl hz9 t0 t1 t2 t3 t4 t5 t6 u0 u1 u6 hM4' hE4' hI4' hX4
  intro W2 ⟨hX2, hv, hg, hR⟩
  have hv' := Lib.hid hv
  have hg' := Lib.hid hg
  have hR' := Lib.hid hR
  clear hv hg hR
  go_wp2_with fail
  exact ret_set2 rfl rfl rfl rfl hX2 ⟨v, rfl, hv'.out, hg'.out, _, hR'.out⟩


set_option maxHeartbeats 2000000 in
set_option maxRecDepth 100000 in
theorem ranged_less {N : Nat} {E : Nat → Addr} (B : Nat) (p : Option Addr) (cap at' f : Nat) (lang : Int) (s : ByteArray) (w : World) (hR : IsR w B p s.size cap at' lang) (hS : HasB w p s) (hp : ∀ b o, p = some ⟨b, o, none⟩ → b ≠ B) (hs : s.size < 4294967281) (_hat : at' ≤ s.size) (hcap : s.size ≤ cap) (hN : N ≤ B) (hE : Errs N E w) (c : UInt8) (h45 : isB s at' 45 = true) (h93 : isB s (at' + 1) 93 = false) (hm : at' + 1 < s.size) (d : UInt8) (next : Nat) (hit : item s.data.toList (lang == 2) (at' + 1) = .byte d next) (hdc : d.toNat < c.toNat) :
    Calls Tryd.prog 74 #[.pointer (some ⟨B, 0, none⟩), .agg (itc true (c.toNat : Int) (ofL [c]) f)] w fun e w' => ∃ v, e = .returned (.tuple #[sv (ofL [c]), v]) ∧ IsErr w' E v 7 (f : Nat) lang ∧ w.grownBy w' (some B) ∧ ∃ at2, IsR w' B p s.size cap at2 lang := by
  have hl : B < w.heap.size := row_lt hR
  have hM := RMid.start (w := w) (one := true) (b := (c.toNat : Int)) (S := (ofL [c])) (f := f) hR hS
  have hM' := Lib.hid hM
  clear hR hS hM
  have hE' := Lib.hid hE
  clear hE
  show Calls Tryd.prog 74 #[.pointer (some ⟨B, 0, none⟩), .agg #[.bool true, .int .u8 (c.toNat : Int), .int .u64 (word (ofL [c]) 0), .int .u64 (word (ofL [c]) 1), .int .u64 (word (ofL [c]) 2), .int .u64 (word (ofL [c]) 3), .int .i64 (f : Int)]] w _
  go_enter Tryd.func74, Tryd.ntmps74
  go_wp2_with fail
  refine gen_world (fun W0 => RMid w W0 B p s cap at' lang true (c.toNat : Int) (ofL [c]) f ∧ Errs N E W0) ⟨hM'.out, (hE'.out.alloc _ (by omega)).alloc _ (by simp; omega)⟩ ?_
  clear hM' hE'
  intro W0 ⟨hM, hE0⟩
  have d0 : W0.cell? ⟨B, 0, none⟩ = some (.slice p s.size cap) := row_cell hM.1 rfl
  have d1 : W0.cell? ⟨B, 1, none⟩ = some (.int .i64 (at' : Nat)) := row_cell hM.1 rfl
  obtain ⟨⟨t2, t3, t4, t5⟩, t0, t1, t6⟩ := run_load_mid (ofL [c]) W0 _ _ _ _ hM.2.2.1
  have hR' := Lib.hid hM.1
  have hS' := Lib.hid hM.2.1
  have hX0 := hM.2.2.2.1
  have hg0' := Lib.hid hM.2.2.2.2.1
  have hz0 := hM.2.2.2.2.2
  have hM' := Lib.hid hM
  clear hM
  have e6 : IntKind.i64.wrap ((at' : Int) + 1) = (at' : Int) + 1 := by simp [IntKind.wrap, IntKind.bits, IntKind.signed]; omega
  have hd : decide ((s.size : Int) ≤ (at' : Int) + 1) = false := by simp; omega
  have f1 := row_free hR'.out 1
  have hE0' := Lib.hid hE0
  clear hE0
  have hdc1 : decide (d.toNat < c.toNat) = true := by simpa using hdc
  have hdc2 : decide ((d.toNat : Int) < (c.toNat : Int)) = true := by simp; omega
  clear hdc
  go_quiet ((first | (go_at_call 72; exact Calls.quiet_of (is_val B _ cap at' lang s _ _ true _ (hR'.out.drewN _) (hS'.out.drewN _) (by decide) (by decide) (by omega) (by omega) (by exact h45))) | (go_at_call 72; exact Calls.quiet_of (is_val B _ cap at' lang s _ _ false _ (hR'.out.drewN _) (hS'.out.drewN _) (by decide) (by decide) (by omega) (by omega) (by exact h93)))))
  clear e6

  go_wp2_with fail
  have hM2 := (hM'.out.drewN nq).next hl hp (at' + 1) (.int .i64 ((at' : Int) + 1)) (by simp)
  have hi := item_any (N := N) (E := E) B p cap (at' + 1) lang s ((W0.drewN nq).setCell ⟨B, 1, none⟩ (.int .i64 ((at' : Int) + 1))) hM2.1 hM2.2.1 hs (by omega) hcap hN ((hE0'.out.drewN _).set_ hN)
  rw [hit] at hi
  have hM2' := Lib.hid hM2
  have hit' := Lib.hid hit
  clear hM2 hit t0 t1 t2 t3 t4 t5 t6 d0 d1 hX0 hR' hS' hg0' hM' hd f1
  refine hi.mono ?_
  clear hi
  rintro e w3 ⟨rfl, hg3, hR3⟩
  have hE3 : Errs N E w3 := ((hE0'.out.drewN nq).set_ (v := .int .i64 ((at' : Int) + 1)) (i := 1) hN).grown hg3 (by simp [World.setCell]; omega) hN
  have hM3 := hM2'.out.grown hl hp hg3 hR3
  have hM3' := Lib.hid hM3
  have hE3' := Lib.hid hE3
  clear hM3 hE3 hM2' hE0' hg3 hR3
  go_wp2_with (first | (refine store_item rfl rfl _ _ rfl _ true (d.toNat : Int) (ofL [d]) (at' + 1) rfl rfl ⟨_, heap_alloc_new _ _, rfl⟩ ?_; intro w4 hI4 g4 z4; have b4 : Below w3.heap.size w3 w4 := Below.viaG1 g4 ((Below.refl _ _).alloc (Nat.le_refl _) _) (by simp) (Nat.le_refl _); have hM4 := hM3'.out.ext b4 (Nat.le_refl _); have hE4 := hE3'.out.below b4 (by have := hM3'.out.2.2.2.2.2; omega); have zz4 := hM4.2.2.2.2.2; have zz3 := hM3'.out.2.2.2.2.2; obtain ⟨⟨t2, t3, t4, t5⟩, t0, t1, t6⟩ := run_load_mid _ w4 _ _ _ _ hM4.2.2.1; obtain ⟨-, u0, u1, u6⟩ := run_load_mid _ w4 _ _ _ _ hI4; have hX4 := hM4.2.2.2.1; have hM4' := Lib.hid hM4; have hE4' := Lib.hid hE4; have hI4' := Lib.hid hI4; clear hM4 hE4 hI4 hM3' hE3' g4))

  have l3 : w3.heap.size < w4.heap.size := row_lt hI4'.out
  have n1 : ¬ w.heap.size + 1 = w.heap.size := by omega
  have n2 : ¬ w.heap.size + 1 = w3.heap.size := by omega
  go_region_held3 (fun w' => w'.cell? ⟨w.heap.size, 2, none⟩ = some (.int .u64 (word (ofL [c]) 0)) ∧ w'.cell? ⟨w.heap.size, 3, none⟩ = some (.int .u64 (word (ofL [c]) 1)) ∧ w'.cell? ⟨w.heap.size, 4, none⟩ = some (.int .u64 (word (ofL [c]) 2)) ∧ w'.cell? ⟨w.heap.size, 5, none⟩ = some (.int .u64 (word (ofL [c]) 3)) ∧ w'.cell? ⟨w.heap.size, 6, none⟩ = some (.int .i64 (f : Int))) (go_keep)
    (first | (go_at_call 59; refine (fail_any (N := N) (E := E) (by first | exact hE4'.out | exact hE4'.out.drewN 1) B p s.size cap next lang (by first | exact hM4'.out.1 | exact hM4'.out.1.drewN 1) 7 (by decide) (by decide) _).mono ?_; rintro e w9 ⟨v, rfl, hv, b9⟩; have hz9 : w4.heap.size ≤ w9.heap.size := b9.size; have hT := (b9.block w.heap.size (by show _ < w4.heap.size; omega)).trans hM4'.out.2.2.1; obtain ⟨⟨r2, r3, r4, r5⟩, r0, r1, r6⟩ := run_load_mid _ w9 _ _ _ _ hT; have hI := (b9.block w3.heap.size (by show _ < w4.heap.size; omega)).trans hI4'.out; obtain ⟨-, v0, v1, v6⟩ := run_load_mid _ w9 _ _ _ _ hI; have hX9 : IsSet 24 w9 (w.heap.size + 1) 0 := IsSet.below (w := w4.drew) hX4 b9 (by show _ < w4.heap.size; omega); obtain ⟨⟨x0, x1, x2, x3⟩, ⟨y0, y1, y2, y3⟩, xl⟩ := hX9.all; clear hT hI))
  refine gen_q _ (fun W2 => IsSet 24 W2 (w.heap.size + 1) (ofL [c]) ∧ IsErr W2 E v 7 (f : Nat) lang ∧ w.grownBy W2 (some B) ∧ IsR W2 B p s.size cap next lang) ⟨hX9.store4 _, hv.keepT hX9 (by decide) (by decide) (fun k _ hk => ?_), ?_, ?_⟩ ?_
  · iterate 4 (refine (Below.heap_setCell _ _ _ _ hk).trans ?_)
    rfl
  · iterate 4 (refine only_set ?_ _ _ (.inr (by omega)) _)
    exact only_then (w := w4.drew) (only_drewN hM4'.out.2.2.2.2.1 1) b9 (by show _ ≤ w4.heap.size; omega)
  · iterate 4 (refine IsR.set_ ?_ (by omega))
    exact hM4'.out.1.keep (b9.block B (by show _ < w4.heap.size; omega))
  clear hv b9 r0 r1 r2 r3 r4 r5 r6 v0 v1 v6 hX9 x0 x1 x2 x3 y0 y1 y2 y3 xl hz9 t0 t1 t2 t3 t4 t5 t6 u0 u1 u6 hM4' hE4' hI4' hX4
  intro W2 ⟨hX2, hv, hg, hR⟩
  have hv' := Lib.hid hv
  have hg' := Lib.hid hg
  have hR' := Lib.hid hR
  clear hv hg hR
  go_wp2_with fail
  exact ret_set2 rfl rfl rfl rfl hX2 ⟨v, rfl, hv'.out, hg'.out, _, hR'.out⟩


set_option maxHeartbeats 2000000 in
set_option maxRecDepth 100000 in
theorem ranged_range {N : Nat} {E : Nat → Addr} (B : Nat) (p : Option Addr) (cap at' f : Nat) (lang : Int) (s : ByteArray) (w : World) (hR : IsR w B p s.size cap at' lang) (hS : HasB w p s) (hp : ∀ b o, p = some ⟨b, o, none⟩ → b ≠ B) (hs : s.size < 4294967281) (_hat : at' ≤ s.size) (hcap : s.size ≤ cap) (hN : N ≤ B) (hE : Errs N E w) (c : UInt8) (h45 : isB s at' 45 = true) (h93 : isB s (at' + 1) 93 = false) (hm : at' + 1 < s.size) (d : UInt8) (next : Nat) (hit : item s.data.toList (lang == 2) (at' + 1) = .byte d next) (hdc : ¬ d.toNat < c.toNat) :
    Calls Tryd.prog 74 #[.pointer (some ⟨B, 0, none⟩), .agg (itc true (c.toNat : Int) (ofL [c]) f)] w fun e w' => e = .returned (.tuple #[sv (rng c.toNat d.toNat), .nilIface]) ∧ w.grownBy w' (some B) ∧ IsR w' B p s.size cap next lang := by
  have hl : B < w.heap.size := row_lt hR
  have hM := RMid.start (w := w) (one := true) (b := (c.toNat : Int)) (S := (ofL [c])) (f := f) hR hS
  have hM' := Lib.hid hM
  clear hR hS hM
  have hE' := Lib.hid hE
  clear hE
  show Calls Tryd.prog 74 #[.pointer (some ⟨B, 0, none⟩), .agg #[.bool true, .int .u8 (c.toNat : Int), .int .u64 (word (ofL [c]) 0), .int .u64 (word (ofL [c]) 1), .int .u64 (word (ofL [c]) 2), .int .u64 (word (ofL [c]) 3), .int .i64 (f : Int)]] w _
  go_enter Tryd.func74, Tryd.ntmps74
  go_wp2_with fail
  refine gen_world (fun W0 => RMid w W0 B p s cap at' lang true (c.toNat : Int) (ofL [c]) f ∧ Errs N E W0) ⟨hM'.out, (hE'.out.alloc _ (by omega)).alloc _ (by simp; omega)⟩ ?_
  clear hM' hE'
  intro W0 ⟨hM, hE0⟩
  have d0 : W0.cell? ⟨B, 0, none⟩ = some (.slice p s.size cap) := row_cell hM.1 rfl
  have d1 : W0.cell? ⟨B, 1, none⟩ = some (.int .i64 (at' : Nat)) := row_cell hM.1 rfl
  obtain ⟨⟨t2, t3, t4, t5⟩, t0, t1, t6⟩ := run_load_mid (ofL [c]) W0 _ _ _ _ hM.2.2.1
  have hR' := Lib.hid hM.1
  have hS' := Lib.hid hM.2.1
  have hX0 := hM.2.2.2.1
  have hg0' := Lib.hid hM.2.2.2.2.1
  have hz0 := hM.2.2.2.2.2
  have hM' := Lib.hid hM
  clear hM
  have e6 : IntKind.i64.wrap ((at' : Int) + 1) = (at' : Int) + 1 := by simp [IntKind.wrap, IntKind.bits, IntKind.signed]; omega
  have hd : decide ((s.size : Int) ≤ (at' : Int) + 1) = false := by simp; omega
  have f1 := row_free hR'.out 1
  have hE0' := Lib.hid hE0
  clear hE0
  have hdc1 : decide (d.toNat < c.toNat) = false := by simpa using hdc
  have hdc2 : decide ((d.toNat : Int) < (c.toNat : Int)) = false := by simp; omega
  clear hdc
  go_quiet ((first | (go_at_call 72; exact Calls.quiet_of (is_val B _ cap at' lang s _ _ true _ (hR'.out.drewN _) (hS'.out.drewN _) (by decide) (by decide) (by omega) (by omega) (by exact h45))) | (go_at_call 72; exact Calls.quiet_of (is_val B _ cap at' lang s _ _ false _ (hR'.out.drewN _) (hS'.out.drewN _) (by decide) (by decide) (by omega) (by omega) (by exact h93)))))
  clear e6

  go_wp2_with fail
  have hM2 := (hM'.out.drewN nq).next hl hp (at' + 1) (.int .i64 ((at' : Int) + 1)) (by simp)
  have hi := item_any (N := N) (E := E) B p cap (at' + 1) lang s ((W0.drewN nq).setCell ⟨B, 1, none⟩ (.int .i64 ((at' : Int) + 1))) hM2.1 hM2.2.1 hs (by omega) hcap hN ((hE0'.out.drewN _).set_ hN)
  rw [hit] at hi
  have hM2' := Lib.hid hM2
  have hit' := Lib.hid hit
  clear hM2 hit t0 t1 t2 t3 t4 t5 t6 d0 d1 hX0 hR' hS' hg0' hM' hd f1
  refine hi.mono ?_
  clear hi
  rintro e w3 ⟨rfl, hg3, hR3⟩
  have hE3 : Errs N E w3 := ((hE0'.out.drewN nq).set_ (v := .int .i64 ((at' : Int) + 1)) (i := 1) hN).grown hg3 (by simp [World.setCell]; omega) hN
  have hM3 := hM2'.out.grown hl hp hg3 hR3
  have hM3' := Lib.hid hM3
  have hE3' := Lib.hid hE3
  clear hM3 hE3 hM2' hE0' hg3 hR3
  go_wp2_with (first | (refine store_item rfl rfl _ _ rfl _ true (d.toNat : Int) (ofL [d]) (at' + 1) rfl rfl ⟨_, heap_alloc_new _ _, rfl⟩ ?_; intro w4 hI4 g4 z4; have b4 : Below w3.heap.size w3 w4 := Below.viaG1 g4 ((Below.refl _ _).alloc (Nat.le_refl _) _) (by simp) (Nat.le_refl _); have hM4 := hM3'.out.ext b4 (Nat.le_refl _); have hE4 := hE3'.out.below b4 (by have := hM3'.out.2.2.2.2.2; omega); have zz4 := hM4.2.2.2.2.2; have zz3 := hM3'.out.2.2.2.2.2; obtain ⟨⟨t2, t3, t4, t5⟩, t0, t1, t6⟩ := run_load_mid _ w4 _ _ _ _ hM4.2.2.1; obtain ⟨-, u0, u1, u6⟩ := run_load_mid _ w4 _ _ _ _ hI4; have hX4 := hM4.2.2.2.1; have hM4' := Lib.hid hM4; have hE4' := Lib.hid hE4; have hI4' := Lib.hid hI4; clear hM4 hE4 hI4 hM3' hE3' g4))

  refine (Range_any c.toNat d.toNat c.toNat_lt d.toNat_lt _).mono ?_
  rintro e w9 ⟨rfl, b9⟩
  have hX9 : IsSet 24 w9 (w.heap.size + 1) 0 := hX4.below b9 (by omega)
  have hM9 := hM4'.out.ext b9 (Nat.le_refl _)
  have hM9' := Lib.hid hM9
  have hz9 := b9.size
  clear hM9 hM4' hE4' hI4' hX4 t0 t1 t2 t3 t4 t5 t6 u0 u1 u6
  go_wp2_with (first | (refine store_set rfl rfl _ _ rfl _ (rng c.toNat d.toNat) rfl rfl ⟨0, hX9⟩ ?_; intro wX hX gX zX))
  exact ret_set2 rfl rfl rfl rfl hX ⟨rfl, only_set_block hM9'.out.2.2.2.2.1 gX (by omega), hM9'.out.1.keep (gX.block B (row_lt hM9'.out.1) (fun e => by injection e; omega))⟩

end Go.Proofs.YteeopjgfiojoiaaDoor
