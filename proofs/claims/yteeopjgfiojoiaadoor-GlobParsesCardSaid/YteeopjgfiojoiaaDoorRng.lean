/- The reader's ranged: an item or a range. Conditions: the reader, its bytes and the errors lie in memory. -/
import Derived.Test.YteeopjgfiojoiaaDoorItB
namespace Go.Proofs.YteeopjgfiojoiaaDoor
open Go Go.RowKit SN


/-- Inside 'ranged': the reader, its bytes, the item that came in, the result's block. -/
def RMid (w W : World) (B : Nat) (p : Option Addr) (s : ByteArray) (cap at' : Nat) (lang : Int) (one : Bool) (b : Int) (S f : Nat) : Prop :=
  IsR W B p s.size cap at' lang ∧ HasB W p s ∧ W.heap[w.heap.size]? = some (.cells (itc one b S f) 120 (0, 0)) ∧ IsSet 24 W (w.heap.size + 1) 0 ∧ w.grownBy W (some B) ∧ w.heap.size + 2 ≤ W.heap.size
section
variable {w W W' : World} {B : Nat} {p : Option Addr} {s : ByteArray} {cap at' : Nat} {lang : Int} {one : Bool} {b : Int} {S f : Nat}
theorem RMid.start (hR : IsR w B p s.size cap at' lang) (hS : HasB w p s) :
    RMid w ((w.alloc (.cells #[.bool one, .int .u8 b, .int .u64 (word S 0), .int .u64 (word S 1), .int .u64 (word S 2), .int .u64 (word S 3), .int .i64 (f : Int)] 120)).alloc (.cells #[.int .u64 0, .int .u64 0, .int .u64 0, .int .u64 0] 24)) B p s cap at' lang one b S f := by
  have hn := IsSet.zero 24 (w.alloc (.cells #[.bool one, .int .u8 b, .int .u64 (word S 0), .int .u64 (word S 1), .int .u64 (word S 2), .int .u64 (word S 3), .int .i64 (f : Int)] 120))
  rw [World.size_alloc] at hn
  exact ⟨(hR.alloc _).alloc _, (hS.alloc _).alloc _, row_alloc (heap_alloc_new w _) _, hn, only_below (((Below.refl _ _).alloc (Nat.le_refl _) _).alloc (by simp) _), by simp⟩
theorem RMid.drewN (h : RMid w W B p s cap at' lang one b S f) (q : Nat) : RMid w (W.drewN q) B p s cap at' lang one b S f :=
  ⟨h.1, h.2.1.drewN q, h.2.2.1, h.2.2.2.1, only_drewN h.2.2.2.2.1 q, h.2.2.2.2.2⟩
theorem only_trans {a b c : World} {g : Nat} (h : a.grownBy b (some g)) (k : b.grownBy c (some g)) : a.grownBy c (some g) :=
  ⟨k.os.trans h.os, k.tape.trans h.tape, k.output.trans h.output, Nat.le_trans h.size k.size, fun i hi hn => (k.block i (Nat.lt_of_lt_of_le hi h.size) hn).trans (h.block i hi hn)⟩
theorem RMid.grown (h : RMid w W B p s cap at' lang one b S f) (hB : B < w.heap.size) (hp : ∀ b o, p = some ⟨b, o, none⟩ → b ≠ B) (hg : W.grownBy W' (some B)) {m : Nat} (hR : IsR W' B p s.size cap m lang) : RMid w W' B p s cap m lang one b S f := by
  obtain ⟨h1, h2, h3, h4, h5, h6⟩ := h
  refine ⟨hR, h2.keep (fun b o e hb => hg.block b hb (fun e2 => hp b o e (by injection e2))) hg.size, ?_, ?_, only_trans h5 hg, Nat.le_trans h6 hg.size⟩
  · rw [hg.block _ (by omega) (fun e => by injection e; omega)]; exact h3
  · exact h4.grown hg (fun e => by injection e; omega)
theorem RMid.ext {M : Nat} (h : RMid w W B p s cap at' lang one b S f) (hb : Below M W W') (hM : W.heap.size ≤ M) : RMid w W' B p s cap at' lang one b S f := by
  obtain ⟨h1, h2, h3, h4, h5, h6⟩ := h
  exact ⟨row_below h1 hb (by have := row_lt h1; omega), h2.keep (fun b o _ hlt => hb.block b (by omega)) hb.size, row_below h3 hb (by omega), row_below h4 hb (by omega), only_then h5 hb (by omega), Nat.le_trans h6 hb.size⟩
theorem RMid.next (h : RMid w W B p s cap at' lang one b S f) (hB : B < w.heap.size) (hp : ∀ b o, p = some ⟨b, o, none⟩ → b ≠ B) (m : Nat) (v : Value) (hv : v = .int .i64 (m : Int)) : RMid w (W.setCell ⟨B, 1, none⟩ v) B p s cap m lang one b S f := by
  subst hv
  obtain ⟨h1, h2, h3, h4, h5, h6⟩ := h
  exact ⟨row_set h1 1 _, h2.keep (fun b o e hb => row_set_other rfl (hp b o e) _ _) (by simp [World.setCell]), row_set_other h3 (by omega) _ _, h4.set_other (by omega) _ _, only_set h5 _ _ (.inl rfl) _, by simpa [World.setCell] using h6⟩
end
theorem run_load_mid (S : Nat) (W : World) (T : Nat) (one : Bool) (b : Int) (f : Nat) (h : W.heap[T]? = some (.cells (itc one b S f) 120 (0, 0))) :
    (W.cell? ⟨T, 2, none⟩ = some (.int .u64 (word S 0)) ∧ W.cell? ⟨T, 3, none⟩ = some (.int .u64 (word S 1)) ∧ W.cell? ⟨T, 4, none⟩ = some (.int .u64 (word S 2)) ∧ W.cell? ⟨T, 5, none⟩ = some (.int .u64 (word S 3))) ∧
    W.cell? ⟨T, 0, none⟩ = some (.bool one) ∧ W.cell? ⟨T, 1, none⟩ = some (.int .u8 b) ∧ W.cell? ⟨T, 6, none⟩ = some (.int .i64 (f : Int)) :=
  ⟨⟨row_cell h rfl, row_cell h rfl, row_cell h rfl, row_cell h rfl⟩, row_cell h rfl, row_cell h rfl, row_cell h rfl⟩
/-- What 'ranged' leaves. -/
def RgPost (E : Nat → Addr) (w : World) (B : Nat) (p : Option Addr) (s : ByteArray) (cap : Nat) (lang : Int) : Rg → Ending → World → Prop
  | .err code pos, e, w' => ∃ S v, e = .returned (.tuple #[sv S, v]) ∧ IsErr w' E v code pos lang ∧ w.grownBy w' (some B) ∧ ∃ at2, IsR w' B p s.size cap at2 lang
  | .ok S next, e, w' => e = .returned (.tuple #[sv S, .nilIface]) ∧ w.grownBy w' (some B) ∧ IsR w' B p s.size cap next lang


theorem only_set_block {a w w' : World} {g T : Nat} (h : a.grownBy w (some g)) (k : w.grownBy w' (some T)) (hT : a.heap.size ≤ T) : a.grownBy w' (some g) :=
  ⟨k.os.trans h.os, k.tape.trans h.tape, k.output.trans h.output, Nat.le_trans h.size k.size, fun i hi hn => (k.block i (Nat.lt_of_lt_of_le hi h.size) (fun e => by injection e; omega)).trans (h.block i hi hn)⟩


set_option maxHeartbeats 2000000 in
set_option maxRecDepth 100000 in
theorem ranged_cls (B : Nat) (p : Option Addr) (cap at' f : Nat) (lang : Int) (s : ByteArray) (w : World) (hR : IsR w B p s.size cap at' lang) (hS : HasB w p s) (_hp : ∀ b o, p = some ⟨b, o, none⟩ → b ≠ B) (hs : s.size < 4294967281) (hat : at' ≤ s.size) (_hcap : s.size ≤ cap) (S : Nat) :
    Calls Tryd.prog 74 #[.pointer (some ⟨B, 0, none⟩), .agg (itc false 0 S f)] w fun e w' => e = .returned (.tuple #[sv S, .nilIface]) ∧ w.grownBy w' (some B) ∧ IsR w' B p s.size cap at' lang := by
  have hl : B < w.heap.size := row_lt hR
  have hM := RMid.start (w := w) (one := false) (b := 0) (S := S) (f := f) hR hS
  have hM' := Lib.hid hM
  clear hR hS hM
  show Calls Tryd.prog 74 #[.pointer (some ⟨B, 0, none⟩), .agg #[.bool false, .int .u8 0, .int .u64 (word S 0), .int .u64 (word S 1), .int .u64 (word S 2), .int .u64 (word S 3), .int .i64 (f : Int)]] w _
  go_enter Tryd.func74, Tryd.ntmps74
  go_wp2_with fail
  refine gen_world (fun W0 => RMid w W0 B p s cap at' lang false 0 S f) hM'.out ?_
  clear hM'
  intro W0 hM
  have d0 : W0.cell? ⟨B, 0, none⟩ = some (.slice p s.size cap) := row_cell hM.1 rfl
  have d1 : W0.cell? ⟨B, 1, none⟩ = some (.int .i64 (at' : Nat)) := row_cell hM.1 rfl
  obtain ⟨⟨t2, t3, t4, t5⟩, t0, t1, t6⟩ := run_load_mid S W0 _ _ _ _ hM.2.2.1
  have hR' := Lib.hid hM.1
  have hS' := Lib.hid hM.2.1
  have hX0 := hM.2.2.2.1
  have hg0' := Lib.hid hM.2.2.2.2.1
  have hz0 := hM.2.2.2.2.2
  have hM' := Lib.hid hM
  clear hM
  have e6 : IntKind.i64.wrap ((at' : Int) + 1) = (at' : Int) + 1 := by simp [IntKind.wrap, IntKind.bits, IntKind.signed]; omega

  go_quiet (fail)
  clear e6

  go_wp2_with (first | (refine store_set rfl rfl _ _ rfl _ S rfl rfl ⟨0, hX0.drewN _⟩ ?_; intro wX hX gX zX))
  refine ret_set2 rfl rfl rfl rfl (by (repeat' (first | (with_reducible assumption) | (with_reducible apply IsSet.zero'; first | (with_reducible rfl) | (simp only [World.size_alloc]; done)) | (with_reducible apply IsSet.new'; first | (with_reducible rfl) | (simp only [World.size_alloc]; done)) | (with_reducible apply IsSet.sv; first | (with_reducible rfl) | (simp only [World.size_alloc]; done)) | (with_reducible apply IsSet.viaG; with_reducible assumption) | (with_reducible apply IsSet.viaB; with_reducible assumption) | (with_reducible apply IsSet.drew) | (with_reducible apply IsSet.store4) | (with_reducible apply IsSet.set_other) | (with_reducible apply IsSet.alloc) | (simp only [World.size_alloc]; omega) | omega | (simp; omega) | (simp; done)))) ⟨rfl, ?_, ?_⟩
  · exact (only_set_block (only_drewN hg0'.out _) gX (by omega))
  · exact hR'.out.keep (gX.block B (by show B < W0.heap.size; omega) (fun e => by injection e; omega))


set_option maxHeartbeats 2000000 in
set_option maxRecDepth 100000 in
theorem ranged_k1 (B : Nat) (p : Option Addr) (cap at' f : Nat) (lang : Int) (s : ByteArray) (w : World) (hR : IsR w B p s.size cap at' lang) (hS : HasB w p s) (_hp : ∀ b o, p = some ⟨b, o, none⟩ → b ≠ B) (hs : s.size < 4294967281) (hat : at' ≤ s.size) (_hcap : s.size ≤ cap) (c : UInt8) (h45 : isB s at' 45 = false) :
    Calls Tryd.prog 74 #[.pointer (some ⟨B, 0, none⟩), .agg (itc true (c.toNat : Int) (ofL [c]) f)] w fun e w' => e = .returned (.tuple #[sv (ofL [c]), .nilIface]) ∧ w.grownBy w' (some B) ∧ IsR w' B p s.size cap at' lang := by
  have hl : B < w.heap.size := row_lt hR
  have hM := RMid.start (w := w) (one := true) (b := (c.toNat : Int)) (S := (ofL [c])) (f := f) hR hS
  have hM' := Lib.hid hM
  clear hR hS hM
  show Calls Tryd.prog 74 #[.pointer (some ⟨B, 0, none⟩), .agg #[.bool true, .int .u8 (c.toNat : Int), .int .u64 (word (ofL [c]) 0), .int .u64 (word (ofL [c]) 1), .int .u64 (word (ofL [c]) 2), .int .u64 (word (ofL [c]) 3), .int .i64 (f : Int)]] w _
  go_enter Tryd.func74, Tryd.ntmps74
  go_wp2_with fail
  refine gen_world (fun W0 => RMid w W0 B p s cap at' lang true (c.toNat : Int) (ofL [c]) f) hM'.out ?_
  clear hM'
  intro W0 hM
  have d0 : W0.cell? ⟨B, 0, none⟩ = some (.slice p s.size cap) := row_cell hM.1 rfl
  have d1 : W0.cell? ⟨B, 1, none⟩ = some (.int .i64 (at' : Nat)) := row_cell hM.1 rfl
  obtain ⟨⟨t2, t3, t4, t5⟩, t0, t1, t6⟩ := run_load_mid (ofL [c]) W0 _ _ _ _ hM.2.2.1
  have hR' := Lib.hid hM.1
  have hS' := Lib.hid hM.2.1
  have hX0 := hM.2.2.2.1
  have hg0' := Lib.hid hM.2.2.2.2.1
  have hz0 := hM.2.2.2.2.2
  have hM' := Lib.hid hM
  clear hM
  have e6 : IntKind.i64.wrap ((at' : Int) + 1) = (at' : Int) + 1 := by simp [IntKind.wrap, IntKind.bits, IntKind.signed]; omega

  go_quiet ((first | (go_at_call 72; exact Calls.quiet_of (is_val B _ cap at' lang s _ _ false _ (hR'.out.drewN _) (hS'.out.drewN _) (by decide) (by decide) (by omega) (by omega) (by exact h45)))))
  clear e6

  go_wp2_with (first | (refine store_set rfl rfl _ _ rfl _ (ofL [c]) rfl rfl ⟨0, hX0.drewN _⟩ ?_; intro wX hX gX zX))
  refine ret_set2 rfl rfl rfl rfl (by (repeat' (first | (with_reducible assumption) | (with_reducible apply IsSet.zero'; first | (with_reducible rfl) | (simp only [World.size_alloc]; done)) | (with_reducible apply IsSet.new'; first | (with_reducible rfl) | (simp only [World.size_alloc]; done)) | (with_reducible apply IsSet.sv; first | (with_reducible rfl) | (simp only [World.size_alloc]; done)) | (with_reducible apply IsSet.viaG; with_reducible assumption) | (with_reducible apply IsSet.viaB; with_reducible assumption) | (with_reducible apply IsSet.drew) | (with_reducible apply IsSet.store4) | (with_reducible apply IsSet.set_other) | (with_reducible apply IsSet.alloc) | (simp only [World.size_alloc]; omega) | omega | (simp; omega) | (simp; done)))) ⟨rfl, ?_, ?_⟩
  · exact (only_set_block (only_drewN hg0'.out _) gX (by omega))
  · exact hR'.out.keep (gX.block B (by show B < W0.heap.size; omega) (fun e => by injection e; omega))


set_option maxHeartbeats 2000000 in
set_option maxRecDepth 100000 in
theorem ranged_k2 (B : Nat) (p : Option Addr) (cap at' f : Nat) (lang : Int) (s : ByteArray) (w : World) (hR : IsR w B p s.size cap at' lang) (hS : HasB w p s) (_hp : ∀ b o, p = some ⟨b, o, none⟩ → b ≠ B) (hs : s.size < 4294967281) (hat : at' ≤ s.size) (_hcap : s.size ≤ cap) (c : UInt8) (h45 : isB s at' 45 = true) (h93 : isB s (at' + 1) 93 = true) :
    Calls Tryd.prog 74 #[.pointer (some ⟨B, 0, none⟩), .agg (itc true (c.toNat : Int) (ofL [c]) f)] w fun e w' => e = .returned (.tuple #[sv (ofL [c]), .nilIface]) ∧ w.grownBy w' (some B) ∧ IsR w' B p s.size cap at' lang := by
  have hl : B < w.heap.size := row_lt hR
  have hM := RMid.start (w := w) (one := true) (b := (c.toNat : Int)) (S := (ofL [c])) (f := f) hR hS
  have hM' := Lib.hid hM
  clear hR hS hM
  show Calls Tryd.prog 74 #[.pointer (some ⟨B, 0, none⟩), .agg #[.bool true, .int .u8 (c.toNat : Int), .int .u64 (word (ofL [c]) 0), .int .u64 (word (ofL [c]) 1), .int .u64 (word (ofL [c]) 2), .int .u64 (word (ofL [c]) 3), .int .i64 (f : Int)]] w _
  go_enter Tryd.func74, Tryd.ntmps74
  go_wp2_with fail
  refine gen_world (fun W0 => RMid w W0 B p s cap at' lang true (c.toNat : Int) (ofL [c]) f) hM'.out ?_
  clear hM'
  intro W0 hM
  have d0 : W0.cell? ⟨B, 0, none⟩ = some (.slice p s.size cap) := row_cell hM.1 rfl
  have d1 : W0.cell? ⟨B, 1, none⟩ = some (.int .i64 (at' : Nat)) := row_cell hM.1 rfl
  obtain ⟨⟨t2, t3, t4, t5⟩, t0, t1, t6⟩ := run_load_mid (ofL [c]) W0 _ _ _ _ hM.2.2.1
  have hR' := Lib.hid hM.1
  have hS' := Lib.hid hM.2.1
  have hX0 := hM.2.2.2.1
  have hg0' := Lib.hid hM.2.2.2.2.1
  have hz0 := hM.2.2.2.2.2
  have hM' := Lib.hid hM
  clear hM
  have e6 : IntKind.i64.wrap ((at' : Int) + 1) = (at' : Int) + 1 := by simp [IntKind.wrap, IntKind.bits, IntKind.signed]; omega

  go_quiet ((first | (go_at_call 72; exact Calls.quiet_of (is_val B _ cap at' lang s _ _ true _ (hR'.out.drewN _) (hS'.out.drewN _) (by decide) (by decide) (by omega) (by omega) (by exact h45))) | (go_at_call 72; exact Calls.quiet_of (is_val B _ cap at' lang s _ _ true _ (hR'.out.drewN _) (hS'.out.drewN _) (by decide) (by decide) (by omega) (by omega) (by exact h93)))))
  clear e6

  go_wp2_with (first | (refine store_set rfl rfl _ _ rfl _ (ofL [c]) rfl rfl ⟨0, hX0.drewN _⟩ ?_; intro wX hX gX zX))
  refine ret_set2 rfl rfl rfl rfl (by (repeat' (first | (with_reducible assumption) | (with_reducible apply IsSet.zero'; first | (with_reducible rfl) | (simp only [World.size_alloc]; done)) | (with_reducible apply IsSet.new'; first | (with_reducible rfl) | (simp only [World.size_alloc]; done)) | (with_reducible apply IsSet.sv; first | (with_reducible rfl) | (simp only [World.size_alloc]; done)) | (with_reducible apply IsSet.viaG; with_reducible assumption) | (with_reducible apply IsSet.viaB; with_reducible assumption) | (with_reducible apply IsSet.drew) | (with_reducible apply IsSet.store4) | (with_reducible apply IsSet.set_other) | (with_reducible apply IsSet.alloc) | (simp only [World.size_alloc]; omega) | omega | (simp; omega) | (simp; done)))) ⟨rfl, ?_, ?_⟩
  · exact (only_set_block (only_drewN hg0'.out _) gX (by omega))
  · exact hR'.out.keep (gX.block B (by show B < W0.heap.size; omega) (fun e => by injection e; omega))


set_option maxHeartbeats 2000000 in
set_option maxRecDepth 100000 in
theorem ranged_k3 (B : Nat) (p : Option Addr) (cap at' f : Nat) (lang : Int) (s : ByteArray) (w : World) (hR : IsR w B p s.size cap at' lang) (hS : HasB w p s) (_hp : ∀ b o, p = some ⟨b, o, none⟩ → b ≠ B) (hs : s.size < 4294967281) (hat : at' ≤ s.size) (_hcap : s.size ≤ cap) (c : UInt8) (h45 : isB s at' 45 = true) (h93 : isB s (at' + 1) 93 = false) (hm : s.size ≤ at' + 1) :
    Calls Tryd.prog 74 #[.pointer (some ⟨B, 0, none⟩), .agg (itc true (c.toNat : Int) (ofL [c]) f)] w fun e w' => e = .returned (.tuple #[sv (ofL [c]), .nilIface]) ∧ w.grownBy w' (some B) ∧ IsR w' B p s.size cap at' lang := by
  have hl : B < w.heap.size := row_lt hR
  have hM := RMid.start (w := w) (one := true) (b := (c.toNat : Int)) (S := (ofL [c])) (f := f) hR hS
  have hM' := Lib.hid hM
  clear hR hS hM
  show Calls Tryd.prog 74 #[.pointer (some ⟨B, 0, none⟩), .agg #[.bool true, .int .u8 (c.toNat : Int), .int .u64 (word (ofL [c]) 0), .int .u64 (word (ofL [c]) 1), .int .u64 (word (ofL [c]) 2), .int .u64 (word (ofL [c]) 3), .int .i64 (f : Int)]] w _
  go_enter Tryd.func74, Tryd.ntmps74
  go_wp2_with fail
  refine gen_world (fun W0 => RMid w W0 B p s cap at' lang true (c.toNat : Int) (ofL [c]) f) hM'.out ?_
  clear hM'
  intro W0 hM
  have d0 : W0.cell? ⟨B, 0, none⟩ = some (.slice p s.size cap) := row_cell hM.1 rfl
  have d1 : W0.cell? ⟨B, 1, none⟩ = some (.int .i64 (at' : Nat)) := row_cell hM.1 rfl
  obtain ⟨⟨t2, t3, t4, t5⟩, t0, t1, t6⟩ := run_load_mid (ofL [c]) W0 _ _ _ _ hM.2.2.1
  have hR' := Lib.hid hM.1
  have hS' := Lib.hid hM.2.1
  have hX0 := hM.2.2.2.1
  have hg0' := Lib.hid hM.2.2.2.2.1
  have hz0 := hM.2.2.2.2.2
  have hM' := Lib.hid hM
  clear hM
  have e6 : IntKind.i64.wrap ((at' : Int) + 1) = (at' : Int) + 1 := by simp [IntKind.wrap, IntKind.bits, IntKind.signed]; omega
  have hd : decide ((s.size : Int) ≤ (at' : Int) + 1) = true := by simp; omega
  go_quiet ((first | (go_at_call 72; exact Calls.quiet_of (is_val B _ cap at' lang s _ _ true _ (hR'.out.drewN _) (hS'.out.drewN _) (by decide) (by decide) (by omega) (by omega) (by exact h45))) | (go_at_call 72; exact Calls.quiet_of (is_val B _ cap at' lang s _ _ false _ (hR'.out.drewN _) (hS'.out.drewN _) (by decide) (by decide) (by omega) (by omega) (by exact h93)))))
  clear e6

  go_wp2_with (first | (refine store_set rfl rfl _ _ rfl _ (ofL [c]) rfl rfl ⟨0, hX0.drewN _⟩ ?_; intro wX hX gX zX))
  refine ret_set2 rfl rfl rfl rfl (by (repeat' (first | (with_reducible assumption) | (with_reducible apply IsSet.zero'; first | (with_reducible rfl) | (simp only [World.size_alloc]; done)) | (with_reducible apply IsSet.new'; first | (with_reducible rfl) | (simp only [World.size_alloc]; done)) | (with_reducible apply IsSet.sv; first | (with_reducible rfl) | (simp only [World.size_alloc]; done)) | (with_reducible apply IsSet.viaG; with_reducible assumption) | (with_reducible apply IsSet.viaB; with_reducible assumption) | (with_reducible apply IsSet.drew) | (with_reducible apply IsSet.store4) | (with_reducible apply IsSet.set_other) | (with_reducible apply IsSet.alloc) | (simp only [World.size_alloc]; omega) | omega | (simp; omega) | (simp; done)))) ⟨rfl, ?_, ?_⟩
  · exact (only_set_block (only_drewN hg0'.out _) gX (by omega))
  · exact hR'.out.keep (gX.block B (by show B < W0.heap.size; omega) (fun e => by injection e; omega))


section
variable {ops : Array Oper} {Q : Exit → Act → World → Prop} {a : Act} {w : World} {rest : List Oper} {o : Oper}
theorem store_item (hgd : o.guard = none) (hd : o.dst = none) (x y : Operand) (ho : o.op = .store 120 x y) (B : Nat) (one : Bool) (b : Int) (S f : Nat) (hx : a.eval x = .pointer (some ⟨B, 0, none⟩)) (hy : a.eval y = .agg (itc one b S f))
    (h : ∃ old : Array Value, w.heap[B]? = some (.cells old 120 (0, 0)) ∧ old.size = 7)
    (hk : ∀ w', w'.heap[B]? = some (.cells (itc one b S f) 120 (0, 0)) → w.grownBy w' (some B) → w.heap.size ≤ w'.heap.size ∧ w'.heap.size ≤ w.heap.size → wpList Tryd.prog ops Q rest a w') : wpList Tryd.prog ops Q (o :: rest) a w := by
  obtain ⟨old, h, hold⟩ := h
  have hp : a.put o.dst undef = a := by rw [hd]; rfl
  refine wpList_store_row hgd 120 x y ho B (itc one b S f) hx hy 120 old h (by kernel_rfl) (by rw [hold]; rfl) (by simp [itc, Value.oneCell']) (by rw [hp]; exact hk _ (setRow_heap w B _ _ _ _ h) ⟨rfl, rfl, rfl, by simp, fun k _ hk => setRow_other w B k _ (fun e => hk (by rw [e]))⟩ (by simp))
end
end Go.Proofs.YteeopjgfiojoiaaDoor
namespace Go.Proofs.YteeopjgfiojoiaaDoor
open Go Go.RowKit SN


set_option maxHeartbeats 2000000 in
set_option maxRecDepth 100000 in
theorem ranged_err {N : Nat} {E : Nat → Addr} (B : Nat) (p : Option Addr) (cap at' f : Nat) (lang : Int) (s : ByteArray) (w : World) (hR : IsR w B p s.size cap at' lang) (hS : HasB w p s) (hp : ∀ b o, p = some ⟨b, o, none⟩ → b ≠ B) (hs : s.size < 4294967281) (_hat : at' ≤ s.size) (hcap : s.size ≤ cap) (hN : N ≤ B) (hE : Errs N E w) (c : UInt8) (h45 : isB s at' 45 = true) (h93 : isB s (at' + 1) 93 = false) (hm : at' + 1 < s.size) (code pos : Nat) (hit : item s.data.toList (lang == 2) (at' + 1) = .err code pos) :
    Calls Tryd.prog 74 #[.pointer (some ⟨B, 0, none⟩), .agg (itc true (c.toNat : Int) (ofL [c]) f)] w fun e w' => ∃ v, e = .returned (.tuple #[sv (ofL [c]), v]) ∧ IsErr w' E v code pos lang ∧ w.grownBy w' (some B) ∧ ∃ at2, IsR w' B p s.size cap at2 lang := by
  have hl : B < w.heap.size := row_lt hR
  have hM := RMid.start (w := w) (one := true) (b := (c.toNat : Int)) (S := (ofL [c])) (f := f) hR hS
  have hM' := Lib.hid hM
  clear hR hS hM
  have hE' := Lib.hid hE
  clear hE
  show Calls Tryd.prog 74 #[.pointer (some ⟨B, 0, none⟩), .agg #[.bool true, .int .u8 (c.toNat : Int), .int .u64 (word (ofL [c]) 0), .int .u64 (word (ofL [c]) 1), .int .u64 (word (ofL [c]) 2), .int .u64 (word (ofL [c]) 3), .int .i64 (f : Int)]] w _
  go_enter Tryd.func74, Tryd.ntmps74
  go_wp2_with fail
  refine gen_world (fun W0 => RMid w W0 B p s cap at' lang true (c.toNat : Int) (ofL [c]) f ∧ Errs N E W0) ⟨hM'.out, (hE'.out.alloc _ (by omega)).alloc _ (by simp; omega)⟩ ?_
  clear hM' hE'
  intro W0 ⟨hM, hE0⟩
  have d0 : W0.cell? ⟨B, 0, none⟩ = some (.slice p s.size cap) := row_cell hM.1 rfl
  have d1 : W0.cell? ⟨B, 1, none⟩ = some (.int .i64 (at' : Nat)) := row_cell hM.1 rfl
  obtain ⟨⟨t2, t3, t4, t5⟩, t0, t1, t6⟩ := run_load_mid (ofL [c]) W0 _ _ _ _ hM.2.2.1
  have hR' := Lib.hid hM.1
  have hS' := Lib.hid hM.2.1
  have hX0 := hM.2.2.2.1
  have hg0' := Lib.hid hM.2.2.2.2.1
  have hz0 := hM.2.2.2.2.2
  have hM' := Lib.hid hM
  clear hM
  have e6 : IntKind.i64.wrap ((at' : Int) + 1) = (at' : Int) + 1 := by simp [IntKind.wrap, IntKind.bits, IntKind.signed]; omega
  have hd : decide ((s.size : Int) ≤ (at' : Int) + 1) = false := by simp; omega
  have f1 := row_free hR'.out 1
  have hE0' := Lib.hid hE0
  clear hE0
  go_quiet ((first | (go_at_call 72; exact Calls.quiet_of (is_val B _ cap at' lang s _ _ true _ (hR'.out.drewN _) (hS'.out.drewN _) (by decide) (by decide) (by omega) (by omega) (by exact h45))) | (go_at_call 72; exact Calls.quiet_of (is_val B _ cap at' lang s _ _ false _ (hR'.out.drewN _) (hS'.out.drewN _) (by decide) (by decide) (by omega) (by omega) (by exact h93)))))
  clear e6

  go_wp2_with fail
  have hM2 := (hM'.out.drewN nq).next hl hp (at' + 1) (.int .i64 ((at' : Int) + 1)) (by simp)
  have hi := item_any (N := N) (E := E) B p cap (at' + 1) lang s ((W0.drewN nq).setCell ⟨B, 1, none⟩ (.int .i64 ((at' : Int) + 1))) hM2.1 hM2.2.1 hs (by omega) hcap hN ((hE0'.out.drewN _).set_ hN)
  rw [hit] at hi
  have hM2' := Lib.hid hM2
  have hit' := Lib.hid hit
  clear hM2 hit t0 t1 t2 t3 t4 t5 t6 d0 d1 hX0 hR' hS' hg0' hM' hd f1
  refine hi.mono ?_
  clear hi
  rintro e w3 ⟨v, rfl, hv, hg3, at2, hR3⟩
  have hE3 : Errs N E w3 := ((hE0'.out.drewN nq).set_ (v := .int .i64 ((at' : Int) + 1)) (i := 1) hN).grown hg3 (by simp [World.setCell]; omega) hN
  have hM3 := hM2'.out.grown hl hp hg3 hR3
  have hM3' := Lib.hid hM3
  have hE3' := Lib.hid hE3
  obtain ⟨Sb, Pb, rfl, hvS, hvP⟩ := hv.lt
  have hv' := Lib.hid hv
  clear hv
  clear hM3 hE3 hM2' hE0' hg3 hR3
  go_wp2_with (first | (refine store_item rfl rfl _ _ rfl _ true 0 0 (at' + 1) rfl rfl ⟨_, heap_alloc_new _ _, rfl⟩ ?_; intro w4 hI4 g4 z4; have b4 : Below w3.heap.size w3 w4 := Below.viaG1 g4 ((Below.refl _ _).alloc (Nat.le_refl _) _) (by simp) (Nat.le_refl _); have hM4 := hM3'.out.ext b4 (Nat.le_refl _); have hE4 := hE3'.out.below b4 (by have := hM3'.out.2.2.2.2.2; omega); have zz4 := hM4.2.2.2.2.2; have zz3 := hM3'.out.2.2.2.2.2; obtain ⟨⟨t2, t3, t4, t5⟩, t0, t1, t6⟩ := run_load_mid _ w4 _ _ _ _ hM4.2.2.1; obtain ⟨-, u0, u1, u6⟩ := run_load_mid _ w4 _ _ _ _ hI4; have hX4 := hM4.2.2.2.1; have hM4' := Lib.hid hM4; have hE4' := Lib.hid hE4; have hI4' := Lib.hid hI4; have hv4 := Lib.hid (hv'.out.below b4 (Nat.le_refl _)); clear hv'; clear hM4 hE4 hI4 hM3' hE3' g4) | (refine store_set rfl rfl _ _ rfl _ (ofL [c]) rfl rfl ⟨0, hX4⟩ ?_; intro wX hX gX zX))

  refine ret_set2 rfl rfl rfl rfl (by (repeat' (first | (with_reducible assumption) | (with_reducible apply IsSet.zero'; first | (with_reducible rfl) | (simp only [World.size_alloc]; done)) | (with_reducible apply IsSet.new'; first | (with_reducible rfl) | (simp only [World.size_alloc]; done)) | (with_reducible apply IsSet.sv; first | (with_reducible rfl) | (simp only [World.size_alloc]; done)) | (with_reducible apply IsSet.viaG; with_reducible assumption) | (with_reducible apply IsSet.viaB; with_reducible assumption) | (with_reducible apply IsSet.drew) | (with_reducible apply IsSet.store4) | (with_reducible apply IsSet.set_other) | (with_reducible apply IsSet.alloc) | (simp only [World.size_alloc]; omega) | omega | (simp; omega) | (simp; done)))) ⟨_, rfl, hv4.out.keepT hX4 (by decide) (by decide) (fun k hk hn => gX.block k hk (fun e => hn (by injection e))), only_set_block hM4'.out.2.2.2.2.1 gX (by omega), at2, hM4'.out.1.keep (gX.block B (by omega) (fun e => by injection e; omega))⟩


set_option maxHeartbeats 2000000 in
set_option maxRecDepth 100000 in
theorem ranged_second {N : Nat} {E : Nat → Addr} (B : Nat) (p : Option Addr) (cap at' f : Nat) (lang : Int) (s : ByteArray) (w : World) (hR : IsR w B p s.size cap at' lang) (hS : HasB w p s) (hp : ∀ b o, p = some ⟨b, o, none⟩ → b ≠ B) (hs : s.size < 4294967281) (_hat : at' ≤ s.size) (hcap : s.size ≤ cap) (hN : N ≤ B) (hE : Errs N E w) (c : UInt8) (h45 : isB s at' 45 = true) (h93 : isB s (at' + 1) 93 = false) (hm : at' + 1 < s.size) (S2 next : Nat) (hit : item s.data.toList (lang == 2) (at' + 1) = .cls S2 next) :
    Calls Tryd.prog 74 #[.pointer (some ⟨B, 0, none⟩), .agg (itc true (c.toNat : Int) (ofL [c]) f)] w fun e w' => ∃ v, e = .returned (.tuple #[sv (ofL [c]), v]) ∧ IsErr w' E v 8 (at' + 1 : Nat) lang ∧ w.grownBy w' (some B) ∧ ∃ at2, IsR w' B p s.size cap at2 lang := by
  have hl : B < w.heap.size := row_lt hR
  have hM := RMid.start (w := w) (one := true) (b := (c.toNat : Int)) (S := (ofL [c])) (f := f) hR hS
  have hM' := Lib.hid hM
  clear hR hS hM
  have hE' := Lib.hid hE
  clear hE
  show Calls Tryd.prog 74 #[.pointer (some ⟨B, 0, none⟩), .agg #[.bool true, .int .u8 (c.toNat : Int), .int .u64 (word (ofL [c]) 0), .int .u64 (word (ofL [c]) 1), .int .u64 (word (ofL [c]) 2), .int .u64 (word (ofL [c]) 3), .int .i64 (f : Int)]] w _
  go_enter Tryd.func74, Tryd.ntmps74
  go_wp2_with fail
  refine gen_world (fun W0 => RMid w W0 B p s cap at' lang true (c.toNat : Int) (ofL [c]) f ∧ Errs N E W0) ⟨hM'.out, (hE'.out.alloc _ (by omega)).alloc _ (by simp; omega)⟩ ?_
  clear hM' hE'
  intro W0 ⟨hM, hE0⟩
  have d0 : W0.cell? ⟨B, 0, none⟩ = some (.slice p s.size cap) := row_cell hM.1 rfl
  have d1 : W0.cell? ⟨B, 1, none⟩ = some (.int .i64 (at' : Nat)) := row_cell hM.1 rfl
  obtain ⟨⟨t2, t3, t4, t5⟩, t0, t1, t6⟩ := run_load_mid (ofL [c]) W0 _ _ _ _ hM.2.2.1
  have hR' := Lib.hid hM.1
  have hS' := Lib.hid hM.2.1
  have hX0 := hM.2.2.2.1
  have hg0' := Lib.hid hM.2.2.2.2.1
  have hz0 := hM.2.2.2.2.2
  have hM' := Lib.hid hM
  clear hM
  have e6 : IntKind.i64.wrap ((at' : Int) + 1) = (at' : Int) + 1 := by simp [IntKind.wrap, IntKind.bits, IntKind.signed]; omega
  have hd : decide ((s.size : Int) ≤ (at' : Int) + 1) = false := by simp; omega
  have f1 := row_free hR'.out 1
  have hE0' := Lib.hid hE0
  clear hE0
  go_quiet ((first | (go_at_call 72; exact Calls.quiet_of (is_val B _ cap at' lang s _ _ true _ (hR'.out.drewN _) (hS'.out.drewN _) (by decide) (by decide) (by omega) (by omega) (by exact h45))) | (go_at_call 72; exact Calls.quiet_of (is_val B _ cap at' lang s _ _ false _ (hR'.out.drewN _) (hS'.out.drewN _) (by decide) (by decide) (by omega) (by omega) (by exact h93)))))
  clear e6

  go_wp2_with fail
  have hM2 := (hM'.out.drewN nq).next hl hp (at' + 1) (.int .i64 ((at' : Int) + 1)) (by simp)
  have hi := item_any (N := N) (E := E) B p cap (at' + 1) lang s ((W0.drewN nq).setCell ⟨B, 1, none⟩ (.int .i64 ((at' : Int) + 1))) hM2.1 hM2.2.1 hs (by omega) hcap hN ((hE0'.out.drewN _).set_ hN)
  rw [hit] at hi
  have hM2' := Lib.hid hM2
  have hit' := Lib.hid hit
  clear hM2 hit t0 t1 t2 t3 t4 t5 t6 d0 d1 hX0 hR' hS' hg0' hM' hd f1
  refine hi.mono ?_
  clear hi
  rintro e w3 ⟨rfl, hg3, hR3⟩
  have hE3 : Errs N E w3 := ((hE0'.out.drewN nq).set_ (v := .int .i64 ((at' : Int) + 1)) (i := 1) hN).grown hg3 (by simp [World.setCell]; omega) hN
  have hM3 := hM2'.out.grown hl hp hg3 hR3
  have hM3' := Lib.hid hM3
  have hE3' := Lib.hid hE3
  clear hM3 hE3 hM2' hE0' hg3 hR3
  go_wp2_with (first | (refine store_item rfl rfl _ _ rfl _ false 0 S2 (at' + 1) rfl rfl ⟨_, heap_alloc_new _ _, rfl⟩ ?_; intro w4 hI4 g4 z4; have b4 : Below w3.heap.size w3 w4 := Below.viaG1 g4 ((Below.refl _ _).alloc (Nat.le_refl _) _) (by simp) (Nat.le_refl _); have hM4 := hM3'.out.ext b4 (Nat.le_refl _); have hE4 := hE3'.out.below b4 (by have := hM3'.out.2.2.2.2.2; omega); have zz4 := hM4.2.2.2.2.2; have zz3 := hM3'.out.2.2.2.2.2; obtain ⟨⟨t2, t3, t4, t5⟩, t0, t1, t6⟩ := run_load_mid _ w4 _ _ _ _ hM4.2.2.1; obtain ⟨-, u0, u1, u6⟩ := run_load_mid _ w4 _ _ _ _ hI4; have hX4 := hM4.2.2.2.1; have hM4' := Lib.hid hM4; have hE4' := Lib.hid hE4; have hI4' := Lib.hid hI4; clear hM4 hE4 hI4 hM3' hE3' g4))

  have l3 : w3.heap.size < w4.heap.size := row_lt hI4'.out
  have n1 : ¬ w.heap.size + 1 = w.heap.size := by omega
  have n2 : ¬ w.heap.size + 1 = w3.heap.size := by omega
  go_region_held3 (fun w' => w'.cell? ⟨w.heap.size, 2, none⟩ = some (.int .u64 (word (ofL [c]) 0)) ∧ w'.cell? ⟨w.heap.size, 3, none⟩ = some (.int .u64 (word (ofL [c]) 1)) ∧ w'.cell? ⟨w.heap.size, 4, none⟩ = some (.int .u64 (word (ofL [c]) 2)) ∧ w'.cell? ⟨w.heap.size, 5, none⟩ = some (.int .u64 (word (ofL [c]) 3)) ∧ w'.cell? ⟨w3.heap.size, 6, none⟩ = some (.int .i64 ((at' : Int) + 1))) (go_keep)
    (first | (go_at_call 59; refine (fail_any (N := N) (E := E) (by first | exact hE4'.out | exact hE4'.out.drewN 1) B p s.size cap next lang (by first | exact hM4'.out.1 | exact hM4'.out.1.drewN 1) 8 (by decide) (by decide) _).mono ?_; rintro e w9 ⟨v, rfl, hv, b9⟩; have hz9 : w4.heap.size ≤ w9.heap.size := b9.size; have hT := (b9.block w.heap.size (by show _ < w4.heap.size; omega)).trans hM4'.out.2.2.1; obtain ⟨⟨r2, r3, r4, r5⟩, r0, r1, r6⟩ := run_load_mid _ w9 _ _ _ _ hT; have hI := (b9.block w3.heap.size (by show _ < w4.heap.size; omega)).trans hI4'.out; obtain ⟨-, v0, v1, v6⟩ := run_load_mid _ w9 _ _ _ _ hI; have hX9 : IsSet 24 w9 (w.heap.size + 1) 0 := IsSet.below (w := w4.drew) hX4 b9 (by show _ < w4.heap.size; omega); obtain ⟨⟨x0, x1, x2, x3⟩, ⟨y0, y1, y2, y3⟩, xl⟩ := hX9.all; clear hT hI))
  refine gen_q _ (fun W2 => IsSet 24 W2 (w.heap.size + 1) (ofL [c]) ∧ IsErr W2 E v 8 (at' + 1 : Nat) lang ∧ w.grownBy W2 (some B) ∧ IsR W2 B p s.size cap next lang) ⟨hX9.store4 _, hv.keepT hX9 (by decide) (by decide) (fun k _ hk => ?_), ?_, ?_⟩ ?_
  · iterate 4 (refine (Below.heap_setCell _ _ _ _ hk).trans ?_)
    rfl
  · iterate 4 (refine only_set ?_ _ _ (.inr (by omega)) _)
    exact only_then (w := w4.drew) (only_drewN hM4'.out.2.2.2.2.1 1) b9 (by show _ ≤ w4.heap.size; omega)
  · iterate 4 (refine IsR.set_ ?_ (by omega))
    exact hM4'.out.1.keep (b9.block B (by show _ < w4.heap.size; omega))
  clear hv b9 r0 r1 r2 r3 r4 r5 r6 v0 v1 v6 hX9 x0 x1 x2 x3 y0 y1 y2 y3 xl hz9 t0 t1 t2 t3 t4 t5 t6 u0 u1 u6 hM4' hE4' hI4' hX4
  intro W2 ⟨hX2, hv, hg, hR⟩
  have hv' := Lib.hid hv
  have hg' := Lib.hid hg
  have hR' := Lib.hid hR
  clear hv hg hR
  go_wp2_with fail
  exact ret_set2 rfl rfl rfl rfl hX2 ⟨v, rfl, hv'.out, hg'.out, _, hR'.out⟩


set_option maxHeartbeats 2000000 in
set_option maxRecDepth 100000 in
theorem ranged_less {N : Nat} {E : Nat → Addr} (B : Nat) (p : Option Addr) (cap at' f : Nat) (lang : Int) (s : ByteArray) (w : World) (hR : IsR w B p s.size cap at' lang) (hS : HasB w p s) (hp : ∀ b o, p = some ⟨b, o, none⟩ → b ≠ B) (hs : s.size < 4294967281) (_hat : at' ≤ s.size) (hcap : s.size ≤ cap) (hN : N ≤ B) (hE : Errs N E w) (c : UInt8) (h45 : isB s at' 45 = true) (h93 : isB s (at' + 1) 93 = false) (hm : at' + 1 < s.size) (d : UInt8) (next : Nat) (hit : item s.data.toList (lang == 2) (at' + 1) = .byte d next) (hdc : d.toNat < c.toNat) :
    Calls Tryd.prog 74 #[.pointer (some ⟨B, 0, none⟩), .agg (itc true (c.toNat : Int) (ofL [c]) f)] w fun e w' => ∃ v, e = .returned (.tuple #[sv (ofL [c]), v]) ∧ IsErr w' E v 7 (f : Nat) lang ∧ w.grownBy w' (some B) ∧ ∃ at2, IsR w' B p s.size cap at2 lang := by
  have hl : B < w.heap.size := row_lt hR
  have hM := RMid.start (w := w) (one := true) (b := (c.toNat : Int)) (S := (ofL [c])) (f := f) hR hS
  have hM' := Lib.hid hM
  clear hR hS hM
  have hE' := Lib.hid hE
  clear hE
  show Calls Tryd.prog 74 #[.pointer (some ⟨B, 0, none⟩), .agg #[.bool true, .int .u8 (c.toNat : Int), .int .u64 (word (ofL [c]) 0), .int .u64 (word (ofL [c]) 1), .int .u64 (word (ofL [c]) 2), .int .u64 (word (ofL [c]) 3), .int .i64 (f : Int)]] w _
  go_enter Tryd.func74, Tryd.ntmps74
  go_wp2_with fail
  refine gen_world (fun W0 => RMid w W0 B p s cap at' lang true (c.toNat : Int) (ofL [c]) f ∧ Errs N E W0) ⟨hM'.out, (hE'.out.alloc _ (by omega)).alloc _ (by simp; omega)⟩ ?_
  clear hM' hE'
  intro W0 ⟨hM, hE0⟩
  have d0 : W0.cell? ⟨B, 0, none⟩ = some (.slice p s.size cap) := row_cell hM.1 rfl
  have d1 : W0.cell? ⟨B, 1, none⟩ = some (.int .i64 (at' : Nat)) := row_cell hM.1 rfl
  obtain ⟨⟨t2, t3, t4, t5⟩, t0, t1, t6⟩ := run_load_mid (ofL [c]) W0 _ _ _ _ hM.2.2.1
  have hR' := Lib.hid hM.1
  have hS' := Lib.hid hM.2.1
  have hX0 := hM.2.2.2.1
  have hg0' := Lib.hid hM.2.2.2.2.1
  have hz0 := hM.2.2.2.2.2
  have hM' := Lib.hid hM
  clear hM
  have e6 : IntKind.i64.wrap ((at' : Int) + 1) = (at' : Int) + 1 := by simp [IntKind.wrap, IntKind.bits, IntKind.signed]; omega
  have hd : decide ((s.size : Int) ≤ (at' : Int) + 1) = false := by simp; omega
  have f1 := row_free hR'.out 1
  have hE0' := Lib.hid hE0
  clear hE0
  have hdc1 : decide (d.toNat < c.toNat) = true := by simpa using hdc
  have hdc2 : decide ((d.toNat : Int) < (c.toNat : Int)) = true := by simp; omega
  clear hdc
  go_quiet ((first | (go_at_call 72; exact Calls.quiet_of (is_val B _ cap at' lang s _ _ true _ (hR'.out.drewN _) (hS'.out.drewN _) (by decide) (by decide) (by omega) (by omega) (by exact h45))) | (go_at_call 72; exact Calls.quiet_of (is_val B _ cap at' lang s _ _ false _ (hR'.out.drewN _) (hS'.out.drewN _) (by decide) (by decide) (by omega) (by omega) (by exact h93)))))
  clear e6

  go_wp2_with fail
  have hM2 := (hM'.out.drewN nq).next hl hp (at' + 1) (.int .i64 ((at' : Int) + 1)) (by simp)
  have hi := item_any (N := N) (E := E) B p cap (at' + 1) lang s ((W0.drewN nq).setCell ⟨B, 1, none⟩ (.int .i64 ((at' : Int) + 1))) hM2.1 hM2.2.1 hs (by omega) hcap hN ((hE0'.out.drewN _).set_ hN)
  rw [hit] at hi
  have hM2' := Lib.hid hM2
  have hit' := Lib.hid hit
  clear hM2 hit t0 t1 t2 t3 t4 t5 t6 d0 d1 hX0 hR' hS' hg0' hM' hd f1
  refine hi.mono ?_
  clear hi
  rintro e w3 ⟨rfl, hg3, hR3⟩
  have hE3 : Errs N E w3 := ((hE0'.out.drewN nq).set_ (v := .int .i64 ((at' : Int) + 1)) (i := 1) hN).grown hg3 (by simp [World.setCell]; omega) hN
  have hM3 := hM2'.out.grown hl hp hg3 hR3
  have hM3' := Lib.hid hM3
  have hE3' := Lib.hid hE3
  clear hM3 hE3 hM2' hE0' hg3 hR3
  go_wp2_with (first | (refine store_item rfl rfl _ _ rfl _ true (d.toNat : Int) (ofL [d]) (at' + 1) rfl rfl ⟨_, heap_alloc_new _ _, rfl⟩ ?_; intro w4 hI4 g4 z4; have b4 : Below w3.heap.size w3 w4 := Below.viaG1 g4 ((Below.refl _ _).alloc (Nat.le_refl _) _) (by simp) (Nat.le_refl _); have hM4 := hM3'.out.ext b4 (Nat.le_refl _); have hE4 := hE3'.out.below b4 (by have := hM3'.out.2.2.2.2.2; omega); have zz4 := hM4.2.2.2.2.2; have zz3 := hM3'.out.2.2.2.2.2; obtain ⟨⟨t2, t3, t4, t5⟩, t0, t1, t6⟩ := run_load_mid _ w4 _ _ _ _ hM4.2.2.1; obtain ⟨-, u0, u1, u6⟩ := run_load_mid _ w4 _ _ _ _ hI4; have hX4 := hM4.2.2.2.1; have hM4' := Lib.hid hM4; have hE4' := Lib.hid hE4; have hI4' := Lib.hid hI4; clear hM4 hE4 hI4 hM3' hE3' g4))

  have l3 : w3.heap.size < w4.heap.size := row_lt hI4'.out
  have n1 : ¬ w.heap.size + 1 = w.heap.size := by omega
  have n2 : ¬ w.heap.size + 1 = w3.heap.size := by omega
  go_region_held3 (fun w' => w'.cell? ⟨w.heap.size, 2, none⟩ = some (.int .u64 (word (ofL [c]) 0)) ∧ w'.cell? ⟨w.heap.size, 3, none⟩ = some (.int .u64 (word (ofL [c]) 1)) ∧ w'.cell? ⟨w.heap.size, 4, none⟩ = some (.int .u64 (word (ofL [c]) 2)) ∧ w'.cell? ⟨w.heap.size, 5, none⟩ = some (.int .u64 (word (ofL [c]) 3)) ∧ w'.cell? ⟨w.heap.size, 6, none⟩ = some (.int .i64 (f : Int))) (go_keep)
    (first | (go_at_call 59; refine (fail_any (N := N) (E := E) (by first | exact hE4'.out | exact hE4'.out.drewN 1) B p s.size cap next lang (by first | exact hM4'.out.1 | exact hM4'.out.1.drewN 1) 7 (by decide) (by decide) _).mono ?_; rintro e w9 ⟨v, rfl, hv, b9⟩; have hz9 : w4.heap.size ≤ w9.heap.size := b9.size; have hT := (b9.block w.heap.size (by show _ < w4.heap.size; omega)).trans hM4'.out.2.2.1; obtain ⟨⟨r2, r3, r4, r5⟩, r0, r1, r6⟩ := run_load_mid _ w9 _ _ _ _ hT; have hI := (b9.block w3.heap.size (by show _ < w4.heap.size; omega)).trans hI4'.out; obtain ⟨-, v0, v1, v6⟩ := run_load_mid _ w9 _ _ _ _ hI; have hX9 : IsSet 24 w9 (w.heap.size + 1) 0 := IsSet.below (w := w4.drew) hX4 b9 (by show _ < w4.heap.size; omega); obtain ⟨⟨x0, x1, x2, x3⟩, ⟨y0, y1, y2, y3⟩, xl⟩ := hX9.all; clear hT hI))
  refine gen_q _ (fun W2 => IsSet 24 W2 (w.heap.size + 1) (ofL [c]) ∧ IsErr W2 E v 7 (f : Nat) lang ∧ w.grownBy W2 (some B) ∧ IsR W2 B p s.size cap next lang) ⟨hX9.store4 _, hv.keepT hX9 (by decide) (by decide) (fun k _ hk => ?_), ?_, ?_⟩ ?_
  · iterate 4 (refine (Below.heap_setCell _ _ _ _ hk).trans ?_)
    rfl
  · iterate 4 (refine only_set ?_ _ _ (.inr (by omega)) _)
    exact only_then (w := w4.drew) (only_drewN hM4'.out.2.2.2.2.1 1) b9 (by show _ ≤ w4.heap.size; omega)
  · iterate 4 (refine IsR.set_ ?_ (by omega))
    exact hM4'.out.1.keep (b9.block B (by show _ < w4.heap.size; omega))
  clear hv b9 r0 r1 r2 r3 r4 r5 r6 v0 v1 v6 hX9 x0 x1 x2 x3 y0 y1 y2 y3 xl hz9 t0 t1 t2 t3 t4 t5 t6 u0 u1 u6 hM4' hE4' hI4' hX4
  intro W2 ⟨hX2, hv, hg, hR⟩
  have hv' := Lib.hid hv
  have hg' := Lib.hid hg
  have hR' := Lib.hid hR
  clear hv hg hR
  go_wp2_with fail
  exact ret_set2 rfl rfl rfl rfl hX2 ⟨v, rfl, hv'.out, hg'.out, _, hR'.out⟩


set_option maxHeartbeats 2000000 in
set_option maxRecDepth 100000 in
theorem ranged_range {N : Nat} {E : Nat → Addr} (B : Nat) (p : Option Addr) (cap at' f : Nat) (lang : Int) (s : ByteArray) (w : World) (hR : IsR w B p s.size cap at' lang) (hS : HasB w p s) (hp : ∀ b o, p = some ⟨b, o, none⟩ → b ≠ B) (hs : s.size < 4294967281) (_hat : at' ≤ s.size) (hcap : s.size ≤ cap) (hN : N ≤ B) (hE : Errs N E w) (c : UInt8) (h45 : isB s at' 45 = true) (h93 : isB s (at' + 1) 93 = false) (hm : at' + 1 < s.size) (d : UInt8) (next : Nat) (hit : item s.data.toList (lang == 2) (at' + 1) = .byte d next) (hdc : ¬ d.toNat < c.toNat) :
    Calls Tryd.prog 74 #[.pointer (some ⟨B, 0, none⟩), .agg (itc true (c.toNat : Int) (ofL [c]) f)] w fun e w' => e = .returned (.tuple #[sv (rng c.toNat d.toNat), .nilIface]) ∧ w.grownBy w' (some B) ∧ IsR w' B p s.size cap next lang := by
  have hl : B < w.heap.size := row_lt hR
  have hM := RMid.start (w := w) (one := true) (b := (c.toNat : Int)) (S := (ofL [c])) (f := f) hR hS
  have hM' := Lib.hid hM
  clear hR hS hM
  have hE' := Lib.hid hE
  clear hE
  show Calls Tryd.prog 74 #[.pointer (some ⟨B, 0, none⟩), .agg #[.bool true, .int .u8 (c.toNat : Int), .int .u64 (word (ofL [c]) 0), .int .u64 (word (ofL [c]) 1), .int .u64 (word (ofL [c]) 2), .int .u64 (word (ofL [c]) 3), .int .i64 (f : Int)]] w _
  go_enter Tryd.func74, Tryd.ntmps74
  go_wp2_with fail
  refine gen_world (fun W0 => RMid w W0 B p s cap at' lang true (c.toNat : Int) (ofL [c]) f ∧ Errs N E W0) ⟨hM'.out, (hE'.out.alloc _ (by omega)).alloc _ (by simp; omega)⟩ ?_
  clear hM' hE'
  intro W0 ⟨hM, hE0⟩
  have d0 : W0.cell? ⟨B, 0, none⟩ = some (.slice p s.size cap) := row_cell hM.1 rfl
  have d1 : W0.cell? ⟨B, 1, none⟩ = some (.int .i64 (at' : Nat)) := row_cell hM.1 rfl
  obtain ⟨⟨t2, t3, t4, t5⟩, t0, t1, t6⟩ := run_load_mid (ofL [c]) W0 _ _ _ _ hM.2.2.1
  have hR' := Lib.hid hM.1
  have hS' := Lib.hid hM.2.1
  have hX0 := hM.2.2.2.1
  have hg0' := Lib.hid hM.2.2.2.2.1
  have hz0 := hM.2.2.2.2.2
  have hM' := Lib.hid hM
  clear hM
  have e6 : IntKind.i64.wrap ((at' : Int) + 1) = (at' : Int) + 1 := by simp [IntKind.wrap, IntKind.bits, IntKind.signed]; omega
  have hd : decide ((s.size : Int) ≤ (at' : Int) + 1) = false := by simp; omega
  have f1 := row_free hR'.out 1
  have hE0' := Lib.hid hE0
  clear hE0
  have hdc1 : decide (d.toNat < c.toNat) = false := by simpa using hdc
  have hdc2 : decide ((d.toNat : Int) < (c.toNat : Int)) = false := by simp; omega
  clear hdc
  go_quiet ((first | (go_at_call 72; exact Calls.quiet_of (is_val B _ cap at' lang s _ _ true _ (hR'.out.drewN _) (hS'.out.drewN _) (by decide) (by decide) (by omega) (by omega) (by exact h45))) | (go_at_call 72; exact Calls.quiet_of (is_val B _ cap at' lang s _ _ false _ (hR'.out.drewN _) (hS'.out.drewN _) (by decide) (by decide) (by omega) (by omega) (by exact h93)))))
  clear e6

  go_wp2_with fail
  have hM2 := (hM'.out.drewN nq).next hl hp (at' + 1) (.int .i64 ((at' : Int) + 1)) (by simp)
  have hi := item_any (N := N) (E := E) B p cap (at' + 1) lang s ((W0.drewN nq).setCell ⟨B, 1, none⟩ (.int .i64 ((at' : Int) + 1))) hM2.1 hM2.2.1 hs (by omega) hcap hN ((hE0'.out.drewN _).set_ hN)
  rw [hit] at hi
  have hM2' := Lib.hid hM2
  have hit' := Lib.hid hit
  clear hM2 hit t0 t1 t2 t3 t4 t5 t6 d0 d1 hX0 hR' hS' hg0' hM' hd f1
  refine hi.mono ?_
  clear hi
  rintro e w3 ⟨rfl, hg3, hR3⟩
  have hE3 : Errs N E w3 := ((hE0'.out.drewN nq).set_ (v := .int .i64 ((at' : Int) + 1)) (i := 1) hN).grown hg3 (by simp [World.setCell]; omega) hN
  have hM3 := hM2'.out.grown hl hp hg3 hR3
  have hM3' := Lib.hid hM3
  have hE3' := Lib.hid hE3
  clear hM3 hE3 hM2' hE0' hg3 hR3
  go_wp2_with (first | (refine store_item rfl rfl _ _ rfl _ true (d.toNat : Int) (ofL [d]) (at' + 1) rfl rfl ⟨_, heap_alloc_new _ _, rfl⟩ ?_; intro w4 hI4 g4 z4; have b4 : Below w3.heap.size w3 w4 := Below.viaG1 g4 ((Below.refl _ _).alloc (Nat.le_refl _) _) (by simp) (Nat.le_refl _); have hM4 := hM3'.out.ext b4 (Nat.le_refl _); have hE4 := hE3'.out.below b4 (by have := hM3'.out.2.2.2.2.2; omega); have zz4 := hM4.2.2.2.2.2; have zz3 := hM3'.out.2.2.2.2.2; obtain ⟨⟨t2, t3, t4, t5⟩, t0, t1, t6⟩ := run_load_mid _ w4 _ _ _ _ hM4.2.2.1; obtain ⟨-, u0, u1, u6⟩ := run_load_mid _ w4 _ _ _ _ hI4; have hX4 := hM4.2.2.2.1; have hM4' := Lib.hid hM4; have hE4' := Lib.hid hE4; have hI4' := Lib.hid hI4; clear hM4 hE4 hI4 hM3' hE3' g4))

  refine (Range_any c.toNat d.toNat c.toNat_lt d.toNat_lt _).mono ?_
  rintro e w9 ⟨rfl, b9⟩
  have hX9 : IsSet 24 w9 (w.heap.size + 1) 0 := hX4.below b9 (by omega)
  have hM9 := hM4'.out.ext b9 (Nat.le_refl _)
  have hM9' := Lib.hid hM9
  have hz9 := b9.size
  clear hM9 hM4' hE4' hI4' hX4 t0 t1 t2 t3 t4 t5 t6 u0 u1 u6
  go_wp2_with (first | (refine store_set rfl rfl _ _ rfl _ (rng c.toNat d.toNat) rfl rfl ⟨0, hX9⟩ ?_; intro wX hX gX zX))
  exact ret_set2 rfl rfl rfl rfl hX ⟨rfl, only_set_block hM9'.out.2.2.2.2.1 gX (by omega), hM9'.out.1.keep (gX.block B (row_lt hM9'.out.1) (fun e => by injection e; omega))⟩

end Go.Proofs.YteeopjgfiojoiaaDoor
namespace Go.Proofs.YteeopjgfiojoiaaDoor
open Go Go.RowKit SN

/-- The item's cells, as the plain law names it. -/
def itv : It → Nat → Array Value
  | .err _ _, f => itc true 0 0 f
  | .byte c _, f => itc true (c.toNat : Int) (ofL [c]) f
  | .cls S _, f => itc false 0 S f
theorem ranged_any {N : Nat} {E : Nat → Addr} (B : Nat) (p : Option Addr) (cap f : Nat) (lang : Int) (s : ByteArray) (w : World) (x : It) (at' : Nat) (hx : (∃ c, x = .byte c at') ∨ ∃ S, x = .cls S at') (hR : IsR w B p s.size cap at' lang) (hS : HasB w p s) (hp : ∀ b o, p = some ⟨b, o, none⟩ → b ≠ B) (hs : s.size < 4294967281) (hat : at' ≤ s.size) (hcap : s.size ≤ cap)
    (hN : N ≤ B) (hE : Errs N E w) :
    Calls Tryd.prog 74 #[.pointer (some ⟨B, 0, none⟩), .agg (itv x f)] w (RgPost E w B p s cap lang (ranged s.data.toList (lang == 2) x f)) := by
  have hsz : s.data.toList.length = s.size := by simp
  rcases hx with ⟨c, rfl⟩ | ⟨S, rfl⟩
  · simp only [ranged, itv]
    cases h45 : isL s.data.toList at' 45 with
    | false =>
      simp only [Bool.not_false, Bool.true_or, ↓reduceIte]
      exact ranged_k1 B p cap at' f lang s w hR hS hp hs hat hcap c h45
    | true =>
      cases h93 : isL s.data.toList (at' + 1) 93 with
      | true =>
        simp only [Bool.not_true, Bool.false_or, Bool.true_or, ↓reduceIte]
        exact ranged_k2 B p cap at' f lang s w hR hS hp hs hat hcap c h45 h93
      | false =>
        by_cases hm : s.data.toList.length ≤ at' + 1
        · simp only [Bool.not_true, Bool.false_or, decide_eq_true hm, ↓reduceIte]
          exact ranged_k3 B p cap at' f lang s w hR hS hp hs hat hcap c h45 h93 (by omega)
        · simp only [Bool.not_true, Bool.false_or, decide_eq_false hm, Bool.false_eq_true, ↓reduceIte]
          cases hit : item s.data.toList (lang == 2) (at' + 1) with
          | err code pos => exact (ranged_err B p cap at' f lang s w hR hS hp hs hat hcap hN hE c h45 h93 (by omega) code pos hit).mono fun _ _ ⟨v, h⟩ => ⟨_, v, h⟩
          | cls S2 next => exact (ranged_second B p cap at' f lang s w hR hS hp hs hat hcap hN hE c h45 h93 (by omega) S2 next hit).mono fun _ _ ⟨v, h⟩ => ⟨_, v, h⟩
          | byte d next =>
            simp only []
            by_cases hdc : d.toNat < c.toNat
            · rw [if_pos hdc]
              exact (ranged_less B p cap at' f lang s w hR hS hp hs hat hcap hN hE c h45 h93 (by omega) d next hit hdc).mono fun _ _ ⟨v, h⟩ => ⟨_, v, h⟩
            · rw [if_neg hdc]
              exact ranged_range B p cap at' f lang s w hR hS hp hs hat hcap hN hE c h45 h93 (by omega) d next hit hdc
  · exact ranged_cls B p cap at' f lang s w hR hS hp hs hat hcap S
end Go.Proofs.YteeopjgfiojoiaaDoor
