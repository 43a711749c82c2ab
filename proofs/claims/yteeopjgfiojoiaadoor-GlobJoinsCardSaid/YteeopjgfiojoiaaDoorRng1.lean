/- Walks over package set: the reader's ranged: lemmas, and the ways on which an item stays as it is. -/
import Derived.Test.YteeopjgfiojoiaaDoorItem5
namespace Go.Proofs.YteeopjgfiojoiaaDoor
open Go Go.RowKit SN


/-- Inside 'ranged': the reader, its bytes, the item that came in, the result's block. -/
def RMid (w W : World) (B : Nat) (p : Option Addr) (s : ByteArray) (cap at' : Nat) (lang : Int) (one : Bool) (b : Int) (S f : Nat) : Prop :=
  IsR W B p s.size cap at' lang ∧ HasB W p s ∧ W.heap[w.heap.size]? = some (.cells (itc one b S f) 120 (0, 0)) ∧ IsSet 24 W (w.heap.size + 1) 0 ∧ w.grownBy W (some B) ∧ w.heap.size + 2 ≤ W.heap.size
section
variable {w W W' : World} {B : Nat} {p : Option Addr} {s : ByteArray} {cap at' : Nat} {lang : Int} {one : Bool} {b : Int} {S f : Nat}
theorem RMid.start (hR : IsR w B p s.size cap at' lang) (hS : HasB w p s) :
    RMid w ((w.alloc (.cells #[.bool one, .int .u8 b, .int .u64 (word S 0), .int .u64 (word S 1), .int .u64 (word S 2), .int .u64 (word S 3), .int .i64 (f : Int)] 120)).alloc (.cells #[.int .u64 0, .int .u64 0, .int .u64 0, .int .u64 0] 24)) B p s cap at' lang one b S f := by
  have hn := IsSet.zero 24 (w.alloc (.cells #[.bool one, .int .u8 b, .int .u64 (word S 0), .int .u64 (word S 1), .int .u64 (word S 2), .int .u64 (word S 3), .int .i64 (f : Int)] 120))
  rw [World.size_alloc] at hn
  exact ⟨(hR.alloc _).alloc _, (hS.alloc _).alloc _, row_alloc (heap_alloc_new w _) _, hn, only_below (((Below.refl _ _).alloc (Nat.le_refl _) _).alloc (by simp) _), by simp⟩
theorem RMid.drewN (h : RMid w W B p s cap at' lang one b S f) (q : Nat) : RMid w (W.drewN q) B p s cap at' lang one b S f :=
  ⟨h.1, h.2.1.drewN q, h.2.2.1, h.2.2.2.1, only_drewN h.2.2.2.2.1 q, h.2.2.2.2.2⟩
theorem only_trans {a b c : World} {g : Nat} (h : a.grownBy b (some g)) (k : b.grownBy c (some g)) : a.grownBy c (some g) :=
  ⟨k.os.trans h.os, k.tape.trans h.tape, k.output.trans h.output, Nat.le_trans h.size k.size, fun i hi hn => (k.block i (Nat.lt_of_lt_of_le hi h.size) hn).trans (h.block i hi hn)⟩
theorem RMid.grown (h : RMid w W B p s cap at' lang one b S f) (hB : B < w.heap.size) (hp : ∀ b o, p = some ⟨b, o, none⟩ → b ≠ B) (hg : W.grownBy W' (some B)) {m : Nat} (hR : IsR W' B p s.size cap m lang) : RMid w W' B p s cap m lang one b S f := by
  obtain ⟨h1, h2, h3, h4, h5, h6⟩ := h
  refine ⟨hR, h2.keep (fun b o e hb => hg.block b hb (fun e2 => hp b o e (by injection e2))) hg.size, ?_, ?_, only_trans h5 hg, Nat.le_trans h6 hg.size⟩
  · rw [hg.block _ (by omega) (fun e => by injection e; omega)]; exact h3
  · exact h4.grown hg (fun e => by injection e; omega)
theorem RMid.ext {M : Nat} (h : RMid w W B p s cap at' lang one b S f) (hb : Below M W W') (hM : W.heap.size ≤ M) : RMid w W' B p s cap at' lang one b S f := by
  obtain ⟨h1, h2, h3, h4, h5, h6⟩ := h
  exact ⟨row_below h1 hb (by have := row_lt h1; omega), h2.keep (fun b o _ hlt => hb.block b (by omega)) hb.size, row_below h3 hb (by omega), row_below h4 hb (by omega), only_then h5 hb (by omega), Nat.le_trans h6 hb.size⟩
theorem RMid.next (h : RMid w W B p s cap at' lang one b S f) (hB : B < w.heap.size) (hp : ∀ b o, p = some ⟨b, o, none⟩ → b ≠ B) (m : Nat) (v : Value) (hv : v = .int .i64 (m : Int)) : RMid w (W.setCell ⟨B, 1, none⟩ v) B p s cap m lang one b S f := by
  subst hv
  obtain ⟨h1, h2, h3, h4, h5, h6⟩ := h
  exact ⟨row_set h1 1 _, h2.keep (fun b o e hb => row_set_other rfl (hp b o e) _ _) (by simp [World.setCell]), row_set_other h3 (by omega) _ _, h4.set_other (by omega) _ _, only_set h5 _ _ (.inl rfl) _, by simpa [World.setCell] using h6⟩
end
theorem run_load_mid (S : Nat) (W : World) (T : Nat) (one : Bool) (b : Int) (f : Nat) (h : W.heap[T]? = some (.cells (itc one b S f) 120 (0, 0))) :
    (W.cell? ⟨T, 2, none⟩ = some (.int .u64 (word S 0)) ∧ W.cell? ⟨T, 3, none⟩ = some (.int .u64 (word S 1)) ∧ W.cell? ⟨T, 4, none⟩ = some (.int .u64 (word S 2)) ∧ W.cell? ⟨T, 5, none⟩ = some (.int .u64 (word S 3))) ∧
    W.cell? ⟨T, 0, none⟩ = some (.bool one) ∧ W.cell? ⟨T, 1, none⟩ = some (.int .u8 b) ∧ W.cell? ⟨T, 6, none⟩ = some (.int .i64 (f : Int)) :=
  ⟨⟨row_cell h rfl, row_cell h rfl, row_cell h rfl, row_cell h rfl⟩, row_cell h rfl, row_cell h rfl, row_cell h rfl⟩
/-- What 'ranged' leaves. -/
def RgPost (E : Nat → Addr) (w : World) (B : Nat) (p : Option Addr) (s : ByteArray) (cap : Nat) (lang : Int) : Rg → Ending → World → Prop
  | .err code pos, e, w' => ∃ S v, e = .returned (.tuple #[sv S, v]) ∧ IsErr w' E v code pos lang ∧ w.grownBy w' (some B) ∧ ∃ at2, IsR w' B p s.size cap at2 lang
  | .ok S next, e, w' => e = .returned (.tuple #[sv S, .nilIface]) ∧ w.grownBy w' (some B) ∧ IsR w' B p s.size cap next lang


theorem only_set_block {a w w' : World} {g T : Nat} (h : a.grownBy w (some g)) (k : w.grownBy w' (some T)) (hT : a.heap.size ≤ T) : a.grownBy w' (some g) :=
  ⟨k.os.trans h.os, k.tape.trans h.tape, k.output.trans h.output, Nat.le_trans h.size k.size, fun i hi hn => (k.block i (Nat.lt_of_lt_of_le hi h.size) (fun e => by injection e; omega)).trans (h.block i hi hn)⟩


set_option maxHeartbeats 2000000 in
set_option maxRecDepth 100000 in
theorem ranged_cls (B : Nat) (p : Option Addr) (cap at' f : Nat) (lang : Int) (s : ByteArray) (w : World) (hR : IsR w B p s.size cap at' lang) (hS : HasB w p s) (_hp : ∀ b o, p = some ⟨b, o, none⟩ → b ≠ B) (hs : s.size < 4294967281) (hat : at' ≤ s.size) (_hcap : s.size ≤ cap) (S : Nat) :
    Calls Tryd.prog 74 #[.pointer (some ⟨B, 0, none⟩), .agg (itc false 0 S f)] w fun e w' => e = .returned (.tuple #[sv S, .nilIface]) ∧ w.grownBy w' (some B) ∧ IsR w' B p s.size cap at' lang := by
  have hl : B < w.heap.size := row_lt hR
  have hM := RMid.start (w := w) (one := false) (b := 0) (S := S) (f := f) hR hS
  have hM' := Lib.hid hM
  clear hR hS hM
  show Calls Tryd.prog 74 #[.pointer (some ⟨B, 0, none⟩), .agg #[.bool false, .int .u8 0, .int .u64 (word S 0), .int .u64 (word S 1), .int .u64 (word S 2), .int .u64 (word S 3), .int .i64 (f : Int)]] w _
  go_enter Tryd.func74, Tryd.ntmps74
  go_wp2_with fail
  refine gen_world (fun W0 => RMid w W0 B p s cap at' lang false 0 S f) hM'.out ?_
  clear hM'
  intro W0 hM
  have d0 : W0.cell? ⟨B, 0, none⟩ = some (.slice p s.size cap) := row_cell hM.1 rfl
  have d1 : W0.cell? ⟨B, 1, none⟩ = some (.int .i64 (at' : Nat)) := row_cell hM.1 rfl
  obtain ⟨⟨t2, t3, t4, t5⟩, t0, t1, t6⟩ := run_load_mid S W0 _ _ _ _ hM.2.2.1
  have hR' := Lib.hid hM.1
  have hS' := Lib.hid hM.2.1
  have hX0 := hM.2.2.2.1
  have hg0' := Lib.hid hM.2.2.2.2.1
  have hz0 := hM.2.2.2.2.2
  have hM' := Lib.hid hM
  clear hM
  have e6 : IntKind.i64.wrap ((at' : Int) + 1) = (at' : Int) + 1 := by simp [IntKind.wrap, IntKind.bits, IntKind.signed]; omega

  go_quiet (fail)
  clear e6

  go_wp2_with (first | (refine store_set rfl rfl _ _ rfl _ S rfl rfl ⟨0, hX0.drewN _⟩ ?_; intro wX hX gX zX))
  refine ret_set2 rfl rfl rfl rfl (by (repeat' (first | (with_reducible assumption) | (with_reducible apply IsSet.zero'; first | (with_reducible rfl) | (simp only [World.size_alloc]; done)) | (with_reducible apply IsSet.new'; first | (with_reducible rfl) | (simp only [World.size_alloc]; done)) | (with_reducible apply IsSet.sv; first | (with_reducible rfl) | (simp only [World.size_alloc]; done)) | (with_reducible apply IsSet.viaG; with_reducible assumption) | (with_reducible apply IsSet.viaB; with_reducible assumption) | (with_reducible apply IsSet.drew) | (with_reducible apply IsSet.store4) | (with_reducible apply IsSet.set_other) | (with_reducible apply IsSet.alloc) | (simp only [World.size_alloc]; omega) | omega | (simp; omega) | (simp; done)))) ⟨rfl, ?_, ?_⟩
  · exact (only_set_block (only_drewN hg0'.out _) gX (by omega))
  · exact hR'.out.keep (gX.block B (by show B < W0.heap.size; omega) (fun e => by injection e; omega))


set_option maxHeartbeats 2000000 in
set_option maxRecDepth 100000 in
theorem ranged_k1 (B : Nat) (p : Option Addr) (cap at' f : Nat) (lang : Int) (s : ByteArray) (w : World) (hR : IsR w B p s.size cap at' lang) (hS : HasB w p s) (_hp : ∀ b o, p = some ⟨b, o, none⟩ → b ≠ B) (hs : s.size < 4294967281) (hat : at' ≤ s.size) (_hcap : s.size ≤ cap) (c : UInt8) (h45 : isB s at' 45 = false) :
    Calls Tryd.prog 74 #[.pointer (some ⟨B, 0, none⟩), .agg (itc true (c.toNat : Int) (ofL [c]) f)] w fun e w' => e = .returned (.tuple #[sv (ofL [c]), .nilIface]) ∧ w.grownBy w' (some B) ∧ IsR w' B p s.size cap at' lang := by
  have hl : B < w.heap.size := row_lt hR
  have hM := RMid.start (w := w) (one := true) (b := (c.toNat : Int)) (S := (ofL [c])) (f := f) hR hS
  have hM' := Lib.hid hM
  clear hR hS hM
  show Calls Tryd.prog 74 #[.pointer (some ⟨B, 0, none⟩), .agg #[.bool true, .int .u8 (c.toNat : Int), .int .u64 (word (ofL [c]) 0), .int .u64 (word (ofL [c]) 1), .int .u64 (word (ofL [c]) 2), .int .u64 (word (ofL [c]) 3), .int .i64 (f : Int)]] w _
  go_enter Tryd.func74, Tryd.ntmps74
  go_wp2_with fail
  refine gen_world (fun W0 => RMid w W0 B p s cap at' lang true (c.toNat : Int) (ofL [c]) f) hM'.out ?_
  clear hM'
  intro W0 hM
  have d0 : W0.cell? ⟨B, 0, none⟩ = some (.slice p s.size cap) := row_cell hM.1 rfl
  have d1 : W0.cell? ⟨B, 1, none⟩ = some (.int .i64 (at' : Nat)) := row_cell hM.1 rfl
  obtain ⟨⟨t2, t3, t4, t5⟩, t0, t1, t6⟩ := run_load_mid (ofL [c]) W0 _ _ _ _ hM.2.2.1
  have hR' := Lib.hid hM.1
  have hS' := Lib.hid hM.2.1
  have hX0 := hM.2.2.2.1
  have hg0' := Lib.hid hM.2.2.2.2.1
  have hz0 := hM.2.2.2.2.2
  have hM' := Lib.hid hM
  clear hM
  have e6 : IntKind.i64.wrap ((at' : Int) + 1) = (at' : Int) + 1 := by simp [IntKind.wrap, IntKind.bits, IntKind.signed]; omega

  go_quiet ((first | (go_at_call 72; exact Calls.quiet_of (is_val B _ cap at' lang s _ _ false _ (hR'.out.drewN _) (hS'.out.drewN _) (by decide) (by decide) (by omega) (by omega) (by exact h45)))))
  clear e6

  go_wp2_with (first | (refine store_set rfl rfl _ _ rfl _ (ofL [c]) rfl rfl ⟨0, hX0.drewN _⟩ ?_; intro wX hX gX zX))
  refine ret_set2 rfl rfl rfl rfl (by (repeat' (first | (with_reducible assumption) | (with_reducible apply IsSet.zero'; first | (with_reducible rfl) | (simp only [World.size_alloc]; done)) | (with_reducible apply IsSet.new'; first | (with_reducible rfl) | (simp only [World.size_alloc]; done)) | (with_reducible apply IsSet.sv; first | (with_reducible rfl) | (simp only [World.size_alloc]; done)) | (with_reducible apply IsSet.viaG; with_reducible assumption) | (with_reducible apply IsSet.viaB; with_reducible assumption) | (with_reducible apply IsSet.drew) | (with_reducible apply IsSet.store4) | (with_reducible apply IsSet.set_other) | (with_reducible apply IsSet.alloc) | (simp only [World.size_alloc]; omega) | omega | (simp; omega) | (simp; done)))) ⟨rfl, ?_, ?_⟩
  · exact (only_set_block (only_drewN hg0'.out _) gX (by omega))
  · exact hR'.out.keep (gX.block B (by show B < W0.heap.size; omega) (fun e => by injection e; omega))


set_option maxHeartbeats 2000000 in
set_option maxRecDepth 100000 in
theorem ranged_k2 (B : Nat) (p : Option Addr) (cap at' f : Nat) (lang : Int) (s : ByteArray) (w : World) (hR : IsR w B p s.size cap at' lang) (hS : HasB w p s) (_hp : ∀ b o, p = some ⟨b, o, none⟩ → b ≠ B) (hs : s.size < 4294967281) (hat : at' ≤ s.size) (_hcap : s.size ≤ cap) (c : UInt8) (h45 : isB s at' 45 = true) (h93 : isB s (at' + 1) 93 = true) :
    Calls Tryd.prog 74 #[.pointer (some ⟨B, 0, none⟩), .agg (itc true (c.toNat : Int) (ofL [c]) f)] w fun e w' => e = .returned (.tuple #[sv (ofL [c]), .nilIface]) ∧ w.grownBy w' (some B) ∧ IsR w' B p s.size cap at' lang := by
  have hl : B < w.heap.size := row_lt hR
  have hM := RMid.start (w := w) (one := true) (b := (c.toNat : Int)) (S := (ofL [c])) (f := f) hR hS
  have hM' := Lib.hid hM
  clear hR hS hM
  show Calls Tryd.prog 74 #[.pointer (some ⟨B, 0, none⟩), .agg #[.bool true, .int .u8 (c.toNat : Int), .int .u64 (word (ofL [c]) 0), .int .u64 (word (ofL [c]) 1), .int .u64 (word (ofL [c]) 2), .int .u64 (word (ofL [c]) 3), .int .i64 (f : Int)]] w _
  go_enter Tryd.func74, Tryd.ntmps74
  go_wp2_with fail
  refine gen_world (fun W0 => RMid w W0 B p s cap at' lang true (c.toNat : Int) (ofL [c]) f) hM'.out ?_
  clear hM'
  intro W0 hM
  have d0 : W0.cell? ⟨B, 0, none⟩ = some (.slice p s.size cap) := row_cell hM.1 rfl
  have d1 : W0.cell? ⟨B, 1, none⟩ = some (.int .i64 (at' : Nat)) := row_cell hM.1 rfl
  obtain ⟨⟨t2, t3, t4, t5⟩, t0, t1, t6⟩ := run_load_mid (ofL [c]) W0 _ _ _ _ hM.2.2.1
  have hR' := Lib.hid hM.1
  have hS' := Lib.hid hM.2.1
  have hX0 := hM.2.2.2.1
  have hg0' := Lib.hid hM.2.2.2.2.1
  have hz0 := hM.2.2.2.2.2
  have hM' := Lib.hid hM
  clear hM
  have e6 : IntKind.i64.wrap ((at' : Int) + 1) = (at' : Int) + 1 := by simp [IntKind.wrap, IntKind.bits, IntKind.signed]; omega

  go_quiet ((first | (go_at_call 72; exact Calls.quiet_of (is_val B _ cap at' lang s _ _ true _ (hR'.out.drewN _) (hS'.out.drewN _) (by decide) (by decide) (by omega) (by omega) (by exact h45))) | (go_at_call 72; exact Calls.quiet_of (is_val B _ cap at' lang s _ _ true _ (hR'.out.drewN _) (hS'.out.drewN _) (by decide) (by decide) (by omega) (by omega) (by exact h93)))))
  clear e6

  go_wp2_with (first | (refine store_set rfl rfl _ _ rfl _ (ofL [c]) rfl rfl ⟨0, hX0.drewN _⟩ ?_; intro wX hX gX zX))
  refine ret_set2 rfl rfl rfl rfl (by (repeat' (first | (with_reducible assumption) | (with_reducible apply IsSet.zero'; first | (with_reducible rfl) | (simp only [World.size_alloc]; done)) | (with_reducible apply IsSet.new'; first | (with_reducible rfl) | (simp only [World.size_alloc]; done)) | (with_reducible apply IsSet.sv; first | (with_reducible rfl) | (simp only [World.size_alloc]; done)) | (with_reducible apply IsSet.viaG; with_reducible assumption) | (with_reducible apply IsSet.viaB; with_reducible assumption) | (with_reducible apply IsSet.drew) | (with_reducible apply IsSet.store4) | (with_reducible apply IsSet.set_other) | (with_reducible apply IsSet.alloc) | (simp only [World.size_alloc]; omega) | omega | (simp; omega) | (simp; done)))) ⟨rfl, ?_, ?_⟩
  · exact (only_set_block (only_drewN hg0'.out _) gX (by omega))
  · exact hR'.out.keep (gX.block B (by show B < W0.heap.size; omega) (fun e => by injection e; omega))


set_option maxHeartbeats 2000000 in
set_option maxRecDepth 100000 in
theorem ranged_k3 (B : Nat) (p : Option Addr) (cap at' f : Nat) (lang : Int) (s : ByteArray) (w : World) (hR : IsR w B p s.size cap at' lang) (hS : HasB w p s) (_hp : ∀ b o, p = some ⟨b, o, none⟩ → b ≠ B) (hs : s.size < 4294967281) (hat : at' ≤ s.size) (_hcap : s.size ≤ cap) (c : UInt8) (h45 : isB s at' 45 = true) (h93 : isB s (at' + 1) 93 = false) (hm : s.size ≤ at' + 1) :
    Calls Tryd.prog 74 #[.pointer (some ⟨B, 0, none⟩), .agg (itc true (c.toNat : Int) (ofL [c]) f)] w fun e w' => e = .returned (.tuple #[sv (ofL [c]), .nilIface]) ∧ w.grownBy w' (some B) ∧ IsR w' B p s.size cap at' lang := by
  have hl : B < w.heap.size := row_lt hR
  have hM := RMid.start (w := w) (one := true) (b := (c.toNat : Int)) (S := (ofL [c])) (f := f) hR hS
  have hM' := Lib.hid hM
  clear hR hS hM
  show Calls Tryd.prog 74 #[.pointer (some ⟨B, 0, none⟩), .agg #[.bool true, .int .u8 (c.toNat : Int), .int .u64 (word (ofL [c]) 0), .int .u64 (word (ofL [c]) 1), .int .u64 (word (ofL [c]) 2), .int .u64 (word (ofL [c]) 3), .int .i64 (f : Int)]] w _
  go_enter Tryd.func74, Tryd.ntmps74
  go_wp2_with fail
  refine gen_world (fun W0 => RMid w W0 B p s cap at' lang true (c.toNat : Int) (ofL [c]) f) hM'.out ?_
  clear hM'
  intro W0 hM
  have d0 : W0.cell? ⟨B, 0, none⟩ = some (.slice p s.size cap) := row_cell hM.1 rfl
  have d1 : W0.cell? ⟨B, 1, none⟩ = some (.int .i64 (at' : Nat)) := row_cell hM.1 rfl
  obtain ⟨⟨t2, t3, t4, t5⟩, t0, t1, t6⟩ := run_load_mid (ofL [c]) W0 _ _ _ _ hM.2.2.1
  have hR' := Lib.hid hM.1
  have hS' := Lib.hid hM.2.1
  have hX0 := hM.2.2.2.1
  have hg0' := Lib.hid hM.2.2.2.2.1
  have hz0 := hM.2.2.2.2.2
  have hM' := Lib.hid hM
  clear hM
  have e6 : IntKind.i64.wrap ((at' : Int) + 1) = (at' : Int) + 1 := by simp [IntKind.wrap, IntKind.bits, IntKind.signed]; omega
  have hd : decide ((s.size : Int) ≤ (at' : Int) + 1) = true := by simp; omega
  go_quiet ((first | (go_at_call 72; exact Calls.quiet_of (is_val B _ cap at' lang s _ _ true _ (hR'.out.drewN _) (hS'.out.drewN _) (by decide) (by decide) (by omega) (by omega) (by exact h45))) | (go_at_call 72; exact Calls.quiet_of (is_val B _ cap at' lang s _ _ false _ (hR'.out.drewN _) (hS'.out.drewN _) (by decide) (by decide) (by omega) (by omega) (by exact h93)))))
  clear e6

  go_wp2_with (first | (refine store_set rfl rfl _ _ rfl _ (ofL [c]) rfl rfl ⟨0, hX0.drewN _⟩ ?_; intro wX hX gX zX))
  refine ret_set2 rfl rfl rfl rfl (by (repeat' (first | (with_reducible assumption) | (with_reducible apply IsSet.zero'; first | (with_reducible rfl) | (simp only [World.size_alloc]; done)) | (with_reducible apply IsSet.new'; first | (with_reducible rfl) | (simp only [World.size_alloc]; done)) | (with_reducible apply IsSet.sv; first | (with_reducible rfl) | (simp only [World.size_alloc]; done)) | (with_reducible apply IsSet.viaG; with_reducible assumption) | (with_reducible apply IsSet.viaB; with_reducible assumption) | (with_reducible apply IsSet.drew) | (with_reducible apply IsSet.store4) | (with_reducible apply IsSet.set_other) | (with_reducible apply IsSet.alloc) | (simp only [World.size_alloc]; omega) | omega | (simp; omega) | (simp; done)))) ⟨rfl, ?_, ?_⟩
  · exact (only_set_block (only_drewN hg0'.out _) gX (by omega))
  · exact hR'.out.keep (gX.block B (by show B < W0.heap.size; omega) (fun e => by injection e; omega))


section
variable {ops : Array Oper} {Q : Exit → Act → World → Prop} {a : Act} {w : World} {rest : List Oper} {o : Oper}
theorem store_item (hgd : o.guard = none) (hd : o.dst = none) (x y : Operand) (ho : o.op = .store 120 x y) (B : Nat) (one : Bool) (b : Int) (S f : Nat) (hx : a.eval x = .pointer (some ⟨B, 0, none⟩)) (hy : a.eval y = .agg (itc one b S f))
    (h : ∃ old : Array Value, w.heap[B]? = some (.cells old 120 (0, 0)) ∧ old.size = 7)
    (hk : ∀ w', w'.heap[B]? = some (.cells (itc one b S f) 120 (0, 0)) → w.grownBy w' (some B) → w.heap.size ≤ w'.heap.size ∧ w'.heap.size ≤ w.heap.size → wpList Tryd.prog ops Q rest a w') : wpList Tryd.prog ops Q (o :: rest) a w := by
  obtain ⟨old, h, hold⟩ := h
  have hp : a.put o.dst undef = a := by rw [hd]; rfl
  refine wpList_store_row hgd 120 x y ho B (itc one b S f) hx hy 120 old h (by kernel_rfl) (by rw [hold]; rfl) (by simp [itc, Value.oneCell']) (by rw [hp]; exact hk _ (setRow_heap w B _ _ _ _ h) ⟨rfl, rfl, rfl, by simp, fun k _ hk => setRow_other w B k _ (fun e => hk (by rw [e]))⟩ (by simp))
end
end Go.Proofs.YteeopjgfiojoiaaDoor
