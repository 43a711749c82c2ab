/- The reader's item, first part: plain bytes, brackets, quoted bytes. Conditions: the reader, its bytes and the errors lie in memory. -/
import Derived.Test.YteeopjgfiojoiaaDoorErr
import Derived.Test.YteeopjgfiojoiaaDoorBrk
import Derived.Test.YteeopjgfiojoiaaDoorWal
import Derived.Deep.DeepCutAuto
import Derived.Laws.StructEq
import Derived.Laws.IdiomStrings
import Derived.Deep.RegionHeld3
namespace Go.Proofs.YteeopjgfiojoiaaDoor
open Go Go.RowKit SN

theorem gen_world {P : Program} {c : Code} {Q : Exit → Act → World → Prop} {a : Act} {W : World} (F : World → Prop) (h : F W) (k : ∀ W1, F W1 → c.wp P Q a W1) : c.wp P Q a W := k W h
theorem gen_q {Q : Exit → Act → World → Prop} {e : Exit} {a : Act} (W : World) (F : World → Prop) (h : F W) (k : ∀ W1, F W1 → Q e a W1) : Q e a W := k W h
theorem ret_row2 {ty : TypeId} {fn : Func} {p q : Tmp} {R : Ending → World → Prop} {a : Act} {w : World} {B : Nat} {cs : Array Value} {v : Value} (fs : Array Field) (h : fn.results = #[.cell p ty, .tmp q]) (hd : a.defers = []) (hp : a.tmps.getD p undef = .pointer (some ⟨B, 0, none⟩))
    (hq : a.tmps.getD q undef = v) (hS : w.heap[B]? = some (.cells cs ty (0, 0))) (hu : Tryd.prog.underlying ty = some (.struct fs)) (hi : (Tryd.prog.info? ty).map (·.size) = some cs.size) (hR : R (.returned (.tuple #[.agg cs, v])) w) : bodyPost Tryd.prog fn R .ret a w := by
  have hp' : a.tmps[p]?.getD undef = .pointer (some ⟨B, 0, none⟩) := by simpa using hp
  have hq' : a.tmps[q]?.getD undef = v := by simpa using hq
  refine bodyPost_ret (v := .tuple #[.agg cs, v]) ?_ hd hR
  have hl := run_loadVar_row (P := Tryd.prog) w B ty ty cs (0, 0) _ hS hu (by rfl) hi
  simp [results, h, hp', hq', asAddr, hl]
theorem IsR.alloc {w : World} {B : Nat} {p : Option Addr} {n cap at' : Nat} {lang : Int} (h : IsR w B p n cap at' lang) (x : Obj) : IsR (w.alloc x) B p n cap at' lang := row_alloc h x
theorem HasB.alloc {w : World} {p : Option Addr} {s : ByteArray} (h : HasB w p s) (x : Obj) : HasB (w.alloc x) p s := h.keep (fun _ _ _ hb => Below.heap_alloc _ _ _ hb) (by simp)
/-- The cells of an item. -/
def itc (one : Bool) (b : Int) (S f : Nat) : Array Value := #[.bool one, .int .u8 b, .int .u64 (word S 0), .int .u64 (word S 1), .int .u64 (word S 2), .int .u64 (word S 3), .int .i64 (f : Int)]
theorem itc_zero (one : Bool) (b f : Int) : (#[.bool one, .int .u8 b, .int .u64 0, .int .u64 0, .int .u64 0, .int .u64 0, .int .i64 f] : Array Value) = #[.bool one, .int .u8 b, .int .u64 (word 0 0), .int .u64 (word 0 1), .int .u64 (word 0 2), .int .u64 (word 0 3), .int .i64 f] := by simp [word_zero]
theorem IsR.drew {w : World} {B : Nat} {p : Option Addr} {n cap at' : Nat} {lang : Int} (h : IsR w B p n cap at' lang) : IsR w.drew B p n cap at' lang := h
theorem IsR.set_ {w : World} {B : Nat} {p : Option Addr} {n cap at' : Nat} {lang : Int} {C i : Nat} {v : Value} (h : IsR w B p n cap at' lang) (hC : B ≠ C) : IsR (w.setCell ⟨C, i, none⟩ v) B p n cap at' lang := row_set_other h hC _ _
theorem Errs.drew {N : Nat} {E : Nat → Addr} {w : World} (h : Errs N E w) : Errs N E w.drew := h.drewN 1
theorem only_below {w W : World} {B : Nat} (h : Below w.heap.size w W) : w.grownBy W (some B) := ⟨h.os, h.tape, h.output, h.size, fun k hk _ => h.block k hk⟩
theorem only_drewN {a w : World} {row : Option Nat} (h : a.grownBy w row) (n : Nat) : a.grownBy (w.drewN n) row := ⟨h.os, h.tape, h.output, h.size, h.block⟩
theorem only_set {a w : World} {g : Nat} (h : a.grownBy w (some g)) (p i : Nat) (hp : p = g ∨ a.heap.size ≤ p) (u : Value) : a.grownBy (w.setCell ⟨p, i, none⟩ u) (some g) :=
  ⟨h.os, h.tape, h.output, by simpa [World.setCell] using h.size, fun k hk hne => (Below.heap_setCell w _ u k (by
    rintro rfl
    rcases hp with hp | hp
    · exact hne (by rw [← hp])
    · exact absurd hk (by simpa using hp))).trans (h.block k hk hne)⟩
theorem only_row {a w : World} {g : Nat} (h : a.grownBy w (some g)) (p : Nat) (hp : a.heap.size ≤ p) (cs : Array Value) : a.grownBy (w.setRow p cs) (some g) :=
  ⟨h.os, h.tape, h.output, by simpa using h.size, fun k hk hne => by rw [setRow_other _ _ _ _ (by omega)]; exact h.block k hk hne⟩
theorem only_then {a w w' : World} {g M : Nat} (h : a.grownBy w (some g)) (hb : Below M w w') (hM : a.heap.size ≤ M) : a.grownBy w' (some g) :=
  ⟨hb.os.trans h.os, hb.tape.trans h.tape, hb.output.trans h.output, Nat.le_trans h.size hb.size, fun k hk hn => (hb.block k (by omega)).trans (h.block k hk hn)⟩
/-- Behind the item's making: the reader's block, its bytes, the item, the result's block. -/
def Mid (w W : World) (B : Nat) (p : Option Addr) (s : ByteArray) (cap at' f : Nat) (lang : Int) : Prop :=
  IsR W B p s.size cap at' lang ∧ HasB W p s ∧ W.heap[w.heap.size + 1]? = some (.cells #[.bool true, .int .u8 0, .int .u64 0, .int .u64 0, .int .u64 0, .int .u64 0, .int .i64 (f : Int)] 120 (0, 0)) ∧
    W.heap[w.heap.size]? = some (.cells #[.bool false, .int .u8 0, .int .u64 0, .int .u64 0, .int .u64 0, .int .u64 0, .int .i64 0] 120 (0, 0)) ∧ w.grownBy W (some B) ∧ w.heap.size + 2 ≤ W.heap.size
theorem Mid.start {w : World} {B : Nat} {p : Option Addr} {s : ByteArray} {cap at' : Nat} {lang : Int} (hR : IsR w B p s.size cap at' lang) (hS : HasB w p s) (q : Nat) :
    Mid w (((w.alloc (.cells #[.bool false, .int .u8 0, .int .u64 0, .int .u64 0, .int .u64 0, .int .u64 0, .int .i64 0] 120)).alloc (.cells #[.bool true, .int .u8 0, .int .u64 0, .int .u64 0, .int .u64 0, .int .u64 0, .int .i64 (at' : Int)] 120)).drewN q) B p s cap at' at' lang := by
  have hn := heap_alloc_new (w.alloc (.cells #[.bool false, .int .u8 0, .int .u64 0, .int .u64 0, .int .u64 0, .int .u64 0, .int .i64 0] 120)) (.cells #[.bool true, .int .u8 0, .int .u64 0, .int .u64 0, .int .u64 0, .int .u64 0, .int .i64 (at' : Int)] 120)
  rw [World.size_alloc] at hn
  exact ⟨(hR.alloc _).alloc _, ((hS.alloc _).alloc _).drewN q, hn, row_alloc (heap_alloc_new w _) _, only_drewN (only_below (((Below.refl _ _).alloc (Nat.le_refl _) _).alloc (by simp) _)) q, by simp [World.drewN]⟩
theorem Mid.next {w W : World} {B : Nat} {p : Option Addr} {s : ByteArray} {cap at' f : Nat} {lang : Int} (h : Mid w W B p s cap at' f lang) (hB : B < w.heap.size) (hp : ∀ b o, p = some ⟨b, o, none⟩ → b ≠ B) (m : Nat) (v : Value) (hv : v = .int .i64 (m : Int)) :
    Mid w (W.setCell ⟨B, 1, none⟩ v) B p s cap m f lang := by
  subst hv
  obtain ⟨h1, h2, h3, h4, h5, h6⟩ := h
  exact ⟨row_set h1 1 _, h2.keep (fun b o e hb => row_set_other rfl (hp b o e) _ _) (by simp [World.setCell]), row_set_other h3 (by omega) _ _, row_set_other h4 (by omega) _ _, only_set h5 _ _ (.inl rfl) _, by simpa [World.setCell] using h6⟩
theorem Mid.drewN {w W : World} {B : Nat} {p : Option Addr} {s : ByteArray} {cap at' f : Nat} {lang : Int} (h : Mid w W B p s cap at' f lang) (q : Nat) : Mid w (W.drewN q) B p s cap at' f lang :=
  ⟨h.1, h.2.1.drewN q, h.2.2.1, h.2.2.2.1, only_drewN h.2.2.2.2.1 q, h.2.2.2.2.2⟩
theorem Mid.ext {w W W' : World} {B : Nat} {p : Option Addr} {s : ByteArray} {cap at' f : Nat} {lang : Int} {M : Nat} (h : Mid w W B p s cap at' f lang) (hb : Below M W W') (hM : W.heap.size ≤ M) : Mid w W' B p s cap at' f lang := by
  obtain ⟨h1, h2, h3, h4, h5, h6⟩ := h
  exact ⟨row_below h1 hb (by have := row_lt h1; omega), h2.keep (fun b o _ hlt => hb.block b (by omega)) hb.size, row_below h3 hb (by have := row_lt h3; omega), row_below h4 hb (by have := row_lt h4; omega), only_then h5 hb (by omega), Nat.le_trans h6 hb.size⟩
theorem hasB_at {w : World} {p : Option Addr} {s : ByteArray} (h : HasB w p s) {i : Nat} (hi : i < s.size) : ∃ b o, p = some ⟨b, o, none⟩ ∧ w.cell? ⟨b, o + i, none⟩ = some (.int .u8 (s[i].toNat : Int)) ∧ b < w.heap.size := by
  rcases h with h | ⟨b, o, hp, hc, hlb⟩
  · omega
  · exact ⟨b, o, hp, hc i hi, hlb⟩
theorem bytes_ne {w : World} {B b o n cap at' : Nat} {p : Option Addr} {lang : Int} (hR : IsR w B p n cap at' lang) {i : Nat} {x : Int} (hc : w.cell? ⟨b, o + i, none⟩ = some (.int .u8 x)) : b ≠ B := by
  rintro rfl
  rw [cell_of_row w b (o + i) _ _ _ hR] at hc
  rcases h : o + i with _ | _ | _ | k
  all_goals (rw [h] at hc; simp at hc)
theorem one_run (b o cap m : Nat) (s : ByteArray) (hm : m < s.size) (hcap : s.size ≤ cap) (W : World) : (Instr.slice 36 (.slice (some ⟨b, o, none⟩) s.size cap) (some (.int .i64 (m : Int))) (some (.int .i64 ((m : Int) + 1))) none).run Tryd.prog W = .ok (.slice (some ⟨b, o + m, none⟩) 1 (cap - m)) W := by
  have h := Lib.run_slice_window (P := Tryd.prog) W 36 5 Tryd.underlying36 (fun _ => by kernel_rfl) b o s.size cap m (m + 1) (by omega) (by omega)
  rw [show m + 1 - m = 1 by omega] at h
  simpa using h
theorem one_conv (b o cap m : Nat) (s : ByteArray) (hm : m < s.size) (W : World) (hc : W.cell? ⟨b, o + m, none⟩ = some (.int .u8 (s[m].toNat : Int))) : (convert 36 9 (.slice (some ⟨b, o + m, none⟩) 1 (cap - m))).run Tryd.prog W = .ok (.string ⟨#[s[m]]⟩) W :=
  run_convert_bytes_back (P := Tryd.prog) W 36 9 5 ⟨b, o + m, none⟩ (cap - m) [s[m]] Tryd.underlying36 Tryd.underlying5 Tryd.underlying9 (by
      intro j hj
      have : j = 0 := by simp at hj; omega
      subst this
      exact hc)


set_option maxHeartbeats 2000000 in
set_option maxRecDepth 100000 in
theorem item_plain1 (B : Nat) (p : Option Addr) (cap at' : Nat) (lang : Int) (s : ByteArray) (w : World) (hR : IsR w B p s.size cap at' lang) (hS : HasB w p s) (hs : s.size < 2 ^ 61) (hat : at' < s.size) (hcap : s.size ≤ cap)
    (h91 : isB s at' 91 = false) (h92 : isB s at' 92 = false) :
    Calls Tryd.prog 73 #[.pointer (some ⟨B, 0, none⟩)] w fun e w' => e = .returned (.tuple #[.agg (itc true (s[at'].toNat : Int) (ofL [s[at']]) at'), .nilIface]) ∧ w.grownBy w' (some B) ∧ IsR w' B p s.size cap (at' + 1) lang := by
  obtain ⟨b, o, rfl, hcell, hbl⟩ := hasB_at hS hat
  have hlB : b ≠ B := bytes_ne hR hcell
  clear hcell
  have c1 : w.cell? ⟨B, 1, none⟩ = some (.int .i64 at') := row_cell hR rfl
  have c2 : w.cell? ⟨B, 2, none⟩ = some (.int .i64 lang) := row_cell hR rfl
  have c0 : w.cell? ⟨B, 0, none⟩ = some (.slice (some ⟨b, o, none⟩) s.size cap) := row_cell hR rfl
  have f1 := row_free hR 1
  have hl : B < w.heap.size := row_lt hR
  have hR' := Lib.hid hR
  have hS' := Lib.hid hS
  clear hR hS
  go_enter Tryd.func73, Tryd.ntmps73
  go_wp2_with (first | (go_at_call 72; first | (refine (is_val B _ cap at' lang s _ _ false _ (by repeat (first | exact hR'.out | apply IsR.alloc | apply IsR.drewN)) (by repeat (first | exact hS'.out | apply HasB.alloc | apply HasB.drewN)) (by decide) (by decide) (by omega) (by omega) (by exact h91)).mono ?_; rintro e wX ⟨rfl, q, rfl⟩) | (refine (is_val B _ cap at' lang s _ _ false _ (by repeat (first | exact hR'.out | apply IsR.alloc | apply IsR.drewN)) (by repeat (first | exact hS'.out | apply HasB.alloc | apply HasB.drewN)) (by decide) (by decide) (by omega) (by omega) (by exact h92)).mono ?_; rintro e wX ⟨rfl, q, rfl⟩)))

  refine gen_world (fun W0 => Mid w W0 B (some ⟨b, o, none⟩) s cap at' at' lang) (Mid.start hR'.out hS'.out _) ?_
  clear c0 c1 c2 f1
  have hm : at' < s.size := hat
  intro W0 ⟨hR0, hS0, hi0, ho0, hg0, hz0⟩
  have hc0 : W0.cell? ⟨b, o + at', none⟩ = some (.int .u8 (s[at'].toNat : Int)) := by
    obtain ⟨b', o', e, hc, -⟩ := hasB_at hS0 hm
    cases e; exact hc
  clear hS0
  have d0 : W0.cell? ⟨B, 0, none⟩ = some (.slice (some ⟨b, o, none⟩) s.size cap) := row_cell hR0 rfl
  have d1 : W0.cell? ⟨B, 1, none⟩ = some (.int .i64 (at' : Nat)) := row_cell hR0 rfl
  have t1 := row_cell (i := 1) hi0 rfl
  have q1 := row_free hi0 1
  have ql := row_lt hi0
  have hR0' := Lib.hid hR0
  have hi0' := Lib.hid hi0
  have ho0' := Lib.hid ho0
  have hg0' := Lib.hid hg0
  clear hR0 hi0 ho0 hg0
  have hat1 : (at' : Int) < (s.size : Int) := by omega
  have n1 : ¬ w.heap.size + 1 = B := by omega
  have n2 : ¬ w.heap.size + 1 = b := by omega
  go_region
  go_wp2_with fail
  refine gen_world (fun W1 => IsR W1 B (some ⟨b, o, none⟩) s.size cap at' lang ∧ W1.cell? ⟨b, o + at', none⟩ = some (.int .u8 (s[at'].toNat : Int)) ∧ W1.heap[w.heap.size + 1]? = some (.cells #[.bool true, .int .u8 (s[at'].toNat : Int), .int .u64 0, .int .u64 0, .int .u64 0, .int .u64 0, .int .i64 (at' : Int)] 120 (0, 0))
    ∧ W1.heap[w.heap.size]? = some (.cells #[.bool false, .int .u8 0, .int .u64 0, .int .u64 0, .int .u64 0, .int .u64 0, .int .i64 0] 120 (0, 0)) ∧ w.grownBy W1 (some B) ∧ w.heap.size + 2 ≤ W1.heap.size) ?_ ?_
  · refine ⟨row_set_other hR0'.out (by omega) _ _, ?_, (row_set hi0'.out 1 _).trans (by rfl), row_set_other ho0'.out (by omega) _ _, only_drewN (only_set hg0'.out _ _ (.inr (by omega)) _) 1, by simpa [World.setCell] using hz0⟩
    show (W0.setCell _ _).cell? _ = _
    rw [World.cell?_setCell_other _ _ _ _ (by intro e; injection e; omega)]
    exact hc0
  clear d0 d1 t1 q1 ql hc0 hR0' hi0' ho0' hg0' hz0
  intro W1 ⟨hR1, hc1, hi1, ho1, hg1, hz1⟩
  have d0 : W1.cell? ⟨B, 0, none⟩ = some (.slice (some ⟨b, o, none⟩) s.size cap) := row_cell hR1 rfl
  have d1 : W1.cell? ⟨B, 1, none⟩ = some (.int .i64 (at' : Nat)) := row_cell hR1 rfl
  have hsl := one_run b o cap at' s hm hcap
  have hcv := one_conv b o cap at' s hm
  have hR1' := Lib.hid hR1
  have hlW : B < W1.heap.size ∧ b < W1.heap.size := ⟨row_lt hR1, by omega⟩
  clear hR1
  have e1 : (at' : Int) ≤ (at' : Int) + 1 := by omega
  have e2 : (at' : Int) + 1 ≤ (cap : Int) := by omega
  have e3 : (0 : Int) ≤ (at' : Int) := by omega
  have e4 : (0 : Int) ≤ (at' : Int) + 1 := by omega
  have e5 : ¬ cap = at' := by omega
  have hat2 : at' < 2 ^ 61 := by omega
  have e6 : IntKind.i64.wrap ((at' : Int) + 1) = (at' : Int) + 1 := by simp [IntKind.wrap, IntKind.bits, IntKind.signed]; omega
  go_region_held3 (fun w' => w'.cell? ⟨B, 0, none⟩ = some (.slice (some ⟨b, o, none⟩) s.size cap) ∧ w'.cell? ⟨B, 1, none⟩ = some (.int .i64 (at' : Nat)) ∧ w'.cell? ⟨b, o + at', none⟩ = some (.int .u8 (s[at'].toNat : Int))) (go_keep)
    (first | (go_at_call 22; refine (Of_any' _ _ (by show (1 : Nat) ≤ maxLen; decide)).mono ?_; rintro e w9 ⟨rfl, b9⟩; have hT := (b9.block (w.heap.size + 1) (by show _ < W1.heap.size; omega)).trans hi1; have t2 := row_cell (i := 2) hT rfl; have t3 := row_cell (i := 3) hT rfl; have t4 := row_cell (i := 4) hT rfl; have t5 := row_cell (i := 5) hT rfl; have q2 := row_free hT 2; have q3 := row_free hT 3; have q4 := row_free hT 4; have q5 := row_free hT 5; have ql := row_lt hT; clear hT; have hR9 : IsR w9 B (some ⟨b, o, none⟩) s.size cap at' lang := hR1'.out.keep (b9.block B (by show _ < W1.heap.size; omega)); have y0 := row_cell (i := 0) hR9 rfl; have y1 := row_cell (i := 1) hR9 rfl; have y2 := (b9.cell (p := ⟨b, o + at', none⟩) (by show b < W1.heap.size; omega)).trans hc1; clear hR9))
  have hR9 : IsR w9 B (some ⟨b, o, none⟩) s.size cap at' lang := hR1'.out.keep (b9.block B (by show _ < W1.heap.size; omega))
  have ho9 := (b9.block w.heap.size (by show _ < W1.heap.size; omega)).trans ho1
  have hi9 := (b9.block (w.heap.size + 1) (by show _ < W1.heap.size; omega)).trans hi1
  have hg9 : w.grownBy w9 (some B) := only_then (w := W1.drew) (only_drewN hg1 1) b9 (by show _ ≤ W1.heap.size; omega)
  have hz9 : w.heap.size + 2 ≤ w9.heap.size := by have : W1.heap.size ≤ w9.heap.size := b9.size; omega
  refine gen_q _ (fun W2 => IsR W2 B (some ⟨b, o, none⟩) s.size cap at' lang ∧ W2.heap[w.heap.size + 1]? = some (.cells (itc true (s[at'].toNat : Int) (ofL [s[at']]) at') 120 (0, 0))
      ∧ W2.heap[w.heap.size]? = some (.cells #[.bool false, .int .u8 0, .int .u64 0, .int .u64 0, .int .u64 0, .int .u64 0, .int .i64 0] 120 (0, 0)) ∧ w.grownBy W2 (some B) ∧ w.heap.size + 2 ≤ W2.heap.size) ?_ ?_
  · refine ⟨?_, ?_, ?_, ?_, ?_⟩
    · exact row_set_other (row_set_other (row_set_other (row_set_other hR9 (by omega) _ _) (by omega) _ _) (by omega) _ _) (by omega) _ _
    · exact (row_set (row_set (row_set (row_set hi9 2 _) 3 _) 4 _) 5 _).trans (by rfl)
    · exact row_set_other (row_set_other (row_set_other (row_set_other ho9 (by omega) _ _) (by omega) _ _) (by omega) _ _) (by omega) _ _
    · exact only_set (only_set (only_set (only_set hg9 _ _ (.inr (by omega)) _) _ _ (.inr (by omega)) _) _ _ (.inr (by omega)) _) _ _ (.inr (by omega)) _
    · simp [World.setCell]; exact hz9
  clear b9 t2 t3 t4 t5 q2 q3 q4 q5 ql y0 y1 y2 hR9 ho9 hi9 hg9 hz9 hi1 ho1 hg1 hz1 hlW hcv hc1 d0 d1 hsl
  intro W2 ⟨hR2, hi2, ho2, hg2, hz2⟩
  have d1 : W2.cell? ⟨B, 1, none⟩ = some (.int .i64 (at' : Nat)) := row_cell hR2 rfl
  have d1f := row_free hR2 1
  have hlB2 := row_lt hR2
  have hR2' := Lib.hid hR2
  have hi2' := Lib.hid hi2
  have ho2' := Lib.hid ho2
  have hg2' := Lib.hid hg2
  clear hR2 hi2 ho2 hg2
  go_wp2_with (first
    | (refine wpList_load_row rfl 120 _ rfl _ rfl 120 _ (0, 0) _ (row_set_other hi2'.out (by omega) _ _) Tryd.underlying120 (by rfl) (by kernel_rfl) ?_)
    | (refine wpList_store_row rfl 120 _ _ rfl _ _ rfl rfl 120 _ (row_set_other ho2'.out (by omega) _ _) (by kernel_rfl) rfl (by simp [Value.oneCell', itc]) ?_))
  have hne : ¬ B = w.heap.size := by omega
  skip
  refine ret_row2 _ rfl rfl rfl rfl (setRow_heap _ w.heap.size _ _ _ _ (row_set_other ho2'.out (by omega) _ _)) Tryd.underlying120 (by kernel_rfl) ⟨rfl, ?_, ?_⟩
  · exact only_row (only_set hg2'.out _ _ (.inl rfl) _) _ (Nat.le_refl _) _
  · show _ = _
    rw [setRow_other _ _ _ _ hne]
    exact (row_set hR2'.out 1 _).trans (by rfl)


set_option maxHeartbeats 2000000 in
set_option maxRecDepth 100000 in
theorem item_plain2 (B : Nat) (p : Option Addr) (cap at' : Nat) (lang : Int) (s : ByteArray) (w : World) (hR : IsR w B p s.size cap at' lang) (hS : HasB w p s) (hs : s.size < 2 ^ 61) (hat : at' < s.size) (hcap : s.size ≤ cap)
    (h91 : isB s at' 91 = false) (h92 : isB s at' 92 = true) (hlang : (lang == 2) = false) :
    Calls Tryd.prog 73 #[.pointer (some ⟨B, 0, none⟩)] w fun e w' => e = .returned (.tuple #[.agg (itc true (s[at'].toNat : Int) (ofL [s[at']]) at'), .nilIface]) ∧ w.grownBy w' (some B) ∧ IsR w' B p s.size cap (at' + 1) lang := by
  obtain ⟨b, o, rfl, hcell, hbl⟩ := hasB_at hS hat
  have hlB : b ≠ B := bytes_ne hR hcell
  clear hcell
  have c1 : w.cell? ⟨B, 1, none⟩ = some (.int .i64 at') := row_cell hR rfl
  have c2 : w.cell? ⟨B, 2, none⟩ = some (.int .i64 lang) := row_cell hR rfl
  have c0 : w.cell? ⟨B, 0, none⟩ = some (.slice (some ⟨b, o, none⟩) s.size cap) := row_cell hR rfl
  have f1 := row_free hR 1
  have hl : B < w.heap.size := row_lt hR
  have hR' := Lib.hid hR
  have hS' := Lib.hid hS
  clear hR hS
  go_enter Tryd.func73, Tryd.ntmps73
  go_wp2_with (first | (go_at_call 72; first | (refine (is_val B _ cap at' lang s _ _ false _ (by repeat (first | exact hR'.out | apply IsR.alloc | apply IsR.drewN)) (by repeat (first | exact hS'.out | apply HasB.alloc | apply HasB.drewN)) (by decide) (by decide) (by omega) (by omega) (by exact h91)).mono ?_; rintro e wX ⟨rfl, q, rfl⟩) | (refine (is_val B _ cap at' lang s _ _ true _ (by repeat (first | exact hR'.out | apply IsR.alloc | apply IsR.drewN)) (by repeat (first | exact hS'.out | apply HasB.alloc | apply HasB.drewN)) (by decide) (by decide) (by omega) (by omega) (by exact h92)).mono ?_; rintro e wX ⟨rfl, q, rfl⟩)))

  refine gen_world (fun W0 => Mid w W0 B (some ⟨b, o, none⟩) s cap at' at' lang) (Mid.start hR'.out hS'.out _) ?_
  clear c0 c1 c2 f1
  have hm : at' < s.size := hat
  intro W0 ⟨hR0, hS0, hi0, ho0, hg0, hz0⟩
  have hc0 : W0.cell? ⟨b, o + at', none⟩ = some (.int .u8 (s[at'].toNat : Int)) := by
    obtain ⟨b', o', e, hc, -⟩ := hasB_at hS0 hm
    cases e; exact hc
  clear hS0
  have d0 : W0.cell? ⟨B, 0, none⟩ = some (.slice (some ⟨b, o, none⟩) s.size cap) := row_cell hR0 rfl
  have d1 : W0.cell? ⟨B, 1, none⟩ = some (.int .i64 (at' : Nat)) := row_cell hR0 rfl
  have t1 := row_cell (i := 1) hi0 rfl
  have q1 := row_free hi0 1
  have ql := row_lt hi0
  have hR0' := Lib.hid hR0
  have hi0' := Lib.hid hi0
  have ho0' := Lib.hid ho0
  have hg0' := Lib.hid hg0
  clear hR0 hi0 ho0 hg0
  have hat1 : (at' : Int) < (s.size : Int) := by omega
  have n1 : ¬ w.heap.size + 1 = B := by omega
  have n2 : ¬ w.heap.size + 1 = b := by omega
  go_region
  go_wp2_with fail
  refine gen_world (fun W1 => IsR W1 B (some ⟨b, o, none⟩) s.size cap at' lang ∧ W1.cell? ⟨b, o + at', none⟩ = some (.int .u8 (s[at'].toNat : Int)) ∧ W1.heap[w.heap.size + 1]? = some (.cells #[.bool true, .int .u8 (s[at'].toNat : Int), .int .u64 0, .int .u64 0, .int .u64 0, .int .u64 0, .int .i64 (at' : Int)] 120 (0, 0))
    ∧ W1.heap[w.heap.size]? = some (.cells #[.bool false, .int .u8 0, .int .u64 0, .int .u64 0, .int .u64 0, .int .u64 0, .int .i64 0] 120 (0, 0)) ∧ w.grownBy W1 (some B) ∧ w.heap.size + 2 ≤ W1.heap.size) ?_ ?_
  · refine ⟨row_set_other hR0'.out (by omega) _ _, ?_, (row_set hi0'.out 1 _).trans (by rfl), row_set_other ho0'.out (by omega) _ _, only_drewN (only_set hg0'.out _ _ (.inr (by omega)) _) 1, by simpa [World.setCell] using hz0⟩
    show (W0.setCell _ _).cell? _ = _
    rw [World.cell?_setCell_other _ _ _ _ (by intro e; injection e; omega)]
    exact hc0
  clear d0 d1 t1 q1 ql hc0 hR0' hi0' ho0' hg0' hz0
  intro W1 ⟨hR1, hc1, hi1, ho1, hg1, hz1⟩
  have d0 : W1.cell? ⟨B, 0, none⟩ = some (.slice (some ⟨b, o, none⟩) s.size cap) := row_cell hR1 rfl
  have d1 : W1.cell? ⟨B, 1, none⟩ = some (.int .i64 (at' : Nat)) := row_cell hR1 rfl
  have hsl := one_run b o cap at' s hm hcap
  have hcv := one_conv b o cap at' s hm
  have hR1' := Lib.hid hR1
  have hlW : B < W1.heap.size ∧ b < W1.heap.size := ⟨row_lt hR1, by omega⟩
  clear hR1
  have e1 : (at' : Int) ≤ (at' : Int) + 1 := by omega
  have e2 : (at' : Int) + 1 ≤ (cap : Int) := by omega
  have e3 : (0 : Int) ≤ (at' : Int) := by omega
  have e4 : (0 : Int) ≤ (at' : Int) + 1 := by omega
  have e5 : ¬ cap = at' := by omega
  have hat2 : at' < 2 ^ 61 := by omega
  have e6 : IntKind.i64.wrap ((at' : Int) + 1) = (at' : Int) + 1 := by simp [IntKind.wrap, IntKind.bits, IntKind.signed]; omega
  go_region_held3 (fun w' => w'.cell? ⟨B, 0, none⟩ = some (.slice (some ⟨b, o, none⟩) s.size cap) ∧ w'.cell? ⟨B, 1, none⟩ = some (.int .i64 (at' : Nat)) ∧ w'.cell? ⟨b, o + at', none⟩ = some (.int .u8 (s[at'].toNat : Int))) (go_keep)
    (first | (go_at_call 22; refine (Of_any' _ _ (by show (1 : Nat) ≤ maxLen; decide)).mono ?_; rintro e w9 ⟨rfl, b9⟩; have hT := (b9.block (w.heap.size + 1) (by show _ < W1.heap.size; omega)).trans hi1; have t2 := row_cell (i := 2) hT rfl; have t3 := row_cell (i := 3) hT rfl; have t4 := row_cell (i := 4) hT rfl; have t5 := row_cell (i := 5) hT rfl; have q2 := row_free hT 2; have q3 := row_free hT 3; have q4 := row_free hT 4; have q5 := row_free hT 5; have ql := row_lt hT; clear hT; have hR9 : IsR w9 B (some ⟨b, o, none⟩) s.size cap at' lang := hR1'.out.keep (b9.block B (by show _ < W1.heap.size; omega)); have y0 := row_cell (i := 0) hR9 rfl; have y1 := row_cell (i := 1) hR9 rfl; have y2 := (b9.cell (p := ⟨b, o + at', none⟩) (by show b < W1.heap.size; omega)).trans hc1; clear hR9))
  have hR9 : IsR w9 B (some ⟨b, o, none⟩) s.size cap at' lang := hR1'.out.keep (b9.block B (by show _ < W1.heap.size; omega))
  have ho9 := (b9.block w.heap.size (by show _ < W1.heap.size; omega)).trans ho1
  have hi9 := (b9.block (w.heap.size + 1) (by show _ < W1.heap.size; omega)).trans hi1
  have hg9 : w.grownBy w9 (some B) := only_then (w := W1.drew) (only_drewN hg1 1) b9 (by show _ ≤ W1.heap.size; omega)
  have hz9 : w.heap.size + 2 ≤ w9.heap.size := by have : W1.heap.size ≤ w9.heap.size := b9.size; omega
  refine gen_q _ (fun W2 => IsR W2 B (some ⟨b, o, none⟩) s.size cap at' lang ∧ W2.heap[w.heap.size + 1]? = some (.cells (itc true (s[at'].toNat : Int) (ofL [s[at']]) at') 120 (0, 0))
      ∧ W2.heap[w.heap.size]? = some (.cells #[.bool false, .int .u8 0, .int .u64 0, .int .u64 0, .int .u64 0, .int .u64 0, .int .i64 0] 120 (0, 0)) ∧ w.grownBy W2 (some B) ∧ w.heap.size + 2 ≤ W2.heap.size) ?_ ?_
  · refine ⟨?_, ?_, ?_, ?_, ?_⟩
    · exact row_set_other (row_set_other (row_set_other (row_set_other hR9 (by omega) _ _) (by omega) _ _) (by omega) _ _) (by omega) _ _
    · exact (row_set (row_set (row_set (row_set hi9 2 _) 3 _) 4 _) 5 _).trans (by rfl)
    · exact row_set_other (row_set_other (row_set_other (row_set_other ho9 (by omega) _ _) (by omega) _ _) (by omega) _ _) (by omega) _ _
    · exact only_set (only_set (only_set (only_set hg9 _ _ (.inr (by omega)) _) _ _ (.inr (by omega)) _) _ _ (.inr (by omega)) _) _ _ (.inr (by omega)) _
    · simp [World.setCell]; exact hz9
  clear b9 t2 t3 t4 t5 q2 q3 q4 q5 ql y0 y1 y2 hR9 ho9 hi9 hg9 hz9 hi1 ho1 hg1 hz1 hlW hcv hc1 d0 d1 hsl
  intro W2 ⟨hR2, hi2, ho2, hg2, hz2⟩
  have d1 : W2.cell? ⟨B, 1, none⟩ = some (.int .i64 (at' : Nat)) := row_cell hR2 rfl
  have d1f := row_free hR2 1
  have hlB2 := row_lt hR2
  have hR2' := Lib.hid hR2
  have hi2' := Lib.hid hi2
  have ho2' := Lib.hid ho2
  have hg2' := Lib.hid hg2
  clear hR2 hi2 ho2 hg2
  go_wp2_with (first
    | (refine wpList_load_row rfl 120 _ rfl _ rfl 120 _ (0, 0) _ (row_set_other hi2'.out (by omega) _ _) Tryd.underlying120 (by rfl) (by kernel_rfl) ?_)
    | (refine wpList_store_row rfl 120 _ _ rfl _ _ rfl rfl 120 _ (row_set_other ho2'.out (by omega) _ _) (by kernel_rfl) rfl (by simp [Value.oneCell', itc]) ?_))
  have hne : ¬ B = w.heap.size := by omega
  skip
  refine ret_row2 _ rfl rfl rfl rfl (setRow_heap _ w.heap.size _ _ _ _ (row_set_other ho2'.out (by omega) _ _)) Tryd.underlying120 (by kernel_rfl) ⟨rfl, ?_, ?_⟩
  · exact only_row (only_set hg2'.out _ _ (.inl rfl) _) _ (Nat.le_refl _) _
  · show _ = _
    rw [setRow_other _ _ _ _ hne]
    exact (row_set hR2'.out 1 _).trans (by rfl)


set_option maxHeartbeats 2000000 in
set_option maxRecDepth 100000 in
theorem item_plain3 (B : Nat) (p : Option Addr) (cap at' : Nat) (lang : Int) (s : ByteArray) (w : World) (hR : IsR w B p s.size cap at' lang) (hS : HasB w p s) (hs : s.size < 2 ^ 61) (hat : at' < s.size) (hcap : s.size ≤ cap)
    (h91 : isB s at' 91 = true) (h46 : isB s (at' + 1) 46 = false) (h61 : isB s (at' + 1) 61 = false) (h58 : isB s (at' + 1) 58 = false) (h92 : isB s at' 92 = false) :
    Calls Tryd.prog 73 #[.pointer (some ⟨B, 0, none⟩)] w fun e w' => e = .returned (.tuple #[.agg (itc true (s[at'].toNat : Int) (ofL [s[at']]) at'), .nilIface]) ∧ w.grownBy w' (some B) ∧ IsR w' B p s.size cap (at' + 1) lang := by
  obtain ⟨b, o, rfl, hcell, hbl⟩ := hasB_at hS hat
  have hlB : b ≠ B := bytes_ne hR hcell
  clear hcell
  have c1 : w.cell? ⟨B, 1, none⟩ = some (.int .i64 at') := row_cell hR rfl
  have c2 : w.cell? ⟨B, 2, none⟩ = some (.int .i64 lang) := row_cell hR rfl
  have c0 : w.cell? ⟨B, 0, none⟩ = some (.slice (some ⟨b, o, none⟩) s.size cap) := row_cell hR rfl
  have f1 := row_free hR 1
  have hl : B < w.heap.size := row_lt hR
  have hR' := Lib.hid hR
  have hS' := Lib.hid hS
  clear hR hS
  go_enter Tryd.func73, Tryd.ntmps73
  go_wp2_with (first | (go_at_call 72; first | (refine (is_val B _ cap at' lang s _ _ true _ (by repeat (first | exact hR'.out | apply IsR.alloc | apply IsR.drewN)) (by repeat (first | exact hS'.out | apply HasB.alloc | apply HasB.drewN)) (by decide) (by decide) (by omega) (by omega) (by exact h91)).mono ?_; rintro e wX ⟨rfl, q, rfl⟩) | (refine (is_val B _ cap at' lang s _ _ false _ (by repeat (first | exact hR'.out | apply IsR.alloc | apply IsR.drewN)) (by repeat (first | exact hS'.out | apply HasB.alloc | apply HasB.drewN)) (by decide) (by decide) (by omega) (by omega) (by exact h92)).mono ?_; rintro e wX ⟨rfl, q, rfl⟩) | (refine (is_val B _ cap at' lang s _ _ false _ (by repeat (first | exact hR'.out | apply IsR.alloc | apply IsR.drewN)) (by repeat (first | exact hS'.out | apply HasB.alloc | apply HasB.drewN)) (by decide) (by decide) (by omega) (by omega) (by exact h46)).mono ?_; rintro e wX ⟨rfl, q, rfl⟩) | (refine (is_val B _ cap at' lang s _ _ false _ (by repeat (first | exact hR'.out | apply IsR.alloc | apply IsR.drewN)) (by repeat (first | exact hS'.out | apply HasB.alloc | apply HasB.drewN)) (by decide) (by decide) (by omega) (by omega) (by exact h61)).mono ?_; rintro e wX ⟨rfl, q, rfl⟩) | (refine (is_val B _ cap at' lang s _ _ false _ (by repeat (first | exact hR'.out | apply IsR.alloc | apply IsR.drewN)) (by repeat (first | exact hS'.out | apply HasB.alloc | apply HasB.drewN)) (by decide) (by decide) (by omega) (by omega) (by exact h58)).mono ?_; rintro e wX ⟨rfl, q, rfl⟩)))

  refine gen_world (fun W0 => Mid w W0 B (some ⟨b, o, none⟩) s cap at' at' lang) (Mid.start hR'.out hS'.out _) ?_
  clear c0 c1 c2 f1
  have hm : at' < s.size := hat
  intro W0 ⟨hR0, hS0, hi0, ho0, hg0, hz0⟩
  have hc0 : W0.cell? ⟨b, o + at', none⟩ = some (.int .u8 (s[at'].toNat : Int)) := by
    obtain ⟨b', o', e, hc, -⟩ := hasB_at hS0 hm
    cases e; exact hc
  clear hS0
  have d0 : W0.cell? ⟨B, 0, none⟩ = some (.slice (some ⟨b, o, none⟩) s.size cap) := row_cell hR0 rfl
  have d1 : W0.cell? ⟨B, 1, none⟩ = some (.int .i64 (at' : Nat)) := row_cell hR0 rfl
  have t1 := row_cell (i := 1) hi0 rfl
  have q1 := row_free hi0 1
  have ql := row_lt hi0
  have hR0' := Lib.hid hR0
  have hi0' := Lib.hid hi0
  have ho0' := Lib.hid ho0
  have hg0' := Lib.hid hg0
  clear hR0 hi0 ho0 hg0
  have hat1 : (at' : Int) < (s.size : Int) := by omega
  have n1 : ¬ w.heap.size + 1 = B := by omega
  have n2 : ¬ w.heap.size + 1 = b := by omega
  go_region
  go_wp2_with fail
  refine gen_world (fun W1 => IsR W1 B (some ⟨b, o, none⟩) s.size cap at' lang ∧ W1.cell? ⟨b, o + at', none⟩ = some (.int .u8 (s[at'].toNat : Int)) ∧ W1.heap[w.heap.size + 1]? = some (.cells #[.bool true, .int .u8 (s[at'].toNat : Int), .int .u64 0, .int .u64 0, .int .u64 0, .int .u64 0, .int .i64 (at' : Int)] 120 (0, 0))
    ∧ W1.heap[w.heap.size]? = some (.cells #[.bool false, .int .u8 0, .int .u64 0, .int .u64 0, .int .u64 0, .int .u64 0, .int .i64 0] 120 (0, 0)) ∧ w.grownBy W1 (some B) ∧ w.heap.size + 2 ≤ W1.heap.size) ?_ ?_
  · refine ⟨row_set_other hR0'.out (by omega) _ _, ?_, (row_set hi0'.out 1 _).trans (by rfl), row_set_other ho0'.out (by omega) _ _, only_drewN (only_set hg0'.out _ _ (.inr (by omega)) _) 1, by simpa [World.setCell] using hz0⟩
    show (W0.setCell _ _).cell? _ = _
    rw [World.cell?_setCell_other _ _ _ _ (by intro e; injection e; omega)]
    exact hc0
  clear d0 d1 t1 q1 ql hc0 hR0' hi0' ho0' hg0' hz0
  intro W1 ⟨hR1, hc1, hi1, ho1, hg1, hz1⟩
  have d0 : W1.cell? ⟨B, 0, none⟩ = some (.slice (some ⟨b, o, none⟩) s.size cap) := row_cell hR1 rfl
  have d1 : W1.cell? ⟨B, 1, none⟩ = some (.int .i64 (at' : Nat)) := row_cell hR1 rfl
  have hsl := one_run b o cap at' s hm hcap
  have hcv := one_conv b o cap at' s hm
  have hR1' := Lib.hid hR1
  have hlW : B < W1.heap.size ∧ b < W1.heap.size := ⟨row_lt hR1, by omega⟩
  clear hR1
  have e1 : (at' : Int) ≤ (at' : Int) + 1 := by omega
  have e2 : (at' : Int) + 1 ≤ (cap : Int) := by omega
  have e3 : (0 : Int) ≤ (at' : Int) := by omega
  have e4 : (0 : Int) ≤ (at' : Int) + 1 := by omega
  have e5 : ¬ cap = at' := by omega
  have hat2 : at' < 2 ^ 61 := by omega
  have e6 : IntKind.i64.wrap ((at' : Int) + 1) = (at' : Int) + 1 := by simp [IntKind.wrap, IntKind.bits, IntKind.signed]; omega
  go_region_held3 (fun w' => w'.cell? ⟨B, 0, none⟩ = some (.slice (some ⟨b, o, none⟩) s.size cap) ∧ w'.cell? ⟨B, 1, none⟩ = some (.int .i64 (at' : Nat)) ∧ w'.cell? ⟨b, o + at', none⟩ = some (.int .u8 (s[at'].toNat : Int))) (go_keep)
    (first | (go_at_call 22; refine (Of_any' _ _ (by show (1 : Nat) ≤ maxLen; decide)).mono ?_; rintro e w9 ⟨rfl, b9⟩; have hT := (b9.block (w.heap.size + 1) (by show _ < W1.heap.size; omega)).trans hi1; have t2 := row_cell (i := 2) hT rfl; have t3 := row_cell (i := 3) hT rfl; have t4 := row_cell (i := 4) hT rfl; have t5 := row_cell (i := 5) hT rfl; have q2 := row_free hT 2; have q3 := row_free hT 3; have q4 := row_free hT 4; have q5 := row_free hT 5; have ql := row_lt hT; clear hT; have hR9 : IsR w9 B (some ⟨b, o, none⟩) s.size cap at' lang := hR1'.out.keep (b9.block B (by show _ < W1.heap.size; omega)); have y0 := row_cell (i := 0) hR9 rfl; have y1 := row_cell (i := 1) hR9 rfl; have y2 := (b9.cell (p := ⟨b, o + at', none⟩) (by show b < W1.heap.size; omega)).trans hc1; clear hR9))
  have hR9 : IsR w9 B (some ⟨b, o, none⟩) s.size cap at' lang := hR1'.out.keep (b9.block B (by show _ < W1.heap.size; omega))
  have ho9 := (b9.block w.heap.size (by show _ < W1.heap.size; omega)).trans ho1
  have hi9 := (b9.block (w.heap.size + 1) (by show _ < W1.heap.size; omega)).trans hi1
  have hg9 : w.grownBy w9 (some B) := only_then (w := W1.drew) (only_drewN hg1 1) b9 (by show _ ≤ W1.heap.size; omega)
  have hz9 : w.heap.size + 2 ≤ w9.heap.size := by have : W1.heap.size ≤ w9.heap.size := b9.size; omega
  refine gen_q _ (fun W2 => IsR W2 B (some ⟨b, o, none⟩) s.size cap at' lang ∧ W2.heap[w.heap.size + 1]? = some (.cells (itc true (s[at'].toNat : Int) (ofL [s[at']]) at') 120 (0, 0))
      ∧ W2.heap[w.heap.size]? = some (.cells #[.bool false, .int .u8 0, .int .u64 0, .int .u64 0, .int .u64 0, .int .u64 0, .int .i64 0] 120 (0, 0)) ∧ w.grownBy W2 (some B) ∧ w.heap.size + 2 ≤ W2.heap.size) ?_ ?_
  · refine ⟨?_, ?_, ?_, ?_, ?_⟩
    · exact row_set_other (row_set_other (row_set_other (row_set_other hR9 (by omega) _ _) (by omega) _ _) (by omega) _ _) (by omega) _ _
    · exact (row_set (row_set (row_set (row_set hi9 2 _) 3 _) 4 _) 5 _).trans (by rfl)
    · exact row_set_other (row_set_other (row_set_other (row_set_other ho9 (by omega) _ _) (by omega) _ _) (by omega) _ _) (by omega) _ _
    · exact only_set (only_set (only_set (only_set hg9 _ _ (.inr (by omega)) _) _ _ (.inr (by omega)) _) _ _ (.inr (by omega)) _) _ _ (.inr (by omega)) _
    · simp [World.setCell]; exact hz9
  clear b9 t2 t3 t4 t5 q2 q3 q4 q5 ql y0 y1 y2 hR9 ho9 hi9 hg9 hz9 hi1 ho1 hg1 hz1 hlW hcv hc1 d0 d1 hsl
  intro W2 ⟨hR2, hi2, ho2, hg2, hz2⟩
  have d1 : W2.cell? ⟨B, 1, none⟩ = some (.int .i64 (at' : Nat)) := row_cell hR2 rfl
  have d1f := row_free hR2 1
  have hlB2 := row_lt hR2
  have hR2' := Lib.hid hR2
  have hi2' := Lib.hid hi2
  have ho2' := Lib.hid ho2
  have hg2' := Lib.hid hg2
  clear hR2 hi2 ho2 hg2
  go_wp2_with (first
    | (refine wpList_load_row rfl 120 _ rfl _ rfl 120 _ (0, 0) _ (row_set_other hi2'.out (by omega) _ _) Tryd.underlying120 (by rfl) (by kernel_rfl) ?_)
    | (refine wpList_store_row rfl 120 _ _ rfl _ _ rfl rfl 120 _ (row_set_other ho2'.out (by omega) _ _) (by kernel_rfl) rfl (by simp [Value.oneCell', itc]) ?_))
  have hne : ¬ B = w.heap.size := by omega
  skip
  refine ret_row2 _ rfl rfl rfl rfl (setRow_heap _ w.heap.size _ _ _ _ (row_set_other ho2'.out (by omega) _ _)) Tryd.underlying120 (by kernel_rfl) ⟨rfl, ?_, ?_⟩
  · exact only_row (only_set hg2'.out _ _ (.inl rfl) _) _ (Nat.le_refl _) _
  · show _ = _
    rw [setRow_other _ _ _ _ hne]
    exact (row_set hR2'.out 1 _).trans (by rfl)

end Go.Proofs.YteeopjgfiojoiaaDoor
namespace Go.Proofs.YteeopjgfiojoiaaDoor
open Go Go.RowKit SN


set_option maxHeartbeats 2000000 in
set_option maxRecDepth 100000 in
theorem item_dot {N : Nat} {E : Nat → Addr} (B : Nat) (p : Option Addr) (cap at' : Nat) (lang : Int) (s : ByteArray) (w : World) (hR : IsR w B p s.size cap at' lang) (hS : HasB w p s) (hs : s.size < 2 ^ 61) (hat : at' < s.size) (_hcap : s.size ≤ cap)
    (hN : N ≤ B) (hE : Errs N E w) (h91 : isB s at' 91 = true) (h46 : isB s (at' + 1) 46 = true) :
    Calls Tryd.prog 73 #[.pointer (some ⟨B, 0, none⟩)] w fun e w' => ∃ v, e = .returned (.tuple #[.agg (itc true 0 0 at'), v]) ∧ IsErr w' E v 8 at' lang ∧ w.grownBy w' (some B) ∧ ∃ at2, IsR w' B p s.size cap at2 lang := by
  obtain ⟨b, o, rfl, hcell, hbl⟩ := hasB_at hS hat
  have hlB : b ≠ B := bytes_ne hR hcell
  clear hcell
  have c1 : w.cell? ⟨B, 1, none⟩ = some (.int .i64 at') := row_cell hR rfl
  have c2 : w.cell? ⟨B, 2, none⟩ = some (.int .i64 lang) := row_cell hR rfl
  have c0 : w.cell? ⟨B, 0, none⟩ = some (.slice (some ⟨b, o, none⟩) s.size cap) := row_cell hR rfl
  have f1 := row_free hR 1
  have hl : B < w.heap.size := row_lt hR
  have hR' := Lib.hid hR
  have hS' := Lib.hid hS
  clear hR hS
  have hE' := Lib.hid hE
  clear hE
  go_enter Tryd.func73, Tryd.ntmps73
  go_wp2_with (first | (go_at_call 72; first | (refine (is_val B _ cap at' lang s _ _ true _ (by repeat (first | exact hR'.out | apply IsR.alloc | apply IsR.drewN)) (by repeat (first | exact hS'.out | apply HasB.alloc | apply HasB.drewN)) (by decide) (by decide) (by omega) (by omega) (by exact h91)).mono ?_; rintro e wX ⟨rfl, q, rfl⟩) | (refine (is_val B _ cap at' lang s _ _ true _ (by repeat (first | exact hR'.out | apply IsR.alloc | apply IsR.drewN)) (by repeat (first | exact hS'.out | apply HasB.alloc | apply HasB.drewN)) (by decide) (by decide) (by omega) (by omega) (by exact h46)).mono ?_; rintro e wX ⟨rfl, q, rfl⟩)))

  refine gen_world (fun W0 => Mid w W0 B (some ⟨b, o, none⟩) s cap at' at' lang ∧ Errs N E W0) ⟨Mid.start hR'.out hS'.out _, ((hE'.out.alloc _ (by omega)).alloc _ (by simp; omega)).drewN _⟩ ?_
  clear c0 c1 c2 f1
  intro W0 ⟨⟨hR0, hS0, hi0, ho0, hg0, hz0⟩, hE0⟩
  clear hS0
  have d0 : W0.cell? ⟨B, 0, none⟩ = some (.slice (some ⟨b, o, none⟩) s.size cap) := row_cell hR0 rfl
  have d1 : W0.cell? ⟨B, 1, none⟩ = some (.int .i64 (at' : Nat)) := row_cell hR0 rfl
  have ti0 : W0.cell? ⟨w.heap.size + 1, 0, none⟩ = some (.bool true) := row_cell hi0 rfl
  have ti1 : W0.cell? ⟨w.heap.size + 1, 1, none⟩ = some (.int .u8 0) := row_cell hi0 rfl
  have ti2 : W0.cell? ⟨w.heap.size + 1, 2, none⟩ = some (.int .u64 0) := row_cell hi0 rfl
  have ti3 : W0.cell? ⟨w.heap.size + 1, 3, none⟩ = some (.int .u64 0) := row_cell hi0 rfl
  have ti4 : W0.cell? ⟨w.heap.size + 1, 4, none⟩ = some (.int .u64 0) := row_cell hi0 rfl
  have ti5 : W0.cell? ⟨w.heap.size + 1, 5, none⟩ = some (.int .u64 0) := row_cell hi0 rfl
  have ti6 : W0.cell? ⟨w.heap.size + 1, 6, none⟩ = some (.int .i64 (at' : Int)) := row_cell hi0 rfl
  have to0 : W0.cell? ⟨w.heap.size, 0, none⟩ = some (.bool false) := row_cell ho0 rfl
  have tof0 := row_free ho0 0
  have to1 : W0.cell? ⟨w.heap.size, 1, none⟩ = some (.int .u8 0) := row_cell ho0 rfl
  have tof1 := row_free ho0 1
  have to2 : W0.cell? ⟨w.heap.size, 2, none⟩ = some (.int .u64 0) := row_cell ho0 rfl
  have tof2 := row_free ho0 2
  have to3 : W0.cell? ⟨w.heap.size, 3, none⟩ = some (.int .u64 0) := row_cell ho0 rfl
  have tof3 := row_free ho0 3
  have to4 : W0.cell? ⟨w.heap.size, 4, none⟩ = some (.int .u64 0) := row_cell ho0 rfl
  have tof4 := row_free ho0 4
  have to5 : W0.cell? ⟨w.heap.size, 5, none⟩ = some (.int .u64 0) := row_cell ho0 rfl
  have tof5 := row_free ho0 5
  have to6 : W0.cell? ⟨w.heap.size, 6, none⟩ = some (.int .i64 0) := row_cell ho0 rfl
  have tof6 := row_free ho0 6
  have hR0' := Lib.hid hR0
  have hi0' := Lib.hid hi0
  have ho0' := Lib.hid ho0
  have hg0' := Lib.hid hg0
  have hE0' := Lib.hid hE0
  clear hR0 hi0 ho0 hg0 hE0
  have n1 : ¬ w.heap.size = B := by omega
  have n2 : ¬ w.heap.size = w.heap.size + 1 := by omega
  have hat2 : at' < 2 ^ 61 := by omega
  have l0 : w.heap.size < W0.heap.size := by omega
  have l1 : w.heap.size + 1 < W0.heap.size := by omega
  have lB : B < W0.heap.size := by omega
  go_region_held3 (fun w' => w'.cell? ⟨B, 1, none⟩ = some (.int .i64 (at' : Nat)) ∧ w'.cell? ⟨w.heap.size + 1, 0, none⟩ = some (.bool true) ∧ w'.cell? ⟨w.heap.size + 1, 1, none⟩ = some (.int .u8 0) ∧ w'.cell? ⟨w.heap.size + 1, 2, none⟩ = some (.int .u64 0) ∧ w'.cell? ⟨w.heap.size + 1, 3, none⟩ = some (.int .u64 0) ∧ w'.cell? ⟨w.heap.size + 1, 4, none⟩ = some (.int .u64 0) ∧ w'.cell? ⟨w.heap.size + 1, 5, none⟩ = some (.int .u64 0) ∧ w'.cell? ⟨w.heap.size + 1, 6, none⟩ = some (.int .i64 (at' : Int))) (go_keep)
    (first | (go_at_call 59; refine (fail_any (N := N) (E := E) (by repeat (first | exact hE0'.out | apply Errs.set_ | apply Errs.drew | omega)) B (some ⟨b, o, none⟩) s.size cap at' lang (by repeat (first | exact hR0'.out | apply IsR.set_ | apply IsR.drew | omega)) 8 (by decide) (by decide) _).mono ?_; rintro e w9 ⟨v, rfl, hv, b9⟩; have hT := (b9.block (w.heap.size + 1) (by simp; omega)).trans (by repeat (first | exact hi0'.out | refine row_set_other ?_ (by omega) _ _ | refine row_drew ?_)); have ui0 := row_cell (i := 0) hT rfl; have ui1 := row_cell (i := 1) hT rfl; have ui2 := row_cell (i := 2) hT rfl; have ui3 := row_cell (i := 3) hT rfl; have ui4 := row_cell (i := 4) hT rfl; have ui5 := row_cell (i := 5) hT rfl; have ui6 := row_cell (i := 6) hT rfl; have hR9 := (b9.block B (by simp; omega)).trans (by repeat (first | exact hR0'.out | refine row_set_other ?_ (by omega) _ _ | refine row_drew ?_)); have ur := row_cell (i := 1) hR9 rfl; clear hT hR9; first | (have hU := (b9.block w.heap.size (by simp; omega)).trans (by repeat (first | exact ho0'.out | refine row_set_other ?_ (by omega) _ _ | refine row_drew ?_)); have uo0 := row_cell (i := 0) hU rfl; have uf0 := row_free hU 0; have uo1 := row_cell (i := 1) hU rfl; have uf1 := row_free hU 1; have uo2 := row_cell (i := 2) hU rfl; have uf2 := row_free hU 2; have uo3 := row_cell (i := 3) hU rfl; have uf3 := row_free hU 3; have uo4 := row_cell (i := 4) hU rfl; have uf4 := row_free hU 4; have uo5 := row_cell (i := 5) hU rfl; have uf5 := row_free hU 5; have uo6 := row_cell (i := 6) hU rfl; have uf6 := row_free hU 6; clear hU) | skip))
  have ho9 := (b9.block w.heap.size (by show _ < W0.heap.size; omega)).trans ho0'.out
  refine gen_q _ (fun W2 => W2.heap[w.heap.size]? = some (.cells (itc true 0 0 at') 120 (0, 0)) ∧ IsErr W2 E v 8 at' lang ∧ w.grownBy W2 (some B) ∧ IsR W2 B (some ⟨b, o, none⟩) s.size cap at' lang) ?_ ?_
  · refine ⟨(row_set (row_set (row_set (row_set (row_set (row_set (row_set ho9 0 _) 1 _) 2 _) 3 _) 4 _) 5 _) 6 _).trans (by simp [itc, word_zero]), hv.keepT ho9 (by decide) (by decide) fun k _ hk => ?_, ?_, ?_⟩
    · iterate 7 (refine (Below.heap_setCell _ _ _ _ hk).trans ?_)
      rfl
    · iterate 7 (refine only_set ?_ _ _ (.inr (Nat.le_refl _)) _)
      exact only_then (w := W0.drew) (only_drewN hg0'.out 1) b9 (by show _ ≤ W0.heap.size; omega)
    · iterate 7 (refine IsR.set_ ?_ (by omega))
      exact hR0'.out.keep (b9.block B (by show _ < W0.heap.size; omega))
  clear hv b9 ho9 hg0' hR0' ho0' hi0' hE0' d0 d1 ti0 to0 tof0 ui0 uo0 uf0 ti1 to1 tof1 ui1 uo1 uf1 ti2 to2 tof2 ui2 uo2 uf2 ti3 to3 tof3 ui3 uo3 uf3 ti4 to4 tof4 ui4 uo4 uf4 ti5 to5 tof5 ui5 uo5 uf5 ti6 to6 tof6 ui6 uo6 uf6 ur
  intro W2 ⟨hU, hv, hg, hR⟩
  have hU' := Lib.hid hU
  have hv' := Lib.hid hv
  have hg' := Lib.hid hg
  have hR' := Lib.hid hR
  clear hU hv hg hR
  go_wp2_with fail
  exact ret_row2 _ rfl rfl rfl rfl hU'.out Tryd.underlying120 (by kernel_rfl) ⟨v, rfl, hv'.out, hg'.out, _, hR'.out⟩


set_option maxHeartbeats 2000000 in
set_option maxRecDepth 100000 in
theorem item_eq {N : Nat} {E : Nat → Addr} (B : Nat) (p : Option Addr) (cap at' : Nat) (lang : Int) (s : ByteArray) (w : World) (hR : IsR w B p s.size cap at' lang) (hS : HasB w p s) (hs : s.size < 2 ^ 61) (hat : at' < s.size) (_hcap : s.size ≤ cap)
    (hN : N ≤ B) (hE : Errs N E w) (h91 : isB s at' 91 = true) (h46 : isB s (at' + 1) 46 = false) (h61 : isB s (at' + 1) 61 = true) :
    Calls Tryd.prog 73 #[.pointer (some ⟨B, 0, none⟩)] w fun e w' => ∃ v, e = .returned (.tuple #[.agg (itc true 0 0 at'), v]) ∧ IsErr w' E v 8 at' lang ∧ w.grownBy w' (some B) ∧ ∃ at2, IsR w' B p s.size cap at2 lang := by
  obtain ⟨b, o, rfl, hcell, hbl⟩ := hasB_at hS hat
  have hlB : b ≠ B := bytes_ne hR hcell
  clear hcell
  have c1 : w.cell? ⟨B, 1, none⟩ = some (.int .i64 at') := row_cell hR rfl
  have c2 : w.cell? ⟨B, 2, none⟩ = some (.int .i64 lang) := row_cell hR rfl
  have c0 : w.cell? ⟨B, 0, none⟩ = some (.slice (some ⟨b, o, none⟩) s.size cap) := row_cell hR rfl
  have f1 := row_free hR 1
  have hl : B < w.heap.size := row_lt hR
  have hR' := Lib.hid hR
  have hS' := Lib.hid hS
  clear hR hS
  have hE' := Lib.hid hE
  clear hE
  go_enter Tryd.func73, Tryd.ntmps73
  go_wp2_with (first | (go_at_call 72; first | (refine (is_val B _ cap at' lang s _ _ true _ (by repeat (first | exact hR'.out | apply IsR.alloc | apply IsR.drewN)) (by repeat (first | exact hS'.out | apply HasB.alloc | apply HasB.drewN)) (by decide) (by decide) (by omega) (by omega) (by exact h91)).mono ?_; rintro e wX ⟨rfl, q, rfl⟩) | (refine (is_val B _ cap at' lang s _ _ false _ (by repeat (first | exact hR'.out | apply IsR.alloc | apply IsR.drewN)) (by repeat (first | exact hS'.out | apply HasB.alloc | apply HasB.drewN)) (by decide) (by decide) (by omega) (by omega) (by exact h46)).mono ?_; rintro e wX ⟨rfl, q, rfl⟩) | (refine (is_val B _ cap at' lang s _ _ true _ (by repeat (first | exact hR'.out | apply IsR.alloc | apply IsR.drewN)) (by repeat (first | exact hS'.out | apply HasB.alloc | apply HasB.drewN)) (by decide) (by decide) (by omega) (by omega) (by exact h61)).mono ?_; rintro e wX ⟨rfl, q, rfl⟩)))

  refine gen_world (fun W0 => Mid w W0 B (some ⟨b, o, none⟩) s cap at' at' lang ∧ Errs N E W0) ⟨Mid.start hR'.out hS'.out _, ((hE'.out.alloc _ (by omega)).alloc _ (by simp; omega)).drewN _⟩ ?_
  clear c0 c1 c2 f1
  intro W0 ⟨⟨hR0, hS0, hi0, ho0, hg0, hz0⟩, hE0⟩
  clear hS0
  have d0 : W0.cell? ⟨B, 0, none⟩ = some (.slice (some ⟨b, o, none⟩) s.size cap) := row_cell hR0 rfl
  have d1 : W0.cell? ⟨B, 1, none⟩ = some (.int .i64 (at' : Nat)) := row_cell hR0 rfl
  have ti0 : W0.cell? ⟨w.heap.size + 1, 0, none⟩ = some (.bool true) := row_cell hi0 rfl
  have ti1 : W0.cell? ⟨w.heap.size + 1, 1, none⟩ = some (.int .u8 0) := row_cell hi0 rfl
  have ti2 : W0.cell? ⟨w.heap.size + 1, 2, none⟩ = some (.int .u64 0) := row_cell hi0 rfl
  have ti3 : W0.cell? ⟨w.heap.size + 1, 3, none⟩ = some (.int .u64 0) := row_cell hi0 rfl
  have ti4 : W0.cell? ⟨w.heap.size + 1, 4, none⟩ = some (.int .u64 0) := row_cell hi0 rfl
  have ti5 : W0.cell? ⟨w.heap.size + 1, 5, none⟩ = some (.int .u64 0) := row_cell hi0 rfl
  have ti6 : W0.cell? ⟨w.heap.size + 1, 6, none⟩ = some (.int .i64 (at' : Int)) := row_cell hi0 rfl
  have to0 : W0.cell? ⟨w.heap.size, 0, none⟩ = some (.bool false) := row_cell ho0 rfl
  have tof0 := row_free ho0 0
  have to1 : W0.cell? ⟨w.heap.size, 1, none⟩ = some (.int .u8 0) := row_cell ho0 rfl
  have tof1 := row_free ho0 1
  have to2 : W0.cell? ⟨w.heap.size, 2, none⟩ = some (.int .u64 0) := row_cell ho0 rfl
  have tof2 := row_free ho0 2
  have to3 : W0.cell? ⟨w.heap.size, 3, none⟩ = some (.int .u64 0) := row_cell ho0 rfl
  have tof3 := row_free ho0 3
  have to4 : W0.cell? ⟨w.heap.size, 4, none⟩ = some (.int .u64 0) := row_cell ho0 rfl
  have tof4 := row_free ho0 4
  have to5 : W0.cell? ⟨w.heap.size, 5, none⟩ = some (.int .u64 0) := row_cell ho0 rfl
  have tof5 := row_free ho0 5
  have to6 : W0.cell? ⟨w.heap.size, 6, none⟩ = some (.int .i64 0) := row_cell ho0 rfl
  have tof6 := row_free ho0 6
  have hR0' := Lib.hid hR0
  have hi0' := Lib.hid hi0
  have ho0' := Lib.hid ho0
  have hg0' := Lib.hid hg0
  have hE0' := Lib.hid hE0
  clear hR0 hi0 ho0 hg0 hE0
  have n1 : ¬ w.heap.size = B := by omega
  have n2 : ¬ w.heap.size = w.heap.size + 1 := by omega
  have hat2 : at' < 2 ^ 61 := by omega
  have l0 : w.heap.size < W0.heap.size := by omega
  have l1 : w.heap.size + 1 < W0.heap.size := by omega
  have lB : B < W0.heap.size := by omega
  go_region_held3 (fun w' => w'.cell? ⟨B, 1, none⟩ = some (.int .i64 (at' : Nat)) ∧ w'.cell? ⟨w.heap.size + 1, 0, none⟩ = some (.bool true) ∧ w'.cell? ⟨w.heap.size + 1, 1, none⟩ = some (.int .u8 0) ∧ w'.cell? ⟨w.heap.size + 1, 2, none⟩ = some (.int .u64 0) ∧ w'.cell? ⟨w.heap.size + 1, 3, none⟩ = some (.int .u64 0) ∧ w'.cell? ⟨w.heap.size + 1, 4, none⟩ = some (.int .u64 0) ∧ w'.cell? ⟨w.heap.size + 1, 5, none⟩ = some (.int .u64 0) ∧ w'.cell? ⟨w.heap.size + 1, 6, none⟩ = some (.int .i64 (at' : Int))) (go_keep)
    (first | (go_at_call 59; refine (fail_any (N := N) (E := E) (by repeat (first | exact hE0'.out | apply Errs.set_ | apply Errs.drew | omega)) B (some ⟨b, o, none⟩) s.size cap at' lang (by repeat (first | exact hR0'.out | apply IsR.set_ | apply IsR.drew | omega)) 8 (by decide) (by decide) _).mono ?_; rintro e w9 ⟨v, rfl, hv, b9⟩; have hT := (b9.block (w.heap.size + 1) (by simp; omega)).trans (by repeat (first | exact hi0'.out | refine row_set_other ?_ (by omega) _ _ | refine row_drew ?_)); have ui0 := row_cell (i := 0) hT rfl; have ui1 := row_cell (i := 1) hT rfl; have ui2 := row_cell (i := 2) hT rfl; have ui3 := row_cell (i := 3) hT rfl; have ui4 := row_cell (i := 4) hT rfl; have ui5 := row_cell (i := 5) hT rfl; have ui6 := row_cell (i := 6) hT rfl; have hR9 := (b9.block B (by simp; omega)).trans (by repeat (first | exact hR0'.out | refine row_set_other ?_ (by omega) _ _ | refine row_drew ?_)); have ur := row_cell (i := 1) hR9 rfl; clear hT hR9; first | (have hU := (b9.block w.heap.size (by simp; omega)).trans (by repeat (first | exact ho0'.out | refine row_set_other ?_ (by omega) _ _ | refine row_drew ?_)); have uo0 := row_cell (i := 0) hU rfl; have uf0 := row_free hU 0; have uo1 := row_cell (i := 1) hU rfl; have uf1 := row_free hU 1; have uo2 := row_cell (i := 2) hU rfl; have uf2 := row_free hU 2; have uo3 := row_cell (i := 3) hU rfl; have uf3 := row_free hU 3; have uo4 := row_cell (i := 4) hU rfl; have uf4 := row_free hU 4; have uo5 := row_cell (i := 5) hU rfl; have uf5 := row_free hU 5; have uo6 := row_cell (i := 6) hU rfl; have uf6 := row_free hU 6; clear hU) | skip))
  have ho9 := (b9.block w.heap.size (by show _ < W0.heap.size; omega)).trans ho0'.out
  refine gen_q _ (fun W2 => W2.heap[w.heap.size]? = some (.cells (itc true 0 0 at') 120 (0, 0)) ∧ IsErr W2 E v 8 at' lang ∧ w.grownBy W2 (some B) ∧ IsR W2 B (some ⟨b, o, none⟩) s.size cap at' lang) ?_ ?_
  · refine ⟨(row_set (row_set (row_set (row_set (row_set (row_set (row_set ho9 0 _) 1 _) 2 _) 3 _) 4 _) 5 _) 6 _).trans (by simp [itc, word_zero]), hv.keepT ho9 (by decide) (by decide) fun k _ hk => ?_, ?_, ?_⟩
    · iterate 7 (refine (Below.heap_setCell _ _ _ _ hk).trans ?_)
      rfl
    · iterate 7 (refine only_set ?_ _ _ (.inr (Nat.le_refl _)) _)
      exact only_then (w := W0.drew) (only_drewN hg0'.out 1) b9 (by show _ ≤ W0.heap.size; omega)
    · iterate 7 (refine IsR.set_ ?_ (by omega))
      exact hR0'.out.keep (b9.block B (by show _ < W0.heap.size; omega))
  clear hv b9 ho9 hg0' hR0' ho0' hi0' hE0' d0 d1 ti0 to0 tof0 ui0 uo0 uf0 ti1 to1 tof1 ui1 uo1 uf1 ti2 to2 tof2 ui2 uo2 uf2 ti3 to3 tof3 ui3 uo3 uf3 ti4 to4 tof4 ui4 uo4 uf4 ti5 to5 tof5 ui5 uo5 uf5 ti6 to6 tof6 ui6 uo6 uf6 ur
  intro W2 ⟨hU, hv, hg, hR⟩
  have hU' := Lib.hid hU
  have hv' := Lib.hid hv
  have hg' := Lib.hid hg
  have hR' := Lib.hid hR
  clear hU hv hg hR
  go_wp2_with fail
  exact ret_row2 _ rfl rfl rfl rfl hU'.out Tryd.underlying120 (by kernel_rfl) ⟨v, rfl, hv'.out, hg'.out, _, hR'.out⟩

end Go.Proofs.YteeopjgfiojoiaaDoor
namespace Go.Proofs.YteeopjgfiojoiaaDoor
open Go Go.RowKit SN


set_option maxHeartbeats 2000000 in
set_option maxRecDepth 100000 in
theorem item_esc (B : Nat) (p : Option Addr) (cap at' : Nat) (lang : Int) (s : ByteArray) (w : World) (hR : IsR w B p s.size cap at' lang) (hS : HasB w p s) (hs : s.size < 2 ^ 61) (hat : at' < s.size) (hcap : s.size ≤ cap)
    (h91 : isB s at' 91 = false) (h92 : isB s at' 92 = true) (hlang : (lang == 2) = true) (hm1 : at' + 1 < s.size) :
    Calls Tryd.prog 73 #[.pointer (some ⟨B, 0, none⟩)] w fun e w' => e = .returned (.tuple #[.agg (itc true (s[at' + 1].toNat : Int) (ofL [s[at' + 1]]) at'), .nilIface]) ∧ w.grownBy w' (some B) ∧ IsR w' B p s.size cap (at' + 2) lang := by
  obtain ⟨b, o, rfl, hcell, hbl⟩ := hasB_at hS hat
  have hlB : b ≠ B := bytes_ne hR hcell
  clear hcell
  have c1 : w.cell? ⟨B, 1, none⟩ = some (.int .i64 at') := row_cell hR rfl
  have c2 : w.cell? ⟨B, 2, none⟩ = some (.int .i64 lang) := row_cell hR rfl
  have c0 : w.cell? ⟨B, 0, none⟩ = some (.slice (some ⟨b, o, none⟩) s.size cap) := row_cell hR rfl
  have f1 := row_free hR 1
  have hl : B < w.heap.size := row_lt hR
  have hR' := Lib.hid hR
  have hS' := Lib.hid hS
  clear hR hS
  go_enter Tryd.func73, Tryd.ntmps73
  go_wp2_with (first | (go_at_call 72; first | (refine (is_val B _ cap at' lang s _ _ false _ (by repeat (first | exact hR'.out | apply IsR.alloc | apply IsR.drewN)) (by repeat (first | exact hS'.out | apply HasB.alloc | apply HasB.drewN)) (by decide) (by decide) (by omega) (by omega) (by exact h91)).mono ?_; rintro e wX ⟨rfl, q, rfl⟩) | (refine (is_val B _ cap at' lang s _ _ true _ (by repeat (first | exact hR'.out | apply IsR.alloc | apply IsR.drewN)) (by repeat (first | exact hS'.out | apply HasB.alloc | apply HasB.drewN)) (by decide) (by decide) (by omega) (by omega) (by exact h92)).mono ?_; rintro e wX ⟨rfl, q, rfl⟩)))

  refine gen_world (fun W0 => Mid w W0 B (some ⟨b, o, none⟩) s cap (at' + 1) at' lang ) ((Mid.start hR'.out hS'.out _).next hl (by intro b' o' e; cases e; exact hlB) (at' + 1) _ (by simp)) ?_
  clear c0 c1 c2 f1
  generalize hmm : at' + 1 = m
  have hmlt : m < s.size := by omega
  have hd : decide ((s.size : Int) ≤ (m : Int)) = false := by simp; omega
  intro W0 hM0
  have d0 : W0.cell? ⟨B, 0, none⟩ = some (.slice (some ⟨b, o, none⟩) s.size cap) := row_cell hM0.1 rfl
  have d1 : W0.cell? ⟨B, 1, none⟩ = some (.int .i64 (m : Nat)) := row_cell hM0.1 rfl
  have hM' := Lib.hid hM0
  have hmm' := Lib.hid hmm
  clear hM0 hmm
  go_quiet (fail)
  go_wp2_with fail

  refine gen_world (fun W0 => Mid w W0 B (some ⟨b, o, none⟩) s cap m at' lang) (hM'.out.drewN _) ?_
  clear d0 d1 hd
  have hm : m < s.size := hmlt
  intro W0 ⟨hR0, hS0, hi0, ho0, hg0, hz0⟩
  have hc0 : W0.cell? ⟨b, o + m, none⟩ = some (.int .u8 (s[m].toNat : Int)) := by
    obtain ⟨b', o', e, hc, -⟩ := hasB_at hS0 hm
    cases e; exact hc
  clear hS0
  have d0 : W0.cell? ⟨B, 0, none⟩ = some (.slice (some ⟨b, o, none⟩) s.size cap) := row_cell hR0 rfl
  have d1 : W0.cell? ⟨B, 1, none⟩ = some (.int .i64 (m : Nat)) := row_cell hR0 rfl
  have t1 := row_cell (i := 1) hi0 rfl
  have q1 := row_free hi0 1
  have ql := row_lt hi0
  have hR0' := Lib.hid hR0
  have hi0' := Lib.hid hi0
  have ho0' := Lib.hid ho0
  have hg0' := Lib.hid hg0
  clear hR0 hi0 ho0 hg0
  have hat1 : (m : Int) < (s.size : Int) := by omega
  have n1 : ¬ w.heap.size + 1 = B := by omega
  have n2 : ¬ w.heap.size + 1 = b := by omega
  go_region
  go_wp2_with fail
  refine gen_world (fun W1 => IsR W1 B (some ⟨b, o, none⟩) s.size cap m lang ∧ W1.cell? ⟨b, o + m, none⟩ = some (.int .u8 (s[m].toNat : Int)) ∧ W1.heap[w.heap.size + 1]? = some (.cells #[.bool true, .int .u8 (s[m].toNat : Int), .int .u64 0, .int .u64 0, .int .u64 0, .int .u64 0, .int .i64 (at' : Int)] 120 (0, 0))
    ∧ W1.heap[w.heap.size]? = some (.cells #[.bool false, .int .u8 0, .int .u64 0, .int .u64 0, .int .u64 0, .int .u64 0, .int .i64 0] 120 (0, 0)) ∧ w.grownBy W1 (some B) ∧ w.heap.size + 2 ≤ W1.heap.size) ?_ ?_
  · refine ⟨row_set_other hR0'.out (by omega) _ _, ?_, (row_set hi0'.out 1 _).trans (by rfl), row_set_other ho0'.out (by omega) _ _, only_drewN (only_set hg0'.out _ _ (.inr (by omega)) _) 1, by simpa [World.setCell] using hz0⟩
    show (W0.setCell _ _).cell? _ = _
    rw [World.cell?_setCell_other _ _ _ _ (by intro e; injection e; omega)]
    exact hc0
  clear d0 d1 t1 q1 ql hc0 hR0' hi0' ho0' hg0' hz0
  intro W1 ⟨hR1, hc1, hi1, ho1, hg1, hz1⟩
  have d0 : W1.cell? ⟨B, 0, none⟩ = some (.slice (some ⟨b, o, none⟩) s.size cap) := row_cell hR1 rfl
  have d1 : W1.cell? ⟨B, 1, none⟩ = some (.int .i64 (m : Nat)) := row_cell hR1 rfl
  have hsl := one_run b o cap m s hm hcap
  have hcv := one_conv b o cap m s hm
  have hR1' := Lib.hid hR1
  have hlW : B < W1.heap.size ∧ b < W1.heap.size := ⟨row_lt hR1, by omega⟩
  clear hR1
  have e1 : (m : Int) ≤ (m : Int) + 1 := by omega
  have e2 : (m : Int) + 1 ≤ (cap : Int) := by omega
  have e3 : (0 : Int) ≤ (m : Int) := by omega
  have e4 : (0 : Int) ≤ (m : Int) + 1 := by omega
  have e5 : ¬ cap = m := by omega
  have hat2 : m < 2 ^ 61 := by omega
  have e6 : IntKind.i64.wrap ((m : Int) + 1) = (m : Int) + 1 := by simp [IntKind.wrap, IntKind.bits, IntKind.signed]; omega
  go_region_held3 (fun w' => w'.cell? ⟨B, 0, none⟩ = some (.slice (some ⟨b, o, none⟩) s.size cap) ∧ w'.cell? ⟨B, 1, none⟩ = some (.int .i64 (m : Nat)) ∧ w'.cell? ⟨b, o + m, none⟩ = some (.int .u8 (s[m].toNat : Int))) (go_keep)
    (first | (go_at_call 22; refine (Of_any' _ _ (by show (1 : Nat) ≤ maxLen; decide)).mono ?_; rintro e w9 ⟨rfl, b9⟩; have hT := (b9.block (w.heap.size + 1) (by show _ < W1.heap.size; omega)).trans hi1; have t2 := row_cell (i := 2) hT rfl; have t3 := row_cell (i := 3) hT rfl; have t4 := row_cell (i := 4) hT rfl; have t5 := row_cell (i := 5) hT rfl; have q2 := row_free hT 2; have q3 := row_free hT 3; have q4 := row_free hT 4; have q5 := row_free hT 5; have ql := row_lt hT; clear hT; have hR9 : IsR w9 B (some ⟨b, o, none⟩) s.size cap m lang := hR1'.out.keep (b9.block B (by show _ < W1.heap.size; omega)); have y0 := row_cell (i := 0) hR9 rfl; have y1 := row_cell (i := 1) hR9 rfl; have y2 := (b9.cell (p := ⟨b, o + m, none⟩) (by show b < W1.heap.size; omega)).trans hc1; clear hR9))
  have hR9 : IsR w9 B (some ⟨b, o, none⟩) s.size cap m lang := hR1'.out.keep (b9.block B (by show _ < W1.heap.size; omega))
  have ho9 := (b9.block w.heap.size (by show _ < W1.heap.size; omega)).trans ho1
  have hi9 := (b9.block (w.heap.size + 1) (by show _ < W1.heap.size; omega)).trans hi1
  have hg9 : w.grownBy w9 (some B) := only_then (w := W1.drew) (only_drewN hg1 1) b9 (by show _ ≤ W1.heap.size; omega)
  have hz9 : w.heap.size + 2 ≤ w9.heap.size := by have : W1.heap.size ≤ w9.heap.size := b9.size; omega
  refine gen_q _ (fun W2 => IsR W2 B (some ⟨b, o, none⟩) s.size cap m lang ∧ W2.heap[w.heap.size + 1]? = some (.cells (itc true (s[m].toNat : Int) (ofL [s[m]]) at') 120 (0, 0))
      ∧ W2.heap[w.heap.size]? = some (.cells #[.bool false, .int .u8 0, .int .u64 0, .int .u64 0, .int .u64 0, .int .u64 0, .int .i64 0] 120 (0, 0)) ∧ w.grownBy W2 (some B) ∧ w.heap.size + 2 ≤ W2.heap.size) ?_ ?_
  · refine ⟨?_, ?_, ?_, ?_, ?_⟩
    · exact row_set_other (row_set_other (row_set_other (row_set_other hR9 (by omega) _ _) (by omega) _ _) (by omega) _ _) (by omega) _ _
    · exact (row_set (row_set (row_set (row_set hi9 2 _) 3 _) 4 _) 5 _).trans (by rfl)
    · exact row_set_other (row_set_other (row_set_other (row_set_other ho9 (by omega) _ _) (by omega) _ _) (by omega) _ _) (by omega) _ _
    · exact only_set (only_set (only_set (only_set hg9 _ _ (.inr (by omega)) _) _ _ (.inr (by omega)) _) _ _ (.inr (by omega)) _) _ _ (.inr (by omega)) _
    · simp [World.setCell]; exact hz9
  clear b9 t2 t3 t4 t5 q2 q3 q4 q5 ql y0 y1 y2 hR9 ho9 hi9 hg9 hz9 hi1 ho1 hg1 hz1 hlW hcv hc1 d0 d1 hsl
  intro W2 ⟨hR2, hi2, ho2, hg2, hz2⟩
  have d1 : W2.cell? ⟨B, 1, none⟩ = some (.int .i64 (m : Nat)) := row_cell hR2 rfl
  have d1f := row_free hR2 1
  have hlB2 := row_lt hR2
  have hR2' := Lib.hid hR2
  have hi2' := Lib.hid hi2
  have ho2' := Lib.hid ho2
  have hg2' := Lib.hid hg2
  clear hR2 hi2 ho2 hg2
  go_wp2_with (first
    | (refine wpList_load_row rfl 120 _ rfl _ rfl 120 _ (0, 0) _ (row_set_other hi2'.out (by omega) _ _) Tryd.underlying120 (by rfl) (by kernel_rfl) ?_)
    | (refine wpList_store_row rfl 120 _ _ rfl _ _ rfl rfl 120 _ (row_set_other ho2'.out (by omega) _ _) (by kernel_rfl) rfl (by simp [Value.oneCell', itc]) ?_))
  have hne : ¬ B = w.heap.size := by omega
  obtain rfl := hmm'.out
  refine ret_row2 _ rfl rfl rfl rfl (setRow_heap _ w.heap.size _ _ _ _ (row_set_other ho2'.out (by omega) _ _)) Tryd.underlying120 (by kernel_rfl) ⟨rfl, ?_, ?_⟩
  · exact only_row (only_set hg2'.out _ _ (.inl rfl) _) _ (Nat.le_refl _) _
  · show _ = _
    rw [setRow_other _ _ _ _ hne]
    exact (row_set hR2'.out 1 _).trans (by rfl)


set_option maxHeartbeats 2000000 in
set_option maxRecDepth 100000 in
theorem item_escEnd {N : Nat} {E : Nat → Addr} (B : Nat) (p : Option Addr) (cap at' : Nat) (lang : Int) (s : ByteArray) (w : World) (hR : IsR w B p s.size cap at' lang) (hS : HasB w p s) (hs : s.size < 2 ^ 61) (hat : at' < s.size) (_hcap : s.size ≤ cap)
    (hN : N ≤ B) (hE : Errs N E w) (h91 : isB s at' 91 = false) (h92 : isB s at' 92 = true) (hlang : (lang == 2) = true) (hm1 : s.size ≤ at' + 1) :
    Calls Tryd.prog 73 #[.pointer (some ⟨B, 0, none⟩)] w fun e w' => ∃ v, e = .returned (.tuple #[.agg (itc true 0 0 at'), v]) ∧ IsErr w' E v 8 (s.size : Nat) lang ∧ w.grownBy w' (some B) ∧ ∃ at2, IsR w' B p s.size cap at2 lang := by
  obtain ⟨b, o, rfl, hcell, hbl⟩ := hasB_at hS hat
  have hlB : b ≠ B := bytes_ne hR hcell
  clear hcell
  have c1 : w.cell? ⟨B, 1, none⟩ = some (.int .i64 at') := row_cell hR rfl
  have c2 : w.cell? ⟨B, 2, none⟩ = some (.int .i64 lang) := row_cell hR rfl
  have c0 : w.cell? ⟨B, 0, none⟩ = some (.slice (some ⟨b, o, none⟩) s.size cap) := row_cell hR rfl
  have f1 := row_free hR 1
  have hl : B < w.heap.size := row_lt hR
  have hR' := Lib.hid hR
  have hS' := Lib.hid hS
  clear hR hS
  have hE' := Lib.hid hE
  clear hE
  go_enter Tryd.func73, Tryd.ntmps73
  go_wp2_with (first | (go_at_call 72; first | (refine (is_val B _ cap at' lang s _ _ false _ (by repeat (first | exact hR'.out | apply IsR.alloc | apply IsR.drewN)) (by repeat (first | exact hS'.out | apply HasB.alloc | apply HasB.drewN)) (by decide) (by decide) (by omega) (by omega) (by exact h91)).mono ?_; rintro e wX ⟨rfl, q, rfl⟩) | (refine (is_val B _ cap at' lang s _ _ true _ (by repeat (first | exact hR'.out | apply IsR.alloc | apply IsR.drewN)) (by repeat (first | exact hS'.out | apply HasB.alloc | apply HasB.drewN)) (by decide) (by decide) (by omega) (by omega) (by exact h92)).mono ?_; rintro e wX ⟨rfl, q, rfl⟩)))

  refine gen_world (fun W0 => Mid w W0 B (some ⟨b, o, none⟩) s cap (at' + 1) at' lang ∧ Errs N E W0) ⟨((Mid.start hR'.out hS'.out _).next hl (by intro b' o' e; cases e; exact hlB) (at' + 1) _ (by simp)), (((hE'.out.alloc _ (by omega)).alloc _ (by simp; omega)).drewN _).set_ hN⟩ ?_
  clear c0 c1 c2 f1
  generalize hmm : at' + 1 = m
  have hmlt : s.size ≤ m := by omega
  have hd : decide ((s.size : Int) ≤ (m : Int)) = true := by simp; omega
  have hm61 : m < 2 ^ 61 := by omega
  intro W0 ⟨hM0, hE0⟩
  have d0 : W0.cell? ⟨B, 0, none⟩ = some (.slice (some ⟨b, o, none⟩) s.size cap) := row_cell hM0.1 rfl
  have d1 : W0.cell? ⟨B, 1, none⟩ = some (.int .i64 (m : Nat)) := row_cell hM0.1 rfl
  have hM' := Lib.hid hM0
  have hmm' := Lib.hid hmm
  clear hM0 hmm
  go_quiet (fail)
  go_wp2_with fail

  refine gen_world (fun W0 => Mid w W0 B (some ⟨b, o, none⟩) s cap m at' lang ∧ Errs N E W0) ⟨hM'.out.drewN _, hE0.drewN _⟩ ?_
  clear d0 d1 hd
  intro W0 ⟨⟨hR0, hS0, hi0, ho0, hg0, hz0⟩, hE0⟩
  clear hS0
  have d0 : W0.cell? ⟨B, 0, none⟩ = some (.slice (some ⟨b, o, none⟩) s.size cap) := row_cell hR0 rfl
  have d1 : W0.cell? ⟨B, 1, none⟩ = some (.int .i64 (m : Nat)) := row_cell hR0 rfl
  have ti0 : W0.cell? ⟨w.heap.size + 1, 0, none⟩ = some (.bool true) := row_cell hi0 rfl
  have ti1 : W0.cell? ⟨w.heap.size + 1, 1, none⟩ = some (.int .u8 0) := row_cell hi0 rfl
  have ti2 : W0.cell? ⟨w.heap.size + 1, 2, none⟩ = some (.int .u64 0) := row_cell hi0 rfl
  have ti3 : W0.cell? ⟨w.heap.size + 1, 3, none⟩ = some (.int .u64 0) := row_cell hi0 rfl
  have ti4 : W0.cell? ⟨w.heap.size + 1, 4, none⟩ = some (.int .u64 0) := row_cell hi0 rfl
  have ti5 : W0.cell? ⟨w.heap.size + 1, 5, none⟩ = some (.int .u64 0) := row_cell hi0 rfl
  have ti6 : W0.cell? ⟨w.heap.size + 1, 6, none⟩ = some (.int .i64 (at' : Int)) := row_cell hi0 rfl
  have to0 : W0.cell? ⟨w.heap.size, 0, none⟩ = some (.bool false) := row_cell ho0 rfl
  have tof0 := row_free ho0 0
  have to1 : W0.cell? ⟨w.heap.size, 1, none⟩ = some (.int .u8 0) := row_cell ho0 rfl
  have tof1 := row_free ho0 1
  have to2 : W0.cell? ⟨w.heap.size, 2, none⟩ = some (.int .u64 0) := row_cell ho0 rfl
  have tof2 := row_free ho0 2
  have to3 : W0.cell? ⟨w.heap.size, 3, none⟩ = some (.int .u64 0) := row_cell ho0 rfl
  have tof3 := row_free ho0 3
  have to4 : W0.cell? ⟨w.heap.size, 4, none⟩ = some (.int .u64 0) := row_cell ho0 rfl
  have tof4 := row_free ho0 4
  have to5 : W0.cell? ⟨w.heap.size, 5, none⟩ = some (.int .u64 0) := row_cell ho0 rfl
  have tof5 := row_free ho0 5
  have to6 : W0.cell? ⟨w.heap.size, 6, none⟩ = some (.int .i64 0) := row_cell ho0 rfl
  have tof6 := row_free ho0 6
  have hR0' := Lib.hid hR0
  have hi0' := Lib.hid hi0
  have ho0' := Lib.hid ho0
  have hg0' := Lib.hid hg0
  have hE0' := Lib.hid hE0
  clear hR0 hi0 ho0 hg0 hE0
  have n1 : ¬ w.heap.size = B := by omega
  have n2 : ¬ w.heap.size = w.heap.size + 1 := by omega
  have hat2 : m < 2 ^ 61 := by omega
  have l0 : w.heap.size < W0.heap.size := by omega
  have l1 : w.heap.size + 1 < W0.heap.size := by omega
  have lB : B < W0.heap.size := by omega
  go_region_held3 (fun w' => w'.cell? ⟨B, 0, none⟩ = some (.slice (some ⟨b, o, none⟩) s.size cap) ∧ w'.cell? ⟨w.heap.size + 1, 0, none⟩ = some (.bool true) ∧ w'.cell? ⟨w.heap.size + 1, 1, none⟩ = some (.int .u8 0) ∧ w'.cell? ⟨w.heap.size + 1, 2, none⟩ = some (.int .u64 0) ∧ w'.cell? ⟨w.heap.size + 1, 3, none⟩ = some (.int .u64 0) ∧ w'.cell? ⟨w.heap.size + 1, 4, none⟩ = some (.int .u64 0) ∧ w'.cell? ⟨w.heap.size + 1, 5, none⟩ = some (.int .u64 0) ∧ w'.cell? ⟨w.heap.size + 1, 6, none⟩ = some (.int .i64 (at' : Int))) (go_keep)
    (first | (go_at_call 59; refine (fail_any (N := N) (E := E) (by repeat (first | exact hE0'.out | apply Errs.set_ | apply Errs.drew | omega)) B (some ⟨b, o, none⟩) s.size cap m lang (by repeat (first | exact hR0'.out | apply IsR.set_ | apply IsR.drew | omega)) 8 (by decide) (by decide) _).mono ?_; rintro e w9 ⟨v, rfl, hv, b9⟩; have hT := (b9.block (w.heap.size + 1) (by simp; omega)).trans (by repeat (first | exact hi0'.out | refine row_set_other ?_ (by omega) _ _ | refine row_drew ?_)); have ui0 := row_cell (i := 0) hT rfl; have ui1 := row_cell (i := 1) hT rfl; have ui2 := row_cell (i := 2) hT rfl; have ui3 := row_cell (i := 3) hT rfl; have ui4 := row_cell (i := 4) hT rfl; have ui5 := row_cell (i := 5) hT rfl; have ui6 := row_cell (i := 6) hT rfl; have hR9 := (b9.block B (by simp; omega)).trans (by repeat (first | exact hR0'.out | refine row_set_other ?_ (by omega) _ _ | refine row_drew ?_)); have ur := row_cell (i := 0) hR9 rfl; clear hT hR9; first | (have hU := (b9.block w.heap.size (by simp; omega)).trans (by repeat (first | exact ho0'.out | refine row_set_other ?_ (by omega) _ _ | refine row_drew ?_)); have uo0 := row_cell (i := 0) hU rfl; have uf0 := row_free hU 0; have uo1 := row_cell (i := 1) hU rfl; have uf1 := row_free hU 1; have uo2 := row_cell (i := 2) hU rfl; have uf2 := row_free hU 2; have uo3 := row_cell (i := 3) hU rfl; have uf3 := row_free hU 3; have uo4 := row_cell (i := 4) hU rfl; have uf4 := row_free hU 4; have uo5 := row_cell (i := 5) hU rfl; have uf5 := row_free hU 5; have uo6 := row_cell (i := 6) hU rfl; have uf6 := row_free hU 6; clear hU) | skip))
  have ho9 := (b9.block w.heap.size (by show _ < W0.heap.size; omega)).trans ho0'.out
  refine gen_q _ (fun W2 => W2.heap[w.heap.size]? = some (.cells (itc true 0 0 at') 120 (0, 0)) ∧ IsErr W2 E v 8 (s.size : Nat) lang ∧ w.grownBy W2 (some B) ∧ IsR W2 B (some ⟨b, o, none⟩) s.size cap m lang) ?_ ?_
  · refine ⟨(row_set (row_set (row_set (row_set (row_set (row_set (row_set ho9 0 _) 1 _) 2 _) 3 _) 4 _) 5 _) 6 _).trans (by simp [itc, word_zero]), hv.keepT ho9 (by decide) (by decide) fun k _ hk => ?_, ?_, ?_⟩
    · iterate 7 (refine (Below.heap_setCell _ _ _ _ hk).trans ?_)
      rfl
    · iterate 7 (refine only_set ?_ _ _ (.inr (Nat.le_refl _)) _)
      exact only_then (w := W0.drew) (only_drewN hg0'.out 1) b9 (by show _ ≤ W0.heap.size; omega)
    · iterate 7 (refine IsR.set_ ?_ (by omega))
      exact hR0'.out.keep (b9.block B (by show _ < W0.heap.size; omega))
  clear hv b9 ho9 hg0' hR0' ho0' hi0' hE0' d0 d1 ti0 to0 tof0 ui0 uo0 uf0 ti1 to1 tof1 ui1 uo1 uf1 ti2 to2 tof2 ui2 uo2 uf2 ti3 to3 tof3 ui3 uo3 uf3 ti4 to4 tof4 ui4 uo4 uf4 ti5 to5 tof5 ui5 uo5 uf5 ti6 to6 tof6 ui6 uo6 uf6 ur
  intro W2 ⟨hU, hv, hg, hR⟩
  have hU' := Lib.hid hU
  have hv' := Lib.hid hv
  have hg' := Lib.hid hg
  have hR' := Lib.hid hR
  clear hU hv hg hR
  go_wp2_with fail
  exact ret_row2 _ rfl rfl rfl rfl hU'.out Tryd.underlying120 (by kernel_rfl) ⟨v, rfl, hv'.out, hg'.out, _, hR'.out⟩

end Go.Proofs.YteeopjgfiojoiaaDoor
