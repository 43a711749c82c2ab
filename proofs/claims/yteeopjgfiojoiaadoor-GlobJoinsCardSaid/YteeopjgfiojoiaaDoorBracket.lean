/- Walks over package set: Bracket: it hands on what the plain law says. Conditions: the bytes and the errors' variables lie in memory; fewer than 4294967281 bytes. -/
import Derived.Test.YteeopjgfiojoiaaDoorRead
import Derived.OwnWalk
namespace Go.Proofs.YteeopjgfiojoiaaDoor
open Go Go.RowKit SN

def brk (l : List UInt8) (at' lang : Int) : Rg :=
  if at' < 0 ∨ (l.length : Int) < at' ∨ (lang ≠ 2 ∧ lang ≠ 3 ∧ lang ≠ 4) then .err 1 0 else read l (lang == 2) at'.toNat
/-- What Bracket leaves. -/
def BrPost (E : Nat → Addr) (w : World) (lang : Int) : Rg → Ending → World → Prop
  | .err code pos, e, w' => ∃ v, e = .returned (.tuple #[sv 0, .int .i64 0, v]) ∧ IsErr w' E v code pos lang ∧ Below w.heap.size w w'
  | .ok S n, e, w' => e = .returned (.tuple #[sv S, .int .i64 (n : Nat), .nilIface]) ∧ Below w.heap.size w w'
theorem below_only {w W : World} {M : Nat} (h : w.grownBy W (some M)) (hM : w.heap.size ≤ M) : Below w.heap.size w W := ⟨h.os, h.tape, h.output, h.size, fun k hk => h.block k hk (fun e => by injection e; omega)⟩
theorem ret_set3 {fn : Func} {p q r : Tmp} {R : Ending → World → Prop} {a : Act} {w : World} {B S : Nat} {u v : Value} (h : fn.results = #[.cell p 24, .tmp q, .tmp r]) (hd : a.defers = []) (hp : a.tmps.getD p undef = .pointer (some ⟨B, 0, none⟩))
    (hq : a.tmps.getD q undef = u) (hr : a.tmps.getD r undef = v) (hS : IsSet 24 w B S) (hR : R (.returned (.tuple #[sv S, u, v])) w) : bodyPost Tryd.prog fn R .ret a w := by
  have hp' : a.tmps[p]?.getD undef = .pointer (some ⟨B, 0, none⟩) := by simpa using hp
  have hq' : a.tmps[q]?.getD undef = u := by simpa using hq
  have hr' : a.tmps[r]?.getD undef = v := by simpa using hr
  refine bodyPost_ret (v := .tuple #[sv S, u, v]) ?_ hd hR
  have hl := run_loadVar_row (P := Tryd.prog) w B 24 24 (sc S) (0, 0) _ hS Tryd.underlying24 (by rfl) (by rw [size24]; rfl)
  simp [results, h, hp', hq', hr', asAddr, hl]
  rfl
/-- The reader's fail, the language's cell alone known. -/
theorem fail_cell {N : Nat} {E : Nat → Addr} {w : World} (hE : Errs N E w) (B : Nat) (lang : Int) (c2 : w.cell? ⟨B, 2, none⟩ = some (.int .i64 lang)) (c : Nat) (h1 : 1 ≤ c) (h2 : c ≤ 21) (pos : Int) :
    Calls Tryd.prog 59 #[.pointer (some ⟨B, 0, none⟩), .int .i64 c, .int .i64 pos] w fun e w' => ∃ v, e = .returned v ∧ IsErr w' E v c pos lang ∧ Below w.heap.size w w' := by
  have hE' := Lib.hid hE
  have hlt : B < w.heap.size := World.block_lt_of_cell? w _ c2
  clear hE
  go_enter Tryd.func59, Tryd.ntmps59
  go_wp2_with fail
  go_region_held3 (fun w' => w'.cell? ⟨B, 2, none⟩ = some (.int .i64 lang)) (go_keep)
    (first
      | (go_at_call 63; refine (of_any (N := N) (E := E) (by first | exact hE'.out | exact hE'.out.drewN 1) c h1 h2).mono ?_; rintro e w' ⟨rfl, rfl⟩)
      | (go_at_call 62; refine (at_any _ _ _ _).mono ?_; rintro e w' ⟨rfl, rfl⟩)
      | (go_at_call 61; refine (in_any _ _ _ _).mono ?_; rintro e w' ⟨rfl, rfl⟩))
  go_wp2
  go_ret
  have hn := heap_alloc_new (w.alloc (.cells #[.iface 167 (.pointer (some (E c))), .int .i64 pos] 110)) (.cells #[.iface 106 (.pointer (some ⟨w.heap.size, 0, none⟩)), .int .i64 lang] 114)
  rw [World.size_alloc] at hn
  exact ⟨_, rfl, ⟨w.heap.size + 1, w.heap.size, rfl, row_drew hn, row_drew (row_alloc (heap_alloc_new w _) _)⟩, (((Below.refl _ _).alloc (Nat.le_refl _) _).alloc (by simp) _).drew⟩
theorem br_start (w : World) (p : Option Addr) (n cap : Nat) (at' lang : Int) :
    ((w.alloc (.cells #[.int .u64 0, .int .u64 0, .int .u64 0, .int .u64 0] 24)).alloc (.cells #[.slice p n cap, .int .i64 at', .int .i64 lang] 91)).heap[w.heap.size + 1]? = some (.cells #[.slice p n cap, .int .i64 at', .int .i64 lang] 91 (0, 0)) ∧
    IsSet 24 ((w.alloc (.cells #[.int .u64 0, .int .u64 0, .int .u64 0, .int .u64 0] 24)).alloc (.cells #[.slice p n cap, .int .i64 at', .int .i64 lang] 91)) w.heap.size 0 ∧
    Below w.heap.size w ((w.alloc (.cells #[.int .u64 0, .int .u64 0, .int .u64 0, .int .u64 0] 24)).alloc (.cells #[.slice p n cap, .int .i64 at', .int .i64 lang] 91)) ∧
    ((w.alloc (.cells #[.int .u64 0, .int .u64 0, .int .u64 0, .int .u64 0] 24)).alloc (.cells #[.slice p n cap, .int .i64 at', .int .i64 lang] 91)).heap.size = w.heap.size + 2 := by
  have hn := heap_alloc_new (w.alloc (.cells #[.int .u64 0, .int .u64 0, .int .u64 0, .int .u64 0] 24)) (.cells #[.slice p n cap, .int .i64 at', .int .i64 lang] 91)
  rw [World.size_alloc] at hn
  exact ⟨hn, IsSet.alloc (IsSet.zero _ w) _, ((Below.refl _ _).alloc (Nat.le_refl _) _).alloc (by simp) _, by simp⟩
set_option maxHeartbeats 2000000 in
set_option maxRecDepth 100000 in
theorem bracket_bad {N : Nat} {E : Nat → Addr} (p : Option Addr) (cap : Nat) (at' lang : Int) (s : ByteArray) (w : World) (hE : Errs N E w) (hN : N ≤ w.heap.size) (_hs : s.size < 4294967281)
    (hb : at' < 0 ∨ ((s.size : Int) < at' ∧ ¬ at' < 0) ∨ (¬ (s.size : Int) < at' ∧ ¬ at' < 0 ∧ (lang == 2) = false ∧ (lang == 3) = false ∧ (lang == 4) = false)) :
    Calls Tryd.prog 37 #[.slice p s.size cap, .int .i64 at', .int .i64 lang] w fun e w' => ∃ v, e = .returned (.tuple #[sv 0, .int .i64 0, v]) ∧ IsErr w' E v 1 0 lang ∧ Below w.heap.size w w' := by
  have hE' := Lib.hid hE
  clear hE
  rcases hb with hb | ⟨hb, hb2⟩ | ⟨hb1, hb2, hb3, hb4, hb5⟩
  case' inr.inr =>
    have hb6 : (lang != 2) = true := by simp [bne, hb3]
    have hb7 : (lang != 3) = true := by simp [bne, hb4]
    have hb8 : (lang != 4) = true := by simp [bne, hb5]
  all_goals
    go_enter Tryd.func37, Tryd.ntmps37
    go_wp2_with fail
    obtain ⟨hr, hO, hb0, hz⟩ := br_start w p s.size cap at' lang
    refine (fail_cell (N := N) (E := E) (hE'.out.below hb0 hN) _ lang (row_cell hr rfl) 1 (by decide) (by decide) 0).mono ?_
    rintro e w3 ⟨v, rfl, hv, b3⟩
    have z3 := b3.size
    rw [hz] at z3
    have hO3 : IsSet 24 w3 w.heap.size 0 := hO.below b3 (by rw [hz]; omega)
    have hb3 : Below w.heap.size w w3 := hb0.trans (b3.mono (by rw [hz]; omega))
    obtain ⟨Sb, Pb, rfl, -, -⟩ := hv.lt
    have hv' := Lib.hid hv
    have hb' := Lib.hid hb3
    clear hv b3 hb3 hr hO hb0 hz
    go_wp2_with (first | (refine store_set rfl rfl _ _ rfl _ 0 rfl rfl ⟨0, hO3⟩ ?_; intro wX hX gX zX))
    exact ret_set3 rfl rfl rfl rfl rfl hX ⟨_, rfl, hv'.out.keepT hO3 (by decide) (by decide) (fun k hk hn => gX.block k hk (fun e => hn (by injection e))), hb'.out.grown gX (by omega) (fun k hk => by cases hk; exact Nat.le_refl _)⟩
set_option maxHeartbeats 2000000 in
set_option maxRecDepth 100000 in
theorem bracket_good {N : Nat} {E : Nat → Addr} (p : Option Addr) (cap at' : Nat) (lang : Int) (s : ByteArray) (w : World) (hS : HasB w p s) (hE : Errs N E w) (hN : N ≤ w.heap.size) (hs : s.size < 4294967281) (hcap : s.size ≤ cap) (hat : at' ≤ s.size)
    (hg : lang = 2 ∨ lang = 3 ∨ lang = 4) (R : Rg) (hrd : read s.data.toList (lang == 2) at' = R) :
    Calls Tryd.prog 37 #[.slice p s.size cap, .int .i64 at', .int .i64 lang] w (BrPost E w lang R) := by
  have hE' := Lib.hid hE
  have hS' := Lib.hid hS
  have hrd' := Lib.hid hrd
  clear hE hS hrd
  have hd1 : ¬ (s.size : Int) < (at' : Int) := by omega
  have hd2 : ¬ (at' : Int) < 0 := by omega
  have hd3 : decide (s.size < at') = false := by simp; omega
  obtain ⟨hr, hO, hb0, hz⟩ := br_start w p s.size cap (at' : Nat) lang
  have hS0 : HasB ((w.alloc (.cells #[.int .u64 0, .int .u64 0, .int .u64 0, .int .u64 0] 24)).alloc (.cells #[.slice p s.size cap, .int .i64 (at' : Nat), .int .i64 lang] 91)) p s := (hS'.out.alloc _).alloc _
  have hp0 : 0 < s.size → ∀ b o, p = some ⟨b, o, none⟩ → b ≠ w.heap.size + 1 ∧ b < ((w.alloc (.cells #[.int .u64 0, .int .u64 0, .int .u64 0, .int .u64 0] 24)).alloc (.cells #[.slice p s.size cap, .int .i64 (at' : Nat), .int .i64 lang] 91)).heap.size := fun hpos b o e => by
    obtain ⟨b', o', e', -, hlt⟩ := hasB_at hS'.out hpos
    rw [e] at e'
    cases e'
    rw [hz]
    omega
  have hrd0 := read_any (N := N) (E := E) (w.heap.size + 1) p cap at' lang s _ hr hS0 hp0 hs hat hcap (by omega) (hE'.out.below hb0 hN)
  rw [hrd'.out] at hrd0
  have hr' := Lib.hid hr
  have hO' := Lib.hid hO
  have hb' := Lib.hid hb0
  have hz' := Lib.hid hz
  have hrd1 := Lib.hid hrd0
  clear hr hO hb0 hz hS0 hp0 hrd0 hS' hrd'
  have hg3 : ∀ (w3 : World), (World.grownBy _ w3 (some (w.heap.size + 1))) → IsSet 24 w3 w.heap.size 0 ∧ Below w.heap.size w w3 ∧ w.heap.size + 2 ≤ w3.heap.size := fun w3 hg =>
    ⟨hO'.out.grown hg (fun e => by injection e; omega), hb'.out.trans (⟨hg.os, hg.tape, hg.output, hg.size, fun k hk => hg.block k (by rw [hz'.out]; omega) (fun e => by injection e; omega)⟩), by have := hg.size; rw [hz'.out] at this; exact this⟩
  have hg3' := Lib.hid hg3
  clear hg3
  rcases R with ⟨code, pos⟩ | ⟨S, n⟩
  · rcases hg with rfl | rfl | rfl
    all_goals
      go_enter Tryd.func37, Tryd.ntmps37
      go_wp2_with fail
      refine hrd1.out.mono ?_
      rintro e w3 ⟨U, v, rfl, hv, hg, at2, hR⟩
      obtain ⟨hO3, hb3, hz3⟩ := hg3'.out w3 hg
      obtain ⟨Sb, Pb, rfl, -, -⟩ := hv.lt
      have hv' := Lib.hid hv
      have hb3' := Lib.hid hb3
      have hO3' := Lib.hid hO3
      clear hv hb3 hO3 hg hR
      go_wp2_with (first
        | (refine store_set rfl rfl _ _ rfl _ U rfl rfl ⟨0, IsSet.zero' _ _ _ rfl⟩ ?_; intro w4 hX4 g4 z4; have b4 : Below w3.heap.size w3 w4 := Below.viaG1 g4 ((Below.refl _ _).alloc (Nat.le_refl _) _) (by simp) (Nat.le_refl _); have hv4 := Lib.hid (hv'.out.below b4 (Nat.le_refl _)); have hO4 := hO3'.out.below b4 (by omega); have hb4 := Lib.hid (hb3'.out.trans (b4.mono (by omega))); clear b4 g4 hv' hb3')
        | (refine store_set rfl rfl _ _ rfl _ 0 rfl rfl ⟨0, hO4⟩ ?_; intro wX hX gX zX))
      exact ret_set3 rfl rfl rfl rfl rfl hX ⟨_, rfl, hv4.out.keepT hO4 (by decide) (by decide) (fun k hk hn => gX.block k hk (fun e => hn (by injection e))), hb4.out.grown gX (by have := hO4.lt; omega) (fun k hk => by cases hk; exact Nat.le_refl _)⟩
  · rcases hg with rfl | rfl | rfl
    all_goals
      go_enter Tryd.func37, Tryd.ntmps37
      go_wp2_with fail
      refine hrd1.out.mono ?_
      rintro e w3 ⟨rfl, hg, hR⟩
      obtain ⟨hO3, hb3, hz3⟩ := hg3'.out w3 hg
      have hb3' := Lib.hid hb3
      have hO3' := Lib.hid hO3
      have hR' := Lib.hid hR
      clear hb3 hO3 hg hR
      go_wp2_with (first | (refine store_set rfl rfl _ _ rfl _ S rfl rfl ⟨0, IsSet.zero' _ _ _ rfl⟩ ?_; intro w4 hX4 g4 z4))
      have b4 : Below w3.heap.size w3 w4 := Below.viaG1 g4 ((Below.refl _ _).alloc (Nat.le_refl _) _) (by simp) (Nat.le_refl _)
      have hR4 := hR'.out.keep (b4.block _ (row_lt hR'.out))
      have hO4 := hO3'.out.below b4 (by omega)
      have hb4 := Lib.hid (hb3'.out.trans (b4.mono (by omega)))
      obtain ⟨⟨x0, x1, x2, x3⟩, ⟨xf0, xf1, xf2, xf3⟩, xl⟩ := hX4.all
      obtain ⟨⟨o0, o1, o2, o3⟩, ⟨of0, of1, of2, of3⟩, ol⟩ := hO4.all
      have d1 := row_cell (i := 1) hR4 rfl
      have n1 : ¬ w.heap.size = w3.heap.size := by omega
      have n2 : ¬ w.heap.size = w.heap.size + 1 := by omega
      have hX4' := Lib.hid hX4
      have hO4' := Lib.hid hO4
      clear b4 g4 hb3' hR4 hX4 hO4
      go_region
      all_goals
        go_wp2_with fail
        have hb4o := hb4.out
        have hlw : w.heap.size ≤ w.heap.size := Nat.le_refl _
        refine ret_set3 rfl rfl rfl rfl rfl (by first | exact hO4'.out.store4 S | exact IsSet.drew (hO4'.out.store4 S)) ⟨rfl, by (repeat' (first | (with_reducible assumption) | (with_reducible exact Below.refl _ _) | (with_reducible apply Below.viaG1; with_reducible assumption) | (with_reducible apply Below.viaB; with_reducible assumption) | (with_reducible apply Below.alloc) | (with_reducible apply Below.drew) | (with_reducible apply Below.setCell) | (dsimp only; omega) | omega | (simp only [World.size_alloc]; omega) | (simp; omega) | (simp; done)))⟩
theorem bracket_any {N : Nat} {E : Nat → Addr} (p : Option Addr) (cap : Nat) (at' lang : Int) (s : ByteArray) (w : World) (hS : HasB w p s) (hE : Errs N E w) (hN : N ≤ w.heap.size) (hs : s.size < 4294967281) (hcap : s.size ≤ cap) :
    Calls Tryd.prog 37 #[.slice p s.size cap, .int .i64 at', .int .i64 lang] w (BrPost E w lang (brk s.data.toList at' lang)) := by
  have hsz : s.data.toList.length = s.size := by simp
  unfold brk
  rw [hsz]
  by_cases h1 : at' < 0
  · rw [if_pos (.inl h1)]
    exact bracket_bad p cap at' lang s w hE hN hs (.inl h1)
  by_cases h2 : (s.size : Int) < at'
  · rw [if_pos (.inr (.inl h2))]
    exact bracket_bad p cap at' lang s w hE hN hs (.inr (.inl ⟨h2, h1⟩))
  by_cases h3 : lang ≠ 2 ∧ lang ≠ 3 ∧ lang ≠ 4
  · rw [if_pos (.inr (.inr h3))]
    exact bracket_bad p cap at' lang s w hE hN hs (.inr (.inr ⟨h2, h1, by simpa using h3.1, by simpa using h3.2.1, by simpa using h3.2.2⟩))
  · rw [if_neg (by omega)]
    obtain ⟨k, rfl⟩ := Int.eq_ofNat_of_zero_le (Int.not_lt.1 h1)
    exact bracket_good p cap k lang s w hS hE hN hs hcap (by omega) (by omega) _ rfl
end Go.Proofs.YteeopjgfiojoiaaDoor
