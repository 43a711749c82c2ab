/- pidginref5.item: an item of a bracket, as the plain law has it. Conditions: the bytes lie in memory; the place is within them. -/
import Derived.Test.YteeopjgfiojoiaaDoorRItP
import Derived.Test.YteeopjgfiojoiaaDoorSetC3
import Derived.Test.YteeopjgfiojoiaaDoorItB
import Derived.WalkMore
import Derived.Handy
import Derived.Outline
namespace Go.Proofs.YteeopjgfiojoiaaDoor
open Go Go.RowKit SN

theorem isL_s (s : ByteArray) (i : Nat) (hi : i < s.size) (c : Int) : isL s.data.toList i c = (((s[i]).toNat : Int) == c) := by
  unfold isL
  rw [show s.data.toList[i]? = some s[i] by simp [ByteArray.getElem_eq_getElem_data]]
  rfl
theorem isL_past (s : ByteArray) (i : Nat) (hi : s.size ≤ i) (c : Int) : isL s.data.toList i c = false := by
  unfold isL
  rw [List.getElem?_eq_none (by simpa using hi)]
  rfl
def itV (i : Nat) : It → Value
  | .err c p => .tuple #[.int .i64 0, sv 0, .int .i64 (i : Nat), .int .i64 (c : Nat), .int .i64 (p : Nat)]
  | .byte c n => .tuple #[.int .i64 (c.toNat : Nat), sv 0, .int .i64 (n : Nat), .int .i64 0, .int .i64 0]
  | .cls S n => .tuple #[.int .i64 (-1), sv S, .int .i64 (n : Nat), .int .i64 0, .int .i64 0]
theorem ret_set5 {fn : Func} {a p b c d : Tmp} {R : Ending → World → Prop} {x : Act} {w : World} {B S : Nat} {va vb vc vd : Value} (h : fn.results = #[.tmp a, .cell p 24, .tmp b, .tmp c, .tmp d]) (hd : x.defers = [])
    (ha : x.tmps.getD a undef = va) (hp : x.tmps.getD p undef = .pointer (some ⟨B, 0, none⟩)) (hb : x.tmps.getD b undef = vb) (hc : x.tmps.getD c undef = vc) (hdd : x.tmps.getD d undef = vd)
    (hS : IsSet 24 w B S) (hR : R (.returned (.tuple #[va, sv S, vb, vc, vd])) w) : bodyPost Tryd.prog fn R .ret x w := by
  have ha' : x.tmps[a]?.getD undef = va := by simpa using ha
  have hp' : x.tmps[p]?.getD undef = .pointer (some ⟨B, 0, none⟩) := by simpa using hp
  have hb' : x.tmps[b]?.getD undef = vb := by simpa using hb
  have hc' : x.tmps[c]?.getD undef = vc := by simpa using hc
  have hd' : x.tmps[d]?.getD undef = vd := by simpa using hdd
  refine bodyPost_ret (v := .tuple #[va, sv S, vb, vc, vd]) ?_ hd hR
  have hl := run_loadVar_row (P := Tryd.prog) w B 24 24 (sc S) (0, 0) _ hS Tryd.underlying24 (by rfl) (by rw [size24]; rfl)
  simp [results, h, ha', hp', hb', hc', hd', asAddr, hl]
  rfl
/-- What the walk over item asks of the bytes at hand. -/
theorem cell_at {w : World} {p : Option Addr} {s : ByteArray} {i : Nat} (hS : HasB w p s) (hi : i < s.size) : ∃ b o, p = some ⟨b, o, none⟩ ∧ b < w.heap.size ∧ ∀ k, (hk : k < s.size) → w.cell? ⟨b, o + k, none⟩ = some (.int .u8 (s[k].toNat : Int)) := by
  obtain ⟨b, o, rfl, -, hl⟩ := hasB_at hS hi
  refine ⟨b, o, rfl, hl, fun k hk => ?_⟩
  obtain ⟨b', o', e, hc, -⟩ := hasB_at hS hk
  cases e
  exact hc
set_option maxHeartbeats 2000000 in
set_option maxRecDepth 100000 in
/-- The byte that stands there. -/
theorem r5item_one (p : Option Addr) (cap i : Nat) (lang : Int) (s : ByteArray) (w : World) (hS : HasB w p s) (hs : s.size < 2 ^ 61) (hi : i < s.size)
    (hh : ((((s[i]).toNat : Int) == 91) = false ∧ (((s[i]).toNat : Int) == 92) = false) ∨ ((((s[i]).toNat : Int) == 91) = false ∧ (((s[i]).toNat : Int) == 92) = true ∧ (lang == 2) = false)) :
    Calls Tryd.prog 67 #[.slice p s.size cap, .int .i64 i, .int .i64 lang] w fun e w' => e = .returned (itV i (.byte s[i] (i + 1))) ∧ Below w.heap.size w w' := by
  obtain ⟨b, o, rfl, hl, hc⟩ := cell_at hS hi
  have hci := hc i hi
  clear hc hS
  have hx := (s[i]).toNat_lt
  simp only [itV]
  generalize (s[i]).toNat = c at *
  have hb1 := (Below.refl w.heap.size w).alloc (Nat.le_refl _) (.cells #[.int .u64 0, .int .u64 0, .int .u64 0, .int .u64 0] 24)
  have hb1' := Lib.hid hb1
  clear hb1
  rcases hh with ⟨h1, h2⟩ | ⟨h1, h2, h3⟩
  all_goals
    go_enter Tryd.func67, Tryd.ntmps67
    go_wp2_with (refine store_set rfl rfl _ _ rfl _ 0 rfl rfl ?_ ?_; (focus (apply Exists.intro; (repeat' (first | (with_reducible assumption) | (with_reducible apply IsSet.zero'; first | (with_reducible rfl) | (simp only [World.size_alloc]; done)) | (with_reducible apply IsSet.new'; first | (with_reducible rfl) | (simp only [World.size_alloc]; done)) | (with_reducible apply IsSet.sv; first | (with_reducible rfl) | (simp only [World.size_alloc]; done)) | (with_reducible apply IsSet.viaG; with_reducible assumption) | (with_reducible apply IsSet.viaB; with_reducible assumption) | (with_reducible apply IsSet.drew) | (with_reducible apply IsSet.store4) | (with_reducible apply IsSet.set_other) | (with_reducible apply IsSet.alloc) | (simp only [World.size_alloc]; omega) | omega | (simp; omega) | (simp; done))); done)); intro wX hX gX zX; (try simp only [World.size_alloc] at zX))
    refine ret_set5 rfl rfl rfl rfl rfl rfl rfl hX ⟨by simp, ?_⟩
    exact hb1'.out.grown gX (by simp) (fun j hj => by cases hj; exact Nat.le_refl _)
set_option maxHeartbeats 2000000 in
set_option maxRecDepth 100000 in
/-- Behind a backslash. -/
theorem r5item_esc (p : Option Addr) (cap i : Nat) (lang : Int) (s : ByteArray) (w : World) (hS : HasB w p s) (hs : s.size < 2 ^ 61) (hi : i < s.size)
    (h1 : (((s[i]).toNat : Int) == 91) = false) (h2 : (((s[i]).toNat : Int) == 92) = true) (h3 : (lang == 2) = true) (hi1 : i + 1 < s.size) :
    Calls Tryd.prog 67 #[.slice p s.size cap, .int .i64 i, .int .i64 lang] w fun e w' => e = .returned (itV i (.byte s[i + 1] (i + 2))) ∧ Below w.heap.size w w' := by
  obtain ⟨b, o, rfl, hl, hc⟩ := cell_at hS hi
  have hci := hc i hi
  have hci1 := hc (i + 1) hi1
  clear hc hS
  have hx := (s[i]).toNat_lt
  have hx1 := (s[i + 1]).toNat_lt
  have hne : ((i : Int) + 1 == (s.size : Int)) = false := by simp; omega
  simp only [itV]
  generalize (s[i]).toNat = c at *
  generalize (s[i + 1]).toNat = d at *
  have hb1 := (Below.refl w.heap.size w).alloc (Nat.le_refl _) (.cells #[.int .u64 0, .int .u64 0, .int .u64 0, .int .u64 0] 24)
  have hb1' := Lib.hid hb1
  clear hb1
  go_enter Tryd.func67, Tryd.ntmps67
  go_wp2_with (refine store_set rfl rfl _ _ rfl _ 0 rfl rfl ?_ ?_; (focus (apply Exists.intro; (repeat' (first | (with_reducible assumption) | (with_reducible apply IsSet.zero'; first | (with_reducible rfl) | (simp only [World.size_alloc]; done)) | (with_reducible apply IsSet.new'; first | (with_reducible rfl) | (simp only [World.size_alloc]; done)) | (with_reducible apply IsSet.sv; first | (with_reducible rfl) | (simp only [World.size_alloc]; done)) | (with_reducible apply IsSet.viaG; with_reducible assumption) | (with_reducible apply IsSet.viaB; with_reducible assumption) | (with_reducible apply IsSet.drew) | (with_reducible apply IsSet.store4) | (with_reducible apply IsSet.set_other) | (with_reducible apply IsSet.alloc) | (simp only [World.size_alloc]; omega) | omega | (simp; omega) | (simp; done))); done)); intro wX hX gX zX; (try simp only [World.size_alloc] at zX))
  refine ret_set5 rfl rfl rfl rfl rfl rfl rfl hX ⟨by simp, ?_⟩
  exact hb1'.out.grown gX (by simp) (fun j hj => by cases hj; exact Nat.le_refl _)
set_option maxHeartbeats 2000000 in
set_option maxRecDepth 100000 in
/-- A backslash at the end. -/
theorem r5item_escEnd (p : Option Addr) (cap i : Nat) (lang : Int) (s : ByteArray) (w : World) (hS : HasB w p s) (hs : s.size < 2 ^ 61) (hi : i < s.size)
    (h1 : (((s[i]).toNat : Int) == 91) = false) (h2 : (((s[i]).toNat : Int) == 92) = true) (h3 : (lang == 2) = true) (hi1 : i + 1 = s.size) :
    Calls Tryd.prog 67 #[.slice p s.size cap, .int .i64 i, .int .i64 lang] w fun e w' => e = .returned (itV i (.err 8 s.size)) ∧ Below w.heap.size w w' := by
  obtain ⟨b, o, rfl, hl, hc⟩ := cell_at hS hi
  have hci := hc i hi
  clear hc hS
  have hx := (s[i]).toNat_lt
  have hne : ((i : Int) + 1 == (s.size : Int)) = true := by simp; omega
  simp only [itV]
  generalize (s[i]).toNat = c at *
  have hb1 := (Below.refl w.heap.size w).alloc (Nat.le_refl _) (.cells #[.int .u64 0, .int .u64 0, .int .u64 0, .int .u64 0] 24)
  have hb1' := Lib.hid hb1
  clear hb1
  go_enter Tryd.func67, Tryd.ntmps67
  go_wp2_with (refine store_set rfl rfl _ _ rfl _ 0 rfl rfl ?_ ?_; (focus (apply Exists.intro; (repeat' (first | (with_reducible assumption) | (with_reducible apply IsSet.zero'; first | (with_reducible rfl) | (simp only [World.size_alloc]; done)) | (with_reducible apply IsSet.new'; first | (with_reducible rfl) | (simp only [World.size_alloc]; done)) | (with_reducible apply IsSet.sv; first | (with_reducible rfl) | (simp only [World.size_alloc]; done)) | (with_reducible apply IsSet.viaG; with_reducible assumption) | (with_reducible apply IsSet.viaB; with_reducible assumption) | (with_reducible apply IsSet.drew) | (with_reducible apply IsSet.store4) | (with_reducible apply IsSet.set_other) | (with_reducible apply IsSet.alloc) | (simp only [World.size_alloc]; omega) | omega | (simp; omega) | (simp; done))); done)); intro wX hX gX zX; (try simp only [World.size_alloc] at zX))
  refine ret_set5 rfl rfl rfl rfl rfl rfl rfl hX ⟨by simp, ?_⟩
  exact hb1'.out.grown gX (by simp) (fun j hj => by cases hj; exact Nat.le_refl _)
set_option maxHeartbeats 2000000 in
set_option maxRecDepth 100000 in
/-- A [ with . or = behind it. -/
theorem r5item_dot (p : Option Addr) (cap i : Nat) (lang : Int) (s : ByteArray) (w : World) (hS : HasB w p s) (hs : s.size < 2 ^ 61) (hi : i < s.size)
    (h1 : (((s[i]).toNat : Int) == 91) = true) (hi1 : i + 1 < s.size) (hh : (((s[i + 1]).toNat : Int) == 46) = true ∨ ((((s[i + 1]).toNat : Int) == 46) = false ∧ (((s[i + 1]).toNat : Int) == 61) = true)) :
    Calls Tryd.prog 67 #[.slice p s.size cap, .int .i64 i, .int .i64 lang] w fun e w' => e = .returned (itV i (.err 8 i)) ∧ Below w.heap.size w w' := by
  obtain ⟨b, o, rfl, hl, hc⟩ := cell_at hS hi
  have hci := hc i hi
  have hci1 := hc (i + 1) hi1
  clear hc hS
  have hx := (s[i]).toNat_lt
  have hx1 := (s[i + 1]).toNat_lt
  have hlt : decide ((i : Int) + 1 < (s.size : Int)) = true := by simp; omega
  simp only [itV]
  generalize (s[i]).toNat = c at *
  generalize (s[i + 1]).toNat = d at *
  have hb1 := (Below.refl w.heap.size w).alloc (Nat.le_refl _) (.cells #[.int .u64 0, .int .u64 0, .int .u64 0, .int .u64 0] 24)
  have hb1' := Lib.hid hb1
  clear hb1
  rcases hh with h4 | ⟨h4, h5⟩
  all_goals
    go_enter Tryd.func67, Tryd.ntmps67
    go_wp2_with (refine store_set rfl rfl _ _ rfl _ 0 rfl rfl ?_ ?_; (focus (apply Exists.intro; (repeat' (first | (with_reducible assumption) | (with_reducible apply IsSet.zero'; first | (with_reducible rfl) | (simp only [World.size_alloc]; done)) | (with_reducible apply IsSet.new'; first | (with_reducible rfl) | (simp only [World.size_alloc]; done)) | (with_reducible apply IsSet.sv; first | (with_reducible rfl) | (simp only [World.size_alloc]; done)) | (with_reducible apply IsSet.viaG; with_reducible assumption) | (with_reducible apply IsSet.viaB; with_reducible assumption) | (with_reducible apply IsSet.drew) | (with_reducible apply IsSet.store4) | (with_reducible apply IsSet.set_other) | (with_reducible apply IsSet.alloc) | (simp only [World.size_alloc]; omega) | omega | (simp; omega) | (simp; done))); done)); intro wX hX gX zX; (try simp only [World.size_alloc] at zX))
    refine ret_set5 rfl rfl rfl rfl rfl rfl rfl hX ⟨by simp, ?_⟩
    exact hb1'.out.grown gX (by simp) (fun j hj => by cases hj; exact Nat.le_refl _)
set_option maxHeartbeats 2000000 in
set_option maxRecDepth 100000 in
/-- A [ by itself. -/
theorem r5item_open (p : Option Addr) (cap i : Nat) (lang : Int) (s : ByteArray) (w : World) (hS : HasB w p s) (hs : s.size < 2 ^ 61) (hi : i < s.size)
    (h1 : (((s[i]).toNat : Int) == 91) = true) (hi1 : i + 1 < s.size) (h4 : (((s[i + 1]).toNat : Int) == 46) = false) (h5 : (((s[i + 1]).toNat : Int) == 61) = false) (h6 : (((s[i + 1]).toNat : Int) == 58) = false) :
    Calls Tryd.prog 67 #[.slice p s.size cap, .int .i64 i, .int .i64 lang] w fun e w' => e = .returned (itV i (.byte s[i] (i + 1))) ∧ Below w.heap.size w w' := by
  obtain ⟨b, o, rfl, hl, hc⟩ := cell_at hS hi
  have hci := hc i hi
  have hci1 := hc (i + 1) hi1
  clear hc hS
  have hx := (s[i]).toNat_lt
  have hx1 := (s[i + 1]).toNat_lt
  have hlt : decide ((i : Int) + 1 < (s.size : Int)) = true := by simp; omega
  simp only [itV]
  have h92 : (((s[i]).toNat : Int) == 92) = false := by simp at h1 ⊢; omega
  generalize (s[i]).toNat = c at *
  generalize (s[i + 1]).toNat = d at *
  have hb1 := (Below.refl w.heap.size w).alloc (Nat.le_refl _) (.cells #[.int .u64 0, .int .u64 0, .int .u64 0, .int .u64 0] 24)
  have hb1' := Lib.hid hb1
  clear hb1
  go_enter Tryd.func67, Tryd.ntmps67
  go_wp2_with (refine store_set rfl rfl _ _ rfl _ 0 rfl rfl ?_ ?_; (focus (apply Exists.intro; (repeat' (first | (with_reducible assumption) | (with_reducible apply IsSet.zero'; first | (with_reducible rfl) | (simp only [World.size_alloc]; done)) | (with_reducible apply IsSet.new'; first | (with_reducible rfl) | (simp only [World.size_alloc]; done)) | (with_reducible apply IsSet.sv; first | (with_reducible rfl) | (simp only [World.size_alloc]; done)) | (with_reducible apply IsSet.viaG; with_reducible assumption) | (with_reducible apply IsSet.viaB; with_reducible assumption) | (with_reducible apply IsSet.drew) | (with_reducible apply IsSet.store4) | (with_reducible apply IsSet.set_other) | (with_reducible apply IsSet.alloc) | (simp only [World.size_alloc]; omega) | omega | (simp; omega) | (simp; done))); done)); intro wX hX gX zX; (try simp only [World.size_alloc] at zX))
  refine ret_set5 rfl rfl rfl rfl rfl rfl rfl hX ⟨by simp, ?_⟩
  exact hb1'.out.grown gX (by simp) (fun j hj => by cases hj; exact Nat.le_refl _)
set_option maxHeartbeats 2000000 in
set_option maxRecDepth 100000 in
/-- A [ at the end. -/
theorem r5item_last (p : Option Addr) (cap i : Nat) (lang : Int) (s : ByteArray) (w : World) (hS : HasB w p s) (hs : s.size < 2 ^ 61) (hi : i < s.size)
    (h1 : (((s[i]).toNat : Int) == 91) = true) (hi1 : s.size ≤ i + 1) :
    Calls Tryd.prog 67 #[.slice p s.size cap, .int .i64 i, .int .i64 lang] w fun e w' => e = .returned (itV i (.byte s[i] (i + 1))) ∧ Below w.heap.size w w' := by
  obtain ⟨b, o, rfl, hl, hc⟩ := cell_at hS hi
  have hci := hc i hi
  clear hc hS
  have hx := (s[i]).toNat_lt
  have hlt : decide ((i : Int) + 1 < (s.size : Int)) = false := by simp; omega
  simp only [itV]
  have h92 : (((s[i]).toNat : Int) == 92) = false := by simp at h1 ⊢; omega
  generalize (s[i]).toNat = c at *
  have hb1 := (Below.refl w.heap.size w).alloc (Nat.le_refl _) (.cells #[.int .u64 0, .int .u64 0, .int .u64 0, .int .u64 0] 24)
  have hb1' := Lib.hid hb1
  clear hb1
  go_enter Tryd.func67, Tryd.ntmps67
  go_wp2_with (refine store_set rfl rfl _ _ rfl _ 0 rfl rfl ?_ ?_; (focus (apply Exists.intro; (repeat' (first | (with_reducible assumption) | (with_reducible apply IsSet.zero'; first | (with_reducible rfl) | (simp only [World.size_alloc]; done)) | (with_reducible apply IsSet.new'; first | (with_reducible rfl) | (simp only [World.size_alloc]; done)) | (with_reducible apply IsSet.sv; first | (with_reducible rfl) | (simp only [World.size_alloc]; done)) | (with_reducible apply IsSet.viaG; with_reducible assumption) | (with_reducible apply IsSet.viaB; with_reducible assumption) | (with_reducible apply IsSet.drew) | (with_reducible apply IsSet.store4) | (with_reducible apply IsSet.set_other) | (with_reducible apply IsSet.alloc) | (simp only [World.size_alloc]; omega) | omega | (simp; omega) | (simp; done))); done)); intro wX hX gX zX; (try simp only [World.size_alloc] at zX))
  refine ret_set5 rfl rfl rfl rfl rfl rfl rfl hX ⟨by simp, ?_⟩
  exact hb1'.out.grown gX (by simp) (fun j hj => by cases hj; exact Nat.le_refl _)
end Go.Proofs.YteeopjgfiojoiaaDoor
