/- The walk over SetBrackets: the program's bracket and the document's are the same, at every input. Conditions: fewer than 4294967281 bytes, they and the errors' variables lie in memory. -/
import Derived.Test.YteeopjgfiojoiaaDoorRBrk
import Derived.Test.YteeopjgfiojoiaaDoorSb3
import Derived.Test.YteeopjgfiojoiaaDoorWTurned
import Derived.WalkMore
import Derived.Handy
import Derived.Outline
namespace Go.Proofs.YteeopjgfiojoiaaDoor
open Go Go.RowKit SN

set_option maxHeartbeats 2000000 in
set_option maxRecDepth 100000 in
/-- Both brackets told, what follows. -/
theorem brackets_of {N : Nat} {E : Nat → Addr} (p : Option Addr) (cap : Nat) (at' lang : Int) (s : ByteArray) (w : World) (hE : Errs N E w) (hN : N ≤ w.heap.size) (S : Nat) (n c q l : Int) (oS : Ok S) (V : Value → World → Prop)
    (hV : ∀ v W W', V v W → Below W.heap.size W W' → V v W')
    (hT : ∀ v W, V v W → Below w.heap.size w W → Calls Tryd.prog 44 #[v] W fun e w' => e = .returned (fv c q l) ∧ Below W.heap.size W w')
    (h1 : Calls Tryd.prog 37 #[.slice p s.size cap, .int .i64 at', .int .i64 lang] w fun e w' => ∃ v, e = .returned (.tuple #[sv S, .int .i64 n, v]) ∧ V v w' ∧ Below w.heap.size w w')
    (h2 : ∀ W, Below w.heap.size w W → Calls Tryd.prog 43 #[.slice p s.size cap, .int .i64 at', .int .i64 lang] W fun e w' => e = .returned (.tuple #[sv S, .int .i64 n, fv c q l]) ∧ Below W.heap.size W w') :
    Calls Tryd.prog 11 #[.slice p s.size cap, .int .i64 at', .int .i64 lang] w fun e w' => e = .returned (.bool true) ∧ Below w.heap.size w w' := by
  have hE' := Lib.hid hE
  have hV' := Lib.hid hV
  have hT' := Lib.hid hT
  have h1' := Lib.hid h1
  have h2' := Lib.hid h2
  clear hE hV hT h1 h2
  go_enter Tryd.func11, Tryd.ntmps11
  go_wp2_with fail
  refine h1'.out.mono ?_
  rintro e w1 ⟨v, rfl, hv, b1⟩
  have z1 := b1.size
  have b1' := Lib.hid b1
  have hv' := Lib.hid hv
  clear hv b1
  go_wp2_with (first | (refine store_set rfl rfl _ _ rfl _ S rfl rfl ⟨0, IsSet.zero' _ _ _ rfl⟩ ?_; intro w2 hX2 g2 z2; have b2 : Below w1.heap.size w1 w2 := Below.viaG1 g2 ((Below.refl _ _).alloc (Nat.le_refl _) _) (by simp) (Nat.le_refl _); have y2 := Lib.hid (b1'.out.trans (b2.mono z1)); have hv2 := Lib.hid (hV'.out v _ _ hv'.out b2); have hX2' := Lib.hid hX2; clear b2 g2 hX2))
  have zz2 := y2.out.size
  have l7 := hX2'.out.lt
  refine (h2'.out w2 y2.out).mono ?_
  rintro e w3 ⟨rfl, b3⟩
  have z3 := b3.size
  have y3 := Lib.hid (y2.out.trans (b3.mono zz2))
  have hv3 := Lib.hid (hV'.out v _ _ hv2.out b3)
  have hX3 := Lib.hid (hX2'.out.below b3 l7)
  clear b3
  have q1 : IsSet 24 ((w3.alloc (.cells #[.int .u64 0, .int .u64 0, .int .u64 0, .int .u64 0] 24)).alloc (.cells #[.int .i64 0, .int .i64 0, .int .i64 0] 62)) w3.heap.size 0 := (rb_start w3).1
  have q2 := (rb_start w3).2.1
  have q3 := (rb_start w3).2.2.1
  have q4 := (rb_start w3).2.2.2
  go_wp2_with (first | (refine store_set rfl rfl _ _ rfl _ S rfl rfl ⟨0, q1⟩ ?_; intro wX hX gX zX; have hFX := row_grown q2 gX (fun e => by injection e; omega)) | (refine store_flt rfl rfl _ _ rfl _ c q l 0 0 0 rfl rfl hFX ?_; intro wY hY gY zY))
  have hXY := hX.grown gY (fun e => by injection e; omega)
  have lX := hX.lt
  have lF := row_lt hFX
  have bY : Below w3.heap.size w3 wY := (q3.grown gX (by omega) (fun k hk => by cases hk; exact Nat.le_refl _)).grown gY (by omega) (fun k hk => by cases hk; omega)
  have z3' := y3.out.size
  have yY := y3.out.trans (bY.mono z3')
  have hvY := hV'.out v _ _ hv3.out bY
  have hX3Y := hX3.out.below bY (by have := hX3.out.lt; omega)
  have lY := row_lt hY
  have zY2 := yY.size
  have l7Y := hX3Y.lt
  have yY' := Lib.hid yY
  have hvY' := Lib.hid hvY
  have hXY' := Lib.hid hXY
  have hY' := Lib.hid hY
  have hX3Y' := Lib.hid hX3Y
  clear hXY hX3Y hvY yY bY hY hX gX gY hFX q1 q2 q3 q4
  refine wp_region_swap (o' := regionOps Tryd.f11 3) (by kernel_rfl) ?_
  refine sb3_wp (base := wY.heap.size) (B7 := w1.heap.size) (B10 := w3.heap.size) (B12 := w3.heap.size + 1) (S := S) (n := n) (c := c) (p := q) (l := l) (v := v) (N := N) (E := E)
    ⟨by rfl, by rfl, by rfl, by rfl, by rfl, by rfl, by rfl, hX3Y'.out, hXY'.out, hY'.out, l7Y, by omega, lY, oS, fun W hb hz => hT'.out v W (hV'.out v _ _ hvY'.out hb) (yY'.out.trans (hb.mono zY2)), hE'.out.below yY'.out hN, by omega⟩ (Nat.le_refl _) ?_
  intro u W e17 bW hszW
  have yW := Lib.hid (yY'.out.trans (bW.mono zY2))
  clear bW
  rw [sb3_plan]
  simp only [putL, Act.put, List.setIfInBounds_toArray, List.set_cons_succ, List.set_cons_zero, e17]
  go_wp2_with fail
  go_ret
  exact ⟨rfl, yW.out⟩
theorem brackets_any {N : Nat} {E : Nat → Addr} (p : Option Addr) (cap : Nat) (at' lang : Int) (s : ByteArray) (w : World) (hS : HasB w p s) (hs : s.size < 4294967281) (hcap : s.size ≤ cap) (hE : Errs N E w) (hT : ErrT N w) (hN : N ≤ w.heap.size) :
    Calls Tryd.prog 11 #[.slice p s.size cap, .int .i64 at', .int .i64 lang] w fun e w' => e = .returned (.bool true) ∧ Below w.heap.size w w' := by
  have hb1 := bracket_any (N := N) (E := E) p cap at' lang s w hS hE hN hs hcap
  have hb2 := fun (W : World) (hb : Below w.heap.size w W) => rbrk_any p cap at' lang s W (hS.below hb (Nat.le_refl _)) (by omega) hcap
  cases hr : brk s.data.toList at' lang with
  | err code pos =>
    rw [hr] at hb1 hb2
    have hcc := brk_code hr
    refine brackets_of p cap at' lang s w hE hN 0 0 (code : Nat) (pos : Nat) lang ok_zero (fun v W => IsErr W E v code pos lang) (fun v W W' h hb => h.below hb (Nat.le_refl _)) (fun v W h hb => ?_) hb1 hb2
    exact tell_err W (hE.below hb hN) (hT.below hb hN) (by have := hb.size; omega) h (by omega) (by omega)
  | ok S n =>
    rw [hr] at hb1 hb2
    refine brackets_of p cap at' lang s w hE hN S (n : Nat) 0 0 0 (ok_brk hr) (fun v _ => v = .nilIface) (fun v W W' h _ => h) (fun v W h hb => ?_) (hb1.mono fun e w' ⟨h1, h2⟩ => ⟨_, h1, rfl, h2⟩) hb2
    subst h
    exact tell_nil W
end Go.Proofs.YteeopjgfiojoiaaDoor
