/- The walk over GlobParses: any bytes as a pattern, read by the program and by the document's reader. Conditions: the bytes and the errors' variables lie in memory. -/
import Derived.Test.YteeopjgfiojoiaaDoorGp
import Derived.Test.YteeopjgfiojoiaaDoorRPat
import Derived.Test.YteeopjgfiojoiaaDoorRPtx
import Derived.WalkMore
import Derived.Handy
import Derived.Outline
namespace Go.Proofs.YteeopjgfiojoiaaDoor
open Go Go.RowKit SN

set_option maxHeartbeats 1000000 in
set_option maxRecDepth 100000 in
theorem gparses_short {N : Nat} {E : Nat → Addr} (p : Option Addr) (s : ByteArray) (cap : Nat) (w : World) (hS : HasB w p s) (hs : s.size ≤ 256) (hcap : s.size ≤ cap) (hE : Errs N E w) (hN : N ≤ w.heap.size) :
    Calls Tryd.prog 15 #[.slice p s.size cap] w fun e w' => e = .returned (.bool true) ∧ Below w.heap.size w w' := by
  have hE' := Lib.hid hE
  have hS' := Lib.hid hS
  have hlen : (pt s.data.toList).length ≤ 512 := by
    have := pt_len s.data.toList
    have hl : s.data.toList.length = s.size := by simp
    omega
  have hok := Lib.hid (pt_ok s.data.toList)
  have haw := Lib.hid (fun (W : World) (hb : Below w.heap.size w W) => awake6_any (N := N) (E := E) W (hE'.out.below hb hN) (by have := hb.size; omega))
  clear hE hS
  go_enter Tryd.func15, Tryd.ntmps15
  go_wp2_with fail
  refine (parse_any (N := N) (E := E) p s cap w hS'.out hs hcap hE'.out hN).mono ?_
  rintro e w1 ⟨B1, rfl, hI1, b1⟩
  have z1 := b1.size
  have b1' := Lib.hid b1
  have hI1' := Lib.hid hI1
  clear hI1 b1
  go_wp2_with fail
  refine (r5pat_any p s cap w1 (hS'.out.below b1'.out (Nat.le_refl _)) hs hcap).mono ?_
  rintro e w2 ⟨v2, rfl, own2, b2⟩
  have y2 := Lib.hid (b1'.out.trans (b2.mono z1))
  have hI2 := Lib.hid (hI1'.out.below b2 (Nat.le_refl _))
  have own2' := Lib.hid own2
  have hF0 : IsF (w2.alloc (.cells #[.int .i64 0, .int .i64 0, .int .i64 0] 62)) w2.heap.size 0 0 0 := heap_alloc_new w2 _
  have bA : Below w2.heap.size w2 (w2.alloc (.cells #[.int .i64 0, .int .i64 0, .int .i64 0] 62)) := (Below.refl _ _).alloc (Nat.le_refl _) _
  obtain ⟨a2, c2, rfl⟩ := own_slice own2
  clear b2 own2
  go_wp2_with (refine store_flt rfl rfl _ _ rfl _ 0 0 0 0 0 0 rfl rfl hF0 ?_; intro wY hY gY zY)
  have lF := row_lt hY
  have bY : Below w2.heap.size w2 wY := bA.grown gY (by omega) (fun k hk => by cases hk; omega)
  have z2 := y2.out.size
  have yY := y2.out.trans (bY.mono z2)
  have zY2 := yY.size
  have hIY := Lib.hid (hI2.out.below bY (Nat.le_refl _))
  have ownY := Lib.hid (own_below own2'.out bY (Nat.le_refl _))
  have yY' := Lib.hid yY
  have hY' := Lib.hid hY
  clear hF0 bA gY zY hY bY yY
  refine wp_region_swap (o' := regionOps Tryd.f15 3) (by kernel_rfl) ?_
  refine gp3a_wp (base := wY.heap.size) (B6 := w2.heap.size) (c := 0) (p := 0) (l := 0) (v := .nilIface) (N := N) (E := E)
    ⟨⟨by rfl, by rfl, by rfl, hY'.out, lF, fun W _ _ => tell_nil W, hE'.out.below yY'.out hN, by omega⟩, by decide⟩ (Nat.le_refl _) ?_
  intro u W e8 bW hszW
  have yW := Lib.hid (yY'.out.trans (bW.mono zY2))
  have hIW := Lib.hid (hIY.out.below bW (Nat.le_refl _))
  have ownW := Lib.hid (own_below ownY.out bW (Nat.le_refl _))
  clear bW
  rw [gp3a_plan]
  simp only [putL, Act.put, List.setIfInBounds_toArray, List.set_cons_succ, List.set_cons_zero, e8]
  go_wp2_with fail
  refine (pieces_any B1 _ _ W hIW.out hlen).mono ?_
  rintro e w4 ⟨v4, rfl, own4, b4⟩
  have y4 := Lib.hid (yW.out.trans (b4.mono yW.out.size))
  have hI4 := Lib.hid (hIW.out.below b4 (Nat.le_refl _))
  have ownL := Lib.hid (own_below ownW.out b4 (Nat.le_refl _))
  have own4' := Lib.hid own4
  obtain ⟨a4, c4, rfl⟩ := own_slice own4
  clear b4 own4
  go_wp2_with fail
  refine (same_own _ _ _ _ _ w4 (by omega) own4'.out ownL.out).mono ?_
  rintro e w5 ⟨rfl, b5⟩
  have y5 := Lib.hid (y4.out.trans (b5.mono y4.out.size))
  have hI5 := Lib.hid (hI4.out.below b5 (Nat.le_refl _))
  have ownM := Lib.hid (own_below ownL.out b5 (Nat.le_refl _))
  clear b5
  go_wp2_with fail
  refine (ptext_any B1 _ _ w5 hI5.out hlen hok.out).mono ?_
  rintro e w6 ⟨rfl, b6⟩
  have y6 := Lib.hid (y5.out.trans (b6.mono y5.out.size))
  have ownN := Lib.hid (own_below ownM.out b6 (Nat.le_refl _))
  clear b6
  go_wp2_with fail
  refine (r5ptext_any _ _ _ w6 ownN.out hlen hok.out).mono ?_
  rintro e w7 ⟨rfl, b7⟩
  have y7 := Lib.hid (y6.out.trans (b7.mono y6.out.size))
  clear b7
  go_wp2_with fail
  refine (haw.out w7 y7.out).mono ?_
  rintro e w8 ⟨rfl, b8⟩
  have y8 := Lib.hid (y7.out.trans (b8.mono y7.out.size))
  clear b8
  go_wp2_with fail
  go_ret
  exact ⟨rfl, y8.out⟩
set_option maxHeartbeats 1000000 in
set_option maxRecDepth 100000 in
theorem gparses_long {N : Nat} {E : Nat → Addr} (p : Option Addr) (n cap : Nat) (w : World) (hs : 256 < n) (hE : Errs N E w) (hT : ErrT N w) (hN : N ≤ w.heap.size) :
    Calls Tryd.prog 15 #[.slice p n cap] w fun e w' => e = .returned (.bool true) ∧ Below w.heap.size w w' := by
  have hE' := Lib.hid hE
  have hT' := Lib.hid hT
  clear hE hT
  go_enter Tryd.func15, Tryd.ntmps15
  go_wp2_with fail
  refine (parse_long (N := N) (E := E) p n cap w hs hE'.out).mono ?_
  rintro e w1 ⟨v1, rfl, he1, b1⟩
  have z1 := b1.size
  have b1' := Lib.hid b1
  have he1' := Lib.hid he1
  clear he1 b1
  go_wp2_with fail
  refine (r5pat_long p n cap w1 hs).mono ?_
  rintro e w2 ⟨rfl, b2⟩
  have y2 := Lib.hid (b1'.out.trans (b2.mono z1))
  have he2 := Lib.hid (he1'.out.below b2 (Nat.le_refl _))
  have hF0 : IsF (w2.alloc (.cells #[.int .i64 0, .int .i64 0, .int .i64 0] 62)) w2.heap.size 0 0 0 := heap_alloc_new w2 _
  have bA : Below w2.heap.size w2 (w2.alloc (.cells #[.int .i64 0, .int .i64 0, .int .i64 0] 62)) := (Below.refl _ _).alloc (Nat.le_refl _) _
  clear b2
  go_wp2_with (refine store_flt rfl rfl _ _ rfl _ 2 0 2 0 0 0 rfl rfl hF0 ?_; intro wY hY gY zY)
  have lF := row_lt hY
  have bY : Below w2.heap.size w2 wY := bA.grown gY (by omega) (fun k hk => by cases hk; omega)
  have z2 := y2.out.size
  have yY := y2.out.trans (bY.mono z2)
  have zY2 := yY.size
  have heY := Lib.hid (he2.out.below bY (Nat.le_refl _))
  have yY' := Lib.hid yY
  have hY' := Lib.hid hY
  clear hF0 bA gY zY hY bY yY
  have hTe : ∀ W, Below wY.heap.size wY W → wY.heap.size ≤ W.heap.size → Calls Tryd.prog 44 #[v1] W fun e w' => e = .returned (fv 2 0 2) ∧ Below W.heap.size W w' := fun W hb hz =>
    tell_err (c := 2) W (hE'.out.below (yY'.out.trans (hb.mono zY2)) hN) (hT'.out.below (yY'.out.trans (hb.mono zY2)) hN) (by omega) (heY.out.below hb (Nat.le_refl _)) (by decide) (by decide)
  have hTe' := Lib.hid hTe
  clear hTe
  refine wp_region_swap (o' := regionOps Tryd.f15 3) (by kernel_rfl) ?_
  refine gp3b_wp (base := wY.heap.size) (B6 := w2.heap.size) (c := 2) (p := 0) (l := 2) (v := v1) (N := N) (E := E)
    ⟨⟨by rfl, by rfl, by rfl, hY'.out, lF, hTe'.out, hE'.out.below yY'.out hN, by omega⟩, by decide⟩ (Nat.le_refl _) ?_
  intro u W e8 bW hszW
  have bW' := Lib.hid bW
  have yW := Lib.hid (yY'.out.trans (bW.mono zY2))
  have hW6 := Lib.hid (row_below hY'.out bW lF)
  clear bW
  rw [gp3b_plan]
  simp only [putL, Act.put, List.setIfInBounds_toArray, List.set_cons_succ, List.set_cons_zero, e8]
  go_wp2_with fail
  refine wp_region_swap (o' := regionOps Tryd.f15 4) (by kernel_rfl) ?_
  refine gp4_wp (base := W.heap.size) (B6 := w2.heap.size) (c := 2) (p := 0) (l := 2) (v := v1) (N := N) (E := E)
    ⟨⟨by rfl, by rfl, by rfl, hW6.out, by omega, fun W' hb hz => hTe'.out W' (bW'.out.trans (hb.mono hszW)) (by omega), hE'.out.below yW.out hN, by omega⟩, by rfl⟩ (Nat.le_refl _) ?_
  intro u' W' e11 bW2 hszW2
  have yW2 := Lib.hid (yW.out.trans (bW2.mono yW.out.size))
  clear bW2
  rw [gp4_plan]
  simp only [putL, Act.put, List.setIfInBounds_toArray, List.set_cons_succ, List.set_cons_zero, e11]
  go_wp2_with fail
  go_ret
  exact ⟨rfl, yW2.out⟩
theorem gparses_any {N : Nat} {E : Nat → Addr} (p : Option Addr) (s : ByteArray) (cap : Nat) (w : World) (hS : HasB w p s) (hcap : s.size ≤ cap) (hE : Errs N E w) (hT : ErrT N w) (hN : N ≤ w.heap.size) :
    Calls Tryd.prog 15 #[.slice p s.size cap] w fun e w' => e = .returned (.bool true) ∧ Below w.heap.size w w' := by
  by_cases hs : s.size ≤ 256
  · exact gparses_short p s cap w hS hs hcap hE hN
  · exact gparses_long p s.size cap w (by omega) hE hT hN
end Go.Proofs.YteeopjgfiojoiaaDoor
