/- The walk over GlobPlain: whether a pattern is just bytes, and any text as a pattern of it alone. Conditions: the text has at most 1048576 bytes; the bytes and the errors' variables lie in memory. -/
import Derived.Test.YteeopjgfiojoiaaDoorGp
import Derived.Test.YteeopjgfiojoiaaDoorRPat
import Derived.Test.YteeopjgfiojoiaaDoorRPln
import Derived.WalkMore
import Derived.Handy
import Derived.Outline
namespace Go.Proofs.YteeopjgfiojoiaaDoor
open Go Go.RowKit SN

set_option maxHeartbeats 1000000 in
set_option maxRecDepth 100000 in
theorem gplain_short {N : Nat} {E : Nat → Addr} (p : Option Addr) (s : ByteArray) (cap : Nat) (t : ByteArray) (ht : t.size ≤ 1048576) (w : World) (hS : HasB w p s) (hs : s.size ≤ 256) (hcap : s.size ≤ cap) (hE : Errs N E w) (hN : N ≤ w.heap.size) :
    Calls Tryd.prog 16 #[.slice p s.size cap, .string t] w fun e w' => e = .returned (.bool true) ∧ Below w.heap.size w w' := by
  have hE' := Lib.hid hE
  have hS' := Lib.hid hS
  have hlen : (pt s.data.toList).length ≤ 512 := by
    have := pt_len s.data.toList
    have hl : s.data.toList.length = s.size := by simp
    omega
  have haw := Lib.hid (fun (W : World) (hb : Below w.heap.size w W) => awake6_any (N := N) (E := E) W (hE'.out.below hb hN) (by have := hb.size; omega))
  clear hE hS
  go_enter Tryd.func16, Tryd.ntmps16
  go_wp2_with fail
  refine (parse_any (N := N) (E := E) p s cap w hS'.out hs hcap hE'.out hN).mono ?_
  rintro e w1 ⟨B1, rfl, hI1, b1⟩
  have z1 := b1.size
  have b1' := Lib.hid b1
  have hI1' := Lib.hid hI1
  clear hI1 b1
  go_wp2_with fail
  refine (r5pat_any p s cap w1 (hS'.out.below b1'.out (Nat.le_refl _)) hs hcap).mono ?_
  rintro e w2 ⟨v2, rfl, own2, b2⟩
  have y2 := Lib.hid (b1'.out.trans (b2.mono z1))
  have hI2 := Lib.hid (hI1'.out.below b2 (Nat.le_refl _))
  have own2' := Lib.hid own2
  have hF0 : IsF (w2.alloc (.cells #[.int .i64 0, .int .i64 0, .int .i64 0] 62)) w2.heap.size 0 0 0 := heap_alloc_new w2 _
  have bA : Below w2.heap.size w2 (w2.alloc (.cells #[.int .i64 0, .int .i64 0, .int .i64 0] 62)) := (Below.refl _ _).alloc (Nat.le_refl _) _
  obtain ⟨a2, c2, rfl⟩ := own_slice own2
  clear b2 own2
  go_wp2_with (refine store_flt rfl rfl _ _ rfl _ 0 0 0 0 0 0 rfl rfl hF0 ?_; intro wY hY gY zY)
  have lF := row_lt hY
  have bY : Below w2.heap.size w2 wY := bA.grown gY (by omega) (fun k hk => by cases hk; omega)
  have z2 := y2.out.size
  have yY := y2.out.trans (bY.mono z2)
  have zY2 := yY.size
  have hIY := Lib.hid (hI2.out.below bY (Nat.le_refl _))
  have ownY := Lib.hid (own_below own2'.out bY (Nat.le_refl _))
  have yY' := Lib.hid yY
  have hY' := Lib.hid hY
  clear hF0 bA gY zY hY bY yY
  refine wp_region_swap (o' := regionOps Tryd.f16 3) (by kernel_rfl) ?_
  refine gq3_wp (base := wY.heap.size) (B6 := w2.heap.size) (c := 0) (p := 0) (l := 0) (v := .nilIface) (s := t) (N := N) (E := E)
    ⟨⟨by rfl, by rfl, by rfl, hY'.out, lF, fun W _ _ => tell_nil W, hE'.out.below yY'.out hN, by omega⟩, by rfl, ht⟩ (Nat.le_refl _) ?_
  intro u W e10 bW hszW
  have yW := Lib.hid (yY'.out.trans (bW.mono zY2))
  have hIW := Lib.hid (hIY.out.below bW (Nat.le_refl _))
  have ownW := Lib.hid (own_below ownY.out bW (Nat.le_refl _))
  have hW0 : W.cell? ⟨w2.heap.size, 0, none⟩ = some (.int .i64 0) := row_cell (row_below hY'.out bW lF) rfl
  clear bW
  rw [gq3_plan]
  simp only [putL, Act.put, List.setIfInBounds_toArray, List.set_cons_succ, List.set_cons_zero, e10]
  go_wp2_with fail
  refine (gplain_any B1 _ _ W hIW.out hlen).mono ?_
  rintro e w4 ⟨rfl, b4⟩
  have y4 := Lib.hid (yW.out.trans (b4.mono yW.out.size))
  have ownL := Lib.hid (own_below ownW.out b4 (Nat.le_refl _))
  obtain ⟨q, o, hpl⟩ : ∃ q o, plV (pt s.data.toList) = .tuple #[.string q, .bool o] := by
    unfold plV
    split
    · exact ⟨_, _, rfl⟩
    · exact ⟨_, _, rfl⟩
  clear b4
  rw [hpl]
  go_wp2_with fail
  refine (r5plain_any _ _ _ w4 ownL.out hlen).mono ?_
  rintro e w5 ⟨rfl, b5⟩
  have y5 := Lib.hid (y4.out.trans (b5.mono y4.out.size))
  clear b5
  rw [hpl]
  go_wp2_with fail
  refine (haw.out w5 y5.out).mono ?_
  rintro e w8 ⟨rfl, b8⟩
  have y8 := Lib.hid (y5.out.trans (b8.mono y5.out.size))
  clear b8
  go_wp2_with fail
  go_ret
  exact ⟨rfl, y8.out⟩
set_option maxHeartbeats 1000000 in
set_option maxRecDepth 100000 in
theorem gplain_long {N : Nat} {E : Nat → Addr} (p : Option Addr) (n cap : Nat) (t : ByteArray) (ht : t.size ≤ 1048576) (w : World) (hs : 256 < n) (hE : Errs N E w) (hT : ErrT N w) (hN : N ≤ w.heap.size) :
    Calls Tryd.prog 16 #[.slice p n cap, .string t] w fun e w' => e = .returned (.bool true) ∧ Below w.heap.size w w' := by
  have hE' := Lib.hid hE
  have hT' := Lib.hid hT
  have haw := Lib.hid (fun (W : World) (hb : Below w.heap.size w W) => awake6_any (N := N) (E := E) W (hE'.out.below hb hN) (by have := hb.size; omega))
  clear hE hT
  go_enter Tryd.func16, Tryd.ntmps16
  go_wp2_with fail
  refine (parse_long (N := N) (E := E) p n cap w hs hE'.out).mono ?_
  rintro e w1 ⟨v1, rfl, he1, b1⟩
  have z1 := b1.size
  have b1' := Lib.hid b1
  have he1' := Lib.hid he1
  clear he1 b1
  go_wp2_with fail
  refine (r5pat_long p n cap w1 hs).mono ?_
  rintro e w2 ⟨rfl, b2⟩
  have y2 := Lib.hid (b1'.out.trans (b2.mono z1))
  have he2 := Lib.hid (he1'.out.below b2 (Nat.le_refl _))
  have hF0 : IsF (w2.alloc (.cells #[.int .i64 0, .int .i64 0, .int .i64 0] 62)) w2.heap.size 0 0 0 := heap_alloc_new w2 _
  have bA : Below w2.heap.size w2 (w2.alloc (.cells #[.int .i64 0, .int .i64 0, .int .i64 0] 62)) := (Below.refl _ _).alloc (Nat.le_refl _) _
  clear b2
  go_wp2_with (refine store_flt rfl rfl _ _ rfl _ 2 0 2 0 0 0 rfl rfl hF0 ?_; intro wY hY gY zY)
  have lF := row_lt hY
  have bY : Below w2.heap.size w2 wY := bA.grown gY (by omega) (fun k hk => by cases hk; omega)
  have z2 := y2.out.size
  have yY := y2.out.trans (bY.mono z2)
  have zY2 := yY.size
  have heY := Lib.hid (he2.out.below bY (Nat.le_refl _))
  have yY' := Lib.hid yY
  have hY' := Lib.hid hY
  clear hF0 bA gY zY hY bY yY
  have hTe : ∀ W, Below wY.heap.size wY W → wY.heap.size ≤ W.heap.size → Calls Tryd.prog 44 #[v1] W fun e w' => e = .returned (fv 2 0 2) ∧ Below W.heap.size W w' := fun W hb hz =>
    tell_err (c := 2) W (hE'.out.below (yY'.out.trans (hb.mono zY2)) hN) (hT'.out.below (yY'.out.trans (hb.mono zY2)) hN) (by omega) (heY.out.below hb (Nat.le_refl _)) (by decide) (by decide)
  have hTe' := Lib.hid hTe
  clear hTe
  refine wp_region_swap (o' := regionOps Tryd.f16 3) (by kernel_rfl) ?_
  refine gq3_wp (base := wY.heap.size) (B6 := w2.heap.size) (c := 2) (p := 0) (l := 2) (v := v1) (s := t) (N := N) (E := E)
    ⟨⟨by rfl, by rfl, by rfl, hY'.out, lF, hTe'.out, hE'.out.below yY'.out hN, by omega⟩, by rfl, ht⟩ (Nat.le_refl _) ?_
  intro u W e10 bW hszW
  have yW := Lib.hid (yY'.out.trans (bW.mono zY2))
  have hW0 : W.cell? ⟨w2.heap.size, 0, none⟩ = some (.int .i64 2) := row_cell (row_below hY'.out bW lF) rfl
  clear bW
  rw [gq3_plan]
  simp only [putL, Act.put, List.setIfInBounds_toArray, List.set_cons_succ, List.set_cons_zero, e10]
  go_wp2_with fail
  refine (haw.out W yW.out).mono ?_
  rintro e w8 ⟨rfl, b8⟩
  have y8 := Lib.hid (yW.out.trans (b8.mono yW.out.size))
  clear b8
  go_wp2_with fail
  go_ret
  exact ⟨rfl, y8.out⟩
theorem gplaw_any {N : Nat} {E : Nat → Addr} (p : Option Addr) (s : ByteArray) (cap : Nat) (t : ByteArray) (ht : t.size ≤ 1048576) (w : World) (hS : HasB w p s) (hcap : s.size ≤ cap) (hE : Errs N E w) (hT : ErrT N w) (hN : N ≤ w.heap.size) :
    Calls Tryd.prog 16 #[.slice p s.size cap, .string t] w fun e w' => e = .returned (.bool true) ∧ Below w.heap.size w w' := by
  by_cases hs : s.size ≤ 256
  · exact gplain_short p s cap t ht w hS hs hcap hE hN
  · exact gplain_long p s.size cap t ht w (by omega) hE hT hN
end Go.Proofs.YteeopjgfiojoiaaDoor
