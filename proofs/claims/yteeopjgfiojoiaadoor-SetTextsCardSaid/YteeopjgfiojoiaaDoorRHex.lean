/- pidginref1.Hex at one byte. No conditions but the bound. -/
import Derived.Test.YteeopjgfiojoiaaDoorTxt
import Derived.Test.YteeopjgfiojoiaaDoorWRanges
import Derived.Lib.ConvBytes
import Derived.Deep.RegionLawGrows
namespace Go.Proofs.YteeopjgfiojoiaaDoor
open Go Go.RowKit SN

theorem bytesWorld_below (w : World) (e : TypeId) (s : ByteArray) : Below w.heap.size w (Lib.bytesWorld w e s) :=
  ⟨rfl, rfl, rfl, by rw [Lib.bytesWorld_size]; omega, fun k hk => Lib.bytesWorld_at_old w e s k hk⟩
theorem hex_and (b : Nat) (hb : b < 256) : bits .and .u8 (b : Int) 15 = (b % 16 : Nat) := by
  have : ∀ b : Fin 256, bits .and .u8 ((b.val : Nat) : Int) 15 = ((b.val % 16 : Nat) : Int) := by decide +kernel
  exact this ⟨b, hb⟩
theorem two_new (w : World) (u v : Value) (t : TypeId) : ∀ (j : Nat) x, [u, v][j]? = some x → (w.alloc (.cells #[u, v] t)).cell? ((⟨w.heap.size, 0, none⟩ : Addr).add j) = some x := by
  intro j x hj
  match j, hj with
  | 0, hj => simp at hj; subst hj; simp [Addr.add]
  | 1, hj => simp at hj; subst hj; simp [Addr.add]
set_option maxHeartbeats 2000000 in
set_option maxRecDepth 100000 in
theorem r1Hex_one (b : Nat) (hb : b < 256) (w : World) :
    Calls Tryd.prog 58 #[.string (toB [b])] w fun e w' => e = .returned (.string (hexB b)) ∧ Below w.heap.size w w' := by
  obtain ⟨i0, hi, hz0, hz1, hz2⟩ := info_parts info_u8
  have h1 : b / 16 < 16 := by omega
  have h2 : b % 16 < 16 := by omega
  have hd : (b : Int) / 16 = (b / 16 : Nat) := by omega
  have ha := hex_and b hb
  have hs1 : (toB [b]).size = 1 := rfl
  have hcv := Lib.run_convert_string_bytes (P := Tryd.prog) w 9 36 5 (toB [b]) Tryd.underlying9 Tryd.underlying36 Tryd.underlying5
  have hsh : ∀ W : World, (binOp .shr 5 (.int .u8 b) (.int .u64 4)).run Tryd.prog W = .ok (.int .u8 (b / 16 : Nat)) W := fun W => by
    have hs := shift_shr_u8 (yk := .u64) (x := (b : Int)) (y := 4) (by decide) (by decide)
    rw [binOp_shr, hs]
    show Result.ok (Value.int .u8 ((b : Int) / 2 ^ 4)) W = _
    rw [show ((2 : Int) ^ 4) = 16 by decide, hd]
  have hc := Lib.bytesWorld_cell w 5 (toB [b]) 0 (by rw [hs1]; decide)
  have hbl := bytesWorld_below w 5 (toB [b])
  have hbz := Lib.bytesWorld_size w 5 (toB [b])
  rw [hs1] at hcv
  have hcc : (((toB [b]).data.toList.getD 0 0).toNat : Int) = b := by simp [toB]; omega
  rw [hcc] at hc
  generalize Lib.bytesWorld w 5 (toB [b]) = W at hcv hc hbl hbz
  generalize grownCap w 1 0 5 = gc at hcv
  unfold hexB
  generalize hq1 : b / 16 = q at *
  generalize hq2 : b % 16 = r at *
  have hqi : (q : Int) < 16 := by omega
  have hri : (r : Int) < 16 := by omega
  have hbi : (b : Int) < 256 := by omega
  have hbl' := Lib.hid hbl
  have hbz' := Lib.hid hbz
  have hd0 := dig_get q h1
  have hd1 := dig_get r h2
  have hd0' := Lib.hid hd0
  have hd1' := Lib.hid hd1
  clear hbl hbz hcc hq1 hq2 hd0 hd1 hs1
  go_enter Tryd.func58, Tryd.ntmps58
  go_wp2_with fail
  refine wp_loop_rounds 2 ?_
  rw [rounds_succ]
  go_wp2_with fail
  have hd2 : ({ data := #[48, 49, 50, 51, 52, 53, 54, 55, 56, 57, 97, 98, 99, 100, 101, 102] } : ByteArray)[q] = dig q := hd0'.out
  have hd3 : ({ data := #[48, 49, 50, 51, 52, 53, 54, 55, 56, 57, 97, 98, 99, 100, 101, 102] } : ByteArray)[r] = dig r := hd1'.out
  go_region_law (refine step_append_grows rfl (.tmp 13) (.tmp 20) 36 rfl 5 i0 (.int .u8 0) 1 1 Tryd.underlying36 hi hz0 hz1 hz2 rfl (by decide) none 0 0 [] (by simp [Act.eval]) (fun _ => ⟨rfl, rfl⟩) rfl (fun _ h => by cases h) ⟨W.heap.size, 0, none⟩ 2 2 [.int .u8 (dig q).toNat, .int .u8 (dig r).toNat] (by simp [Act.eval]) rfl (two_new _ _ _ _) (by intro u hu; simp at hu; rcases hu with rfl | rfl <;> rfl) (by decide) (by simp [maxLen]) (by simp) ?_; intro v' w3 hown hg)
  all_goals
    have hbl2 := below_drewN hbl'.out 1
    change Below _ _ W.drew at hbl2
    have hzW := hbz'.out
    have hown' : OwnsB w3 (w.heap.size + 1) v' [(dig q).toNat, (dig r).toNat] := OwnsB.le (base := W.heap.size + 1) (show w3.ownsRow (W.heap.size + 1) 5 1 v' 2 [.int .u8 (dig q).toNat, .int .u8 (dig r).toNat] from by simpa using hown) (by omega)
    have hB3 := (hbl2.alloc (o := .cells #[.int .u8 (dig q).toNat, .int .u8 (dig r).toNat] 5) (by show _ ≤ W.heap.size; omega)).grown hg (by simp; omega) (fun j hj => by cases hj)
    obtain ⟨p, cap, rfl, -, hB, -⟩ := hown'.hasB (fun x hx => by simp at hx; rcases hx with rfl | rfl <;> exact UInt8.toNat_lt _)
    have hcv3 := conv_any p cap (toB [(dig q).toNat, (dig r).toNat]) w3 hB
    have e2 : toB [(dig q).toNat, (dig r).toNat] = ⟨#[dig q, dig r]⟩ := by simp [toB]
    rw [e2] at hcv3
    have e3 : (toB [(dig q).toNat, (dig r).toNat]).size = 2 := rfl
    have e4 : (⟨#[dig q, dig r]⟩ : ByteArray).size = 2 := rfl
    rw [e4] at hcv3
    rw [e3]
    have hB3' := Lib.hid hB3
    clear hB3 hown hown' hg hB e2 e3 e4 hd2 hd3 hzW hbl2
    go_wp2_with fail
    rw [rounds_succ]
    go_wp2_with fail
    go_ret
    exact ⟨rfl, hB3'.out⟩
end Go.Proofs.YteeopjgfiojoiaaDoor
