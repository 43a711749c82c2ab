/- scan.Base to the base 10, scan.Text: a number's digits. Conditions: the number is one of 64 bits. -/
import Derived.Test.YtfnaooplpofgiaaDoorKB
import Derived.Test.YtfnaooplpofgiaaDoorNumP
import Derived.WalkMore
import Derived.Handy
import Derived.Outline
namespace Go.Proofs.YtfnaooplpofgiaaDoor
open Go Go.RowKit SN

/-- A digit to the base 16. -/
def digB : ByteArray := ⟨#[48, 49, 50, 51, 52, 53, 54, 55, 56, 57, 97, 98, 99, 100, 101, 102]⟩
def dig (n : Nat) : UInt8 := digB.data.toList.getD n 0
theorem dig_get (n : Nat) (h : n < digB.size) : digB[n] = dig n := by
  have hl : n < digB.data.toList.length := h
  unfold dig
  rw [List.getD_eq_getElem?_getD, List.getElem?_eq_getElem hl]
  rfl
theorem dig_dec {d : Nat} (h : d < 10) : dig d = UInt8.ofNat (48 + d) := by
  have : ∀ k : Fin 10, dig k.val = UInt8.ofNat (48 + k.val) := by decide
  exact this ⟨d, h⟩
/-- The digits written so far stand at the array's end. -/
def Tail (w : World) (B a : Nat) (suf : List UInt8) : Prop := ∃ cs ty, w.heap[B]? = some (.cells cs ty (0, 0)) ∧ cs.size = 64 ∧ a + suf.length = 63 ∧ ∀ t (h : t < suf.length), cs[a + 1 + t]? = some (.int .u8 suf[t].toNat)
theorem setCell_grown (w : World) (B i : Nat) (v : Value) : w.grownBy (w.setCell ⟨B, i, none⟩ v) (some B) :=
  ⟨rfl, rfl, rfl, by simp [World.setCell], fun k _ hk => Below.heap_setCell _ _ _ _ (fun e => hk (by rw [e]))⟩
theorem slice64 (B a : Nat) (ha : a < 64) (W : World) : (Instr.sliceAt 65 (.pointer (some ⟨B, 0, none⟩)) (some (.int .i64 a)) none none).run Tryd.prog W = .ok (.slice (some ⟨B, a, none⟩) (64 - a) (64 - a)) W := by
  have hl : Tryd.prog.arrayLen 65 = 64 := by kernel_rfl
  rw [run_sliceAt_array_l W 65 ⟨B, 0, none⟩ (by kernel_rfl) .i64 (a : Int) (by omega) (by rw [hl]; omega), hl]
  have hs : (sizeOf (Tryd.prog.elem 65)).run Tryd.prog W = .ok 1 W := by kernel_rfl
  rw [hs]
  show Result.ok (slicedAt ⟨B, 0, none⟩ (a : Int).toNat 64 64 1) W = _
  unfold slicedAt
  rw [Int.toNat_natCast, if_neg (by omega)]
  simp [Addr.add]
  intro h
  exact h.symm
theorem Tail.hasB {w : World} {B a : Nat} {l : List UInt8} (h : Tail w B a l) : HasB w (some ⟨B, a + 1, none⟩) ⟨l.toArray⟩ := by
  obtain ⟨cs, ty, hr, -, -, ht⟩ := h
  refine .inr ⟨B, a + 1, rfl, fun i hi => ?_, row_lt hr⟩
  have := row_cell hr (ht i hi)
  rw [this]
  rfl
/-- One more digit. -/
theorem Tail.more {w : World} {B a : Nat} {l : List UInt8} (h : Tail w B (a + 1) l) (c : UInt8) : Tail (w.setCell ⟨B, a + 1, none⟩ (.int .u8 c.toNat)) B a (c :: l) := by
  obtain ⟨cs, ty, hr, hs, hl, ht⟩ := h
  refine ⟨_, _, row_set hr (a + 1) _, by simpa using hs, by simp only [List.length_cons]; omega, fun t ht' => ?_⟩
  cases t with
  | zero =>
    rw [Nat.add_zero, Array.getElem?_setIfInBounds_self_of_lt (by omega)]
    rfl
  | succ t =>
    have := ht t (by simpa using ht')
    rw [Array.getElem?_setIfInBounds_ne (by omega), show a + 1 + (t + 1) = a + 1 + 1 + t by omega, this]
    rfl
set_option maxHeartbeats 1000000 in
set_option maxRecDepth 100000 in
theorem Base10_any (n : Nat) (hn : n < 18446744073709551616) (w : World) :
    Calls Tryd.prog 17 #[.int .u64 n, .int .i64 10, .bool false] w fun e w' => e = .returned (.string ⟨(decs n).toArray⟩) ∧ Below w.heap.size w w' := by
  have hlen : (decs n).length ≤ 20 := decs_len 19 n (by omega)
  obtain ⟨Post, hPost⟩ : ∃ Post : Ending → World → Prop, Post = fun e w' => e = .returned (.string ⟨(decs n).toArray⟩) ∧ Below w.heap.size w w' := ⟨_, rfl⟩
  rw [← hPost]
  have hP := Lib.hid hPost
  clear hPost
  go_enter Tryd.func17, Tryd.ntmps17
  go_wp2_with fail
  generalize hW : World.alloc _ _ = W
  have hT' : Tail W w.heap.size 63 [] := by rw [← hW]; exact ⟨_, _, heap_alloc_new w _, by rfl, rfl, fun t h => absurd h (by simp)⟩
  have hbW : Below w.heap.size w W := hW ▸ (Below.refl _ _).alloc (Nat.le_refl _) _
  clear hW
  go_loopw [0, 9] (fun n0 i wr => ∃ (m a : Nat) (suf : List UInt8), n0 = .int .u64 m ∧ i = .int .i64 ((a : Int) + 1) ∧ m ≤ n ∧ (decs m).length + suf.length ≤ 20 ∧ decs n = decs m ++ suf ∧ Tail wr w.heap.size a suf ∧ Below w.heap.size w wr) (fun n0 _ _ => (intOf n0).toNat)
  case atStart => exact ⟨n, 63, [], rfl, rfl, Nat.le_refl _, by simpa using hlen, by simp, hT', hbW⟩
  case round =>
    obtain ⟨m, a, suf, rfl, rfl, hmn, hle, hdec, ⟨cs, ty, hrow, hsz, hal, hat⟩, hb⟩ := hrel
    obtain ⟨d, hd⟩ : ∃ d : Nat, d = m % 10 := ⟨_, rfl⟩
    obtain ⟨q, hqd⟩ : ∃ q : Nat, q = m / 10 := ⟨_, rfl⟩
    have hr : (m : Int) % 10 = (d : Int) := by omega
    have hq : (m : Int) / 10 = (q : Int) := by omega
    have h10 : d < 10 := by omega
    have h16 : d < 16 := by omega
    have hdl : 0 < (decs m).length := List.length_pos_iff.2 (decs_ne m)
    have ha63 : a < 64 := by omega
    have haI : 0 ≤ (a : Int) ∧ (a : Int) < 64 := by omega
    have hmI : 0 ≤ (m : Int) ∧ (m : Int) < 18446744073709551616 := by omega
    obtain ⟨b, hba⟩ : ∃ b, a = b + 1 := ⟨a - 1, by omega⟩
    obtain ⟨old, hold⟩ : ∃ o, wr.cell? ⟨w.heap.size, a, none⟩ = some o := ⟨cs[a]'(by omega), row_cell hrow (Array.getElem?_eq_getElem (by omega))⟩
    have hfz := row_free hrow a
    have hr' := Lib.hid hr
    have hq' := Lib.hid hq
    have hdg : (⟨#[48, 49, 50, 51, 52, 53, 54, 55, 56, 57, 97, 98, 99, 100, 101, 102]⟩ : ByteArray)[d]'h16 = UInt8.ofNat (48 + d) := (dig_get d _).trans (dig_dec h10)
    obtain ⟨c, hcd⟩ : ∃ c, c = UInt8.ofNat (48 + d) := ⟨_, rfl⟩
    rw [← hcd] at hdg
    have hdn : decs m = if m < 10 then [c] else decs q ++ [c] := by
      by_cases hm : m < 10
      · rw [if_pos hm, decs_lo hm, hcd, hd, Nat.mod_eq_of_lt hm]
      · rw [if_neg hm, decs_hi hm, hcd, hd, hqd]
    have hmore : Tail (wr.setCell ⟨w.heap.size, a, none⟩ (.int .u8 ((⟨#[48, 49, 50, 51, 52, 53, 54, 55, 56, 57, 97, 98, 99, 100, 101, 102]⟩ : ByteArray)[d]'h16).toNat)) w.heap.size b (c :: suf) := by
      rw [hdg]
      subst hba
      exact Tail.more ⟨cs, ty, hrow, hsz, hal, hat⟩ _
    have hcl : (c :: suf).length = 64 - a := by simp only [List.length_cons]; omega
    have hcv : (convert 32 9 (.slice (some ⟨w.heap.size, a, none⟩) (64 - a) (64 - a))).run Tryd.prog (wr.setCell ⟨w.heap.size, a, none⟩ (.int .u8 ((⟨#[48, 49, 50, 51, 52, 53, 54, 55, 56, 57, 97, 98, 99, 100, 101, 102]⟩ : ByteArray)[d]'h16).toNat)) = .ok (.string ⟨(c :: suf).toArray⟩) (wr.setCell ⟨w.heap.size, a, none⟩ (.int .u8 ((⟨#[48, 49, 50, 51, 52, 53, 54, 55, 56, 57, 97, 98, 99, 100, 101, 102]⟩ : ByteArray)[d]'h16).toNat)) := by
      have hB := hmore.hasB
      rw [← hba] at hB
      have h := conv_any (some ⟨w.heap.size, a, none⟩) (64 - a) _ _ hB
      rw [show (⟨(c :: suf).toArray⟩ : ByteArray).size = 64 - a from by show (c :: suf).toArray.size = _; rw [List.size_toArray]; exact hcl] at h
      exact h
    have hbn : Below w.heap.size w (wr.setCell ⟨w.heap.size, a, none⟩ (.int .u8 ((⟨#[48, 49, 50, 51, 52, 53, 54, 55, 56, 57, 97, 98, 99, 100, 101, 102]⟩ : ByteArray)[d]'h16).toNat)) := hb.grown (setCell_grown wr w.heap.size a _) hb.size (fun k hk => by cases hk; exact Nat.le_refl _)
    have hmore' := Lib.hid hmore
    have hcv' := Lib.hid hcv
    have hbn' := Lib.hid hbn
    have hdn' := Lib.hid hdn
    have hqs : ¬ m < 10 → q < m := by omega
    have hqn : q ≤ m := by omega
    have hba' := Lib.hid hba
    clear hmore hcv hbn hdn hdg hba hcl hcd
    by_cases hm : m < 10
    · have hq0 : (m : Int) / 10 = 0 := by omega
      clear hr hq hd hqd
      go_wp2_with (first | rw [hr'.out] | rw [slice64 _ _ ha63] | rw [hcv'.out])
      rw [hP.out]
      refine ⟨?_, hbn'.out⟩
      rw [hdec, hdn'.out, if_pos hm]
      rfl
    · have hq0 : ¬ (q : Int) = 0 := by omega
      clear hr hq hd hqd
      go_wp2_with (first | rw [hr'.out] | rw [hq'.out])
      case roundEnd =>
        have hl := hdn'.out
        rw [if_neg hm] at hl
        refine ⟨⟨q, b, c :: suf, rfl, ?_, by omega, ?_, ?_, hmore'.out, hbn'.out⟩, ?_⟩
        · rw [hba'.out]; rfl
        · rw [hl] at hle; simp only [List.length_append, List.length_singleton] at hle; simp only [List.length_cons]; omega
        · rw [hdec, hl]; simp
        · simp [intOf]; omega
theorem Text10_any (n : Int) (h1 : -9223372036854775808 ≤ n) (h2 : n ≤ 9223372036854775807) (w : World) :
    Calls Tryd.prog 8 #[.int .i64 n] w fun e w' => e = .returned (.string ⟨(txt10 n).toArray⟩) ∧ Below w.heap.size w w' := by
  have hB := Lib.hid (Base10_any n.natAbs (by omega) w)
  by_cases hn : n < 0
  · have hw : IntKind.u64.wrap (-IntKind.u64.wrap n) = ((n.natAbs : Nat) : Int) := by
      show (-(n % 18446744073709551616)) % 18446744073709551616 = _
      omega
    have ht : txt10 n = 45 :: decs n.natAbs := by unfold txt10; rw [if_pos hn]
    rw [ht]
    go_enter Tryd.func8, Tryd.ntmps8
    go_wp2_with fail
    refine hB.out.mono ?_
    rintro e w1 ⟨rfl, b1⟩
    have hll := decs_len 19 n.natAbs (by omega)
    have hlx : ¬ 9223372036854775807 < 1 + (decs n.natAbs).length := by omega
    go_wp2_with fail
    go_ret
    refine ⟨?_, b1⟩
    show Ending.returned (.string (⟨#[45]⟩ ++ ⟨(decs n.natAbs).toArray⟩)) = _
    rw [show ((⟨#[45]⟩ : ByteArray) ++ ⟨(decs n.natAbs).toArray⟩) = ⟨(45 :: decs n.natAbs).toArray⟩ from by
      apply ByteArray.ext
      rw [ByteArray.data_append]
      simp]
  · have hw : n = ((n.natAbs : Nat) : Int) := by omega
    have ht : txt10 n = decs n.natAbs := by unfold txt10; rw [if_neg hn]
    rw [ht]
    generalize n.natAbs = q at hB hw
    subst hw
    go_enter Tryd.func8, Tryd.ntmps8
    go_wp2_with fail
    refine hB.out.mono ?_
    rintro e w1 ⟨rfl, b1⟩
    go_wp2_with fail
    go_ret
    exact ⟨rfl, b1⟩
end Go.Proofs.YtfnaooplpofgiaaDoor
