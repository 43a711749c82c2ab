/- pidginref5.item at a class's name, and at every item. Conditions: the bytes lie in memory; the place is within them. -/
import Derived.Test.YteeopjgfiojoiaaDoorRItem
import Derived.WalkMore
import Derived.Handy
import Derived.Outline
namespace Go.Proofs.YteeopjgfiojoiaaDoor
open Go Go.RowKit SN

theorem name_run (b o cap i k : Nat) (s : ByteArray) (hik : i + 2 ≤ k) (hk : k < s.size) (hcap : s.size ≤ cap) (W : World) : (Instr.slice 36 (.slice (some ⟨b, o, none⟩) s.size cap) (some (.int .i64 ((i : Int) + 2))) (some (.int .i64 (k : Int))) none).run Tryd.prog W = .ok (.slice (some ⟨b, o + (i + 2), none⟩) (k - (i + 2)) (cap - (i + 2))) W := by
  have hz : ∀ w, (Go.sizeOf (Tryd.prog.elem 36)).run Tryd.prog w = .ok 1 w := fun _ => by kernel_rfl
  have ht : Tryd.prog.underlying 36 = some (.slice (Tryd.prog.elem 36)) := by kernel_rfl
  rw [run_slice_lh W 36 _ _ _ ht .i64 .i64 _ _ (by omega) (by omega) (by omega), hz]
  have hne : ¬ cap = i + 2 := by omega
  have e3 : ((i : Int) + 2).toNat = i + 2 := by omega
  simp [Result.andThen, sliced, Addr.add, hne, e3]
def nameL (s : ByteArray) (i k : Nat) : List UInt8 := (s.data.toList.drop (i + 2)).take (k - (i + 2))
theorem name_conv (b o cap i k : Nat) (s : ByteArray) (hik : i + 2 ≤ k) (hk : k < s.size) (W : World) (hS : HasB W (some ⟨b, o, none⟩) s) :
    (convert 36 9 (.slice (some ⟨b, o + (i + 2), none⟩) (k - (i + 2)) (cap - (i + 2)))).run Tryd.prog W = .ok (.string ⟨(nameL s i k).toArray⟩) W := by
  have hl : k - (i + 2) = (nameL s i k).length := by simp [nameL]; omega
  rw [hl]
  refine run_convert_bytes_back (P := Tryd.prog) W 36 9 5 ⟨b, o + (i + 2), none⟩ (cap - (i + 2)) (nameL s i k) Tryd.underlying36 Tryd.underlying5 Tryd.underlying9 fun j hj => ?_
  have hj' : i + 2 + j < k := by omega
  obtain ⟨b', o', e, hc, -⟩ := hasB_at hS (i := i + 2 + j) (by omega)
  cases e
  have e2 : (⟨b, o + (i + 2), none⟩ : Addr).add j = ⟨b, o + (i + 2 + j), none⟩ := by unfold Addr.add; split <;> simp <;> omega
  rw [e2, hc]
  simp [nameL, ByteArray.getElem_eq_getElem_data]
set_option maxHeartbeats 4000000 in
set_option maxRecDepth 100000 in
/-- A class, or what should have been one. -/
theorem r5item_cls (p : Option Addr) (cap i : Nat) (lang : Int) (s : ByteArray) (w : World) (hS : HasB w p s) (hs : s.size < 2 ^ 61) (hi : i < s.size) (hcap : s.size ≤ cap)
    (h1 : (((s[i]).toNat : Int) == 91) = true) (hi1 : i + 1 < s.size) (h4 : (((s[i + 1]).toNat : Int) == 46) = false) (h5 : (((s[i + 1]).toNat : Int) == 61) = false) (h6 : (((s[i + 1]).toNat : Int) == 58) = true) :
    Calls Tryd.prog 67 #[.slice p s.size cap, .int .i64 i, .int .i64 lang] w fun e w' => e = .returned (itV i (itemCls s.data.toList i)) ∧ Below w.heap.size w w' := by
  have hS' := Lib.hid hS
  obtain ⟨b, o, rfl, hl, hc⟩ := cell_at hS hi
  have hci := hc i hi
  have hci1 := hc (i + 1) hi1
  have hc' := Lib.hid hc
  clear hc hS
  have hx := (s[i]).toNat_lt
  have hx1 := (s[i + 1]).toNat_lt
  have hlt : decide ((i : Int) + 1 < (s.size : Int)) = true := by simp; omega
  obtain ⟨R, hR⟩ : ∃ R, R = itemCls s.data.toList i := ⟨_, rfl⟩
  rw [← hR]
  have hR' := Lib.hid hR
  clear hR
  generalize (s[i]).toNat = c at *
  generalize (s[i + 1]).toNat = d at *
  have hb1 := (Below.refl w.heap.size w).alloc (Nat.le_refl _) (.cells #[.int .u64 0, .int .u64 0, .int .u64 0, .int .u64 0] 24)
  have hb1' := Lib.hid hb1
  have hz := IsSet.zero 24 w
  have hz' := Lib.hid hz
  clear hb1 hz
  go_enter Tryd.func67, Tryd.ntmps67
  go_wp2_with fail
  clear hci hci1
  go_loop [12] (fun v => ∃ k : Nat, k ≤ s.size + 1 ∧ v = .int .i64 k ∧ NoEnd s.data.toList i k) (fun v => s.size + 1 - (intOf v).toNat)
  case atStart => exact ⟨i + 2, by omega, by go_num, NoEnd.start _ _⟩
  case round =>
    obtain ⟨k, hk, rfl, hno⟩ := hrel
    have hik := hno.1
    have hno' := Lib.hid hno
    clear hno
    by_cases hlt2 : k + 1 < s.size
    · have hc0 := hc'.out k (by omega)
      have hc1 := hc'.out (k + 1) hlt2
      have il0 := isL_s s k (by omega) 58
      have il1 := isL_s s (k + 1) hlt2 93
      have hy0 := (s[k]).toNat_lt
      have hy1 := (s[k + 1]).toNat_lt
      generalize (s[k]).toNat = x at *
      generalize (s[k + 1]).toNat = y at *
      have hd : decide ((k : Int) + 1 < (s.size : Int)) = true := by simp; omega
      by_cases hit : (x : Int) = 58 ∧ (y : Int) = 93
      · obtain ⟨e0, e1⟩ := hit
        have hh := hno'.out.hit (by rw [il0]; simp [e0]) (by rw [il1]; simp [e1])
        rw [← hR'.out] at hh
        have hh' := Lib.hid hh
        clear hh il0 il1
        have g0 : ((x : Int) == 58) = true := by simp [e0]
        have g1 : ((y : Int) == 93) = true := by simp [e1]
        clear e0 e1
        have hrun := name_run b o cap i k s hik (by omega) hcap
        have hcv := name_conv b o cap i k s hik (by omega) _ (hS'.out.alloc (.cells #[.int .u64 0, .int .u64 0, .int .u64 0, .int .u64 0] 24))
        have hik2 : (i : Int) + 2 ≤ (k : Int) := by omega
        go_wp2_with fail
        refine (r5Class_any ⟨(nameL s i k).toArray⟩ _).mono ?_
        rintro e w1 ⟨rfl, b1⟩
        have hnm : (⟨(nameL s i k).toArray⟩ : ByteArray).data.toList = nameL s i k := rfl
        rw [hnm]
        have hO1 := hz'.out.below b1 (by simp)
        have y1 := Lib.hid (hb1'.out.trans (b1.mono (by simp)))
        have z1 := b1.size
        rw [World.size_alloc] at z1
        have hO1' := Lib.hid hO1
        clear hO1 b1 hnm hc0 hc1
        have hh2 : R = (match cls (nameL s i k) with | some S => It.cls S (k + 2) | none => .err 8 i) := hh'.out
        cases hcl : cls (nameL s i k) with
        | none =>
          rw [hcl] at hh2
          subst hh2
          have hcl' := Lib.hid hcl
          clear hcl
          go_wp2_with (first | (refine store_set rfl rfl _ _ rfl _ 0 rfl rfl ⟨0, IsSet.zero' _ _ _ rfl⟩ ?_; intro w4 hX4 g4 z4))
          have b4 : Below w1.heap.size w1 w4 := Below.viaG1 g4 ((Below.refl _ _).alloc (Nat.le_refl _) _) (by simp) (Nat.le_refl _)
          have hO4 := hO1'.out.below b4 (by omega)
          have y4 := Lib.hid (y1.out.trans (b4.mono (by omega)))
          obtain ⟨⟨x0, x1, x2, x3⟩, ⟨xf0, xf1, xf2, xf3⟩, xl⟩ := hX4.all
          obtain ⟨⟨o0, o1, o2, o3⟩, ⟨of0, of1, of2, of3⟩, ol⟩ := hO4.all
          have n1 : ¬ w.heap.size = w1.heap.size := by omega
          have hX4' := Lib.hid hX4
          have hO4' := Lib.hid hO4
          clear b4 g4 hX4 hO4
          go_region
          all_goals
            go_wp2_with fail
            have y4o := y4.out
            have hlw : w.heap.size ≤ w.heap.size := Nat.le_refl _
            refine ret_set5 rfl rfl rfl rfl rfl rfl rfl (by first | exact hO4'.out.store4 0 | exact IsSet.drew (hO4'.out.store4 0)) ⟨by simp [itV], by (repeat' (first | (with_reducible assumption) | (with_reducible exact Below.refl _ _) | (with_reducible apply Below.viaG1; with_reducible assumption) | (with_reducible apply Below.viaB; with_reducible assumption) | (with_reducible apply Below.alloc) | (with_reducible apply Below.drew) | (with_reducible apply Below.setCell) | (dsimp only; omega) | omega | (simp only [World.size_alloc]; omega) | (simp; omega) | (simp; done)))⟩
        | some S =>
          rw [hcl] at hh2
          subst hh2
          have hcl' := Lib.hid hcl
          clear hcl
          go_wp2_with (first | (refine store_set rfl rfl _ _ rfl _ S rfl rfl ⟨0, IsSet.zero' _ _ _ rfl⟩ ?_; intro w4 hX4 g4 z4))
          have b4 : Below w1.heap.size w1 w4 := Below.viaG1 g4 ((Below.refl _ _).alloc (Nat.le_refl _) _) (by simp) (Nat.le_refl _)
          have hO4 := hO1'.out.below b4 (by omega)
          have y4 := Lib.hid (y1.out.trans (b4.mono (by omega)))
          obtain ⟨⟨x0, x1, x2, x3⟩, ⟨xf0, xf1, xf2, xf3⟩, xl⟩ := hX4.all
          obtain ⟨⟨o0, o1, o2, o3⟩, ⟨of0, of1, of2, of3⟩, ol⟩ := hO4.all
          have n1 : ¬ w.heap.size = w1.heap.size := by omega
          have hX4' := Lib.hid hX4
          have hO4' := Lib.hid hO4
          clear b4 g4 hX4 hO4
          go_region
          all_goals
            go_wp2_with fail
            have y4o := y4.out
            have hlw : w.heap.size ≤ w.heap.size := Nat.le_refl _
            refine ret_set5 rfl rfl rfl rfl rfl rfl rfl (by first | exact hO4'.out.store4 S | exact IsSet.drew (hO4'.out.store4 S)) ⟨by simp [itV], by (repeat' (first | (with_reducible assumption) | (with_reducible exact Below.refl _ _) | (with_reducible apply Below.viaG1; with_reducible assumption) | (with_reducible apply Below.viaB; with_reducible assumption) | (with_reducible apply Below.alloc) | (with_reducible apply Below.drew) | (with_reducible apply Below.setCell) | (dsimp only; omega) | omega | (simp only [World.size_alloc]; omega) | (simp; omega) | (simp; done)))⟩
      · have hne : ((x : Int) == 58) = false ∨ (((x : Int) == 58) = true ∧ ((y : Int) == 93) = false) := by
          by_cases e0 : (x : Int) = 58
          · exact .inr ⟨by simpa using e0, by simpa using fun e1 => hit ⟨e0, e1⟩⟩
          · exact .inl (by simpa using e0)
        have hn2 := hno'.out.step (by rw [il0, il1]; rcases hne with h | ⟨h, h'⟩ <;> simp [*])
        have hn2' := Lib.hid hn2
        clear hn2 hit il0 il1
        rcases hne with g0 | ⟨g0, g1⟩
        all_goals
          go_wp2_with fail
          go_round
          case rel => exact ⟨k + 1, by omega, by go_num, hn2'.out⟩
          case measure => simp [intOf]; omega
    · have hd : decide ((k : Int) + 1 < (s.size : Int)) = false := by simp; omega
      have hh := hno'.out.miss (by simp; omega)
      rw [← hR'.out] at hh
      subst hh
      go_wp2_with (refine store_set rfl rfl _ _ rfl _ 0 rfl rfl ?_ ?_; (focus (apply Exists.intro; (repeat' (first | (with_reducible assumption) | (with_reducible apply IsSet.zero'; first | (with_reducible rfl) | (simp only [World.size_alloc]; done)) | (with_reducible apply IsSet.new'; first | (with_reducible rfl) | (simp only [World.size_alloc]; done)) | (with_reducible apply IsSet.sv; first | (with_reducible rfl) | (simp only [World.size_alloc]; done)) | (with_reducible apply IsSet.viaG; with_reducible assumption) | (with_reducible apply IsSet.viaB; with_reducible assumption) | (with_reducible apply IsSet.drew) | (with_reducible apply IsSet.store4) | (with_reducible apply IsSet.set_other) | (with_reducible apply IsSet.alloc) | (simp only [World.size_alloc]; omega) | omega | (simp; omega) | (simp; done))); done)); intro wX hX gX zX; (try simp only [World.size_alloc] at zX))
      refine ret_set5 rfl rfl rfl rfl rfl rfl rfl hX ⟨by simp [itV], ?_⟩
      exact hb1'.out.grown gX (by simp) (fun j hj => by cases hj; exact Nat.le_refl _)
end Go.Proofs.YteeopjgfiojoiaaDoor
