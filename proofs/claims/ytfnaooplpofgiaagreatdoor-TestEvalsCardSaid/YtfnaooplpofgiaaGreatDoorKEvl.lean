/- test's eval of two and of three operands, test.Eval of a row of them. Conditions: the operands lie in memory, none longer than 1024 bytes, no more than 64. -/
import Derived.Test.YtfnaooplpofgiaaGreatDoorKEv
import Derived.WalkMore
import Derived.OwnWalk
import Derived.Handy
import Derived.Outline
namespace Go.Proofs.YtfnaooplpofgiaaGreatDoor
open Go Go.RowKit SN

set_option maxHeartbeats 1000000 in
set_option maxRecDepth 100000 in
theorem eval3_ok (b f c : Nat) (tv : Value) (s0 s1 s2 : ByteArray) (x : Bool) (p : Value → World → Prop) (hp : ∀ v W W', p v W → Below W.heap.size W W' → p v W') (w : World) (hb : b < w.heap.size)
    (c0 : w.cell? ⟨b, f + 0, none⟩ = some (.string s0)) (c1 : w.cell? ⟨b, f + 1, none⟩ = some (.string s1)) (c2 : w.cell? ⟨b, f + 2, none⟩ = some (.string s2))
    (hC : ∀ W, Below w.heap.size w W → Calls Tryz.prog 31 #[.string s0, .string s1, .string s2] W fun e w' => ∃ v, e = .returned (.tuple #[.bool x, .bool true, v]) ∧ p v w' ∧ Below W.heap.size W w') :
    Calls Tryz.prog 15 #[.slice (some ⟨b, f, none⟩) 3 c, tv] w fun e w' => ∃ v, e = .returned (.tuple #[.bool x, v]) ∧ p v w' ∧ Below w.heap.size w w' := by
  have hC' := Lib.hid hC
  have c0' := Lib.hid c0
  have c1' := Lib.hid c1
  have c2' := Lib.hid c2
  have hp' := Lib.hid hp
  clear hC c0 c1 c2 hp
  go_enter Tryz.func15, Tryz.ntmps15
  go_wp2_with fail
  refine wp_region_swap (o' := regionOps Tryz.f15 14) (by kernel_rfl) ?_
  refine ev14_wp (base := w.heap.size) (b := b) (f := f) (n := 3) (c := c) (s0 := s0) (s1 := s1) (s2 := s2) (x := x) (y := true) (p := p) hp'.out
    ⟨by rfl, by rfl, Nat.le_refl _, hb, c0'.out, c1'.out, c2'.out, fun W hW _ => hC'.out W hW⟩ (Nat.le_refl _) ?_
  intro u W e14 e15 e16 bW hW
  have bW' := Lib.hid bW
  have e16' := Lib.hid e16
  clear bW e16
  rw [ev14_plan]
  simp only [putL, Act.put, List.setIfInBounds_toArray, List.set_cons_succ, List.set_cons_zero, e14, e15]
  go_wp2_with fail
  go_ret2
  exact ⟨_, rfl, e16'.out, bW'.out⟩
set_option maxHeartbeats 1000000 in
set_option maxRecDepth 100000 in
theorem eval2_ok (b f c : Nat) (tv : Value) (s0 s1 : ByteArray) (x : Bool) (w : World) (hb : b < w.heap.size) (h33 : (s0.toList == [33]) = false)
    (c0 : w.cell? ⟨b, f + 0, none⟩ = some (.string s0)) (c1 : w.cell? ⟨b, f + 1, none⟩ = some (.string s1))
    (hC : ∀ W, Below w.heap.size w W → w.heap.size ≤ W.heap.size → Calls Tryz.prog 30 #[.string s0, .string s1, tv] W fun e w' => e = .returned (.tuple #[.bool x, .bool true]) ∧ Below W.heap.size W w') :
    Calls Tryz.prog 15 #[.slice (some ⟨b, f, none⟩) 2 c, tv] w fun e w' => e = .returned (.tuple #[.bool x, .nilIface]) ∧ Below w.heap.size w w' := by
  have hC' := Lib.hid hC
  have c0' := Lib.hid c0
  have c1' := Lib.hid c1
  have c00 : w.cell? ⟨b, f, none⟩ = some (.string s0) := c0
  clear hC c0 c1
  go_enter Tryz.func15, Tryz.ntmps15
  go_wp2_with fail
  refine wp_region_swap (o' := regionOps Tryz.f15 9) (by kernel_rfl) ?_
  refine ev9_wp (base := w.heap.size) (b := b) (f := f) (n := 2) (c := c) (tv := tv) (s0 := s0) (s1 := s1) (x := x) (y := true)
    ⟨by rfl, by rfl, by rfl, Nat.le_refl _, hb, c0'.out, c1'.out, fun W hW h2 => hC'.out W hW h2⟩ (Nat.le_refl _) ?_
  intro u W e11 e12 bW hW
  have bW' := Lib.hid bW
  clear bW
  rw [ev9_plan]
  simp only [putL, Act.put, List.setIfInBounds_toArray, List.set_cons_succ, List.set_cons_zero, e11, e12]
  go_wp2_with fail
  go_ret2
  exact ⟨rfl, bW'.out⟩
/-- A row of texts in memory. -/
def IsRw (w : World) (b : Nat) (l : List ByteArray) : Prop := b < w.heap.size ∧ ∀ i s, l[i]? = some s → w.cell? ⟨b, i, none⟩ = some (.string s)
set_option maxHeartbeats 1000000 in
set_option maxRecDepth 100000 in
/-- test.Eval, where eval tells no error. -/
theorem Eval_ok (b c : Nat) (tv : Value) (l : List ByteArray) (x : Bool) (w : World) (hR : IsRw w b l) (hl : l.length ≤ 64) (hs : ∀ s ∈ l, s.size ≤ 1024)
    (hC : Calls Tryz.prog 15 #[.slice (some ⟨b, 0, none⟩) l.length c, tv] w fun e w' => e = .returned (.tuple #[.bool x, .nilIface]) ∧ Below w.heap.size w w') :
    Calls Tryz.prog 7 #[.slice (some ⟨b, 0, none⟩) l.length c, tv] w fun e w' => e = .returned (.tuple #[.bool x, .nilIface]) ∧ Below w.heap.size w w' := by
  have hC' := Lib.hid hC
  have hR' := Lib.hid hR
  have hs' := Lib.hid hs
  have hlI : ¬ (64 : Int) < (l.length : Int) := by omega
  clear hC hR hs
  obtain ⟨Post, hPost⟩ : ∃ Post : Ending → World → Prop, Post = fun e w' => e = .returned (.tuple #[.bool x, .nilIface]) ∧ Below w.heap.size w w' := ⟨_, rfl⟩
  rw [← hPost]
  have hP := Lib.hid hPost
  clear hPost
  go_enter Tryz.func7, Tryz.ntmps7
  go_wp2_with fail
  go_loopw [19] (fun i wr => ∃ (k : Nat), k ≤ l.length ∧ i = .int .i64 k ∧ wr = w) (fun i _ => l.length - (intOf i).toNat)
  case atStart => exact ⟨0, Nat.zero_le _, rfl, rfl⟩
  case round =>
    obtain ⟨k, hk, rfl, rfl⟩ := hrel
    by_cases hkk : k < l.length
    · have hld := hR'.out.2 k l[k] (List.getElem?_eq_getElem hkk)
      have hsz := hs'.out l[k] (List.getElem_mem hkk)
      generalize l[k] = sk at hld hsz
      have hszI : ¬ (1024 : Int) < (sk.size : Int) := by omega
      have hkI : (k : Int) < (l.length : Int) := by omega
      go_wp2_with fail
      case roundEnd =>
        refine ⟨⟨k + 1, by omega, rfl, trivial⟩, ?_⟩
        simp [intOf]; omega
    · have hke : k = l.length := by omega
      subst hke
      go_wp2_with fail
      refine hC'.out.mono ?_
      rintro e w1 ⟨rfl, b1⟩
      have b1' := Lib.hid b1
      clear b1
      go_wp2_with fail
      rw [hP.out]
      exact ⟨rfl, b1'.out⟩
end Go.Proofs.YtfnaooplpofgiaaGreatDoor
