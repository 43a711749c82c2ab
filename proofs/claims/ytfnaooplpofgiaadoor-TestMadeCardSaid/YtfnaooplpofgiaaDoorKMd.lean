/- (*tree.Tree).Mkdir and Write where the path leads to no free name; Remove of the one entry there is. Conditions: the tree lies in memory, and the errors' variables. -/
import Derived.Test.YtfnaooplpofgiaaDoorKTp
import Derived.WalkMore
import Derived.OwnWalk
import Derived.Handy
import Derived.Outline
namespace Go.Proofs.YtfnaooplpofgiaaDoor
open Go Go.RowKit SN

variable {w w' : World} {base t r : Nat} {T : Nat → Option Nd} {cnt : Nat}
set_option maxHeartbeats 1000000 in
set_option maxRecDepth 100000 in
theorem mkdir_err {E : Nat → Addr} (tv : Value) (s : ByteArray) (c : Nat) (w : World) (hF : Calls Tryd.prog 18 #[tv, .string s] w (FindR E w (.inl c))) :
    Calls Tryd.prog 11 #[tv, .string s] w fun e w' => ∃ u, e = .returned (.iface 81 u) ∧ Below w.heap.size w w' := by
  have hF' := Lib.hid hF
  clear hF
  go_enter Tryd.func11, Tryd.ntmps11
  go_wp2_with fail
  refine hF'.out.mono ?_
  rintro e w1 ⟨b1, v, rfl, S, P, rfl, -, -⟩
  have b1' := Lib.hid b1
  have z1 := b1.size
  clear b1
  have hq := Lib.hid (zSp w1)
  go_wp2_with (refine store_sp rfl rfl _ _ rfl _ none none none none ⟨#[]⟩ ⟨#[]⟩ rfl rfl hq.out ?_; intro w2 h2 g2 z2)
  go_ret
  exact ⟨_, rfl, (b1'.out.alloc z1 _).grown g2 (by simp; omega) (fun k hk => by cases hk; exact z1)⟩
set_option maxHeartbeats 1000000 in
set_option maxRecDepth 100000 in
theorem mkdir_there {N : Nat} {E : Nat → Addr} (tv : Value) (s nm : ByteArray) (a : Option Addr) (b : Addr) (w : World) (hE : Errs N E w) (hN : N ≤ w.heap.size) (hF : Calls Tryd.prog 18 #[tv, .string s] w fun e w' => Below w.heap.size w w' ∧ e = .returned (.tuple #[.agg (spC a nm (some b)), .nilIface])) :
    Calls Tryd.prog 11 #[tv, .string s] w fun e w' => ∃ u, e = .returned (.iface 81 u) ∧ Below w.heap.size w w' := by
  have hF' := Lib.hid hF
  have hE' := Lib.hid hE
  clear hF hE
  go_enter Tryd.func11, Tryd.ntmps11
  go_wp2_with fail
  refine hF'.out.mono ?_
  rintro e w1 ⟨b1, rfl⟩
  have b1' := Lib.hid b1
  have z1 := b1.size
  clear b1
  have hq := Lib.hid (zSp w1)
  go_wp2_with (refine store_sp rfl rfl _ _ rfl _ a (some b) none none nm ⟨#[]⟩ rfl rfl hq.out ?_; intro w2 h2 g2 z2; have q2 : w2.cell? ⟨w1.heap.size, 2, none⟩ = some (.pointer (some b)) := row_cell h2 rfl)
  have b2 := Lib.hid ((b1'.out.alloc z1 (.cells #[.pointer none, .string ⟨#[]⟩, .pointer none] 51)).grown g2 (by simp; omega) (fun k hk => by cases hk; exact z1))
  have z2' : w1.heap.size ≤ w2.heap.size := by rw [z2]; simp
  clear g2 z2 h2
  refine (tfail_any _ (hE'.out.below b2.out hN) 18 (by decide) (by decide)).mono ?_
  rintro e w3 ⟨v, rfl, ⟨S, P, rfl, -, -⟩, b3⟩
  have bb3 := b2.out.trans (b3.mono (by omega))
  clear b3
  go_wp2_with fail
  go_ret
  exact ⟨_, rfl, bb3⟩
set_option maxHeartbeats 1000000 in
set_option maxRecDepth 100000 in
theorem put_err {E : Nat → Addr} (tv dv : Value) (s : ByteArray) (c : Nat) (w : World) (hF : Calls Tryd.prog 18 #[tv, .string s] w (FindR E w (.inl c))) :
    Calls Tryd.prog 21 #[tv, .string s, dv, .bool false] w fun e w' => ∃ u, e = .returned (.tuple #[.pointer none, .iface 81 u]) ∧ Below w.heap.size w w' := by
  have hF' := Lib.hid hF
  clear hF
  go_enter Tryd.func21, Tryd.ntmps21
  go_wp2_with fail
  refine hF'.out.mono ?_
  rintro e w1 ⟨b1, v, rfl, S, P, rfl, -, -⟩
  have b1' := Lib.hid b1
  have z1 := b1.size
  clear b1
  have hq := Lib.hid (zSp w1)
  go_wp2_with (refine store_sp rfl rfl _ _ rfl _ none none none none ⟨#[]⟩ ⟨#[]⟩ rfl rfl hq.out ?_; intro w2 h2 g2 z2)
  go_ret2
  exact ⟨_, rfl, (b1'.out.alloc z1 _).grown g2 (by simp; omega) (fun k hk => by cases hk; exact z1)⟩
set_option maxHeartbeats 1000000 in
set_option maxRecDepth 100000 in
theorem put_dir {N : Nat} {E : Nat → Addr} (dv : Value) (s nm : ByteArray) (a : Option Addr) {B : Nat} {nd : Nd} (w : World) (hE : Errs N E w) (hN : N ≤ w.heap.size) (hTr : IsTr w t r T) (hB : T B = some nd) (hd : nd.dir = true)
    (hF : Calls Tryd.prog 18 #[.pointer (some ⟨t, 0, none⟩), .string s] w fun e w' => Below w.heap.size w w' ∧ e = .returned (.tuple #[.agg (spC a nm (some ⟨B, 0, none⟩)), .nilIface])) :
    Calls Tryd.prog 21 #[.pointer (some ⟨t, 0, none⟩), .string s, dv, .bool false] w fun e w' => ∃ u, e = .returned (.tuple #[.pointer none, .iface 81 u]) ∧ Below w.heap.size w w' := by
  have hF' := Lib.hid hF
  have hE' := Lib.hid hE
  have hTr' := Lib.hid hTr
  clear hF hE hTr
  go_enter Tryd.func21, Tryd.ntmps21
  go_wp2_with fail
  refine hF'.out.mono ?_
  rintro e w1 ⟨b1, rfl⟩
  have b1' := Lib.hid b1
  have z1 := b1.size
  obtain ⟨⟨sl, cap, li, ti, g1⟩, -⟩ := (hTr'.out.below b1).nds B nd hB
  have g1' := Lib.hid g1
  have hBl := row_lt g1
  clear b1 g1
  have hq := Lib.hid (zSp w1)
  go_wp2_with (refine store_sp rfl rfl _ _ rfl _ a (some ⟨B, 0, none⟩) none none nm ⟨#[]⟩ rfl rfl hq.out ?_; intro w2 h2 g2 z2; have q2 : w2.cell? ⟨w1.heap.size, 2, none⟩ = some (.pointer (some ⟨B, 0, none⟩)) := row_cell h2 rfl; have d0 : w2.cell? ⟨B, 0, none⟩ = some (.bool true) := row_cell (row_grown (row_alloc g1'.out (.cells #[.pointer none, .string ⟨#[]⟩, .pointer none] 51)) g2 (by intro e; injection e with e; omega)) (by unfold nodeC; rw [hd]; rfl))
  have b2 := Lib.hid ((b1'.out.alloc z1 (.cells #[.pointer none, .string ⟨#[]⟩, .pointer none] 51)).grown g2 (by simp; omega) (fun k hk => by cases hk; exact z1))
  have z2' : w1.heap.size ≤ w2.heap.size := by rw [z2]; simp
  clear g2 z2 h2
  refine (tfail_any _ (hE'.out.below b2.out hN) 17 (by decide) (by decide)).mono ?_
  rintro e w3 ⟨v, rfl, ⟨S, P, rfl, -, -⟩, b3⟩
  have bb3 := b2.out.trans (b3.mono (by omega))
  clear b3
  go_wp2_with fail
  go_ret2
  exact ⟨_, rfl, bb3⟩
set_option maxHeartbeats 1000000 in
set_option maxRecDepth 100000 in
theorem write_err (tv dv : Value) (s : ByteArray) (w : World) (hP : Calls Tryd.prog 21 #[tv, .string s, dv, .bool false] w fun e w' => ∃ u, e = .returned (.tuple #[.pointer none, .iface 81 u]) ∧ Below w.heap.size w w') :
    Calls Tryd.prog 12 #[tv, .string s, dv, .bool false] w fun e w' => ∃ u, e = .returned (.iface 81 u) ∧ Below w.heap.size w w' := by
  have hP' := Lib.hid hP
  clear hP
  go_enter Tryd.func12, Tryd.ntmps12
  go_wp2_with fail
  refine hP'.out.mono ?_
  rintro e w1 ⟨u, rfl, b1⟩
  go_wp2_with fail
  go_ret
  exact ⟨u, rfl, b1⟩
end Go.Proofs.YtfnaooplpofgiaaDoor
