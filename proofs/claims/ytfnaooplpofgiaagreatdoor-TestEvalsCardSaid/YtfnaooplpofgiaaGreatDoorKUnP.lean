/- An operator of one operand: by what a path's Stat tells. Stat is given as a contract. -/
import Derived.Test.YtfnaooplpofgiaaGreatDoorKStat
import Derived.Test.YtfnaooplpofgiaaGreatDoorKBy
import Derived.Test.YtfnaooplpofgiaaGreatDoorTstP
import Derived.WalkMore
import Derived.OwnWalk
import Derived.Handy
import Derived.Outline
namespace Go.Proofs.YtfnaooplpofgiaaGreatDoor
open Go Go.RowKit SN

/-- What is asked of the tree's Stat. -/
def StatR (st : Option (Bool × Nat)) (w0 : World) (e : Ending) (w' : World) : Prop := Below w0.heap.size w0 w' ∧ match st with
  | none => ∃ u, e = .returned (.tuple #[.agg (stC 0 0 0 0), .iface 53 u])
  | some (d, n) => ∃ l t, e = .returned (.tuple #[.agg (stC (if d then 2 else 1) n l t), .nilIface])
theorem zSt (w : World) : IsSt (w.alloc (.cells #[.int .i64 0, .int .i64 0, .int .i64 0, .int .i64 0] 117)) w.heap.size 0 0 0 0 := heap_alloc_new w _
set_option maxHeartbeats 1000000 in
set_option maxRecDepth 100000 in
theorem un_n_E (p : Option Addr) (s : ByteArray) (w : World) (hS : Calls Tryz.prog 54 #[.pointer p, .string s] w (StatR none w)) :
    Calls Tryz.prog 30 #[.string ⟨#[45, 110]⟩, .string s, .pointer p] w fun e w' => e = .returned (.tuple #[.bool (!s.toList.isEmpty), .bool true]) ∧ Below w.heap.size w w' := by
  have hS' := Lib.hid hS
  clear hS
  rcases p with _ | a <;>
    (go_enter Tryz.func30, Tryz.ntmps30
     go_wp2_with fail
     refine hS'.out.mono ?_
     rintro e w1 ⟨b1, u, rfl⟩
     have hq := Lib.hid (zSt w1)
     go_wp2_with (refine store_st rfl rfl _ _ rfl _ 0 0 0 0 0 0 0 0 rfl rfl hq.out ?_; intro w2 h2 g2 z2; have q0 : w2.cell? ⟨w1.heap.size, 0, none⟩ = some (.int .i64 0) := row_cell h2 rfl; have q1 : w2.cell? ⟨w1.heap.size, 1, none⟩ = some (.int .i64 0) := row_cell h2 rfl)
     go_ret2
     exact ⟨rfl, (b1.trans (((Below.refl _ _).alloc (Nat.le_refl _) _).mono b1.size)).grown g2 (by have := b1.size; simp; omega) (fun k hk => by cases hk; exact b1.size)⟩)
set_option maxHeartbeats 1000000 in
set_option maxRecDepth 100000 in
theorem un_z_E (p : Option Addr) (s : ByteArray) (w : World) (hS : Calls Tryz.prog 54 #[.pointer p, .string s] w (StatR none w)) :
    Calls Tryz.prog 30 #[.string ⟨#[45, 122]⟩, .string s, .pointer p] w fun e w' => e = .returned (.tuple #[.bool s.toList.isEmpty, .bool true]) ∧ Below w.heap.size w w' := by
  have hS' := Lib.hid hS
  clear hS
  rcases p with _ | a <;>
    (go_enter Tryz.func30, Tryz.ntmps30
     go_wp2_with fail
     refine hS'.out.mono ?_
     rintro e w1 ⟨b1, u, rfl⟩
     have hq := Lib.hid (zSt w1)
     go_wp2_with (refine store_st rfl rfl _ _ rfl _ 0 0 0 0 0 0 0 0 rfl rfl hq.out ?_; intro w2 h2 g2 z2; have q0 : w2.cell? ⟨w1.heap.size, 0, none⟩ = some (.int .i64 0) := row_cell h2 rfl; have q1 : w2.cell? ⟨w1.heap.size, 1, none⟩ = some (.int .i64 0) := row_cell h2 rfl)
     go_ret2
     exact ⟨rfl, (b1.trans (((Below.refl _ _).alloc (Nat.le_refl _) _).mono b1.size)).grown g2 (by have := b1.size; simp; omega) (fun k hk => by cases hk; exact b1.size)⟩)
set_option maxHeartbeats 1000000 in
set_option maxRecDepth 100000 in
theorem un_e_E (p : Option Addr) (s : ByteArray) (w : World) (hS : Calls Tryz.prog 54 #[.pointer p, .string s] w (StatR none w)) :
    Calls Tryz.prog 30 #[.string ⟨#[45, 101]⟩, .string s, .pointer p] w fun e w' => e = .returned (.tuple #[.bool false, .bool true]) ∧ Below w.heap.size w w' := by
  have hS' := Lib.hid hS
  clear hS
  rcases p with _ | a <;>
    (go_enter Tryz.func30, Tryz.ntmps30
     go_wp2_with fail
     refine hS'.out.mono ?_
     rintro e w1 ⟨b1, u, rfl⟩
     have hq := Lib.hid (zSt w1)
     go_wp2_with (refine store_st rfl rfl _ _ rfl _ 0 0 0 0 0 0 0 0 rfl rfl hq.out ?_; intro w2 h2 g2 z2; have q0 : w2.cell? ⟨w1.heap.size, 0, none⟩ = some (.int .i64 0) := row_cell h2 rfl; have q1 : w2.cell? ⟨w1.heap.size, 1, none⟩ = some (.int .i64 0) := row_cell h2 rfl)
     go_ret2
     exact ⟨rfl, (b1.trans (((Below.refl _ _).alloc (Nat.le_refl _) _).mono b1.size)).grown g2 (by have := b1.size; simp; omega) (fun k hk => by cases hk; exact b1.size)⟩)
set_option maxHeartbeats 1000000 in
set_option maxRecDepth 100000 in
theorem un_f_E (p : Option Addr) (s : ByteArray) (w : World) (hS : Calls Tryz.prog 54 #[.pointer p, .string s] w (StatR none w)) :
    Calls Tryz.prog 30 #[.string ⟨#[45, 102]⟩, .string s, .pointer p] w fun e w' => e = .returned (.tuple #[.bool false, .bool true]) ∧ Below w.heap.size w w' := by
  have hS' := Lib.hid hS
  clear hS
  rcases p with _ | a <;>
    (go_enter Tryz.func30, Tryz.ntmps30
     go_wp2_with fail
     refine hS'.out.mono ?_
     rintro e w1 ⟨b1, u, rfl⟩
     have hq := Lib.hid (zSt w1)
     go_wp2_with (refine store_st rfl rfl _ _ rfl _ 0 0 0 0 0 0 0 0 rfl rfl hq.out ?_; intro w2 h2 g2 z2; have q0 : w2.cell? ⟨w1.heap.size, 0, none⟩ = some (.int .i64 0) := row_cell h2 rfl; have q1 : w2.cell? ⟨w1.heap.size, 1, none⟩ = some (.int .i64 0) := row_cell h2 rfl)
     go_ret2
     exact ⟨rfl, (b1.trans (((Below.refl _ _).alloc (Nat.le_refl _) _).mono b1.size)).grown g2 (by have := b1.size; simp; omega) (fun k hk => by cases hk; exact b1.size)⟩)
set_option maxHeartbeats 1000000 in
set_option maxRecDepth 100000 in
theorem un_d_E (p : Option Addr) (s : ByteArray) (w : World) (hS : Calls Tryz.prog 54 #[.pointer p, .string s] w (StatR none w)) :
    Calls Tryz.prog 30 #[.string ⟨#[45, 100]⟩, .string s, .pointer p] w fun e w' => e = .returned (.tuple #[.bool false, .bool true]) ∧ Below w.heap.size w w' := by
  have hS' := Lib.hid hS
  clear hS
  rcases p with _ | a <;>
    (go_enter Tryz.func30, Tryz.ntmps30
     go_wp2_with fail
     refine hS'.out.mono ?_
     rintro e w1 ⟨b1, u, rfl⟩
     have hq := Lib.hid (zSt w1)
     go_wp2_with (refine store_st rfl rfl _ _ rfl _ 0 0 0 0 0 0 0 0 rfl rfl hq.out ?_; intro w2 h2 g2 z2; have q0 : w2.cell? ⟨w1.heap.size, 0, none⟩ = some (.int .i64 0) := row_cell h2 rfl; have q1 : w2.cell? ⟨w1.heap.size, 1, none⟩ = some (.int .i64 0) := row_cell h2 rfl)
     go_ret2
     exact ⟨rfl, (b1.trans (((Below.refl _ _).alloc (Nat.le_refl _) _).mono b1.size)).grown g2 (by have := b1.size; simp; omega) (fun k hk => by cases hk; exact b1.size)⟩)
set_option maxHeartbeats 1000000 in
set_option maxRecDepth 100000 in
theorem un_s_E (p : Option Addr) (s : ByteArray) (w : World) (hS : Calls Tryz.prog 54 #[.pointer p, .string s] w (StatR none w)) :
    Calls Tryz.prog 30 #[.string ⟨#[45, 115]⟩, .string s, .pointer p] w fun e w' => e = .returned (.tuple #[.bool false, .bool true]) ∧ Below w.heap.size w w' := by
  have hS' := Lib.hid hS
  clear hS
  rcases p with _ | a <;>
    (go_enter Tryz.func30, Tryz.ntmps30
     go_wp2_with fail
     refine hS'.out.mono ?_
     rintro e w1 ⟨b1, u, rfl⟩
     have hq := Lib.hid (zSt w1)
     go_wp2_with (refine store_st rfl rfl _ _ rfl _ 0 0 0 0 0 0 0 0 rfl rfl hq.out ?_; intro w2 h2 g2 z2; have q0 : w2.cell? ⟨w1.heap.size, 0, none⟩ = some (.int .i64 0) := row_cell h2 rfl; have q1 : w2.cell? ⟨w1.heap.size, 1, none⟩ = some (.int .i64 0) := row_cell h2 rfl)
     go_ret2
     exact ⟨rfl, (b1.trans (((Below.refl _ _).alloc (Nat.le_refl _) _).mono b1.size)).grown g2 (by have := b1.size; simp; omega) (fun k hk => by cases hk; exact b1.size)⟩)
set_option maxHeartbeats 1000000 in
set_option maxRecDepth 100000 in
theorem un_o_E (p : Option Addr) (o s : ByteArray) (h1 : (o.toList == [45, 110]) = false) (h2 : (o.toList == [45, 122]) = false) (h3 : (o.toList == [45, 101]) = false) (h4 : (o.toList == [45, 102]) = false) (h5 : (o.toList == [45, 100]) = false) (h6 : (o.toList == [45, 115]) = false) (w : World) (hS : Calls Tryz.prog 54 #[.pointer p, .string s] w (StatR none w)) :
    Calls Tryz.prog 30 #[.string o, .string s, .pointer p] w fun e w' => e = .returned (.tuple #[.bool false, .bool false]) ∧ Below w.heap.size w w' := by
  have hS' := Lib.hid hS
  clear hS
  rcases p with _ | a <;>
    (go_enter Tryz.func30, Tryz.ntmps30
     go_wp2_with fail
     refine hS'.out.mono ?_
     rintro e w1 ⟨b1, u, rfl⟩
     have hq := Lib.hid (zSt w1)
     go_wp2_with (refine store_st rfl rfl _ _ rfl _ 0 0 0 0 0 0 0 0 rfl rfl hq.out ?_; intro w2 h2 g2 z2; have q0 : w2.cell? ⟨w1.heap.size, 0, none⟩ = some (.int .i64 0) := row_cell h2 rfl; have q1 : w2.cell? ⟨w1.heap.size, 1, none⟩ = some (.int .i64 0) := row_cell h2 rfl)
     go_ret2
     exact ⟨rfl, (b1.trans (((Below.refl _ _).alloc (Nat.le_refl _) _).mono b1.size)).grown g2 (by have := b1.size; simp; omega) (fun k hk => by cases hk; exact b1.size)⟩)
set_option maxHeartbeats 1000000 in
set_option maxRecDepth 100000 in
theorem un_n_F (a : Addr) (s : ByteArray) (n : Nat) (w : World) (hS : Calls Tryz.prog 54 #[.pointer (some a), .string s] w (StatR (some (false, n)) w)) :
    Calls Tryz.prog 30 #[.string ⟨#[45, 110]⟩, .string s, .pointer (some a)] w fun e w' => e = .returned (.tuple #[.bool (!s.toList.isEmpty), .bool true]) ∧ Below w.heap.size w w' := by
  have hS' := Lib.hid hS
  clear hS
  go_enter Tryz.func30, Tryz.ntmps30
  go_wp2_with fail
  refine hS'.out.mono ?_
  rintro e w1 ⟨b1, l, t, rfl⟩
  have hq := Lib.hid (zSt w1)
  go_wp2_with (refine store_st rfl rfl _ _ rfl _ 1 (n : Int) l t 0 0 0 0 rfl rfl hq.out ?_; intro w2 h2 g2 z2; have q0 : w2.cell? ⟨w1.heap.size, 0, none⟩ = some (.int .i64 1) := row_cell h2 rfl; have q1 : w2.cell? ⟨w1.heap.size, 1, none⟩ = some (.int .i64 (n : Int)) := row_cell h2 rfl)
  go_ret2
  exact ⟨rfl, (b1.trans (((Below.refl _ _).alloc (Nat.le_refl _) _).mono b1.size)).grown g2 (by have := b1.size; simp; omega) (fun k hk => by cases hk; exact b1.size)⟩
set_option maxHeartbeats 1000000 in
set_option maxRecDepth 100000 in
theorem un_z_F (a : Addr) (s : ByteArray) (n : Nat) (w : World) (hS : Calls Tryz.prog 54 #[.pointer (some a), .string s] w (StatR (some (false, n)) w)) :
    Calls Tryz.prog 30 #[.string ⟨#[45, 122]⟩, .string s, .pointer (some a)] w fun e w' => e = .returned (.tuple #[.bool s.toList.isEmpty, .bool true]) ∧ Below w.heap.size w w' := by
  have hS' := Lib.hid hS
  clear hS
  go_enter Tryz.func30, Tryz.ntmps30
  go_wp2_with fail
  refine hS'.out.mono ?_
  rintro e w1 ⟨b1, l, t, rfl⟩
  have hq := Lib.hid (zSt w1)
  go_wp2_with (refine store_st rfl rfl _ _ rfl _ 1 (n : Int) l t 0 0 0 0 rfl rfl hq.out ?_; intro w2 h2 g2 z2; have q0 : w2.cell? ⟨w1.heap.size, 0, none⟩ = some (.int .i64 1) := row_cell h2 rfl; have q1 : w2.cell? ⟨w1.heap.size, 1, none⟩ = some (.int .i64 (n : Int)) := row_cell h2 rfl)
  go_ret2
  exact ⟨rfl, (b1.trans (((Below.refl _ _).alloc (Nat.le_refl _) _).mono b1.size)).grown g2 (by have := b1.size; simp; omega) (fun k hk => by cases hk; exact b1.size)⟩
set_option maxHeartbeats 1000000 in
set_option maxRecDepth 100000 in
theorem un_e_F (a : Addr) (s : ByteArray) (n : Nat) (w : World) (hS : Calls Tryz.prog 54 #[.pointer (some a), .string s] w (StatR (some (false, n)) w)) :
    Calls Tryz.prog 30 #[.string ⟨#[45, 101]⟩, .string s, .pointer (some a)] w fun e w' => e = .returned (.tuple #[.bool true, .bool true]) ∧ Below w.heap.size w w' := by
  have hS' := Lib.hid hS
  clear hS
  go_enter Tryz.func30, Tryz.ntmps30
  go_wp2_with fail
  refine hS'.out.mono ?_
  rintro e w1 ⟨b1, l, t, rfl⟩
  have hq := Lib.hid (zSt w1)
  go_wp2_with (refine store_st rfl rfl _ _ rfl _ 1 (n : Int) l t 0 0 0 0 rfl rfl hq.out ?_; intro w2 h2 g2 z2; have q0 : w2.cell? ⟨w1.heap.size, 0, none⟩ = some (.int .i64 1) := row_cell h2 rfl; have q1 : w2.cell? ⟨w1.heap.size, 1, none⟩ = some (.int .i64 (n : Int)) := row_cell h2 rfl)
  go_ret2
  exact ⟨rfl, (b1.trans (((Below.refl _ _).alloc (Nat.le_refl _) _).mono b1.size)).grown g2 (by have := b1.size; simp; omega) (fun k hk => by cases hk; exact b1.size)⟩
set_option maxHeartbeats 1000000 in
set_option maxRecDepth 100000 in
theorem un_f_F (a : Addr) (s : ByteArray) (n : Nat) (w : World) (hS : Calls Tryz.prog 54 #[.pointer (some a), .string s] w (StatR (some (false, n)) w)) :
    Calls Tryz.prog 30 #[.string ⟨#[45, 102]⟩, .string s, .pointer (some a)] w fun e w' => e = .returned (.tuple #[.bool true, .bool true]) ∧ Below w.heap.size w w' := by
  have hS' := Lib.hid hS
  clear hS
  go_enter Tryz.func30, Tryz.ntmps30
  go_wp2_with fail
  refine hS'.out.mono ?_
  rintro e w1 ⟨b1, l, t, rfl⟩
  have hq := Lib.hid (zSt w1)
  go_wp2_with (refine store_st rfl rfl _ _ rfl _ 1 (n : Int) l t 0 0 0 0 rfl rfl hq.out ?_; intro w2 h2 g2 z2; have q0 : w2.cell? ⟨w1.heap.size, 0, none⟩ = some (.int .i64 1) := row_cell h2 rfl; have q1 : w2.cell? ⟨w1.heap.size, 1, none⟩ = some (.int .i64 (n : Int)) := row_cell h2 rfl)
  go_ret2
  exact ⟨rfl, (b1.trans (((Below.refl _ _).alloc (Nat.le_refl _) _).mono b1.size)).grown g2 (by have := b1.size; simp; omega) (fun k hk => by cases hk; exact b1.size)⟩
set_option maxHeartbeats 1000000 in
set_option maxRecDepth 100000 in
theorem un_d_F (a : Addr) (s : ByteArray) (n : Nat) (w : World) (hS : Calls Tryz.prog 54 #[.pointer (some a), .string s] w (StatR (some (false, n)) w)) :
    Calls Tryz.prog 30 #[.string ⟨#[45, 100]⟩, .string s, .pointer (some a)] w fun e w' => e = .returned (.tuple #[.bool false, .bool true]) ∧ Below w.heap.size w w' := by
  have hS' := Lib.hid hS
  clear hS
  go_enter Tryz.func30, Tryz.ntmps30
  go_wp2_with fail
  refine hS'.out.mono ?_
  rintro e w1 ⟨b1, l, t, rfl⟩
  have hq := Lib.hid (zSt w1)
  go_wp2_with (refine store_st rfl rfl _ _ rfl _ 1 (n : Int) l t 0 0 0 0 rfl rfl hq.out ?_; intro w2 h2 g2 z2; have q0 : w2.cell? ⟨w1.heap.size, 0, none⟩ = some (.int .i64 1) := row_cell h2 rfl; have q1 : w2.cell? ⟨w1.heap.size, 1, none⟩ = some (.int .i64 (n : Int)) := row_cell h2 rfl)
  go_ret2
  exact ⟨rfl, (b1.trans (((Below.refl _ _).alloc (Nat.le_refl _) _).mono b1.size)).grown g2 (by have := b1.size; simp; omega) (fun k hk => by cases hk; exact b1.size)⟩
set_option maxHeartbeats 1000000 in
set_option maxRecDepth 100000 in
theorem un_s_F (a : Addr) (s : ByteArray) (n : Nat) (w : World) (hS : Calls Tryz.prog 54 #[.pointer (some a), .string s] w (StatR (some (false, n)) w)) :
    Calls Tryz.prog 30 #[.string ⟨#[45, 115]⟩, .string s, .pointer (some a)] w fun e w' => e = .returned (.tuple #[.bool (decide (0 < n)), .bool true]) ∧ Below w.heap.size w w' := by
  have hS' := Lib.hid hS
  clear hS
  by_cases hn : 0 < n
  · have hnI : (0 : Int) < (n : Int) := by omega
    rw [decide_eq_true hn]
    go_enter Tryz.func30, Tryz.ntmps30
    go_wp2_with fail
    refine hS'.out.mono ?_
    rintro e w1 ⟨b1, l, t, rfl⟩
    have hq := Lib.hid (zSt w1)
    go_wp2_with (refine store_st rfl rfl _ _ rfl _ 1 (n : Int) l t 0 0 0 0 rfl rfl hq.out ?_; intro w2 h2 g2 z2; have q0 : w2.cell? ⟨w1.heap.size, 0, none⟩ = some (.int .i64 1) := row_cell h2 rfl; have q1 : w2.cell? ⟨w1.heap.size, 1, none⟩ = some (.int .i64 (n : Int)) := row_cell h2 rfl)
    go_ret2
    exact ⟨rfl, (b1.trans (((Below.refl _ _).alloc (Nat.le_refl _) _).mono b1.size)).grown g2 (by have := b1.size; simp; omega) (fun k hk => by cases hk; exact b1.size)⟩
  · have hnI : ¬ (0 : Int) < (n : Int) := by omega
    rw [decide_eq_false hn]
    go_enter Tryz.func30, Tryz.ntmps30
    go_wp2_with fail
    refine hS'.out.mono ?_
    rintro e w1 ⟨b1, l, t, rfl⟩
    have hq := Lib.hid (zSt w1)
    go_wp2_with (refine store_st rfl rfl _ _ rfl _ 1 (n : Int) l t 0 0 0 0 rfl rfl hq.out ?_; intro w2 h2 g2 z2; have q0 : w2.cell? ⟨w1.heap.size, 0, none⟩ = some (.int .i64 1) := row_cell h2 rfl; have q1 : w2.cell? ⟨w1.heap.size, 1, none⟩ = some (.int .i64 (n : Int)) := row_cell h2 rfl)
    go_ret2
    exact ⟨rfl, (b1.trans (((Below.refl _ _).alloc (Nat.le_refl _) _).mono b1.size)).grown g2 (by have := b1.size; simp; omega) (fun k hk => by cases hk; exact b1.size)⟩
set_option maxHeartbeats 1000000 in
set_option maxRecDepth 100000 in
theorem un_o_F (a : Addr) (o s : ByteArray) (h1 : (o.toList == [45, 110]) = false) (h2 : (o.toList == [45, 122]) = false) (h3 : (o.toList == [45, 101]) = false) (h4 : (o.toList == [45, 102]) = false) (h5 : (o.toList == [45, 100]) = false) (h6 : (o.toList == [45, 115]) = false) (n : Nat) (w : World) (hS : Calls Tryz.prog 54 #[.pointer (some a), .string s] w (StatR (some (false, n)) w)) :
    Calls Tryz.prog 30 #[.string o, .string s, .pointer (some a)] w fun e w' => e = .returned (.tuple #[.bool false, .bool false]) ∧ Below w.heap.size w w' := by
  have hS' := Lib.hid hS
  clear hS
  go_enter Tryz.func30, Tryz.ntmps30
  go_wp2_with fail
  refine hS'.out.mono ?_
  rintro e w1 ⟨b1, l, t, rfl⟩
  have hq := Lib.hid (zSt w1)
  go_wp2_with (refine store_st rfl rfl _ _ rfl _ 1 (n : Int) l t 0 0 0 0 rfl rfl hq.out ?_; intro w2 h2 g2 z2; have q0 : w2.cell? ⟨w1.heap.size, 0, none⟩ = some (.int .i64 1) := row_cell h2 rfl; have q1 : w2.cell? ⟨w1.heap.size, 1, none⟩ = some (.int .i64 (n : Int)) := row_cell h2 rfl)
  go_ret2
  exact ⟨rfl, (b1.trans (((Below.refl _ _).alloc (Nat.le_refl _) _).mono b1.size)).grown g2 (by have := b1.size; simp; omega) (fun k hk => by cases hk; exact b1.size)⟩
set_option maxHeartbeats 1000000 in
set_option maxRecDepth 100000 in
theorem un_n_D (a : Addr) (s : ByteArray) (n : Nat) (w : World) (hS : Calls Tryz.prog 54 #[.pointer (some a), .string s] w (StatR (some (true, n)) w)) :
    Calls Tryz.prog 30 #[.string ⟨#[45, 110]⟩, .string s, .pointer (some a)] w fun e w' => e = .returned (.tuple #[.bool (!s.toList.isEmpty), .bool true]) ∧ Below w.heap.size w w' := by
  have hS' := Lib.hid hS
  clear hS
  go_enter Tryz.func30, Tryz.ntmps30
  go_wp2_with fail
  refine hS'.out.mono ?_
  rintro e w1 ⟨b1, l, t, rfl⟩
  have hq := Lib.hid (zSt w1)
  go_wp2_with (refine store_st rfl rfl _ _ rfl _ 2 (n : Int) l t 0 0 0 0 rfl rfl hq.out ?_; intro w2 h2 g2 z2; have q0 : w2.cell? ⟨w1.heap.size, 0, none⟩ = some (.int .i64 2) := row_cell h2 rfl; have q1 : w2.cell? ⟨w1.heap.size, 1, none⟩ = some (.int .i64 (n : Int)) := row_cell h2 rfl)
  go_ret2
  exact ⟨rfl, (b1.trans (((Below.refl _ _).alloc (Nat.le_refl _) _).mono b1.size)).grown g2 (by have := b1.size; simp; omega) (fun k hk => by cases hk; exact b1.size)⟩
set_option maxHeartbeats 1000000 in
set_option maxRecDepth 100000 in
theorem un_z_D (a : Addr) (s : ByteArray) (n : Nat) (w : World) (hS : Calls Tryz.prog 54 #[.pointer (some a), .string s] w (StatR (some (true, n)) w)) :
    Calls Tryz.prog 30 #[.string ⟨#[45, 122]⟩, .string s, .pointer (some a)] w fun e w' => e = .returned (.tuple #[.bool s.toList.isEmpty, .bool true]) ∧ Below w.heap.size w w' := by
  have hS' := Lib.hid hS
  clear hS
  go_enter Tryz.func30, Tryz.ntmps30
  go_wp2_with fail
  refine hS'.out.mono ?_
  rintro e w1 ⟨b1, l, t, rfl⟩
  have hq := Lib.hid (zSt w1)
  go_wp2_with (refine store_st rfl rfl _ _ rfl _ 2 (n : Int) l t 0 0 0 0 rfl rfl hq.out ?_; intro w2 h2 g2 z2; have q0 : w2.cell? ⟨w1.heap.size, 0, none⟩ = some (.int .i64 2) := row_cell h2 rfl; have q1 : w2.cell? ⟨w1.heap.size, 1, none⟩ = some (.int .i64 (n : Int)) := row_cell h2 rfl)
  go_ret2
  exact ⟨rfl, (b1.trans (((Below.refl _ _).alloc (Nat.le_refl _) _).mono b1.size)).grown g2 (by have := b1.size; simp; omega) (fun k hk => by cases hk; exact b1.size)⟩
set_option maxHeartbeats 1000000 in
set_option maxRecDepth 100000 in
theorem un_e_D (a : Addr) (s : ByteArray) (n : Nat) (w : World) (hS : Calls Tryz.prog 54 #[.pointer (some a), .string s] w (StatR (some (true, n)) w)) :
    Calls Tryz.prog 30 #[.string ⟨#[45, 101]⟩, .string s, .pointer (some a)] w fun e w' => e = .returned (.tuple #[.bool true, .bool true]) ∧ Below w.heap.size w w' := by
  have hS' := Lib.hid hS
  clear hS
  go_enter Tryz.func30, Tryz.ntmps30
  go_wp2_with fail
  refine hS'.out.mono ?_
  rintro e w1 ⟨b1, l, t, rfl⟩
  have hq := Lib.hid (zSt w1)
  go_wp2_with (refine store_st rfl rfl _ _ rfl _ 2 (n : Int) l t 0 0 0 0 rfl rfl hq.out ?_; intro w2 h2 g2 z2; have q0 : w2.cell? ⟨w1.heap.size, 0, none⟩ = some (.int .i64 2) := row_cell h2 rfl; have q1 : w2.cell? ⟨w1.heap.size, 1, none⟩ = some (.int .i64 (n : Int)) := row_cell h2 rfl)
  go_ret2
  exact ⟨rfl, (b1.trans (((Below.refl _ _).alloc (Nat.le_refl _) _).mono b1.size)).grown g2 (by have := b1.size; simp; omega) (fun k hk => by cases hk; exact b1.size)⟩
set_option maxHeartbeats 1000000 in
set_option maxRecDepth 100000 in
theorem un_f_D (a : Addr) (s : ByteArray) (n : Nat) (w : World) (hS : Calls Tryz.prog 54 #[.pointer (some a), .string s] w (StatR (some (true, n)) w)) :
    Calls Tryz.prog 30 #[.string ⟨#[45, 102]⟩, .string s, .pointer (some a)] w fun e w' => e = .returned (.tuple #[.bool false, .bool true]) ∧ Below w.heap.size w w' := by
  have hS' := Lib.hid hS
  clear hS
  go_enter Tryz.func30, Tryz.ntmps30
  go_wp2_with fail
  refine hS'.out.mono ?_
  rintro e w1 ⟨b1, l, t, rfl⟩
  have hq := Lib.hid (zSt w1)
  go_wp2_with (refine store_st rfl rfl _ _ rfl _ 2 (n : Int) l t 0 0 0 0 rfl rfl hq.out ?_; intro w2 h2 g2 z2; have q0 : w2.cell? ⟨w1.heap.size, 0, none⟩ = some (.int .i64 2) := row_cell h2 rfl; have q1 : w2.cell? ⟨w1.heap.size, 1, none⟩ = some (.int .i64 (n : Int)) := row_cell h2 rfl)
  go_ret2
  exact ⟨rfl, (b1.trans (((Below.refl _ _).alloc (Nat.le_refl _) _).mono b1.size)).grown g2 (by have := b1.size; simp; omega) (fun k hk => by cases hk; exact b1.size)⟩
set_option maxHeartbeats 1000000 in
set_option maxRecDepth 100000 in
theorem un_d_D (a : Addr) (s : ByteArray) (n : Nat) (w : World) (hS : Calls Tryz.prog 54 #[.pointer (some a), .string s] w (StatR (some (true, n)) w)) :
    Calls Tryz.prog 30 #[.string ⟨#[45, 100]⟩, .string s, .pointer (some a)] w fun e w' => e = .returned (.tuple #[.bool true, .bool true]) ∧ Below w.heap.size w w' := by
  have hS' := Lib.hid hS
  clear hS
  go_enter Tryz.func30, Tryz.ntmps30
  go_wp2_with fail
  refine hS'.out.mono ?_
  rintro e w1 ⟨b1, l, t, rfl⟩
  have hq := Lib.hid (zSt w1)
  go_wp2_with (refine store_st rfl rfl _ _ rfl _ 2 (n : Int) l t 0 0 0 0 rfl rfl hq.out ?_; intro w2 h2 g2 z2; have q0 : w2.cell? ⟨w1.heap.size, 0, none⟩ = some (.int .i64 2) := row_cell h2 rfl; have q1 : w2.cell? ⟨w1.heap.size, 1, none⟩ = some (.int .i64 (n : Int)) := row_cell h2 rfl)
  go_ret2
  exact ⟨rfl, (b1.trans (((Below.refl _ _).alloc (Nat.le_refl _) _).mono b1.size)).grown g2 (by have := b1.size; simp; omega) (fun k hk => by cases hk; exact b1.size)⟩
set_option maxHeartbeats 1000000 in
set_option maxRecDepth 100000 in
theorem un_s_D (a : Addr) (s : ByteArray) (n : Nat) (w : World) (hS : Calls Tryz.prog 54 #[.pointer (some a), .string s] w (StatR (some (true, n)) w)) :
    Calls Tryz.prog 30 #[.string ⟨#[45, 115]⟩, .string s, .pointer (some a)] w fun e w' => e = .returned (.tuple #[.bool (decide (0 < n)), .bool true]) ∧ Below w.heap.size w w' := by
  have hS' := Lib.hid hS
  clear hS
  by_cases hn : 0 < n
  · have hnI : (0 : Int) < (n : Int) := by omega
    rw [decide_eq_true hn]
    go_enter Tryz.func30, Tryz.ntmps30
    go_wp2_with fail
    refine hS'.out.mono ?_
    rintro e w1 ⟨b1, l, t, rfl⟩
    have hq := Lib.hid (zSt w1)
    go_wp2_with (refine store_st rfl rfl _ _ rfl _ 2 (n : Int) l t 0 0 0 0 rfl rfl hq.out ?_; intro w2 h2 g2 z2; have q0 : w2.cell? ⟨w1.heap.size, 0, none⟩ = some (.int .i64 2) := row_cell h2 rfl; have q1 : w2.cell? ⟨w1.heap.size, 1, none⟩ = some (.int .i64 (n : Int)) := row_cell h2 rfl)
    go_ret2
    exact ⟨rfl, (b1.trans (((Below.refl _ _).alloc (Nat.le_refl _) _).mono b1.size)).grown g2 (by have := b1.size; simp; omega) (fun k hk => by cases hk; exact b1.size)⟩
  · have hnI : ¬ (0 : Int) < (n : Int) := by omega
    rw [decide_eq_false hn]
    go_enter Tryz.func30, Tryz.ntmps30
    go_wp2_with fail
    refine hS'.out.mono ?_
    rintro e w1 ⟨b1, l, t, rfl⟩
    have hq := Lib.hid (zSt w1)
    go_wp2_with (refine store_st rfl rfl _ _ rfl _ 2 (n : Int) l t 0 0 0 0 rfl rfl hq.out ?_; intro w2 h2 g2 z2; have q0 : w2.cell? ⟨w1.heap.size, 0, none⟩ = some (.int .i64 2) := row_cell h2 rfl; have q1 : w2.cell? ⟨w1.heap.size, 1, none⟩ = some (.int .i64 (n : Int)) := row_cell h2 rfl)
    go_ret2
    exact ⟨rfl, (b1.trans (((Below.refl _ _).alloc (Nat.le_refl _) _).mono b1.size)).grown g2 (by have := b1.size; simp; omega) (fun k hk => by cases hk; exact b1.size)⟩
set_option maxHeartbeats 1000000 in
set_option maxRecDepth 100000 in
theorem un_o_D (a : Addr) (o s : ByteArray) (h1 : (o.toList == [45, 110]) = false) (h2 : (o.toList == [45, 122]) = false) (h3 : (o.toList == [45, 101]) = false) (h4 : (o.toList == [45, 102]) = false) (h5 : (o.toList == [45, 100]) = false) (h6 : (o.toList == [45, 115]) = false) (n : Nat) (w : World) (hS : Calls Tryz.prog 54 #[.pointer (some a), .string s] w (StatR (some (true, n)) w)) :
    Calls Tryz.prog 30 #[.string o, .string s, .pointer (some a)] w fun e w' => e = .returned (.tuple #[.bool false, .bool false]) ∧ Below w.heap.size w w' := by
  have hS' := Lib.hid hS
  clear hS
  go_enter Tryz.func30, Tryz.ntmps30
  go_wp2_with fail
  refine hS'.out.mono ?_
  rintro e w1 ⟨b1, l, t, rfl⟩
  have hq := Lib.hid (zSt w1)
  go_wp2_with (refine store_st rfl rfl _ _ rfl _ 2 (n : Int) l t 0 0 0 0 rfl rfl hq.out ?_; intro w2 h2 g2 z2; have q0 : w2.cell? ⟨w1.heap.size, 0, none⟩ = some (.int .i64 2) := row_cell h2 rfl; have q1 : w2.cell? ⟨w1.heap.size, 1, none⟩ = some (.int .i64 (n : Int)) := row_cell h2 rfl)
  go_ret2
  exact ⟨rfl, (b1.trans (((Below.refl _ _).alloc (Nat.le_refl _) _).mono b1.size)).grown g2 (by have := b1.size; simp; omega) (fun k hk => by cases hk; exact b1.size)⟩
/-- test's operator of one operand. -/
theorem unary_any (p : Option Addr) (o s : ByteArray) (st : Option (Bool × Nat)) (hp : st ≠ none → p ≠ none) (w : World) (hS : Calls Tryz.prog 54 #[.pointer p, .string s] w (StatR st w)) :
    Calls Tryz.prog 30 #[.string o, .string s, .pointer p] w fun e w' => e = .returned (.tuple #[.bool ((unP st o.data.toList s.data.toList).getD false), .bool (unP st o.data.toList s.data.toList).isSome]) ∧ Below w.heap.size w w' := by
  unfold unP
  by_cases h1 : (o.data.toList == [45, 110]) = true
  · rw [if_pos h1]
    obtain rfl := bytes_eq h1
    rw [← Lib.toList_data]
    rcases st with _ | ⟨d, n⟩
    · exact un_n_E p s w hS
    · obtain ⟨a, rfl⟩ : ∃ a, p = some a := by cases p with | none => exact absurd rfl (hp (by simp)) | some a => exact ⟨a, rfl⟩
      cases d
      · exact un_n_F a s n w hS
      · exact un_n_D a s n w hS
  rw [if_neg h1]
  by_cases h2 : (o.data.toList == [45, 122]) = true
  · rw [if_pos h2]
    obtain rfl := bytes_eq h2
    rw [← Lib.toList_data]
    rcases st with _ | ⟨d, n⟩
    · exact un_z_E p s w hS
    · obtain ⟨a, rfl⟩ : ∃ a, p = some a := by cases p with | none => exact absurd rfl (hp (by simp)) | some a => exact ⟨a, rfl⟩
      cases d
      · exact un_z_F a s n w hS
      · exact un_z_D a s n w hS
  rw [if_neg h2]
  by_cases h3 : (o.data.toList == [45, 101]) = true
  · rw [if_pos h3]
    obtain rfl := bytes_eq h3
    rcases st with _ | ⟨d, n⟩
    · exact un_e_E p s w hS
    · obtain ⟨a, rfl⟩ : ∃ a, p = some a := by cases p with | none => exact absurd rfl (hp (by simp)) | some a => exact ⟨a, rfl⟩
      cases d
      · exact un_e_F a s n w hS
      · exact un_e_D a s n w hS
  rw [if_neg h3]
  by_cases h4 : (o.data.toList == [45, 102]) = true
  · rw [if_pos h4]
    obtain rfl := bytes_eq h4
    rcases st with _ | ⟨d, n⟩
    · exact un_f_E p s w hS
    · obtain ⟨a, rfl⟩ : ∃ a, p = some a := by cases p with | none => exact absurd rfl (hp (by simp)) | some a => exact ⟨a, rfl⟩
      cases d
      · exact un_f_F a s n w hS
      · exact un_f_D a s n w hS
  rw [if_neg h4]
  by_cases h5 : (o.data.toList == [45, 100]) = true
  · rw [if_pos h5]
    obtain rfl := bytes_eq h5
    rcases st with _ | ⟨d, n⟩
    · exact un_d_E p s w hS
    · obtain ⟨a, rfl⟩ : ∃ a, p = some a := by cases p with | none => exact absurd rfl (hp (by simp)) | some a => exact ⟨a, rfl⟩
      cases d
      · exact un_d_F a s n w hS
      · exact un_d_D a s n w hS
  rw [if_neg h5]
  by_cases h6 : (o.data.toList == [45, 115]) = true
  · rw [if_pos h6]
    obtain rfl := bytes_eq h6
    rcases st with _ | ⟨d, n⟩
    · exact un_s_E p s w hS
    · obtain ⟨a, rfl⟩ : ∃ a, p = some a := by cases p with | none => exact absurd rfl (hp (by simp)) | some a => exact ⟨a, rfl⟩
      cases d
      · exact un_s_F a s n w hS
      · exact un_s_D a s n w hS
  rw [if_neg h6]
  rcases st with _ | ⟨d, n⟩
  · exact un_o_E p o s (beq_no h1) (beq_no h2) (beq_no h3) (beq_no h4) (beq_no h5) (beq_no h6) w hS
  · obtain ⟨a, rfl⟩ : ∃ a, p = some a := by cases p with | none => exact absurd rfl (hp (by simp)) | some a => exact ⟨a, rfl⟩
    cases d
    · exact un_o_F a o s (beq_no h1) (beq_no h2) (beq_no h3) (beq_no h4) (beq_no h5) (beq_no h6) n w hS
    · exact un_o_D a o s (beq_no h1) (beq_no h2) (beq_no h3) (beq_no h4) (beq_no h5) (beq_no h6) n w hS
end Go.Proofs.YtfnaooplpofgiaaGreatDoor
