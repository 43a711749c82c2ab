/- The document's operator of one operand where a path's Stat tells of a directory with something in it. Stat is given as a contract. -/
import Derived.Test.YtfnaooplpofgiaaGreatDoorKUn
import Derived.WalkMore
import Derived.OwnWalk
import Derived.Handy
import Derived.Outline
namespace Go.Proofs.YtfnaooplpofgiaaGreatDoor
open Go Go.RowKit SN

set_option maxHeartbeats 1000000 in
set_option maxRecDepth 100000 in
theorem rud_n (a : Addr) (s : ByteArray) (k : Nat) (w : World) (hS : ∀ W, Below w.heap.size w W → Calls Tryz.prog 56 #[.pointer (some a), .string s] W (fun e w' => ∃ n : Nat, 1 ≤ n ∧ RStatR (some (true, n)) W e w')) :
    Calls Tryz.prog 34 #[.string ⟨#[45, 110]⟩, .string s, .int .i64 k, .pointer (some a)] w (RtR w (.val (!s.toList.isEmpty)) k) := by
  have hz := Lib.hid (zF w)
  have hS' := Lib.hid hS
  clear hS
  have hq0 := zSt (w.alloc (.cells #[.int .i64 0, .int .i64 0, .int .i64 0] 28))
  rw [World.size_alloc] at hq0
  have hq := Lib.hid hq0
  clear hq0
  have b0 := Lib.hid (((Below.refl w.heap.size w).alloc (Nat.le_refl _) (.cells #[.int .i64 0, .int .i64 0, .int .i64 0] 28)).alloc (by simp) (.cells #[.int .i64 0, .int .i64 0, .int .i64 0, .int .i64 0] 117))
  go_enter Tryz.func34, Tryz.ntmps34
  go_wp2_with (refine store_st rfl rfl _ _ rfl _ 0 0 0 0 0 0 0 0 rfl rfl hq.out ?_; intro w2 h2 g2 z2)
  have f2 : IsF w2 w.heap.size 0 0 0 := row_grown (row_alloc hz.out _) g2 (by intro e; injection e with e; omega)
  have h2a : IsSt w2 (w.heap.size + 1) 0 0 0 0 := h2
  have b2 := Lib.hid (b0.out.grown g2 (by simp; omega) (fun k hk => by cases hk; omega))
  have z2' : w2.heap.size = w.heap.size + 2 := by rw [z2]; simp
  clear g2 z2 h2
  go_wp2_with fail
  refine (hS'.out w2 b2.out).mono ?_
  rintro e w3 ⟨n, hn1, b3, l, t, rfl⟩
  have hn : 0 < n := by omega
  have hnI : (0 : Int) < (n : Int) := by omega
  have f3 := row_below f2 b3 (by omega)
  have h3 := row_below h2a b3 (by omega)
  have bb3 := Lib.hid (b2.out.trans (b3.mono (by omega)))
  have z3 := b3.size
  go_wp2_with (first | (refine store_st rfl rfl _ _ rfl _ 2 (n : Int) l t 0 0 0 0 rfl rfl h3 ?_; intro w4 h4 g4 z4; have f4 : IsF w4 w.heap.size 0 0 0 := row_grown f3 g4 (by intro e; injection e with e; omega); have q0 : w4.cell? ⟨w.heap.size + 1, 0, none⟩ = some (.int .i64 2) := row_cell h4 rfl; have q1 : w4.cell? ⟨w.heap.size + 1, 1, none⟩ = some (.int .i64 (n : Int)) := row_cell h4 rfl) | (refine store_flt rfl rfl _ _ rfl _ 0 0 0 0 0 0 rfl rfl f4 ?_; intro w5 h5 g5 z5))
  have b4 := Lib.hid (bb3.out.grown g4 (by omega) (fun k hk => by cases hk; omega))
  have z4' : w.heap.size + 2 ≤ w4.heap.size := by omega
  clear g4 z4 h4
  exact ret_bf rfl rfl rfl rfl h5 ⟨rfl, b4.out.grown g5 (by omega) (fun k hk => by cases hk; exact Nat.le_refl _)⟩
set_option maxHeartbeats 1000000 in
set_option maxRecDepth 100000 in
theorem rud_z (a : Addr) (s : ByteArray) (k : Nat) (w : World) (hS : ∀ W, Below w.heap.size w W → Calls Tryz.prog 56 #[.pointer (some a), .string s] W (fun e w' => ∃ n : Nat, 1 ≤ n ∧ RStatR (some (true, n)) W e w')) :
    Calls Tryz.prog 34 #[.string ⟨#[45, 122]⟩, .string s, .int .i64 k, .pointer (some a)] w (RtR w (.val s.toList.isEmpty) k) := by
  have hz := Lib.hid (zF w)
  have hS' := Lib.hid hS
  clear hS
  have hq0 := zSt (w.alloc (.cells #[.int .i64 0, .int .i64 0, .int .i64 0] 28))
  rw [World.size_alloc] at hq0
  have hq := Lib.hid hq0
  clear hq0
  have b0 := Lib.hid (((Below.refl w.heap.size w).alloc (Nat.le_refl _) (.cells #[.int .i64 0, .int .i64 0, .int .i64 0] 28)).alloc (by simp) (.cells #[.int .i64 0, .int .i64 0, .int .i64 0, .int .i64 0] 117))
  go_enter Tryz.func34, Tryz.ntmps34
  go_wp2_with (refine store_st rfl rfl _ _ rfl _ 0 0 0 0 0 0 0 0 rfl rfl hq.out ?_; intro w2 h2 g2 z2)
  have f2 : IsF w2 w.heap.size 0 0 0 := row_grown (row_alloc hz.out _) g2 (by intro e; injection e with e; omega)
  have h2a : IsSt w2 (w.heap.size + 1) 0 0 0 0 := h2
  have b2 := Lib.hid (b0.out.grown g2 (by simp; omega) (fun k hk => by cases hk; omega))
  have z2' : w2.heap.size = w.heap.size + 2 := by rw [z2]; simp
  clear g2 z2 h2
  go_wp2_with fail
  refine (hS'.out w2 b2.out).mono ?_
  rintro e w3 ⟨n, hn1, b3, l, t, rfl⟩
  have hn : 0 < n := by omega
  have hnI : (0 : Int) < (n : Int) := by omega
  have f3 := row_below f2 b3 (by omega)
  have h3 := row_below h2a b3 (by omega)
  have bb3 := Lib.hid (b2.out.trans (b3.mono (by omega)))
  have z3 := b3.size
  go_wp2_with (first | (refine store_st rfl rfl _ _ rfl _ 2 (n : Int) l t 0 0 0 0 rfl rfl h3 ?_; intro w4 h4 g4 z4; have f4 : IsF w4 w.heap.size 0 0 0 := row_grown f3 g4 (by intro e; injection e with e; omega); have q0 : w4.cell? ⟨w.heap.size + 1, 0, none⟩ = some (.int .i64 2) := row_cell h4 rfl; have q1 : w4.cell? ⟨w.heap.size + 1, 1, none⟩ = some (.int .i64 (n : Int)) := row_cell h4 rfl) | (refine store_flt rfl rfl _ _ rfl _ 0 0 0 0 0 0 rfl rfl f4 ?_; intro w5 h5 g5 z5))
  have b4 := Lib.hid (bb3.out.grown g4 (by omega) (fun k hk => by cases hk; omega))
  have z4' : w.heap.size + 2 ≤ w4.heap.size := by omega
  clear g4 z4 h4
  exact ret_bf rfl rfl rfl rfl h5 ⟨rfl, b4.out.grown g5 (by omega) (fun k hk => by cases hk; exact Nat.le_refl _)⟩
set_option maxHeartbeats 1000000 in
set_option maxRecDepth 100000 in
theorem rud_e (a : Addr) (s : ByteArray) (k : Nat) (w : World) (hS : ∀ W, Below w.heap.size w W → Calls Tryz.prog 56 #[.pointer (some a), .string s] W (fun e w' => ∃ n : Nat, 1 ≤ n ∧ RStatR (some (true, n)) W e w')) :
    Calls Tryz.prog 34 #[.string ⟨#[45, 101]⟩, .string s, .int .i64 k, .pointer (some a)] w (RtR w (.val true) k) := by
  have hz := Lib.hid (zF w)
  have hS' := Lib.hid hS
  clear hS
  have hq0 := zSt (w.alloc (.cells #[.int .i64 0, .int .i64 0, .int .i64 0] 28))
  rw [World.size_alloc] at hq0
  have hq := Lib.hid hq0
  clear hq0
  have b0 := Lib.hid (((Below.refl w.heap.size w).alloc (Nat.le_refl _) (.cells #[.int .i64 0, .int .i64 0, .int .i64 0] 28)).alloc (by simp) (.cells #[.int .i64 0, .int .i64 0, .int .i64 0, .int .i64 0] 117))
  go_enter Tryz.func34, Tryz.ntmps34
  go_wp2_with (refine store_st rfl rfl _ _ rfl _ 0 0 0 0 0 0 0 0 rfl rfl hq.out ?_; intro w2 h2 g2 z2)
  have f2 : IsF w2 w.heap.size 0 0 0 := row_grown (row_alloc hz.out _) g2 (by intro e; injection e with e; omega)
  have h2a : IsSt w2 (w.heap.size + 1) 0 0 0 0 := h2
  have b2 := Lib.hid (b0.out.grown g2 (by simp; omega) (fun k hk => by cases hk; omega))
  have z2' : w2.heap.size = w.heap.size + 2 := by rw [z2]; simp
  clear g2 z2 h2
  go_wp2_with fail
  refine (hS'.out w2 b2.out).mono ?_
  rintro e w3 ⟨n, hn1, b3, l, t, rfl⟩
  have hn : 0 < n := by omega
  have hnI : (0 : Int) < (n : Int) := by omega
  have f3 := row_below f2 b3 (by omega)
  have h3 := row_below h2a b3 (by omega)
  have bb3 := Lib.hid (b2.out.trans (b3.mono (by omega)))
  have z3 := b3.size
  go_wp2_with (first | (refine store_st rfl rfl _ _ rfl _ 2 (n : Int) l t 0 0 0 0 rfl rfl h3 ?_; intro w4 h4 g4 z4; have f4 : IsF w4 w.heap.size 0 0 0 := row_grown f3 g4 (by intro e; injection e with e; omega); have q0 : w4.cell? ⟨w.heap.size + 1, 0, none⟩ = some (.int .i64 2) := row_cell h4 rfl; have q1 : w4.cell? ⟨w.heap.size + 1, 1, none⟩ = some (.int .i64 (n : Int)) := row_cell h4 rfl) | (refine store_flt rfl rfl _ _ rfl _ 0 0 0 0 0 0 rfl rfl f4 ?_; intro w5 h5 g5 z5))
  have b4 := Lib.hid (bb3.out.grown g4 (by omega) (fun k hk => by cases hk; omega))
  have z4' : w.heap.size + 2 ≤ w4.heap.size := by omega
  clear g4 z4 h4
  exact ret_bf rfl rfl rfl rfl h5 ⟨rfl, b4.out.grown g5 (by omega) (fun k hk => by cases hk; exact Nat.le_refl _)⟩
set_option maxHeartbeats 1000000 in
set_option maxRecDepth 100000 in
theorem rud_f (a : Addr) (s : ByteArray) (k : Nat) (w : World) (hS : ∀ W, Below w.heap.size w W → Calls Tryz.prog 56 #[.pointer (some a), .string s] W (fun e w' => ∃ n : Nat, 1 ≤ n ∧ RStatR (some (true, n)) W e w')) :
    Calls Tryz.prog 34 #[.string ⟨#[45, 102]⟩, .string s, .int .i64 k, .pointer (some a)] w (RtR w (.val false) k) := by
  have hz := Lib.hid (zF w)
  have hS' := Lib.hid hS
  clear hS
  have hq0 := zSt (w.alloc (.cells #[.int .i64 0, .int .i64 0, .int .i64 0] 28))
  rw [World.size_alloc] at hq0
  have hq := Lib.hid hq0
  clear hq0
  have b0 := Lib.hid (((Below.refl w.heap.size w).alloc (Nat.le_refl _) (.cells #[.int .i64 0, .int .i64 0, .int .i64 0] 28)).alloc (by simp) (.cells #[.int .i64 0, .int .i64 0, .int .i64 0, .int .i64 0] 117))
  go_enter Tryz.func34, Tryz.ntmps34
  go_wp2_with (refine store_st rfl rfl _ _ rfl _ 0 0 0 0 0 0 0 0 rfl rfl hq.out ?_; intro w2 h2 g2 z2)
  have f2 : IsF w2 w.heap.size 0 0 0 := row_grown (row_alloc hz.out _) g2 (by intro e; injection e with e; omega)
  have h2a : IsSt w2 (w.heap.size + 1) 0 0 0 0 := h2
  have b2 := Lib.hid (b0.out.grown g2 (by simp; omega) (fun k hk => by cases hk; omega))
  have z2' : w2.heap.size = w.heap.size + 2 := by rw [z2]; simp
  clear g2 z2 h2
  go_wp2_with fail
  refine (hS'.out w2 b2.out).mono ?_
  rintro e w3 ⟨n, hn1, b3, l, t, rfl⟩
  have hn : 0 < n := by omega
  have hnI : (0 : Int) < (n : Int) := by omega
  have f3 := row_below f2 b3 (by omega)
  have h3 := row_below h2a b3 (by omega)
  have bb3 := Lib.hid (b2.out.trans (b3.mono (by omega)))
  have z3 := b3.size
  go_wp2_with (first | (refine store_st rfl rfl _ _ rfl _ 2 (n : Int) l t 0 0 0 0 rfl rfl h3 ?_; intro w4 h4 g4 z4; have f4 : IsF w4 w.heap.size 0 0 0 := row_grown f3 g4 (by intro e; injection e with e; omega); have q0 : w4.cell? ⟨w.heap.size + 1, 0, none⟩ = some (.int .i64 2) := row_cell h4 rfl; have q1 : w4.cell? ⟨w.heap.size + 1, 1, none⟩ = some (.int .i64 (n : Int)) := row_cell h4 rfl) | (refine store_flt rfl rfl _ _ rfl _ 0 0 0 0 0 0 rfl rfl f4 ?_; intro w5 h5 g5 z5))
  have b4 := Lib.hid (bb3.out.grown g4 (by omega) (fun k hk => by cases hk; omega))
  have z4' : w.heap.size + 2 ≤ w4.heap.size := by omega
  clear g4 z4 h4
  exact ret_bf rfl rfl rfl rfl h5 ⟨rfl, b4.out.grown g5 (by omega) (fun k hk => by cases hk; exact Nat.le_refl _)⟩
set_option maxHeartbeats 1000000 in
set_option maxRecDepth 100000 in
theorem rud_d (a : Addr) (s : ByteArray) (k : Nat) (w : World) (hS : ∀ W, Below w.heap.size w W → Calls Tryz.prog 56 #[.pointer (some a), .string s] W (fun e w' => ∃ n : Nat, 1 ≤ n ∧ RStatR (some (true, n)) W e w')) :
    Calls Tryz.prog 34 #[.string ⟨#[45, 100]⟩, .string s, .int .i64 k, .pointer (some a)] w (RtR w (.val true) k) := by
  have hz := Lib.hid (zF w)
  have hS' := Lib.hid hS
  clear hS
  have hq0 := zSt (w.alloc (.cells #[.int .i64 0, .int .i64 0, .int .i64 0] 28))
  rw [World.size_alloc] at hq0
  have hq := Lib.hid hq0
  clear hq0
  have b0 := Lib.hid (((Below.refl w.heap.size w).alloc (Nat.le_refl _) (.cells #[.int .i64 0, .int .i64 0, .int .i64 0] 28)).alloc (by simp) (.cells #[.int .i64 0, .int .i64 0, .int .i64 0, .int .i64 0] 117))
  go_enter Tryz.func34, Tryz.ntmps34
  go_wp2_with (refine store_st rfl rfl _ _ rfl _ 0 0 0 0 0 0 0 0 rfl rfl hq.out ?_; intro w2 h2 g2 z2)
  have f2 : IsF w2 w.heap.size 0 0 0 := row_grown (row_alloc hz.out _) g2 (by intro e; injection e with e; omega)
  have h2a : IsSt w2 (w.heap.size + 1) 0 0 0 0 := h2
  have b2 := Lib.hid (b0.out.grown g2 (by simp; omega) (fun k hk => by cases hk; omega))
  have z2' : w2.heap.size = w.heap.size + 2 := by rw [z2]; simp
  clear g2 z2 h2
  go_wp2_with fail
  refine (hS'.out w2 b2.out).mono ?_
  rintro e w3 ⟨n, hn1, b3, l, t, rfl⟩
  have hn : 0 < n := by omega
  have hnI : (0 : Int) < (n : Int) := by omega
  have f3 := row_below f2 b3 (by omega)
  have h3 := row_below h2a b3 (by omega)
  have bb3 := Lib.hid (b2.out.trans (b3.mono (by omega)))
  have z3 := b3.size
  go_wp2_with (first | (refine store_st rfl rfl _ _ rfl _ 2 (n : Int) l t 0 0 0 0 rfl rfl h3 ?_; intro w4 h4 g4 z4; have f4 : IsF w4 w.heap.size 0 0 0 := row_grown f3 g4 (by intro e; injection e with e; omega); have q0 : w4.cell? ⟨w.heap.size + 1, 0, none⟩ = some (.int .i64 2) := row_cell h4 rfl; have q1 : w4.cell? ⟨w.heap.size + 1, 1, none⟩ = some (.int .i64 (n : Int)) := row_cell h4 rfl) | (refine store_flt rfl rfl _ _ rfl _ 0 0 0 0 0 0 rfl rfl f4 ?_; intro w5 h5 g5 z5))
  have b4 := Lib.hid (bb3.out.grown g4 (by omega) (fun k hk => by cases hk; omega))
  have z4' : w.heap.size + 2 ≤ w4.heap.size := by omega
  clear g4 z4 h4
  exact ret_bf rfl rfl rfl rfl h5 ⟨rfl, b4.out.grown g5 (by omega) (fun k hk => by cases hk; exact Nat.le_refl _)⟩
set_option maxHeartbeats 1000000 in
set_option maxRecDepth 100000 in
theorem rud_o (a : Addr) (o s : ByteArray) (h1 : (o.toList == [45, 110]) = false) (h2 : (o.toList == [45, 122]) = false) (h3 : (o.toList == [45, 101]) = false) (h4 : (o.toList == [45, 102]) = false) (h5 : (o.toList == [45, 100]) = false) (h6 : (o.toList == [45, 115]) = false) (k : Nat) (w : World) (hS : ∀ W, Below w.heap.size w W → Calls Tryz.prog 56 #[.pointer (some a), .string s] W (fun e w' => ∃ n : Nat, 1 ≤ n ∧ RStatR (some (true, n)) W e w')) :
    Calls Tryz.prog 34 #[.string o, .string s, .int .i64 k, .pointer (some a)] w (RtR w (.err 14 0) k) := by
  have hz := Lib.hid (zF w)
  have hS' := Lib.hid hS
  clear hS
  have hq0 := zSt (w.alloc (.cells #[.int .i64 0, .int .i64 0, .int .i64 0] 28))
  rw [World.size_alloc] at hq0
  have hq := Lib.hid hq0
  clear hq0
  have b0 := Lib.hid (((Below.refl w.heap.size w).alloc (Nat.le_refl _) (.cells #[.int .i64 0, .int .i64 0, .int .i64 0] 28)).alloc (by simp) (.cells #[.int .i64 0, .int .i64 0, .int .i64 0, .int .i64 0] 117))
  go_enter Tryz.func34, Tryz.ntmps34
  go_wp2_with (refine store_st rfl rfl _ _ rfl _ 0 0 0 0 0 0 0 0 rfl rfl hq.out ?_; intro w2 h2 g2 z2)
  have f2 : IsF w2 w.heap.size 0 0 0 := row_grown (row_alloc hz.out _) g2 (by intro e; injection e with e; omega)
  have h2a : IsSt w2 (w.heap.size + 1) 0 0 0 0 := h2
  have b2 := Lib.hid (b0.out.grown g2 (by simp; omega) (fun k hk => by cases hk; omega))
  have z2' : w2.heap.size = w.heap.size + 2 := by rw [z2]; simp
  clear g2 z2 h2
  go_wp2_with fail
  refine (hS'.out w2 b2.out).mono ?_
  rintro e w3 ⟨n, hn1, b3, l, t, rfl⟩
  have hn : 0 < n := by omega
  have hnI : (0 : Int) < (n : Int) := by omega
  have f3 := row_below f2 b3 (by omega)
  have h3 := row_below h2a b3 (by omega)
  have bb3 := Lib.hid (b2.out.trans (b3.mono (by omega)))
  have z3 := b3.size
  go_wp2_with (first | (refine store_st rfl rfl _ _ rfl _ 2 (n : Int) l t 0 0 0 0 rfl rfl h3 ?_; intro w4 h4 g4 z4; have f4 : IsF w4 w.heap.size 0 0 0 := row_grown f3 g4 (by intro e; injection e with e; omega); have q0 : w4.cell? ⟨w.heap.size + 1, 0, none⟩ = some (.int .i64 2) := row_cell h4 rfl; have q1 : w4.cell? ⟨w.heap.size + 1, 1, none⟩ = some (.int .i64 (n : Int)) := row_cell h4 rfl))
  have b4 := Lib.hid (bb3.out.grown g4 (by omega) (fun k hk => by cases hk; omega))
  have z4' : w.heap.size + 2 ≤ w4.heap.size := by omega
  clear g4 z4 h4
  refine (rbad_any _ _ _).mono ?_
  rintro e w5 ⟨rfl, b5⟩
  have f5 := row_below f4 b5 (by omega)
  have bb5 := Lib.hid (b4.out.trans (b5.mono (by omega)))
  have z5 := b5.size
  go_wp2_with (refine store_flt rfl rfl _ _ rfl _ 14 k 6 0 0 0 rfl rfl f5 ?_; intro w6 h6 g6 z6)
  refine ret_bf rfl rfl rfl rfl h6 ⟨?_, bb5.out.grown g6 (by omega) (fun k hk => by cases hk; exact Nat.le_refl _)⟩
  show _ = Ending.returned (.tuple #[.bool false, fv 14 ((0 + k : Nat) : Int) 6])
  rw [Nat.zero_add]
  rfl
set_option maxHeartbeats 1000000 in
set_option maxRecDepth 100000 in
theorem rud_s (a : Addr) (s : ByteArray) (k : Nat) (w : World) (hS : ∀ W, Below w.heap.size w W → Calls Tryz.prog 56 #[.pointer (some a), .string s] W (fun e w' => ∃ n : Nat, 1 ≤ n ∧ RStatR (some (true, n)) W e w')) :
    Calls Tryz.prog 34 #[.string ⟨#[45, 115]⟩, .string s, .int .i64 k, .pointer (some a)] w (RtR w (.val true) k) := by
  have hz := Lib.hid (zF w)
  have hS' := Lib.hid hS
  clear hS
  have hq0 := zSt (w.alloc (.cells #[.int .i64 0, .int .i64 0, .int .i64 0] 28))
  rw [World.size_alloc] at hq0
  have hq := Lib.hid hq0
  clear hq0
  have b0 := Lib.hid (((Below.refl w.heap.size w).alloc (Nat.le_refl _) (.cells #[.int .i64 0, .int .i64 0, .int .i64 0] 28)).alloc (by simp) (.cells #[.int .i64 0, .int .i64 0, .int .i64 0, .int .i64 0] 117))
  go_enter Tryz.func34, Tryz.ntmps34
  go_wp2_with (refine store_st rfl rfl _ _ rfl _ 0 0 0 0 0 0 0 0 rfl rfl hq.out ?_; intro w2 h2 g2 z2)
  have f2 : IsF w2 w.heap.size 0 0 0 := row_grown (row_alloc hz.out _) g2 (by intro e; injection e with e; omega)
  have h2a : IsSt w2 (w.heap.size + 1) 0 0 0 0 := h2
  have b2 := Lib.hid (b0.out.grown g2 (by simp; omega) (fun k hk => by cases hk; omega))
  have z2' : w2.heap.size = w.heap.size + 2 := by rw [z2]; simp
  clear g2 z2 h2
  go_wp2_with fail
  refine (hS'.out w2 b2.out).mono ?_
  rintro e w3 ⟨n, hn1, b3, l, t, rfl⟩
  have hn : 0 < n := by omega
  have hnI : (0 : Int) < (n : Int) := by omega
  have f3 := row_below f2 b3 (by omega)
  have h3 := row_below h2a b3 (by omega)
  have bb3 := Lib.hid (b2.out.trans (b3.mono (by omega)))
  have z3 := b3.size
  go_wp2_with (first | (refine store_st rfl rfl _ _ rfl _ 2 (n : Int) l t 0 0 0 0 rfl rfl h3 ?_; intro w4 h4 g4 z4; have f4 : IsF w4 w.heap.size 0 0 0 := row_grown f3 g4 (by intro e; injection e with e; omega); have q0 : w4.cell? ⟨w.heap.size + 1, 0, none⟩ = some (.int .i64 2) := row_cell h4 rfl; have q1 : w4.cell? ⟨w.heap.size + 1, 1, none⟩ = some (.int .i64 (n : Int)) := row_cell h4 rfl) | (refine store_flt rfl rfl _ _ rfl _ 0 0 0 0 0 0 rfl rfl f4 ?_; intro w5 h5 g5 z5))
  have b4 := Lib.hid (bb3.out.grown g4 (by omega) (fun k hk => by cases hk; omega))
  have z4' : w.heap.size + 2 ≤ w4.heap.size := by omega
  clear g4 z4 h4
  exact ret_bf rfl rfl rfl rfl h5 ⟨rfl, b4.out.grown g5 (by omega) (fun k hk => by cases hk; exact Nat.le_refl _)⟩
theorem runary_dir (a : Addr) (o s : ByteArray) (k : Nat) (w : World) (hS : ∀ W, Below w.heap.size w W → Calls Tryz.prog 56 #[.pointer (some a), .string s] W (fun e w' => ∃ n : Nat, 1 ≤ n ∧ RStatR (some (true, n)) W e w')) :
    Calls Tryz.prog 34 #[.string o, .string s, .int .i64 k, .pointer (some a)] w (RtR w (unO (unP (some (true, 1))) o.data.toList s.data.toList) k) := by
  unfold unO unP
  by_cases h1 : (o.data.toList == [45, 110]) = true
  · rw [if_pos h1]
    obtain rfl := bytes_eq h1
    rw [← Lib.toList_data]
    exact rud_n a s k w hS
  rw [if_neg h1]
  by_cases h2 : (o.data.toList == [45, 122]) = true
  · rw [if_pos h2]
    obtain rfl := bytes_eq h2
    rw [← Lib.toList_data]
    exact rud_z a s k w hS
  rw [if_neg h2]
  by_cases h3 : (o.data.toList == [45, 101]) = true
  · rw [if_pos h3]
    obtain rfl := bytes_eq h3
    exact rud_e a s k w hS
  rw [if_neg h3]
  by_cases h4 : (o.data.toList == [45, 102]) = true
  · rw [if_pos h4]
    obtain rfl := bytes_eq h4
    exact rud_f a s k w hS
  rw [if_neg h4]
  by_cases h5 : (o.data.toList == [45, 100]) = true
  · rw [if_pos h5]
    obtain rfl := bytes_eq h5
    exact rud_d a s k w hS
  rw [if_neg h5]
  by_cases h6 : (o.data.toList == [45, 115]) = true
  · rw [if_pos h6]
    obtain rfl := bytes_eq h6
    exact rud_s a s k w hS
  rw [if_neg h6]
  exact rud_o a o s (beq_no h1) (beq_no h2) (beq_no h3) (beq_no h4) (beq_no h5) (beq_no h6) k w hS
end Go.Proofs.YtfnaooplpofgiaaGreatDoor
