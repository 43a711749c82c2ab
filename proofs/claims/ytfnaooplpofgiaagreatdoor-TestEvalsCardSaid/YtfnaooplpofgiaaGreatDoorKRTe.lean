/- The document's Test of any operands: what the plain words say. Conditions: the operands lie in memory; what an operator of one operand tells is given as a contract. -/
import Derived.Test.YtfnaooplpofgiaaGreatDoorKRTst
import Derived.WalkMore
import Derived.OwnWalk
import Derived.Handy
import Derived.Outline
namespace Go.Proofs.YtfnaooplpofgiaaGreatDoor
open Go Go.RowKit SN

theorem longAt_all : ∀ (l : List (List UInt8)), longAt l = none → ∀ s ∈ l, s.length ≤ 1024
  | [], _, s, h => by cases h
  | t :: l, h, s, hs => by
    unfold longAt at h
    by_cases ht : 1024 < t.length
    · rw [if_pos ht] at h; cases h
    · rw [if_neg ht] at h
      rcases List.mem_cons.1 hs with rfl | hs
      · omega
      · exact longAt_all l (by cases hx : longAt l with | none => rfl | some i => rw [hx] at h; cases h) s hs
section
variable {tv : Value} {U : List UInt8 → List UInt8 → Option Bool} {G : World → Prop}
/-- What an operator of one operand tells, as an outcome. -/
def unO (U : List UInt8 → List UInt8 → Option Bool) (a b : List UInt8) : Out := match U a b with
  | some x => .val x
  | none => .err 14 0
/-- What is asked of the document's operator of one operand. -/
def RUnC (tv : Value) (U : List UInt8 → List UInt8 → Option Bool) (G : World → Prop) : Prop := ∀ W s0 s1 (k : Nat), k ≤ 100 → G W → Calls Tryz.prog 34 #[.string s0, .string s1, .int .i64 k, tv] W (RtR W (unO U s0.data.toList s1.data.toList) k)
theorem fO_parts (O : Out) (k : Nat) : ∃ cd p l, fO O k = fv cd p l := by
  cases O with
  | val x => exact ⟨0, 0, 0, rfl⟩
  | err c p => exact ⟨_, _, _, rfl⟩
theorem rtr_val {w : World} {x : Bool} {k j : Nat} {e : Ending} {w' : World} (h : RtR w (.val x) k e w') : RtR w (.val x) j e w' := h
theorem rtest2_any (hG : ∀ W W', G W → Below W.heap.size W W' → G W') (hU : RUnC tv U G) (b f c k : Nat) (s0 s1 : ByteArray) (w : World) (hg : G w) (hb : b < w.heap.size) (hc : 2 ≤ c) (hk : k ≤ 99) (hR : RowAt w b f [s0, s1]) :
    Calls Tryz.prog 17 #[.slice (some ⟨b, f, none⟩) 2 c, .int .i64 k, tv] w (RtR w (eval2O U s0.data.toList s1.data.toList) k) := by
  unfold eval2O
  by_cases h33 : (s0.data.toList == [33]) = true
  · rw [if_pos h33]
    obtain rfl := bytes_eq h33
    exact rtest2_not b f c k tv _ w hc (by omega) trivial hb (hR 0 _ rfl) fun W bW hW => rtest1_any b (f + 1) (c - 1) (k + 1) tv s1 W (hR.below bW hb).tail (by omega)
  · rw [if_neg h33]
    have hu := fun W (h : Below w.heap.size w W) => hU W s0 s1 k (by omega) (hG w W hg h)
    show Calls _ _ _ _ (RtR w (unO U s0.data.toList s1.data.toList) k)
    generalize unO U s0.data.toList s1.data.toList = O at hu
    obtain ⟨cd, p, l, e⟩ := fO_parts O k
    unfold RtR at hu ⊢
    rw [e] at hu ⊢
    exact rtest2_un b f c k tv s0 s1 O.bool cd p l w hb (beq_no h33) (hR 0 s0 rfl) (hR 1 s1 rfl) hu
theorem rtest3_any (hG : ∀ W W', G W → Below W.heap.size W W' → G W') (hU : RUnC tv U G) (b f c k : Nat) (s0 s1 s2 : ByteArray) (w : World) (hg : G w) (hb : b < w.heap.size) (hc : 3 ≤ c) (hk : k ≤ 98)
    (h0 : s0.size ≤ 1024) (h2 : s2.size ≤ 1024) (hR : RowAt w b f [s0, s1, s2]) :
    Calls Tryz.prog 17 #[.slice (some ⟨b, f, none⟩) 3 c, .int .i64 k, tv] w (RtR w (eval3O U s0.data.toList s1.data.toList s2.data.toList) k) := by
  unfold eval3O
  have hB := fun W => rbinary_any s0 s1 s2 W
  have r0 : w.cell? ⟨b, f, none⟩ = some (.string s0) := hR 0 s0 rfl
  have r1 : w.cell? ⟨b, f + 1, none⟩ = some (.string s1) := hR 1 s1 rfl
  have r2 : w.cell? ⟨b, f + 2, none⟩ = some (.string s2) := hR 2 s2 rfl
  cases hx : binO s0.data.toList s1.data.toList s2.data.toList with
  | some O =>
    rw [hx] at hB
    have ht := fun W => rtwo_any s0 s1 s2 h0 h2 k (by omega) W hx
    show Calls _ _ _ _ (RtR w O k)
    obtain ⟨cd, p, l, e⟩ := fO_parts O k
    unfold RtR at ht ⊢
    rw [e] at ht ⊢
    exact rtest3_two b f c k tv s0 s1 s2 O.bool cd p l w hb r0 r1 r2 hB fun W _ => ht W
  | none =>
    rw [hx] at hB
    show Calls _ _ _ _ (RtR w (if s0.data.toList == [33] then (eval2O U s1.data.toList s2.data.toList).neg else if s0.data.toList == [40] && s2.data.toList == [41] then .val (!s1.data.toList.isEmpty) else .err 14 1) k)
    by_cases h33 : (s0.data.toList == [33]) = true
    · rw [if_pos h33]
      obtain rfl := bytes_eq h33
      exact rtest3_not b f c k tv _ w hc (by omega) (eval2_ok' U _ _) hb s1 r0 r1 hB fun W bW hW => rtest2_any hG hU b (f + 1) (c - 1) (k + 1) s1 s2 W (hG w W hg bW) (by omega) (by omega) (by omega) (hR.below bW hb).tail
    · rw [if_neg h33]
      by_cases h40 : (s0.data.toList == [40]) = true
      · obtain rfl := bytes_eq h40
        by_cases h41 : (s2.data.toList == [41]) = true
        · rw [if_pos (by rw [h41]; rfl)]
          obtain rfl := bytes_eq h41
          exact rtest3_par b f c k tv s1 (.val _) w (by omega) hb r0 r1 r2 hB hc fun W bW hW => rtest1_any b (f + 1) (c - 1) (k + 1) tv s1 W (RowAt.init (l := [s1]) (m := [⟨#[41]⟩]) (hR.below bW hb).tail) (by omega)
        · rw [if_neg (by simpa using h41)]
          exact rtest3_no2 b f c k tv s1 s2 w (by omega) hb (beq_no h41) r0 r1 r2 hB
      · rw [if_neg (by simp [h40])]
        exact rtest3_no b f c k tv s0 s1 w (by omega) hb (beq_no h33) (beq_no h40) r0 r1 hB
theorem rtest4_any (hG : ∀ W W', G W → Below W.heap.size W W' → G W') (hU : RUnC tv U G) (b f c k : Nat) (s0 s1 s2 s3 : ByteArray) (w : World) (hg : G w) (hb : b < w.heap.size) (hc : 4 ≤ c) (hk : k ≤ 97)
    (h1 : s1.size ≤ 1024) (h3 : s3.size ≤ 1024) (hR : RowAt w b f [s0, s1, s2, s3]) :
    Calls Tryz.prog 17 #[.slice (some ⟨b, f, none⟩) 4 c, .int .i64 k, tv] w (RtR w (eval4O U s0.data.toList s1.data.toList s2.data.toList s3.data.toList) k) := by
  unfold eval4O
  have r0 : w.cell? ⟨b, f, none⟩ = some (.string s0) := hR 0 s0 rfl
  have r3 : w.cell? ⟨b, f + 3, none⟩ = some (.string s3) := hR 3 s3 rfl
  by_cases h33 : (s0.data.toList == [33]) = true
  · rw [if_pos h33]
    obtain rfl := bytes_eq h33
    exact rtest4_not b f c k tv _ w hc (by omega) (eval3_ok' U _ _ _) hb r0 fun W bW hW => rtest3_any hG hU b (f + 1) (c - 1) (k + 1) s1 s2 s3 W (hG w W hg bW) (by omega) (by omega) (by omega) h1 h3 (hR.below bW hb).tail
  · rw [if_neg h33]
    by_cases h40 : (s0.data.toList == [40]) = true
    · obtain rfl := bytes_eq h40
      by_cases h41 : (s3.data.toList == [41]) = true
      · rw [if_pos (by rw [h41]; rfl)]
        obtain rfl := bytes_eq h41
        exact rtest4_par b f c k tv _ w (by omega) hb r0 r3 hc fun W bW hW => rtest2_any hG hU b (f + 1) (c - 1) (k + 1) s1 s2 W (hG w W hg bW) (by omega) (by omega) (by omega) (RowAt.init (l := [s1, s2]) (m := [⟨#[41]⟩]) (hR.below bW hb).tail)
      · rw [if_neg (by simpa using h41)]
        exact rtest4_no2 b f c k tv s3 w hb (beq_no h41) r0 r3
    · rw [if_neg (by simp [h40])]
      exact rtest4_no b f c k tv s0 w hb (beq_no h33) (beq_no h40) r0
theorem rtest_any (hG : ∀ W W', G W → Below W.heap.size W W' → G W') (hU : RUnC tv U G) (sl : Value) (l : List ByteArray) (w : World) (hg : G w) (hs : ∀ s ∈ l, s.size ≤ 1024) (hR : IsOps w sl l) :
    Calls Tryz.prog 17 #[sl, .int .i64 (0 : Nat), tv] w (RtR w (evalO U (l.map fun s => s.data.toList)) 0) := by
  obtain ⟨p, c, rfl, hc, h⟩ := hR
  match l with
  | [] => exact rtest0_any p c 0 tv w
  | s0 :: l =>
    rcases h with h | ⟨b, rfl, hb, hR⟩
    · cases h
    match l with
    | [] => exact rtest1_any b 0 c 0 tv s0 w hR hb
    | [s1] => exact rtest2_any hG hU b 0 c 0 s0 s1 w hg hb hc (by decide) hR
    | [s1, s2] => exact rtest3_any hG hU b 0 c 0 s0 s1 s2 w hg hb hc (by decide) (hs s0 (by simp)) (hs s2 (by simp)) hR
    | [s1, s2, s3] => exact rtest4_any hG hU b 0 c 0 s0 s1 s2 s3 w hg hb hc (by decide) (hs s1 (by simp)) (hs s3 (by simp)) hR
    | s1 :: s2 :: s3 :: s4 :: l => exact rtest5_any _ _ _ _ _ _ (by show 4 < l.length + 1 + 1 + 1 + 1 + 1; omega) (by decide)
end
/-- The errors of operands, as an outcome (true: none). -/
def opsO (l : List (List UInt8)) : Out := if 64 < l.length then .err 5 0 else match longAt l with
  | some i => .err 2 i
  | none => .val true
set_option maxHeartbeats 1000000 in
set_option maxRecDepth 100000 in
theorem rOps_many (p : Option Addr) (n c : Nat) (w : World) (hn : 64 < n) : Calls Tryz.prog 16 #[.slice p n c, .int .i64 6] w fun e w' => e = .returned (fv 5 0 6) ∧ Below w.heap.size w w' := by
  have hz := Lib.hid (zF w)
  have hnI : (64 : Int) < (n : Int) := by omega
  go_enter Tryz.func16, Tryz.ntmps16
  go_wp2_with fail
  refine (rF_any 5 0 6 _).mono ?_
  rintro e w1 ⟨rfl, b1⟩
  have h1 := Lib.hid (row_below hz.out b1 (by simp))
  have b2 := Lib.hid (((Below.refl w.heap.size w).alloc (Nat.le_refl _) (.cells #[.int .i64 0, .int .i64 0, .int .i64 0] 28)).trans (b1.mono (by simp)))
  have z1 := b1.size
  rw [World.size_alloc] at z1
  clear b1
  go_wp2_with (refine store_flt rfl rfl _ _ rfl _ 5 0 6 0 0 0 rfl rfl h1.out ?_; intro w2 h2 g2 z2)
  exact ret_flt rfl rfl rfl h2 ⟨rfl, b2.out.grown g2 (by omega) (fun k hk => by cases hk; exact Nat.le_refl _)⟩
set_option maxHeartbeats 1000000 in
set_option maxRecDepth 100000 in
theorem rOps_nil (p : Option Addr) (c : Nat) (w : World) : Calls Tryz.prog 16 #[.slice p 0 c, .int .i64 6] w fun e w' => e = .returned (fv 0 0 0) ∧ Below w.heap.size w w' := by
  have hz := Lib.hid (zF w)
  go_enter Tryz.func16, Tryz.ntmps16
  go_wp2_with fail
  refine wp_loop_rounds 1 ?_
  rw [rounds_succ]
  go_wp2_with (refine store_flt rfl rfl _ _ rfl _ 0 0 0 0 0 0 rfl rfl hz.out ?_; intro w2 h2 g2 z2)
  exact ret_flt rfl rfl rfl h2 ⟨rfl, ((Below.refl _ _).alloc (Nat.le_refl _) _).grown g2 (by simp) (fun k hk => by cases hk; exact Nat.le_refl _)⟩
set_option maxHeartbeats 1000000 in
set_option maxRecDepth 100000 in
theorem rOps_row (b c : Nat) (l : List ByteArray) (w : World) (hR : RowAt w b 0 l) (hb : b < w.heap.size) (hl : l.length ≤ 64) :
    Calls Tryz.prog 16 #[.slice (some ⟨b, 0, none⟩) l.length c, .int .i64 6] w fun e w' => e = .returned (fO (opsO (l.map fun s => s.data.toList)) 0) ∧ Below w.heap.size w w' := by
  have hz := Lib.hid (zF w)
  have hR' := Lib.hid (hR.below ((Below.refl w.heap.size w).alloc (Nat.le_refl _) (.cells #[.int .i64 0, .int .i64 0, .int .i64 0] 28)) hb)
  have hlI : ¬ (64 : Int) < (l.length : Int) := by omega
  have hO : opsO (l.map fun s => s.data.toList) = match longAt (l.map fun s => s.data.toList) with
    | some i => .err 2 i
    | none => .val true := by
    unfold opsO
    rw [if_neg (by rw [List.length_map]; omega)]
  clear hR
  generalize opsO (l.map fun s => s.data.toList) = O at hO ⊢
  have hO' := Lib.hid hO
  obtain ⟨Post, hPost⟩ : ∃ Post : Ending → World → Prop, Post = fun e w' => e = .returned (fO O 0) ∧ Below w.heap.size w w' := ⟨_, rfl⟩
  rw [← hPost]
  have hP := Lib.hid hPost
  clear hPost hO
  go_enter Tryz.func16, Tryz.ntmps16
  go_wp2_with fail
  go_loopw [14] (fun i wr => ∃ (k : Nat), k ≤ l.length ∧ i = .int .i64 k ∧ wr = w.alloc (.cells #[.int .i64 0, .int .i64 0, .int .i64 0] 28) ∧ Hid (∀ i s, i < k → l[i]? = some s → s.size ≤ 1024)) (fun i _ => l.length - (intOf i).toNat)
  case atStart => exact ⟨0, Nat.zero_le _, rfl, rfl, Lib.hid fun i s h => absurd h (by omega)⟩
  case round =>
    obtain ⟨k, hk, rfl, rfl, hsm⟩ := hrel
    by_cases hkk : k < l.length
    · have hld := hR'.out k l[k] (List.getElem?_eq_getElem hkk)
      rw [Nat.zero_add] at hld
      have hkI : (k : Int) < (l.length : Int) := by omega
      have hget := Lib.hid (List.getElem?_eq_getElem hkk)
      generalize l[k] = sk at hld hget
      by_cases hsz : sk.size ≤ 1024
      · have hszI : ¬ (1024 : Int) < (sk.size : Int) := by omega
        go_wp2_with fail
        case roundEnd =>
          refine ⟨⟨k + 1, by omega, rfl, trivial, Lib.hid fun i s hi hs => ?_⟩, ?_⟩
          · by_cases h : i = k
            · subst h; have := hget.out; rw [this] at hs; cases hs; exact hsz
            · exact hsm.out i s (by omega) hs
          · simp [intOf]; omega
      · have hszI : (1024 : Int) < (sk.size : Int) := by omega
        have hlong : longAt (l.map fun s => s.data.toList) = some k := longAt_some _ k sk.data.toList (fun i t hi ht => by
          rw [List.getElem?_map] at ht
          cases hx : l[i]? with
          | none => rw [hx] at ht; cases ht
          | some s => rw [hx] at ht; cases ht; have := hsm.out i s hi hx; simpa using this) (by rw [List.getElem?_map, hget.out]; rfl) (by simp; omega)
        have hOk : O = .err 2 k := by rw [hO'.out, hlong]
        have hOk' := Lib.hid hOk
        clear hlong hOk
        go_wp2_with fail
        refine (rF_any 2 k 6 _).mono ?_
        rintro e w1 ⟨rfl, b1⟩
        have h1 := Lib.hid (row_below hz.out b1 (by simp))
        have b2 := Lib.hid (((Below.refl w.heap.size w).alloc (Nat.le_refl _) (.cells #[.int .i64 0, .int .i64 0, .int .i64 0] 28)).trans (b1.mono (by simp)))
        have z1 := b1.size
        rw [World.size_alloc] at z1
        clear b1
        go_wp2_with (refine store_flt rfl rfl _ _ rfl _ 2 k 6 0 0 0 rfl rfl h1.out ?_; intro w2 h2 g2 z2)
        refine ret_flt rfl rfl rfl h2 ?_
        rw [hP.out, hOk'.out]
        exact ⟨rfl, b2.out.grown g2 (by omega) (fun k hk => by cases hk; exact Nat.le_refl _)⟩
    · have hke : k = l.length := by omega
      subst hke
      have hall : ∀ s ∈ l, s.size ≤ 1024 := fun s hs => by
        obtain ⟨i, hi, rfl⟩ := List.getElem_of_mem hs
        exact hsm.out i _ hi (List.getElem?_eq_getElem hi)
      have hOk : O = .val true := by rw [hO'.out, longAt_none _ (fun s hs => by obtain ⟨t, ht, rfl⟩ := List.mem_map.1 hs; have := hall t ht; simpa using this)]
      have hOk' := Lib.hid hOk
      clear hall hOk
      go_wp2_with (refine store_flt rfl rfl _ _ rfl _ 0 0 0 0 0 0 rfl rfl hz.out ?_; intro w2 h2 g2 z2)
      refine ret_flt rfl rfl rfl h2 ?_
      rw [hP.out, hOk'.out]
      exact ⟨rfl, ((Below.refl _ _).alloc (Nat.le_refl _) _).grown g2 (by simp) (fun k hk => by cases hk; exact Nat.le_refl _)⟩
theorem rOps_any (sl : Value) (l : List ByteArray) (w : World) (hR : IsOps w sl l) : Calls Tryz.prog 16 #[sl, .int .i64 6] w fun e w' => e = .returned (fO (opsO (l.map fun s => s.data.toList)) 0) ∧ Below w.heap.size w w' := by
  obtain ⟨p, c, rfl, hc, h⟩ := hR
  by_cases hl : l.length ≤ 64
  · rcases h with rfl | ⟨b, rfl, hb, hR⟩
    · exact rOps_nil p c w
    · exact rOps_row b c l w hR hb hl
  · have h64 : opsO (l.map fun s => s.data.toList) = .err 5 0 := by unfold opsO; rw [if_pos (by simp; omega)]
    rw [h64]
    exact rOps_many p l.length c w (by omega)
set_option maxHeartbeats 1000000 in
set_option maxRecDepth 100000 in
theorem rTest_err (sl tv : Value) (cd pp : Nat) (hcd : 1 ≤ cd) (w : World) (hO : Calls Tryz.prog 16 #[sl, .int .i64 6] (w.alloc (.cells #[.int .i64 0, .int .i64 0, .int .i64 0] 28)) fun e w' => e = .returned (fv cd pp 6) ∧ Below (w.alloc (.cells #[.int .i64 0, .int .i64 0, .int .i64 0] 28)).heap.size (w.alloc (.cells #[.int .i64 0, .int .i64 0, .int .i64 0] 28)) w') :
    Calls Tryz.prog 8 #[sl, tv] w (RtR w (.err cd pp) 0) := by
  have hz := Lib.hid (zF w)
  have hO' := Lib.hid hO
  have hcI : ¬ (cd : Int) = 0 := by omega
  clear hO
  go_enter Tryz.func8, Tryz.ntmps8
  go_wp2_with fail
  refine hO'.out.mono ?_
  rintro e w1 ⟨rfl, b1⟩
  have h1 := Lib.hid (row_below hz.out b1 (by simp))
  have b2 := Lib.hid (((Below.refl w.heap.size w).alloc (Nat.le_refl _) (.cells #[.int .i64 0, .int .i64 0, .int .i64 0] 28)).trans (b1.mono (by simp)))
  have z1 := b1.size
  rw [World.size_alloc] at z1
  clear b1
  have hq := Lib.hid (zF w1)
  go_wp2_with (refine store_flt rfl rfl _ _ rfl _ cd pp 6 0 0 0 rfl rfl hq.out ?_; intro w2 h2 g2 z2; have c0 : w2.cell? ⟨w1.heap.size, 0, none⟩ = some (.int .i64 cd) := row_cell h2 rfl)
  have hne : w.heap.size < w1.heap.size := by omega
  have e1 := row_grown (row_alloc h1.out _) g2 (by intro e; injection e with e; omega)
  have e1' := Lib.hid (row_drew e1)
  have b3 := Lib.hid (below_drewN ((b2.out.alloc (by omega) (.cells #[.int .i64 0, .int .i64 0, .int .i64 0] 28)).grown g2 (by simp; omega) (fun j hj => by cases hj; omega)) 1)
  have z3 : w1.heap.size ≤ w2.drew.heap.size := by show w1.heap.size ≤ w2.heap.size; rw [z2]; simp
  have f0 : w2.drew.cell? ⟨w1.heap.size, 0, none⟩ = some (.int .i64 cd) := row_cell h2 rfl
  have f1 : w2.drew.cell? ⟨w1.heap.size, 1, none⟩ = some (.int .i64 pp) := row_cell h2 rfl
  have f2 : w2.drew.cell? ⟨w1.heap.size, 2, none⟩ = some (.int .i64 6) := row_cell h2 rfl
  clear e1 h2 g2 z2
  go_still_tail 2, (by kernel_rfl)
  change wpList _ _ _ _ _ w2.drew
  have b4 : Below w.heap.size w w2.drew := b3.out
  generalize w2.drew = W3 at e1' b4 z3
  go_wp2_with (refine store_flt rfl rfl _ _ rfl _ cd pp 6 0 0 0 rfl rfl e1'.out ?_; intro w4 h4 g4 z4)
  refine ret_bf rfl rfl rfl rfl h4 ⟨?_, b4.grown g4 (by omega) (fun k hk => by cases hk; exact Nat.le_refl _)⟩
  rfl
set_option maxHeartbeats 1000000 in
set_option maxRecDepth 100000 in
theorem rTest_fine (sl tv : Value) (O : Out) (w : World) (hO : Calls Tryz.prog 16 #[sl, .int .i64 6] (w.alloc (.cells #[.int .i64 0, .int .i64 0, .int .i64 0] 28)) fun e w' => e = .returned (fv 0 0 0) ∧ Below (w.alloc (.cells #[.int .i64 0, .int .i64 0, .int .i64 0] 28)).heap.size (w.alloc (.cells #[.int .i64 0, .int .i64 0, .int .i64 0] 28)) w')
    (hC : ∀ W, Below w.heap.size w W → w.heap.size ≤ W.heap.size → Calls Tryz.prog 17 #[sl, .int .i64 (0 : Nat), tv] W (RtR W O 0)) :
    Calls Tryz.prog 8 #[sl, tv] w (RtR w O 0) := by
  have hz := Lib.hid (zF w)
  have hO' := Lib.hid hO
  have hC' := Lib.hid hC
  clear hO hC
  obtain ⟨cd, p, l, e0⟩ := fO_parts O 0
  unfold RtR at hC' ⊢
  rw [e0] at hC' ⊢
  go_enter Tryz.func8, Tryz.ntmps8
  go_wp2_with fail
  refine hO'.out.mono ?_
  rintro e w1 ⟨rfl, b1⟩
  have h1 := Lib.hid (row_below hz.out b1 (by simp))
  have b2 := Lib.hid (((Below.refl w.heap.size w).alloc (Nat.le_refl _) (.cells #[.int .i64 0, .int .i64 0, .int .i64 0] 28)).trans (b1.mono (by simp)))
  have z1 := b1.size
  rw [World.size_alloc] at z1
  clear b1
  have hq := Lib.hid (zF w1)
  go_wp2_with (refine store_flt rfl rfl _ _ rfl _ 0 0 0 0 0 0 rfl rfl hq.out ?_; intro w2 h2 g2 z2; have c0 : w2.cell? ⟨w1.heap.size, 0, none⟩ = some (.int .i64 0) := row_cell h2 rfl)
  have hne : w.heap.size < w1.heap.size := by omega
  have e1 := Lib.hid (row_grown (row_alloc h1.out _) g2 (by intro e; injection e with e; omega))
  have b3 := Lib.hid ((b2.out.alloc (by omega) (.cells #[.int .i64 0, .int .i64 0, .int .i64 0] 28)).grown g2 (by simp; omega) (fun j hj => by cases hj; omega))
  have z3 : w1.heap.size ≤ w2.heap.size := by rw [z2]; simp
  clear h2 g2 z2
  refine (hC'.out w2 b3.out (by omega)).mono ?_
  rintro e w3 ⟨rfl, b4⟩
  have h5 := Lib.hid (row_below e1.out b4 (by omega))
  have b5 := Lib.hid (b3.out.trans (b4.mono (by omega)))
  have z5 := b4.size
  clear b4
  go_wp2_with (refine store_flt rfl rfl _ _ rfl _ cd p l 0 0 0 rfl rfl h5.out ?_; intro w6 h6 g6 z6)
  exact ret_bf rfl rfl rfl rfl h6 ⟨rfl, b5.out.grown g6 (by omega) (fun k hk => by cases hk; exact Nat.le_refl _)⟩
/-- The document's Test of any operands. -/
theorem rTest_any {tv : Value} {U : List UInt8 → List UInt8 → Option Bool} {G : World → Prop} (hG : ∀ W W', G W → Below W.heap.size W W' → G W') (hU : RUnC tv U G) (sl : Value) (l : List ByteArray) (w : World) (hg : G w) (hR : IsOps w sl l) :
    Calls Tryz.prog 8 #[sl, tv] w (RtR w (testO U (l.map fun s => s.data.toList)) 0) := by
  have b0 := (Below.refl w.heap.size w).alloc (Nat.le_refl _) (.cells #[.int .i64 0, .int .i64 0, .int .i64 0] 28)
  have hO := rOps_any sl l (w.alloc (.cells #[.int .i64 0, .int .i64 0, .int .i64 0] 28)) (hR.below b0 (Nat.le_refl _))
  unfold testO
  unfold opsO at hO
  by_cases hl : 64 < (l.map fun s => s.data.toList).length
  · rw [if_pos hl] at hO ⊢
    exact rTest_err sl tv 5 0 (by decide) w hO
  · rw [if_neg hl] at hO ⊢
    cases hx : longAt (l.map fun s => s.data.toList) with
    | some i =>
      rw [hx] at hO
      exact rTest_err sl tv 2 i (by decide) w hO
    | none =>
      rw [hx] at hO
      refine rTest_fine sl tv _ w hO fun W bW hW => rtest_any hG hU sl l W (hG w W hg bW) (fun s hs => ?_) (hR.below bW (Nat.le_refl _))
      exact longAt_all _ hx s.data.toList (List.mem_map.2 ⟨s, hs, rfl⟩)
end Go.Proofs.YtfnaooplpofgiaaGreatDoor
