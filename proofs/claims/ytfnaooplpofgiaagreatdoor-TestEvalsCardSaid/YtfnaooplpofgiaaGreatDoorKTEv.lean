/- The walk over TestEvals: any operands, over a tree and over none. Conditions: the errors' variables hold their values; the operands lie in memory. -/
import Derived.Test.YtfnaooplpofgiaaGreatDoorKFl
import Derived.Test.YtfnaooplpofgiaaGreatDoorKEvE
import Derived.Test.YtfnaooplpofgiaaGreatDoorKRTe
import Derived.WalkMore
import Derived.OwnWalk
import Derived.Handy
import Derived.Outline
namespace Go.Proofs.YtfnaooplpofgiaaGreatDoor
open Go Go.RowKit SN

def IsOpsF (w : World) (sl : Value) (l : List ByteArray) : Prop := ∃ p c, sl = .slice p l.length c ∧ l.length ≤ c ∧ (l = [] ∨ ∃ b f, p = some ⟨b, f, none⟩ ∧ b < w.heap.size ∧ RowAt w b f l)
theorem IsOpsF.below {w w' : World} {sl : Value} {l : List ByteArray} {M : Nat} (h : IsOpsF w sl l) (hb : Below M w w') (hM : w.heap.size ≤ M) : IsOpsF w' sl l := by
  obtain ⟨p, c, e, hc, h⟩ := h
  refine ⟨p, c, e, hc, h.imp id ?_⟩
  rintro ⟨b, f, e, hl, hR⟩
  exact ⟨b, f, e, Nat.lt_of_lt_of_le hl hb.size, hR.below hb (Nat.lt_of_lt_of_le hl hM)⟩
section
variable {N : Nat} {tv : Value} {U : List UInt8 → List UInt8 → Option Bool} {G : World → Prop}
theorem evalF_any (hG : ∀ W W', G W → Below W.heap.size W W' → G W') (hU : UnC tv U G) (b f c : Nat) (l : List ByteArray) (w : World) (hg : G w) (hT : ErrT N w) (hN : N ≤ w.heap.size) (hb : b < w.heap.size) (hc : l.length ≤ c)
    (hs : ∀ s ∈ l, s.size ≤ 1024) (hR : RowAt w b f l) :
    Calls Tryz.prog 15 #[.slice (some ⟨b, f, none⟩) l.length c, tv] w (EvR w (evalO U (l.map fun s => s.data.toList))) := by
  match l with
  | [] => exact eval0_any _ _ _ _
  | [s0] => exact eval1_any b f c tv s0 w hR
  | [s0, s1] => exact eval2_any hG hU b f c s0 s1 w hg hT hN hb hc hR
  | [s0, s1, s2] => exact eval3_any hG hU b f c s0 s1 s2 w hg hT hN hb hc (hs s0 (by simp)) (hs s2 (by simp)) hR
  | [s0, s1, s2, s3] => exact eval4_any hG hU b f c s0 s1 s2 s3 w hg hT hN hb hc (hs s1 (by simp)) (hs s3 (by simp)) hR
  | s0 :: s1 :: s2 :: s3 :: s4 :: l => exact eval5_any _ _ _ _ _ (by show 4 < l.length + 1 + 1 + 1 + 1 + 1; omega)
end
set_option maxHeartbeats 1000000 in
set_option maxRecDepth 100000 in
theorem EvalF_row {N : Nat} {E : Nat → Addr} {U : List UInt8 → List UInt8 → Option Bool} (b f c : Nat) (tv : Value) (l : List ByteArray) (w : World) (hR : RowAt w b f l) (hl : l.length ≤ 64)
    (hE : Errs N E w) (hT : ErrT N w) (hN : N ≤ w.heap.size)
    (hC : (∀ s ∈ l, s.size ≤ 1024) → Calls Tryz.prog 15 #[.slice (some ⟨b, f, none⟩) l.length c, tv] w (EvR w (evalO U (l.map fun s => s.data.toList)))) :
    Calls Tryz.prog 7 #[.slice (some ⟨b, f, none⟩) l.length c, tv] w (EvT E w (testO U (l.map fun s => s.data.toList))) := by
  have hC' := Lib.hid hC
  have hR' := Lib.hid hR
  have hE' := Lib.hid hE
  have hT' := Lib.hid hT
  have hlI : ¬ (64 : Int) < (l.length : Int) := by omega
  have hO : testO U (l.map fun s => s.data.toList) = match longAt (l.map fun s => s.data.toList) with
    | some i => .err 2 i
    | none => evalO U (l.map fun s => s.data.toList) := by
    unfold testO
    rw [if_neg (by rw [List.length_map]; omega)]
    rfl
  have hok := evalO_ok U (l.map fun s => s.data.toList)
  generalize evalO U (l.map fun s => s.data.toList) = Oe at hC' hO hok
  clear hC hR hE hT
  obtain ⟨O, hOO⟩ : ∃ O, O = testO U (l.map fun s => s.data.toList) := ⟨_, rfl⟩
  rw [← hOO] at hO ⊢
  have hO' := Lib.hid hO
  have hok' := Lib.hid hok
  obtain ⟨Post, hPost⟩ : ∃ Post : Ending → World → Prop, Post = EvT E w O := ⟨_, rfl⟩
  rw [← hPost]
  have hP := Lib.hid hPost
  clear hPost hO hOO hok
  go_enter Tryz.func7, Tryz.ntmps7
  go_wp2_with fail
  go_loopw [19] (fun i wr => ∃ (k : Nat), k ≤ l.length ∧ i = .int .i64 k ∧ wr = w ∧ Hid (∀ i s, i < k → l[i]? = some s → s.size ≤ 1024)) (fun i _ => l.length - (intOf i).toNat)
  case atStart => exact ⟨0, Nat.zero_le _, rfl, rfl, Lib.hid fun i s h => absurd h (by omega)⟩
  case round =>
    obtain ⟨k, hk, rfl, rfl, hsm⟩ := hrel
    by_cases hkk : k < l.length
    · have hld : wr.cell? ⟨b, f + k, none⟩ = some (.string l[k]) := hR'.out k l[k] (List.getElem?_eq_getElem hkk)
      have hkI : (k : Int) < (l.length : Int) := by omega
      have hget := Lib.hid (List.getElem?_eq_getElem hkk)
      generalize l[k] = sk at hld hget
      by_cases hsz : sk.size ≤ 1024
      · have hszI : ¬ (1024 : Int) < (sk.size : Int) := by omega
        go_wp2_with fail
        case roundEnd =>
          refine ⟨⟨k + 1, by omega, rfl, trivial, Lib.hid fun i s hi hs => ?_⟩, ?_⟩
          · by_cases h : i = k
            · subst h; have := hget.out; rw [this] at hs; cases hs; exact hsz
            · exact hsm.out i s (by omega) hs
          · simp [intOf]; omega
      · have hszI : (1024 : Int) < (sk.size : Int) := by omega
        have hlong : longAt (l.map fun s => s.data.toList) = some k := longAt_some _ k sk.data.toList (fun i t hi ht => by
          rw [List.getElem?_map] at ht
          cases hx : l[i]? with
          | none => rw [hx] at ht; cases ht
          | some s => rw [hx] at ht; cases ht; have := hsm.out i s hi hx; simpa using this) (by rw [List.getElem?_map, hget.out]; rfl) (by simp; omega)
        have hOk : O = .err 2 k := by rw [hO'.out, hlong]
        have hOk' := Lib.hid hOk
        have ht := Lib.hid (told_any (wr.alloc (.cells #[.int .i64 2, .int .i64 k] 44)) (hE'.out.alloc _ hN) (hT'.out.below ((Below.refl _ _).alloc (Nat.le_refl _) _) hN) (by simp; omega) (c := 2) (p := k) ⟨wr.heap.size, rfl, heap_alloc_new wr _⟩ (by decide) (by decide))
        clear hlong hOk
        go_wp2_with fail
        refine ht.out.mono ?_
        rintro e w1 ⟨v, rfl, hv, b1⟩
        have hv' := Lib.hid hv
        have b1' := Lib.hid b1
        clear hv b1
        go_wp2_with fail
        rw [hP.out, hOk'.out]
        exact ⟨_, rfl, hv'.out, ((Below.refl _ _).alloc (Nat.le_refl _) _).trans (b1'.out.mono (by simp))⟩
    · have hke : k = l.length := by omega
      subst hke
      have hall : ∀ s ∈ l, s.size ≤ 1024 := fun s hs => by
        obtain ⟨i, hi, rfl⟩ := List.getElem_of_mem hs
        exact hsm.out i _ hi (List.getElem?_eq_getElem hi)
      have hOk : O = Oe := by rw [hO'.out, longAt_none _ (fun s hs => by obtain ⟨t, ht, rfl⟩ := List.mem_map.1 hs; have := hall t ht; simpa using this)]
      have hOk' := Lib.hid hOk
      have hCc := Lib.hid (hC'.out hall)
      clear hall hOk
      go_wp2_with fail
      refine hCc.out.mono ?_
      rintro e w1 ⟨x, v, rfl, hv, b1⟩
      cases Oe with
      | val z =>
        obtain ⟨rfl, rfl⟩ := hv
        have b1' := Lib.hid b1
        clear b1
        go_wp2_with fail
        rw [hP.out, hOk'.out]
        exact ⟨_, rfl, rfl, b1'.out⟩
      | err cd p =>
        obtain ⟨rfl, hw⟩ := hv
        have ht := Lib.hid (told_any w1 (hE'.out.below b1 hN) (hT'.out.below b1 hN) (Nat.le_trans hN b1.size) hw hok'.out.1 hok'.out.2)
        obtain ⟨B, rfl, hB⟩ := hw
        have b1' := Lib.hid b1
        clear b1 hB
        go_wp2_with fail
        refine ht.out.mono ?_
        rintro e w2 ⟨u, rfl, hu, b2⟩
        have hu' := Lib.hid hu
        have b2' := Lib.hid (b1'.out.trans (b2.mono b1'.out.size))
        clear hu b2
        go_wp2_with fail
        rw [hP.out, hOk'.out]
        exact ⟨_, rfl, hu'.out, b2'.out⟩
theorem EvalF_any {N : Nat} {E : Nat → Addr} {tv : Value} {U : List UInt8 → List UInt8 → Option Bool} {G : World → Prop} (hG : ∀ W W', G W → Below W.heap.size W W' → G W') (hU : UnC tv U G) (sl : Value) (l : List ByteArray) (w : World)
    (hg : G w) (hE : Errs N E w) (hT : ErrT N w) (hN : N ≤ w.heap.size) (hR : IsOpsF w sl l) : Calls Tryz.prog 7 #[sl, tv] w (EvT E w (testO U (l.map fun s => s.data.toList))) := by
  obtain ⟨p, c, rfl, hc, h⟩ := hR
  by_cases hl : l.length ≤ 64
  · rcases h with rfl | ⟨b, f, rfl, hb, hR⟩
    · exact Eval_nil p c tv w
    · exact EvalF_row b f c tv l w hR hl hE hT hN fun hs => evalF_any hG hU b f c l w hg hT hN hb hc hs hR
  · have h64 : testO U (l.map fun s => s.data.toList) = .err 5 0 := by unfold testO; rw [if_pos (by simp; omega)]
    rw [h64]
    exact Eval_many _ tv p l.length c w rfl (by omega) hE hT hN
section
variable {tv : Value} {U : List UInt8 → List UInt8 → Option Bool} {G : World → Prop}
theorem rtestF_any (hG : ∀ W W', G W → Below W.heap.size W W' → G W') (hU : RUnC tv U G) (sl : Value) (l : List ByteArray) (w : World) (hg : G w) (hs : ∀ s ∈ l, s.size ≤ 1024) (hR : IsOpsF w sl l) :
    Calls Tryz.prog 17 #[sl, .int .i64 (0 : Nat), tv] w (RtR w (evalO U (l.map fun s => s.data.toList)) 0) := by
  obtain ⟨p, c, rfl, hc, h⟩ := hR
  match l with
  | [] => exact rtest0_any p c 0 tv w
  | s0 :: l =>
    rcases h with h | ⟨b, f, rfl, hb, hR⟩
    · cases h
    match l with
    | [] => exact rtest1_any b f c 0 tv s0 w hR hb
    | [s1] => exact rtest2_any hG hU b f c 0 s0 s1 w hg hb hc (by decide) hR
    | [s1, s2] => exact rtest3_any hG hU b f c 0 s0 s1 s2 w hg hb hc (by decide) (hs s0 (by simp)) (hs s2 (by simp)) hR
    | [s1, s2, s3] => exact rtest4_any hG hU b f c 0 s0 s1 s2 s3 w hg hb hc (by decide) (hs s1 (by simp)) (hs s3 (by simp)) hR
    | s1 :: s2 :: s3 :: s4 :: l => exact rtest5_any _ _ _ _ _ _ (by show 4 < l.length + 1 + 1 + 1 + 1 + 1; omega) (by decide)
end
set_option maxHeartbeats 1000000 in
set_option maxRecDepth 100000 in
theorem rOpsF_row (b f c : Nat) (l : List ByteArray) (w : World) (hR : RowAt w b f l) (hb : b < w.heap.size) (hl : l.length ≤ 64) :
    Calls Tryz.prog 16 #[.slice (some ⟨b, f, none⟩) l.length c, .int .i64 6] w fun e w' => e = .returned (fO (opsO (l.map fun s => s.data.toList)) 0) ∧ Below w.heap.size w w' := by
  have hz := Lib.hid (zF w)
  have hR' := Lib.hid (hR.below ((Below.refl w.heap.size w).alloc (Nat.le_refl _) (.cells #[.int .i64 0, .int .i64 0, .int .i64 0] 28)) hb)
  have hlI : ¬ (64 : Int) < (l.length : Int) := by omega
  have hO : opsO (l.map fun s => s.data.toList) = match longAt (l.map fun s => s.data.toList) with
    | some i => .err 2 i
    | none => .val true := by
    unfold opsO
    rw [if_neg (by rw [List.length_map]; omega)]
    rfl
  clear hR
  generalize opsO (l.map fun s => s.data.toList) = O at hO ⊢
  have hO' := Lib.hid hO
  obtain ⟨Post, hPost⟩ : ∃ Post : Ending → World → Prop, Post = fun e w' => e = .returned (fO O 0) ∧ Below w.heap.size w w' := ⟨_, rfl⟩
  rw [← hPost]
  have hP := Lib.hid hPost
  clear hPost hO
  go_enter Tryz.func16, Tryz.ntmps16
  go_wp2_with fail
  go_loopw [14] (fun i wr => ∃ (k : Nat), k ≤ l.length ∧ i = .int .i64 k ∧ wr = w.alloc (.cells #[.int .i64 0, .int .i64 0, .int .i64 0] 28) ∧ Hid (∀ i s, i < k → l[i]? = some s → s.size ≤ 1024)) (fun i _ => l.length - (intOf i).toNat)
  case atStart => exact ⟨0, Nat.zero_le _, rfl, rfl, Lib.hid fun i s h => absurd h (by omega)⟩
  case round =>
    obtain ⟨k, hk, rfl, rfl, hsm⟩ := hrel
    by_cases hkk : k < l.length
    · have hld := hR'.out k l[k] (List.getElem?_eq_getElem hkk)
      have hkI : (k : Int) < (l.length : Int) := by omega
      have hget := Lib.hid (List.getElem?_eq_getElem hkk)
      generalize l[k] = sk at hld hget
      by_cases hsz : sk.size ≤ 1024
      · have hszI : ¬ (1024 : Int) < (sk.size : Int) := by omega
        go_wp2_with fail
        case roundEnd =>
          refine ⟨⟨k + 1, by omega, rfl, trivial, Lib.hid fun i s hi hs => ?_⟩, ?_⟩
          · by_cases h : i = k
            · subst h; have := hget.out; rw [this] at hs; cases hs; exact hsz
            · exact hsm.out i s (by omega) hs
          · simp [intOf]; omega
      · have hszI : (1024 : Int) < (sk.size : Int) := by omega
        have hlong : longAt (l.map fun s => s.data.toList) = some k := longAt_some _ k sk.data.toList (fun i t hi ht => by
          rw [List.getElem?_map] at ht
          cases hx : l[i]? with
          | none => rw [hx] at ht; cases ht
          | some s => rw [hx] at ht; cases ht; have := hsm.out i s hi hx; simpa using this) (by rw [List.getElem?_map, hget.out]; rfl) (by simp; omega)
        have hOk : O = .err 2 k := by rw [hO'.out, hlong]
        have hOk' := Lib.hid hOk
        clear hlong hOk
        go_wp2_with fail
        refine (rF_any 2 k 6 _).mono ?_
        rintro e w1 ⟨rfl, b1⟩
        have h1 := Lib.hid (row_below hz.out b1 (by simp))
        have b2 := Lib.hid (((Below.refl w.heap.size w).alloc (Nat.le_refl _) (.cells #[.int .i64 0, .int .i64 0, .int .i64 0] 28)).trans (b1.mono (by simp)))
        have z1 := b1.size
        rw [World.size_alloc] at z1
        clear b1
        go_wp2_with (refine store_flt rfl rfl _ _ rfl _ 2 k 6 0 0 0 rfl rfl h1.out ?_; intro w2 h2 g2 z2)
        refine ret_flt rfl rfl rfl h2 ?_
        rw [hP.out, hOk'.out]
        exact ⟨rfl, b2.out.grown g2 (by omega) (fun k hk => by cases hk; exact Nat.le_refl _)⟩
    · have hke : k = l.length := by omega
      subst hke
      have hall : ∀ s ∈ l, s.size ≤ 1024 := fun s hs => by
        obtain ⟨i, hi, rfl⟩ := List.getElem_of_mem hs
        exact hsm.out i _ hi (List.getElem?_eq_getElem hi)
      have hOk : O = .val true := by rw [hO'.out, longAt_none _ (fun s hs => by obtain ⟨t, ht, rfl⟩ := List.mem_map.1 hs; have := hall t ht; simpa using this)]
      have hOk' := Lib.hid hOk
      clear hall hOk
      go_wp2_with (refine store_flt rfl rfl _ _ rfl _ 0 0 0 0 0 0 rfl rfl hz.out ?_; intro w2 h2 g2 z2)
      refine ret_flt rfl rfl rfl h2 ?_
      rw [hP.out, hOk'.out]
      exact ⟨rfl, ((Below.refl _ _).alloc (Nat.le_refl _) _).grown g2 (by simp) (fun k hk => by cases hk; exact Nat.le_refl _)⟩
theorem rOpsF_any (sl : Value) (l : List ByteArray) (w : World) (hR : IsOpsF w sl l) : Calls Tryz.prog 16 #[sl, .int .i64 6] w fun e w' => e = .returned (fO (opsO (l.map fun s => s.data.toList)) 0) ∧ Below w.heap.size w w' := by
  obtain ⟨p, c, rfl, hc, h⟩ := hR
  by_cases hl : l.length ≤ 64
  · rcases h with rfl | ⟨b, f, rfl, hb, hR⟩
    · exact rOps_nil p c w
    · exact rOpsF_row b f c l w hR hb hl
  · have h64 : opsO (l.map fun s => s.data.toList) = .err 5 0 := by unfold opsO; rw [if_pos (by simp; omega)]
    rw [h64]
    exact rOps_many p l.length c w (by omega)
theorem rTestF_any {tv : Value} {U : List UInt8 → List UInt8 → Option Bool} {G : World → Prop} (hG : ∀ W W', G W → Below W.heap.size W W' → G W') (hU : RUnC tv U G) (sl : Value) (l : List ByteArray) (w : World) (hg : G w) (hR : IsOpsF w sl l) :
    Calls Tryz.prog 8 #[sl, tv] w (RtR w (testO U (l.map fun s => s.data.toList)) 0) := by
  have b0 := (Below.refl w.heap.size w).alloc (Nat.le_refl _) (.cells #[.int .i64 0, .int .i64 0, .int .i64 0] 28)
  have hO := rOpsF_any sl l (w.alloc (.cells #[.int .i64 0, .int .i64 0, .int .i64 0] 28)) (hR.below b0 (Nat.le_refl _))
  unfold testO
  unfold opsO at hO
  by_cases hl : 64 < (l.map fun s => s.data.toList).length
  · rw [if_pos hl] at hO ⊢
    exact rTest_err sl tv 5 0 (by decide) w hO
  · rw [if_neg hl] at hO ⊢
    cases hx : longAt (l.map fun s => s.data.toList) with
    | some i =>
      rw [hx] at hO
      exact rTest_err sl tv 2 i (by decide) w hO
    | none =>
      rw [hx] at hO
      refine rTest_fine sl tv _ w hO fun W bW hW => rtestF_any hG hU sl l W (hG w W hg bW) (fun s hs => ?_) (hR.below bW (Nat.le_refl _))
      exact longAt_all _ hx s.data.toList (List.mem_map.2 ⟨s, hs, rfl⟩)
theorem run_nei (a b : Int) (w : World) : (binOp .neq 3 (.int .i64 a) (.int .i64 b)).run Tryz.prog w = .ok (.bool (a != b)) w := by kernel_rfl
theorem neGuard_i (x y : Operand) (a b : Int) (w : World) : (eqGuard .neq 3 x y (.int .i64 a) (.int .i64 b)).run Tryz.prog w = .ok () w := by kernel_rfl
section
variable {o : Oper} {a : Act} {w : World} {K : Act → World → Prop} {Q : Exit → Act → World → Prop}
theorem opw_nei {x y : Operand} {A B : Int} {v : Bool} (ho : o.op = .binOp .neq 3 x y 3) (hx : a.eval x = .int .i64 A) (hy : a.eval y = .int .i64 B) (hv : (A != B) = v) (h : K (a.put o.dst (.bool v)) w) : o.wp Tryz.prog a w K Q :=
  opw_bin ho hx hy (neGuard_i _ _ _ _ _) (run_nei A B w) (hv ▸ h)
end
/-- The status of what is told. -/
def stO : Out → Int
  | .val true => 0
  | .val false => 1
  | .err _ _ => 2
set_option maxHeartbeats 1000000 in
set_option maxRecDepth 100000 in
theorem status_any {E : Nat → Addr} {sl tv : Value} {O : Out} {w : World} (hC : Calls Tryz.prog 7 #[sl, tv] w (EvT E w O)) : Calls Tryz.prog 13 #[sl, tv] w fun e w' => e = .returned (.int .i64 (stO O)) ∧ Below w.heap.size w w' := by
  have hC' := Lib.hid hC
  clear hC
  match O, hC' with
  | .val true, hC' =>
    go_enter Tryz.func13, Tryz.ntmps13
    go_wp2_with fail
    refine hC'.out.mono ?_
    rintro e w1 ⟨v, rfl, hv, b1⟩
    have b1' := Lib.hid b1
    clear b1
    obtain rfl := hv
    rw [show (Out.val true).bool = true from rfl]
    go_wp2_with fail
    go_ret
    exact ⟨rfl, b1'.out⟩
  | .val false, hC' =>
    go_enter Tryz.func13, Tryz.ntmps13
    go_wp2_with fail
    refine hC'.out.mono ?_
    rintro e w1 ⟨v, rfl, hv, b1⟩
    have b1' := Lib.hid b1
    clear b1
    obtain rfl := hv
    rw [show (Out.val false).bool = false from rfl]
    go_wp2_with fail
    go_ret
    exact ⟨rfl, b1'.out⟩
  | .err c p, hC' =>
    go_enter Tryz.func13, Tryz.ntmps13
    go_wp2_with fail
    refine hC'.out.mono ?_
    rintro e w1 ⟨v, rfl, hv, b1⟩
    have b1' := Lib.hid b1
    clear b1
    obtain ⟨S, P, rfl, -, -⟩ := hv
    go_wp2_with fail
    go_ret
    exact ⟨rfl, b1'.out⟩
structure Te14 (a0 : Act) (w0 : World) (base B : Nat) (z : Bool) (c p l st : Int) (v sl tv : Value) : Prop where
  hz : a0.tmps.size = 54
  h6 : a0.eval (.tmp 6) = .bool z
  h7 : a0.eval (.tmp 7) = v
  h8 : a0.eval (.tmp 8) = .bool z
  h9 : a0.eval (.tmp 9) = .pointer (some ⟨B, 0, none⟩)
  h0 : a0.eval (.tmp 0) = sl
  h3 : a0.eval (.tmp 3) = tv
  h10 : a0.eval (.tmp 10) = .int .i64 st
  bF : IsF w0 B c p l
  lF : B < base
  hT : ∀ W, Below base w0 W → base ≤ W.heap.size → Calls Tryz.prog 9 #[v] W fun e w' => e = .returned (fv c p l) ∧ Below W.heap.size W w'
  hS : ∀ W, Below base w0 W → base ≤ W.heap.size → Calls Tryz.prog 13 #[sl, tv] W fun e w' => e = .returned (.int .i64 st) ∧ Below W.heap.size W w'
section
variable {a0 : Act} {w0 : World} {base B : Nat} {z : Bool} {c p l st : Int} {v sl tv : Value}
def te14Cs (z : Bool) (c p l st : Int) (v sl tv : Value) : List Claim := [.val (.bool z), .val (.bool z), .val (.bool false), .val (.bool false), .val (v), .val (fv c p l), .val (fv c p l), .val (.bool false), .val (.bool false), .val (.bool false), .val (sl), .val (tv), .val (.int .i64 st), .val (.int .i64 st), .val (.bool false), .val (.bool false)]
theorem te14_ok : planOk .any (regionOps Tryz.f6 14) (upto 16) = true := by kernel_rfl
theorem te14_0 (F : Te14 a0 w0 base B z c p l st v sl tv) : PO (regionOps Tryz.f6 14) 16 a0 base w0 (te14Cs z c p l st v sl tv) 0 := by
  intro o ho u W hI hR
  obtain ⟨e1, e2, e3⟩ := ob_op ho (show ((regionOps Tryz.f6 14)[0]?).map (fun o => (o.op, o.dst, o.guard)) = some (.move (.tmp 6), some 36, none) by kernel_rfl)
  rw [if_pos (plan_free e3 _)]
  intro K hK
  have x0 := ev_base (u := u) te14_ok (by kernel_rfl) F.h6
  exact opw_move e1 x0 (hK _ _ ⟨_, rfl, rfl⟩ hI (Below.refl _ _))
theorem te14_1 (F : Te14 a0 w0 base B z c p l st v sl tv) : PO (regionOps Tryz.f6 14) 16 a0 base w0 (te14Cs z c p l st v sl tv) 1 := by
  intro o ho u W hI hR
  obtain ⟨e1, e2, e3⟩ := ob_op ho (show ((regionOps Tryz.f6 14)[1]?).map (fun o => (o.op, o.dst, o.guard)) = some (.move (.tmp 8), some 37, none) by kernel_rfl)
  rw [if_pos (plan_free e3 _)]
  intro K hK
  have x0 := ev_base (u := u) te14_ok (by kernel_rfl) F.h8
  exact opw_move e1 x0 (hK _ _ ⟨_, rfl, rfl⟩ hI (Below.refl _ _))
theorem te14_2 (F : Te14 a0 w0 base B z c p l st v sl tv) : PO (regionOps Tryz.f6 14) 16 a0 base w0 (te14Cs z c p l st v sl tv) 2 := by
  intro o ho u W hI hR
  obtain ⟨e1, e2, e3⟩ := ob_op ho (show ((regionOps Tryz.f6 14)[2]?).map (fun o => (o.op, o.dst, o.guard)) = some (.binOp .neq 4 (.tmp 36) (.tmp 37) 4, some 38, none) by kernel_rfl)
  rw [if_pos (plan_free e3 _)]
  intro K hK
  have x0 := ev_val (v := .bool z) (cs := (te14Cs z c p l st v sl tv)) te14_ok hR ho (j := 0) (t := 36) (by rw [F.hz]; kernel_rfl) rfl
  have x1 := ev_val (v := .bool z) (cs := (te14Cs z c p l st v sl tv)) te14_ok hR ho (j := 1) (t := 37) (by rw [F.hz]; kernel_rfl) rfl
  exact opw_neb e1 x0 x1 (bne_self_eq_false _) (hK _ _ ⟨_, rfl, rfl⟩ hI (Below.refl _ _))
theorem te14_3 (F : Te14 a0 w0 base B z c p l st v sl tv) : PO (regionOps Tryz.f6 14) 16 a0 base w0 (te14Cs z c p l st v sl tv) 3 := by
  intro o ho u W hI hR
  obtain ⟨e1, e2, e3⟩ := ob_op ho (show ((regionOps Tryz.f6 14)[3]?).map (fun o => (o.op, o.dst, o.guard)) = some (.move (.tmp 38), some 39, none) by kernel_rfl)
  rw [if_pos (plan_free e3 _)]
  intro K hK
  have x0 := ev_val (v := .bool false) (cs := (te14Cs z c p l st v sl tv)) te14_ok hR ho (j := 2) (t := 38) (by rw [F.hz]; kernel_rfl) rfl
  exact opw_move e1 x0 (hK _ _ ⟨_, rfl, rfl⟩ hI (Below.refl _ _))
theorem te14_4 (F : Te14 a0 w0 base B z c p l st v sl tv) : PO (regionOps Tryz.f6 14) 16 a0 base w0 (te14Cs z c p l st v sl tv) 4 := by
  intro o ho u W hI hR
  obtain ⟨e1, e2, e3⟩ := ob_op ho (show ((regionOps Tryz.f6 14)[4]?).map (fun o => (o.op, o.dst, o.guard)) = some (.move (.tmp 7), some 40, some (3, false)) by kernel_rfl)
  have xg := ev_val (v := .bool false) (cs := (te14Cs z c p l st v sl tv)) te14_ok hR ho (j := 3) (t := 39) (by rw [F.hz]; kernel_rfl) rfl
  rw [if_pos (wanted_yes e3 (t := 39) (by kernel_rfl) xg)]
  intro K hK
  have x0 := ev_base (u := u) te14_ok (by kernel_rfl) F.h7
  exact opw_move e1 x0 (hK _ _ ⟨_, rfl, rfl⟩ hI (Below.refl _ _))
theorem te14_5 (F : Te14 a0 w0 base B z c p l st v sl tv) : PO (regionOps Tryz.f6 14) 16 a0 base w0 (te14Cs z c p l st v sl tv) 5 := by
  intro o ho u W hI hR
  obtain ⟨e1, e2, e3⟩ := ob_op ho (show ((regionOps Tryz.f6 14)[5]?).map (fun o => (o.op, o.dst, o.guard)) = some (.call { callee := .value (.func 9), args := #[(.tmp 40)], argTypes := #[24] }, some 41, some (3, false)) by kernel_rfl)
  have xg := ev_val (v := .bool false) (cs := (te14Cs z c p l st v sl tv)) te14_ok hR ho (j := 3) (t := 39) (by rw [F.hz]; kernel_rfl) rfl
  rw [if_pos (wanted_yes e3 (t := 39) (by kernel_rfl) xg)]
  intro K hK
  have x0 := ev_val (v := v) (cs := (te14Cs z c p l st v sl tv)) te14_ok hR ho (j := 4) (t := 40) (by rw [F.hz]; kernel_rfl) rfl
  refine opw_call e1 (vs := #[v]) (by simp only [List.map_toArray, List.map_cons, List.map_nil, x0]) Tryz.func9 (by kernel_rfl) (by kernel_rfl) (F.hT W hI.1 hI.2) ?_
  rintro e W' ⟨rfl, b⟩
  exact ⟨_, rfl, hK _ _ ⟨_, rfl, rfl⟩ (hI.step b) b⟩
theorem te14_6 (F : Te14 a0 w0 base B z c p l st v sl tv) : PO (regionOps Tryz.f6 14) 16 a0 base w0 (te14Cs z c p l st v sl tv) 6 := by
  intro o ho u W hI hR
  obtain ⟨e1, e2, e3⟩ := ob_op ho (show ((regionOps Tryz.f6 14)[6]?).map (fun o => (o.op, o.dst, o.guard)) = some (.load 28 (.tmp 9), some 42, some (3, false)) by kernel_rfl)
  have xg := ev_val (v := .bool false) (cs := (te14Cs z c p l st v sl tv)) te14_ok hR ho (j := 3) (t := 39) (by rw [F.hz]; kernel_rfl) rfl
  rw [if_pos (wanted_yes e3 (t := 39) (by kernel_rfl) xg)]
  intro K hK
  have x0 := ev_base (u := u) te14_ok (by kernel_rfl) F.h9
  exact opw_load_flt e1 x0 (row_below F.bF hI.1 F.lF) (hK _ _ ⟨_, rfl, rfl⟩ hI (Below.refl _ _))
theorem te14_7 (F : Te14 a0 w0 base B z c p l st v sl tv) : PO (regionOps Tryz.f6 14) 16 a0 base w0 (te14Cs z c p l st v sl tv) 7 := by
  intro o ho u W hI hR
  obtain ⟨e1, e2, e3⟩ := ob_op ho (show ((regionOps Tryz.f6 14)[7]?).map (fun o => (o.op, o.dst, o.guard)) = some (.binOp .neq 28 (.tmp 41) (.tmp 42) 28, some 43, some (3, false)) by kernel_rfl)
  have xg := ev_val (v := .bool false) (cs := (te14Cs z c p l st v sl tv)) te14_ok hR ho (j := 3) (t := 39) (by rw [F.hz]; kernel_rfl) rfl
  rw [if_pos (wanted_yes e3 (t := 39) (by kernel_rfl) xg)]
  intro K hK
  have x0 := ev_val (v := fv c p l) (cs := (te14Cs z c p l st v sl tv)) te14_ok hR ho (j := 5) (t := 41) (by rw [F.hz]; kernel_rfl) rfl
  have x1 := ev_val (v := fv c p l) (cs := (te14Cs z c p l st v sl tv)) te14_ok hR ho (j := 6) (t := 42) (by rw [F.hz]; kernel_rfl) rfl
  exact opw_bin e1 x0 x1 (fltGuard _ _ _ c p l W) (neq_flt c p l W) (hK _ _ ⟨_, rfl, rfl⟩ hI (Below.refl _ _))
theorem te14_8 (F : Te14 a0 w0 base B z c p l st v sl tv) : PO (regionOps Tryz.f6 14) 16 a0 base w0 (te14Cs z c p l st v sl tv) 8 := by
  intro o ho u W hI hR
  obtain ⟨e1, e2, e3⟩ := ob_op ho (show ((regionOps Tryz.f6 14)[8]?).map (fun o => (o.op, o.dst, o.guard)) = some (.pick (.tmp 39) (.const (.bool true)) (.tmp 43), some 44, none) by kernel_rfl)
  rw [if_pos (plan_free e3 _)]
  intro K hK
  have x0 := ev_val (v := .bool false) (cs := (te14Cs z c p l st v sl tv)) te14_ok hR ho (j := 3) (t := 39) (by rw [F.hz]; kernel_rfl) rfl
  have x2 := ev_val (v := .bool false) (cs := (te14Cs z c p l st v sl tv)) te14_ok hR ho (j := 7) (t := 43) (by rw [F.hz]; kernel_rfl) rfl
  exact opw_pickF e1 x0 x2 (hK _ _ ⟨_, rfl, rfl⟩ hI (Below.refl _ _))
theorem te14_9 (F : Te14 a0 w0 base B z c p l st v sl tv) : PO (regionOps Tryz.f6 14) 16 a0 base w0 (te14Cs z c p l st v sl tv) 9 := by
  intro o ho u W hI hR
  obtain ⟨e1, e2, e3⟩ := ob_op ho (show ((regionOps Tryz.f6 14)[9]?).map (fun o => (o.op, o.dst, o.guard)) = some (.move (.tmp 44), some 45, none) by kernel_rfl)
  rw [if_pos (plan_free e3 _)]
  intro K hK
  have x0 := ev_val (v := .bool false) (cs := (te14Cs z c p l st v sl tv)) te14_ok hR ho (j := 8) (t := 44) (by rw [F.hz]; kernel_rfl) rfl
  exact opw_move e1 x0 (hK _ _ ⟨_, rfl, rfl⟩ hI (Below.refl _ _))
theorem te14_10 (F : Te14 a0 w0 base B z c p l st v sl tv) : PO (regionOps Tryz.f6 14) 16 a0 base w0 (te14Cs z c p l st v sl tv) 10 := by
  intro o ho u W hI hR
  obtain ⟨e1, e2, e3⟩ := ob_op ho (show ((regionOps Tryz.f6 14)[10]?).map (fun o => (o.op, o.dst, o.guard)) = some (.move (.tmp 0), some 46, some (9, false)) by kernel_rfl)
  have xg := ev_val (v := .bool false) (cs := (te14Cs z c p l st v sl tv)) te14_ok hR ho (j := 9) (t := 45) (by rw [F.hz]; kernel_rfl) rfl
  rw [if_pos (wanted_yes e3 (t := 45) (by kernel_rfl) xg)]
  intro K hK
  have x0 := ev_base (u := u) te14_ok (by kernel_rfl) F.h0
  exact opw_move e1 x0 (hK _ _ ⟨_, rfl, rfl⟩ hI (Below.refl _ _))
theorem te14_11 (F : Te14 a0 w0 base B z c p l st v sl tv) : PO (regionOps Tryz.f6 14) 16 a0 base w0 (te14Cs z c p l st v sl tv) 11 := by
  intro o ho u W hI hR
  obtain ⟨e1, e2, e3⟩ := ob_op ho (show ((regionOps Tryz.f6 14)[11]?).map (fun o => (o.op, o.dst, o.guard)) = some (.move (.tmp 3), some 47, some (9, false)) by kernel_rfl)
  have xg := ev_val (v := .bool false) (cs := (te14Cs z c p l st v sl tv)) te14_ok hR ho (j := 9) (t := 45) (by rw [F.hz]; kernel_rfl) rfl
  rw [if_pos (wanted_yes e3 (t := 45) (by kernel_rfl) xg)]
  intro K hK
  have x0 := ev_base (u := u) te14_ok (by kernel_rfl) F.h3
  exact opw_move e1 x0 (hK _ _ ⟨_, rfl, rfl⟩ hI (Below.refl _ _))
theorem te14_12 (F : Te14 a0 w0 base B z c p l st v sl tv) : PO (regionOps Tryz.f6 14) 16 a0 base w0 (te14Cs z c p l st v sl tv) 12 := by
  intro o ho u W hI hR
  obtain ⟨e1, e2, e3⟩ := ob_op ho (show ((regionOps Tryz.f6 14)[12]?).map (fun o => (o.op, o.dst, o.guard)) = some (.call { callee := .value (.func 13), args := #[(.tmp 46), (.tmp 47)], argTypes := #[22, 34] }, some 48, some (9, false)) by kernel_rfl)
  have xg := ev_val (v := .bool false) (cs := (te14Cs z c p l st v sl tv)) te14_ok hR ho (j := 9) (t := 45) (by rw [F.hz]; kernel_rfl) rfl
  rw [if_pos (wanted_yes e3 (t := 45) (by kernel_rfl) xg)]
  intro K hK
  have x0 := ev_val (v := sl) (cs := (te14Cs z c p l st v sl tv)) te14_ok hR ho (j := 10) (t := 46) (by rw [F.hz]; kernel_rfl) rfl
  have x1 := ev_val (v := tv) (cs := (te14Cs z c p l st v sl tv)) te14_ok hR ho (j := 11) (t := 47) (by rw [F.hz]; kernel_rfl) rfl
  refine opw_call e1 (vs := #[sl, tv]) (by simp only [List.map_toArray, List.map_cons, List.map_nil, x0, x1]) Tryz.func13 (by kernel_rfl) (by kernel_rfl) (F.hS W hI.1 hI.2) ?_
  rintro e W' ⟨rfl, b⟩
  exact ⟨_, rfl, hK _ _ ⟨_, rfl, rfl⟩ (hI.step b) b⟩
theorem te14_13 (F : Te14 a0 w0 base B z c p l st v sl tv) : PO (regionOps Tryz.f6 14) 16 a0 base w0 (te14Cs z c p l st v sl tv) 13 := by
  intro o ho u W hI hR
  obtain ⟨e1, e2, e3⟩ := ob_op ho (show ((regionOps Tryz.f6 14)[13]?).map (fun o => (o.op, o.dst, o.guard)) = some (.move (.tmp 10), some 49, some (9, false)) by kernel_rfl)
  have xg := ev_val (v := .bool false) (cs := (te14Cs z c p l st v sl tv)) te14_ok hR ho (j := 9) (t := 45) (by rw [F.hz]; kernel_rfl) rfl
  rw [if_pos (wanted_yes e3 (t := 45) (by kernel_rfl) xg)]
  intro K hK
  have x0 := ev_base (u := u) te14_ok (by kernel_rfl) F.h10
  exact opw_move e1 x0 (hK _ _ ⟨_, rfl, rfl⟩ hI (Below.refl _ _))
theorem te14_14 (F : Te14 a0 w0 base B z c p l st v sl tv) : PO (regionOps Tryz.f6 14) 16 a0 base w0 (te14Cs z c p l st v sl tv) 14 := by
  intro o ho u W hI hR
  obtain ⟨e1, e2, e3⟩ := ob_op ho (show ((regionOps Tryz.f6 14)[14]?).map (fun o => (o.op, o.dst, o.guard)) = some (.binOp .neq 3 (.tmp 48) (.tmp 49) 3, some 50, some (9, false)) by kernel_rfl)
  have xg := ev_val (v := .bool false) (cs := (te14Cs z c p l st v sl tv)) te14_ok hR ho (j := 9) (t := 45) (by rw [F.hz]; kernel_rfl) rfl
  rw [if_pos (wanted_yes e3 (t := 45) (by kernel_rfl) xg)]
  intro K hK
  have x0 := ev_val (v := .int .i64 st) (cs := (te14Cs z c p l st v sl tv)) te14_ok hR ho (j := 12) (t := 48) (by rw [F.hz]; kernel_rfl) rfl
  have x1 := ev_val (v := .int .i64 st) (cs := (te14Cs z c p l st v sl tv)) te14_ok hR ho (j := 13) (t := 49) (by rw [F.hz]; kernel_rfl) rfl
  exact opw_nei e1 x0 x1 (bne_self_eq_false _) (hK _ _ ⟨_, rfl, rfl⟩ hI (Below.refl _ _))
theorem te14_15 (F : Te14 a0 w0 base B z c p l st v sl tv) : PO (regionOps Tryz.f6 14) 16 a0 base w0 (te14Cs z c p l st v sl tv) 15 := by
  intro o ho u W hI hR
  obtain ⟨e1, e2, e3⟩ := ob_op ho (show ((regionOps Tryz.f6 14)[15]?).map (fun o => (o.op, o.dst, o.guard)) = some (.pick (.tmp 45) (.const (.bool true)) (.tmp 50), some 51, none) by kernel_rfl)
  rw [if_pos (plan_free e3 _)]
  intro K hK
  have x0 := ev_val (v := .bool false) (cs := (te14Cs z c p l st v sl tv)) te14_ok hR ho (j := 9) (t := 45) (by rw [F.hz]; kernel_rfl) rfl
  have x2 := ev_val (v := .bool false) (cs := (te14Cs z c p l st v sl tv)) te14_ok hR ho (j := 14) (t := 50) (by rw [F.hz]; kernel_rfl) rfl
  exact opw_pickF e1 x0 x2 (hK _ _ ⟨_, rfl, rfl⟩ hI (Below.refl _ _))
theorem te14_all (F : Te14 a0 w0 base B z c p l st v sl tv) : ∀ i, i < 16 → PO (regionOps Tryz.f6 14) 16 a0 base w0 (te14Cs z c p l st v sl tv) i
  | 0, _ => te14_0 F
  | 1, _ => te14_1 F
  | 2, _ => te14_2 F
  | 3, _ => te14_3 F
  | 4, _ => te14_4 F
  | 5, _ => te14_5 F
  | 6, _ => te14_6 F
  | 7, _ => te14_7 F
  | 8, _ => te14_8 F
  | 9, _ => te14_9 F
  | 10, _ => te14_10 F
  | 11, _ => te14_11 F
  | 12, _ => te14_12 F
  | 13, _ => te14_13 F
  | 14, _ => te14_14 F
  | 15, _ => te14_15 F
  | i + 16, h => absurd h (by omega)
theorem te14_plan : planOf (regionOps Tryz.f6 14) (upto 16) = [(some 36, 0), (some 37, 1), (some 38, 2), (some 39, 3), (some 40, 4), (some 41, 5), (some 42, 6), (some 43, 7), (some 44, 8), (some 45, 9), (some 46, 10), (some 47, 11), (some 48, 12), (some 49, 13), (some 50, 14), (some 51, 15)] := by kernel_rfl
theorem te14_wp {id : Nat} {Q : Exit → Act → World → Prop} (F : Te14 a0 w0 base B z c p l st v sl tv) (hb : base ≤ w0.heap.size)
    (hq : ∀ (u : Nat → Value) (W : World), u 15 = .bool false → Below base w0 W → base ≤ W.heap.size → Q .normal (putL (planOf (regionOps Tryz.f6 14) (upto 16)) u a0) W) :
    (Code.region id (regionOps Tryz.f6 14) true).wp Tryz.prog Q a0 w0 := by
  refine wp_plan_cl 16 0 (te14Cs z c p l st v sl tv) te14_ok (by kernel_rfl) hb (te14_all F) fun u W hI1 hI2 hR => ?_
  refine ⟨by kernel_rfl, hq u W ?_ hI1 hI2⟩
  obtain ⟨cc, hc, h⟩ := hR 15 (of_decide_eq_true (by kernel_rfl)) (by decide)
  cases hc
  exact h
end
theorem fO_val (x : Bool) : fO (.val x) 0 = fv 0 0 0 := rfl
theorem fO_err (c p : Nat) : fO (.err c p) 0 = fv (c : Int) (p : Int) 6 := rfl
set_option maxHeartbeats 8000000 in
set_option maxRecDepth 100000 in
theorem tevals_any {N : Nat} {E : Nat → Addr} (sl : Value) (l : List ByteArray) (w : World) (hE : Errs N E w) (hT : ErrT N w) (hM : MaxL N w) (hN : N ≤ w.heap.size) (hR : IsOpsF w sl l) :
    Calls Tryz.prog 6 #[sl] w fun e w' => e = .returned (.bool true) ∧ Below w.heap.size w w' := by
  have hFl := Lib.hid (files_any (E := E) w hE hM hN)
  have hE0 := Lib.hid hE
  have hT0 := Lib.hid hT
  have hM0 := Lib.hid hM
  have hRw := Lib.hid hR
  clear hE hT hM hR
  obtain ⟨Post, hPost⟩ : ∃ Post : Ending → World → Prop, Post = fun e w' => e = .returned (.bool true) ∧ Below w.heap.size w w' := ⟨_, rfl⟩
  rw [← hPost]
  have hP := Lib.hid hPost
  clear hPost
  go_enter Tryz.func6, Tryz.ntmps6
  go_wp2_with fail
  refine hFl.out.mono ?_
  rintro e W0 ⟨t, r, T, cnt, m, L, D, b0, n1, n2, n3, n4, rfl, hTc, hst, hDt, hF, bF⟩
  have hG := Lib.hid (show GT N E t r T W0 from ⟨hE0.out.below bF hN, hM0.out.below bF hN, Nat.le_trans hN bF.size, hTc.tr⟩)
  have hDt' := Lib.hid hDt
  have hF' := Lib.hid hF
  have hst' := Lib.hid hst
  have bF' := Lib.hid bF
  have hE' := Lib.hid (hE0.out.below bF hN)
  have hT' := Lib.hid (hT0.out.below bF hN)
  have hR0 := Lib.hid (hRw.out.below bF (Nat.le_refl _))
  have hN0 : N ≤ W0.heap.size := Nat.le_trans hN bF.size
  clear hTc hDt hF hst bF hFl hE0 hT0 hM0 hRw
  go_wp2_with fail
  go_loopw [3, 4, 15] (fun t3 t4 i wr => ∃ (k : Nat), k ≤ 2 ∧ i = .int .i64 k ∧ Hid (k = 0 → t3 = .pointer (some ⟨t, 0, none⟩) ∧ t4 = .pointer (some ⟨m, 0, none⟩)) ∧ Hid (Below W0.heap.size W0 wr) ∧ W0.heap.size ≤ wr.heap.size) (fun _ _ i _ => 2 - (intOf i).toNat)
  case atStart => exact ⟨0, by decide, rfl, Lib.hid fun _ => ⟨rfl, rfl⟩, Lib.hid (Below.refl _ _), Nat.le_refl _⟩
  case round =>
    obtain ⟨k, hk, rfl, ht, hbl, hlt⟩ := hrel
    rcases (by omega : k = 0 ∨ k = 1 ∨ k = 2) with rfl | rfl | rfl
    · obtain ⟨rfl, rfl⟩ := ht.out rfl
      have ev : ∀ W, Below W0.heap.size W0 W → W0.heap.size ≤ W.heap.size → _ := fun W hW hz => EvalF_any (N := N) (E := E) GT.keep (unC_files (N := N) (E := E) hst'.out) sl l W (GT.keep _ _ hG.out hW) (hE'.out.below hW hN0) (hT'.out.below hW hN0) (Nat.le_trans hN0 hz) (hR0.out.below hW (Nat.le_refl _))
      have r1 : ∀ W, Below W0.heap.size W0 W → _ := fun W hW => rTestF_any (G := fun W => IsDt W m L D) (fun _ _ h b => h.below b) (runC_files hF'.out) sl l W (hDt'.out.below hW) (hR0.out.below hW (Nat.le_refl _))
      generalize hO : testO fU (l.map fun s => s.data.toList) = O at ev r1
      have hok : O.ok := by rw [← hO]; exact testO_ok _ _
      clear hO ht
      have ev' := Lib.hid ev
      have r1' := Lib.hid r1
      clear ev r1
      match O, hok, ev', r1' with
      | .val true, hok, ev', r1' =>
        go_wp2_with fail
        refine (ev'.out wr hbl.out hlt).mono ?_
        rintro e w1 ⟨v, rfl, hv, b1⟩
        have b1' := Lib.hid (hbl.out.trans (b1.mono hlt))
        have z1 : W0.heap.size ≤ w1.heap.size := Nat.le_trans hlt b1.size
        have hv' := Lib.hid hv
        clear b1 hv
        rw [show Out.bool (.val true) = true from rfl]
        go_wp2_with fail
        refine (r1'.out w1 b1'.out).mono ?_
        rintro e w2 ⟨rfl, b2⟩
        have b2' := Lib.hid (b1'.out.trans (b2.mono z1))
        have z2 : W0.heap.size ≤ w2.heap.size := Nat.le_trans z1 b2.size
        have hv2 := Lib.hid (hv'.out.below b2 (Nat.le_refl _))
        clear b2 hv' b1'
        rw [show Out.bool (.val true) = true from rfl]
        rw [fO_val]
        have hq := Lib.hid (zF w2)
        go_wp2_with (refine store_flt rfl rfl _ _ rfl _ 0 0 0 0 0 0 rfl rfl hq.out ?_; intro w3 h3 g3 z3; have q0 : w3.cell? ⟨w2.heap.size, 0, none⟩ = some (.int .i64 0) := row_cell h3 rfl)
        have b23 : Below w2.heap.size w2 w3 := ((Below.refl w2.heap.size w2).alloc (Nat.le_refl _) _).grown g3 (by simp) (fun j hj => by cases hj; exact Nat.le_refl _)
        have b3' := Lib.hid (b2'.out.trans (b23.mono z2))
        have hv3 := Lib.hid (hv2.out.below b23 (Nat.le_refl _))
        have h3' := Lib.hid h3
        have z3' : w2.heap.size < w3.heap.size := by rw [z3]; simp
        clear g3 z3 b23 h3 q0 hv2 b2'
        refine wp_region_swap (o' := regionOps Tryz.f6 14) (by kernel_rfl) ?_
        refine te14_wp (base := w3.heap.size) (B := w2.heap.size) (z := true) (c := 0) (p := 0) (l := 0) (st := 0) (v := v) (sl := sl) (tv := .pointer (some ⟨t, 0, none⟩))
          ⟨by rfl, by rfl, by rfl, by rfl, by rfl, by rfl, by rfl, by rfl, h3'.out, z3', fun W hW hz => by
            have ht := tell_told W (hE'.out.below (b3'.out.trans (hW.mono (by omega))) hN0) (hT'.out.below (b3'.out.trans (hW.mono (by omega))) hN0) (by omega) hok (hv3.out.below hW (Nat.le_refl _))
            exact ht, fun W hW hz => by
            have hs := status_any (ev'.out W (b3'.out.trans (hW.mono (by omega))) (by omega))
            exact hs⟩ (Nat.le_refl _) ?_
        intro u W e15 bW hW
        have bW' := Lib.hid (b3'.out.trans (bW.mono (by omega)))
        clear bW
        rw [te14_plan]
        simp only [putL, Act.put, List.setIfInBounds_toArray, List.set_cons_succ, List.set_cons_zero, e15]
        go_wp2_with fail
        case roundEnd =>
          refine ⟨⟨1, by decide, rfl, Lib.hid fun h => (by cases h), bW', by omega⟩, ?_⟩
          simp [intOf]
      | .val false, hok, ev', r1' =>
        go_wp2_with fail
        refine (ev'.out wr hbl.out hlt).mono ?_
        rintro e w1 ⟨v, rfl, hv, b1⟩
        have b1' := Lib.hid (hbl.out.trans (b1.mono hlt))
        have z1 : W0.heap.size ≤ w1.heap.size := Nat.le_trans hlt b1.size
        have hv' := Lib.hid hv
        clear b1 hv
        rw [show Out.bool (.val false) = false from rfl]
        go_wp2_with fail
        refine (r1'.out w1 b1'.out).mono ?_
        rintro e w2 ⟨rfl, b2⟩
        have b2' := Lib.hid (b1'.out.trans (b2.mono z1))
        have z2 : W0.heap.size ≤ w2.heap.size := Nat.le_trans z1 b2.size
        have hv2 := Lib.hid (hv'.out.below b2 (Nat.le_refl _))
        clear b2 hv' b1'
        rw [show Out.bool (.val false) = false from rfl]
        rw [fO_val]
        have hq := Lib.hid (zF w2)
        go_wp2_with (refine store_flt rfl rfl _ _ rfl _ 0 0 0 0 0 0 rfl rfl hq.out ?_; intro w3 h3 g3 z3; have q0 : w3.cell? ⟨w2.heap.size, 0, none⟩ = some (.int .i64 0) := row_cell h3 rfl)
        have b23 : Below w2.heap.size w2 w3 := ((Below.refl w2.heap.size w2).alloc (Nat.le_refl _) _).grown g3 (by simp) (fun j hj => by cases hj; exact Nat.le_refl _)
        have b3' := Lib.hid (b2'.out.trans (b23.mono z2))
        have hv3 := Lib.hid (hv2.out.below b23 (Nat.le_refl _))
        have h3' := Lib.hid h3
        have z3' : w2.heap.size < w3.heap.size := by rw [z3]; simp
        clear g3 z3 b23 h3 q0 hv2 b2'
        refine wp_region_swap (o' := regionOps Tryz.f6 14) (by kernel_rfl) ?_
        refine te14_wp (base := w3.heap.size) (B := w2.heap.size) (z := false) (c := 0) (p := 0) (l := 0) (st := 1) (v := v) (sl := sl) (tv := .pointer (some ⟨t, 0, none⟩))
          ⟨by rfl, by rfl, by rfl, by rfl, by rfl, by rfl, by rfl, by rfl, h3'.out, z3', fun W hW hz => by
            have ht := tell_told W (hE'.out.below (b3'.out.trans (hW.mono (by omega))) hN0) (hT'.out.below (b3'.out.trans (hW.mono (by omega))) hN0) (by omega) hok (hv3.out.below hW (Nat.le_refl _))
            exact ht, fun W hW hz => by
            have hs := status_any (ev'.out W (b3'.out.trans (hW.mono (by omega))) (by omega))
            exact hs⟩ (Nat.le_refl _) ?_
        intro u W e15 bW hW
        have bW' := Lib.hid (b3'.out.trans (bW.mono (by omega)))
        clear bW
        rw [te14_plan]
        simp only [putL, Act.put, List.setIfInBounds_toArray, List.set_cons_succ, List.set_cons_zero, e15]
        go_wp2_with fail
        case roundEnd =>
          refine ⟨⟨1, by decide, rfl, Lib.hid fun h => (by cases h), bW', by omega⟩, ?_⟩
          simp [intOf]
      | .err cc pp, hok, ev', r1' =>
        have hcI : ¬ (cc : Int) = 0 := by have := hok.1; omega
        go_wp2_with fail
        refine (ev'.out wr hbl.out hlt).mono ?_
        rintro e w1 ⟨v, rfl, hv, b1⟩
        have b1' := Lib.hid (hbl.out.trans (b1.mono hlt))
        have z1 : W0.heap.size ≤ w1.heap.size := Nat.le_trans hlt b1.size
        have hv' := Lib.hid hv
        clear b1 hv
        rw [show Out.bool (.err cc pp) = false from rfl]
        go_wp2_with fail
        refine (r1'.out w1 b1'.out).mono ?_
        rintro e w2 ⟨rfl, b2⟩
        have b2' := Lib.hid (b1'.out.trans (b2.mono z1))
        have z2 : W0.heap.size ≤ w2.heap.size := Nat.le_trans z1 b2.size
        have hv2 := Lib.hid (hv'.out.below b2 (Nat.le_refl _))
        clear b2 hv' b1'
        rw [show Out.bool (.err cc pp) = false from rfl]
        rw [fO_err]
        have hq := Lib.hid (zF w2)
        go_wp2_with (refine store_flt rfl rfl _ _ rfl _ (cc : Int) (pp : Int) 6 0 0 0 rfl rfl hq.out ?_; intro w3 h3 g3 z3; have q0 : w3.cell? ⟨w2.heap.size, 0, none⟩ = some (.int .i64 (cc : Int)) := row_cell h3 rfl)
        have b23 : Below w2.heap.size w2 w3 := ((Below.refl w2.heap.size w2).alloc (Nat.le_refl _) _).grown g3 (by simp) (fun j hj => by cases hj; exact Nat.le_refl _)
        have b3' := Lib.hid (b2'.out.trans (b23.mono z2))
        have hv3 := Lib.hid (hv2.out.below b23 (Nat.le_refl _))
        have h3' := Lib.hid h3
        have z3' : w2.heap.size < w3.heap.size := by rw [z3]; simp
        clear g3 z3 b23 h3 q0 hv2 b2'
        refine wp_region_swap (o' := regionOps Tryz.f6 14) (by kernel_rfl) ?_
        refine te14_wp (base := w3.heap.size) (B := w2.heap.size) (z := false) (c := (cc : Int)) (p := (pp : Int)) (l := 6) (st := 2) (v := v) (sl := sl) (tv := .pointer (some ⟨t, 0, none⟩))
          ⟨by rfl, by rfl, by rfl, by rfl, by rfl, by rfl, by rfl, by rfl, h3'.out, z3', fun W hW hz => by
            have ht := tell_told W (hE'.out.below (b3'.out.trans (hW.mono (by omega))) hN0) (hT'.out.below (b3'.out.trans (hW.mono (by omega))) hN0) (by omega) hok (hv3.out.below hW (Nat.le_refl _))
            exact ht, fun W hW hz => by
            have hs := status_any (ev'.out W (b3'.out.trans (hW.mono (by omega))) (by omega))
            exact hs⟩ (Nat.le_refl _) ?_
        intro u W e15 bW hW
        have bW' := Lib.hid (b3'.out.trans (bW.mono (by omega)))
        clear bW
        rw [te14_plan]
        simp only [putL, Act.put, List.setIfInBounds_toArray, List.set_cons_succ, List.set_cons_zero, e15]
        go_wp2_with fail
        case roundEnd =>
          refine ⟨⟨1, by decide, rfl, Lib.hid fun h => (by cases h), bW', by omega⟩, ?_⟩
          simp [intOf]
    · have ev : ∀ W, Below W0.heap.size W0 W → W0.heap.size ≤ W.heap.size → _ := fun W hW hz => EvalF_any (N := N) (E := E) errs_keep unC_nil sl l W ⟨hE'.out.below hW hN0, Nat.le_trans hN0 hz⟩ (hE'.out.below hW hN0) (hT'.out.below hW hN0) (Nat.le_trans hN0 hz) (hR0.out.below hW (Nat.le_refl _))
      have r1 : ∀ W, Below W0.heap.size W0 W → _ := fun W hW => rTestF_any (tv := .pointer none) (fun _ _ _ _ => trivial) runC_nil sl l W trivial (hR0.out.below hW (Nat.le_refl _))
      generalize hO : testO (unP none) (l.map fun s => s.data.toList) = O at ev r1
      have hok : O.ok := by rw [← hO]; exact testO_ok _ _
      clear hO ht
      have ev' := Lib.hid ev
      have r1' := Lib.hid r1
      clear ev r1
      match O, hok, ev', r1' with
      | .val true, hok, ev', r1' =>
        go_wp2_with fail
        refine (ev'.out wr hbl.out hlt).mono ?_
        rintro e w1 ⟨v, rfl, hv, b1⟩
        have b1' := Lib.hid (hbl.out.trans (b1.mono hlt))
        have z1 : W0.heap.size ≤ w1.heap.size := Nat.le_trans hlt b1.size
        have hv' := Lib.hid hv
        clear b1 hv
        rw [show Out.bool (.val true) = true from rfl]
        go_wp2_with fail
        refine (r1'.out w1 b1'.out).mono ?_
        rintro e w2 ⟨rfl, b2⟩
        have b2' := Lib.hid (b1'.out.trans (b2.mono z1))
        have z2 : W0.heap.size ≤ w2.heap.size := Nat.le_trans z1 b2.size
        have hv2 := Lib.hid (hv'.out.below b2 (Nat.le_refl _))
        clear b2 hv' b1'
        rw [show Out.bool (.val true) = true from rfl]
        rw [fO_val]
        have hq := Lib.hid (zF w2)
        go_wp2_with (refine store_flt rfl rfl _ _ rfl _ 0 0 0 0 0 0 rfl rfl hq.out ?_; intro w3 h3 g3 z3; have q0 : w3.cell? ⟨w2.heap.size, 0, none⟩ = some (.int .i64 0) := row_cell h3 rfl)
        have b23 : Below w2.heap.size w2 w3 := ((Below.refl w2.heap.size w2).alloc (Nat.le_refl _) _).grown g3 (by simp) (fun j hj => by cases hj; exact Nat.le_refl _)
        have b3' := Lib.hid (b2'.out.trans (b23.mono z2))
        have hv3 := Lib.hid (hv2.out.below b23 (Nat.le_refl _))
        have h3' := Lib.hid h3
        have z3' : w2.heap.size < w3.heap.size := by rw [z3]; simp
        clear g3 z3 b23 h3 q0 hv2 b2'
        refine wp_region_swap (o' := regionOps Tryz.f6 14) (by kernel_rfl) ?_
        refine te14_wp (base := w3.heap.size) (B := w2.heap.size) (z := true) (c := 0) (p := 0) (l := 0) (st := 0) (v := v) (sl := sl) (tv := .pointer none)
          ⟨by rfl, by rfl, by rfl, by rfl, by rfl, by rfl, by rfl, by rfl, h3'.out, z3', fun W hW hz => by
            have ht := tell_told W (hE'.out.below (b3'.out.trans (hW.mono (by omega))) hN0) (hT'.out.below (b3'.out.trans (hW.mono (by omega))) hN0) (by omega) hok (hv3.out.below hW (Nat.le_refl _))
            exact ht, fun W hW hz => by
            have hs := status_any (ev'.out W (b3'.out.trans (hW.mono (by omega))) (by omega))
            exact hs⟩ (Nat.le_refl _) ?_
        intro u W e15 bW hW
        have bW' := Lib.hid (b3'.out.trans (bW.mono (by omega)))
        clear bW
        rw [te14_plan]
        simp only [putL, Act.put, List.setIfInBounds_toArray, List.set_cons_succ, List.set_cons_zero, e15]
        go_wp2_with fail
        case roundEnd =>
          refine ⟨⟨2, by decide, rfl, Lib.hid fun h => (by cases h), bW', by omega⟩, ?_⟩
          simp [intOf]
      | .val false, hok, ev', r1' =>
        go_wp2_with fail
        refine (ev'.out wr hbl.out hlt).mono ?_
        rintro e w1 ⟨v, rfl, hv, b1⟩
        have b1' := Lib.hid (hbl.out.trans (b1.mono hlt))
        have z1 : W0.heap.size ≤ w1.heap.size := Nat.le_trans hlt b1.size
        have hv' := Lib.hid hv
        clear b1 hv
        rw [show Out.bool (.val false) = false from rfl]
        go_wp2_with fail
        refine (r1'.out w1 b1'.out).mono ?_
        rintro e w2 ⟨rfl, b2⟩
        have b2' := Lib.hid (b1'.out.trans (b2.mono z1))
        have z2 : W0.heap.size ≤ w2.heap.size := Nat.le_trans z1 b2.size
        have hv2 := Lib.hid (hv'.out.below b2 (Nat.le_refl _))
        clear b2 hv' b1'
        rw [show Out.bool (.val false) = false from rfl]
        rw [fO_val]
        have hq := Lib.hid (zF w2)
        go_wp2_with (refine store_flt rfl rfl _ _ rfl _ 0 0 0 0 0 0 rfl rfl hq.out ?_; intro w3 h3 g3 z3; have q0 : w3.cell? ⟨w2.heap.size, 0, none⟩ = some (.int .i64 0) := row_cell h3 rfl)
        have b23 : Below w2.heap.size w2 w3 := ((Below.refl w2.heap.size w2).alloc (Nat.le_refl _) _).grown g3 (by simp) (fun j hj => by cases hj; exact Nat.le_refl _)
        have b3' := Lib.hid (b2'.out.trans (b23.mono z2))
        have hv3 := Lib.hid (hv2.out.below b23 (Nat.le_refl _))
        have h3' := Lib.hid h3
        have z3' : w2.heap.size < w3.heap.size := by rw [z3]; simp
        clear g3 z3 b23 h3 q0 hv2 b2'
        refine wp_region_swap (o' := regionOps Tryz.f6 14) (by kernel_rfl) ?_
        refine te14_wp (base := w3.heap.size) (B := w2.heap.size) (z := false) (c := 0) (p := 0) (l := 0) (st := 1) (v := v) (sl := sl) (tv := .pointer none)
          ⟨by rfl, by rfl, by rfl, by rfl, by rfl, by rfl, by rfl, by rfl, h3'.out, z3', fun W hW hz => by
            have ht := tell_told W (hE'.out.below (b3'.out.trans (hW.mono (by omega))) hN0) (hT'.out.below (b3'.out.trans (hW.mono (by omega))) hN0) (by omega) hok (hv3.out.below hW (Nat.le_refl _))
            exact ht, fun W hW hz => by
            have hs := status_any (ev'.out W (b3'.out.trans (hW.mono (by omega))) (by omega))
            exact hs⟩ (Nat.le_refl _) ?_
        intro u W e15 bW hW
        have bW' := Lib.hid (b3'.out.trans (bW.mono (by omega)))
        clear bW
        rw [te14_plan]
        simp only [putL, Act.put, List.setIfInBounds_toArray, List.set_cons_succ, List.set_cons_zero, e15]
        go_wp2_with fail
        case roundEnd =>
          refine ⟨⟨2, by decide, rfl, Lib.hid fun h => (by cases h), bW', by omega⟩, ?_⟩
          simp [intOf]
      | .err cc pp, hok, ev', r1' =>
        have hcI : ¬ (cc : Int) = 0 := by have := hok.1; omega
        go_wp2_with fail
        refine (ev'.out wr hbl.out hlt).mono ?_
        rintro e w1 ⟨v, rfl, hv, b1⟩
        have b1' := Lib.hid (hbl.out.trans (b1.mono hlt))
        have z1 : W0.heap.size ≤ w1.heap.size := Nat.le_trans hlt b1.size
        have hv' := Lib.hid hv
        clear b1 hv
        rw [show Out.bool (.err cc pp) = false from rfl]
        go_wp2_with fail
        refine (r1'.out w1 b1'.out).mono ?_
        rintro e w2 ⟨rfl, b2⟩
        have b2' := Lib.hid (b1'.out.trans (b2.mono z1))
        have z2 : W0.heap.size ≤ w2.heap.size := Nat.le_trans z1 b2.size
        have hv2 := Lib.hid (hv'.out.below b2 (Nat.le_refl _))
        clear b2 hv' b1'
        rw [show Out.bool (.err cc pp) = false from rfl]
        rw [fO_err]
        have hq := Lib.hid (zF w2)
        go_wp2_with (refine store_flt rfl rfl _ _ rfl _ (cc : Int) (pp : Int) 6 0 0 0 rfl rfl hq.out ?_; intro w3 h3 g3 z3; have q0 : w3.cell? ⟨w2.heap.size, 0, none⟩ = some (.int .i64 (cc : Int)) := row_cell h3 rfl)
        have b23 : Below w2.heap.size w2 w3 := ((Below.refl w2.heap.size w2).alloc (Nat.le_refl _) _).grown g3 (by simp) (fun j hj => by cases hj; exact Nat.le_refl _)
        have b3' := Lib.hid (b2'.out.trans (b23.mono z2))
        have hv3 := Lib.hid (hv2.out.below b23 (Nat.le_refl _))
        have h3' := Lib.hid h3
        have z3' : w2.heap.size < w3.heap.size := by rw [z3]; simp
        clear g3 z3 b23 h3 q0 hv2 b2'
        refine wp_region_swap (o' := regionOps Tryz.f6 14) (by kernel_rfl) ?_
        refine te14_wp (base := w3.heap.size) (B := w2.heap.size) (z := false) (c := (cc : Int)) (p := (pp : Int)) (l := 6) (st := 2) (v := v) (sl := sl) (tv := .pointer none)
          ⟨by rfl, by rfl, by rfl, by rfl, by rfl, by rfl, by rfl, by rfl, h3'.out, z3', fun W hW hz => by
            have ht := tell_told W (hE'.out.below (b3'.out.trans (hW.mono (by omega))) hN0) (hT'.out.below (b3'.out.trans (hW.mono (by omega))) hN0) (by omega) hok (hv3.out.below hW (Nat.le_refl _))
            exact ht, fun W hW hz => by
            have hs := status_any (ev'.out W (b3'.out.trans (hW.mono (by omega))) (by omega))
            exact hs⟩ (Nat.le_refl _) ?_
        intro u W e15 bW hW
        have bW' := Lib.hid (b3'.out.trans (bW.mono (by omega)))
        clear bW
        rw [te14_plan]
        simp only [putL, Act.put, List.setIfInBounds_toArray, List.set_cons_succ, List.set_cons_zero, e15]
        go_wp2_with fail
        case roundEnd =>
          refine ⟨⟨2, by decide, rfl, Lib.hid fun h => (by cases h), bW', by omega⟩, ?_⟩
          simp [intOf]
    · go_wp2_with fail
      refine (awake18_any _).mono ?_
      rintro e w1 ⟨rfl, b1⟩
      have b2 := Lib.hid (bF'.out.trans ((hbl.out.trans (b1.mono hlt)).mono bF'.out.size))
      clear b1
      go_wp2_with fail
      rw [hP.out]
      exact ⟨rfl, b2.out⟩
end Go.Proofs.YtfnaooplpofgiaaGreatDoor
