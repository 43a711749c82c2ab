/- test.Eval of any operands: true or false, or the error as the package tells it. Conditions: the operands lie in memory; the errors' variables hold their values. -/
import Derived.Test.YtfnaooplpofgiaaGreatDoorKEvG
import Derived.WalkMore
import Derived.OwnWalk
import Derived.Handy
import Derived.Outline
namespace Go.Proofs.YtfnaooplpofgiaaGreatDoor
open Go Go.RowKit SN

/-- The error as the package tells it. -/
def IsTold (w : World) (E : Nat → Addr) (v : Value) : Out → Prop
  | .val _ => v = .nilIface
  | .err c p => IsErr w E v c p 6
theorem IsTold.below {w w' : World} {E : Nat → Addr} {v : Value} {O : Out} {M : Nat} (h : IsTold w E v O) (hb : Below M w w') (hM : w.heap.size ≤ M) : IsTold w' E v O := by
  cases O with
  | val b => exact h
  | err c p => exact IsErr.below h hb hM
def EvT (E : Nat → Addr) (w0 : World) (O : Out) (e : Ending) (w' : World) : Prop := ∃ v, e = .returned (.tuple #[.bool O.bool, v]) ∧ IsTold w' E v O ∧ Below w0.heap.size w0 w'
set_option maxHeartbeats 1000000 in
set_option maxRecDepth 100000 in
theorem Eval_many {N : Nat} {E : Nat → Addr} (sl tv : Value) (p : Option Addr) (n c : Nat) (w : World) (hsl : sl = .slice p n c) (hn : 64 < n) (hE : Errs N E w) (hT : ErrT N w) (hN : N ≤ w.heap.size) :
    Calls Tryz.prog 7 #[sl, tv] w (EvT E w (.err 5 0)) := by
  subst hsl
  have hnI : (64 : Int) < (n : Int) := by omega
  have ht := Lib.hid (told_any (w.alloc (.cells #[.int .i64 5, .int .i64 0] 44)) (hE.alloc _ hN) (hT.below ((Below.refl _ _).alloc (Nat.le_refl _) _) hN) (by simp; omega) (c := 5) (p := 0) ⟨w.heap.size, rfl, heap_alloc_new w _⟩ (by decide) (by decide))
  clear hE hT
  go_enter Tryz.func7, Tryz.ntmps7
  go_wp2_with fail
  refine ht.out.mono ?_
  rintro e w1 ⟨v, rfl, hv, b1⟩
  have hv' := Lib.hid hv
  have b1' := Lib.hid b1
  clear hv b1
  go_wp2_with fail
  go_ret2
  exact ⟨_, rfl, hv'.out, ((Below.refl _ _).alloc (Nat.le_refl _) _).trans (b1'.out.mono (by simp))⟩
set_option maxHeartbeats 1000000 in
set_option maxRecDepth 100000 in
theorem Eval_row {N : Nat} {E : Nat → Addr} {U : List UInt8 → List UInt8 → Option Bool} (b c : Nat) (tv : Value) (l : List ByteArray) (w : World) (hR : RowAt w b 0 l) (hl : l.length ≤ 64)
    (hE : Errs N E w) (hT : ErrT N w) (hN : N ≤ w.heap.size)
    (hC : (∀ s ∈ l, s.size ≤ 1024) → Calls Tryz.prog 15 #[.slice (some ⟨b, 0, none⟩) l.length c, tv] w (EvR w (evalO U (l.map fun s => s.data.toList)))) :
    Calls Tryz.prog 7 #[.slice (some ⟨b, 0, none⟩) l.length c, tv] w (EvT E w (testO U (l.map fun s => s.data.toList))) := by
  have hC' := Lib.hid hC
  have hR' := Lib.hid hR
  have hE' := Lib.hid hE
  have hT' := Lib.hid hT
  have hlI : ¬ (64 : Int) < (l.length : Int) := by omega
  have hO : testO U (l.map fun s => s.data.toList) = match longAt (l.map fun s => s.data.toList) with
    | some i => .err 2 i
    | none => evalO U (l.map fun s => s.data.toList) := by
    unfold testO
    rw [if_neg (by rw [List.length_map]; omega)]
    rfl
  have hok := evalO_ok U (l.map fun s => s.data.toList)
  generalize evalO U (l.map fun s => s.data.toList) = Oe at hC' hO hok
  clear hC hR hE hT
  obtain ⟨O, hOO⟩ : ∃ O, O = testO U (l.map fun s => s.data.toList) := ⟨_, rfl⟩
  rw [← hOO] at hO ⊢
  have hO' := Lib.hid hO
  have hok' := Lib.hid hok
  obtain ⟨Post, hPost⟩ : ∃ Post : Ending → World → Prop, Post = EvT E w O := ⟨_, rfl⟩
  rw [← hPost]
  have hP := Lib.hid hPost
  clear hPost hO hOO hok
  go_enter Tryz.func7, Tryz.ntmps7
  go_wp2_with fail
  go_loopw [19] (fun i wr => ∃ (k : Nat), k ≤ l.length ∧ i = .int .i64 k ∧ wr = w ∧ Hid (∀ i s, i < k → l[i]? = some s → s.size ≤ 1024)) (fun i _ => l.length - (intOf i).toNat)
  case atStart => exact ⟨0, Nat.zero_le _, rfl, rfl, Lib.hid fun i s h => absurd h (by omega)⟩
  case round =>
    obtain ⟨k, hk, rfl, rfl, hsm⟩ := hrel
    by_cases hkk : k < l.length
    · have hld : wr.cell? ⟨b, 0 + k, none⟩ = some (.string l[k]) := hR'.out k l[k] (List.getElem?_eq_getElem hkk)
      rw [Nat.zero_add] at hld
      have hkI : (k : Int) < (l.length : Int) := by omega
      have hget := Lib.hid (List.getElem?_eq_getElem hkk)
      generalize l[k] = sk at hld hget
      by_cases hsz : sk.size ≤ 1024
      · have hszI : ¬ (1024 : Int) < (sk.size : Int) := by omega
        go_wp2_with fail
        case roundEnd =>
          refine ⟨⟨k + 1, by omega, rfl, trivial, Lib.hid fun i s hi hs => ?_⟩, ?_⟩
          · by_cases h : i = k
            · subst h; have := hget.out; rw [this] at hs; cases hs; exact hsz
            · exact hsm.out i s (by omega) hs
          · simp [intOf]; omega
      · have hszI : (1024 : Int) < (sk.size : Int) := by omega
        have hlong : longAt (l.map fun s => s.data.toList) = some k := longAt_some _ k sk.data.toList (fun i t hi ht => by
          rw [List.getElem?_map] at ht
          cases hx : l[i]? with
          | none => rw [hx] at ht; cases ht
          | some s => rw [hx] at ht; cases ht; have := hsm.out i s hi hx; simpa using this) (by rw [List.getElem?_map, hget.out]; rfl) (by simp; omega)
        have hOk : O = .err 2 k := by rw [hO'.out, hlong]
        have hOk' := Lib.hid hOk
        have ht := Lib.hid (told_any (wr.alloc (.cells #[.int .i64 2, .int .i64 k] 44)) (hE'.out.alloc _ hN) (hT'.out.below ((Below.refl _ _).alloc (Nat.le_refl _) _) hN) (by simp; omega) (c := 2) (p := k) ⟨wr.heap.size, rfl, heap_alloc_new wr _⟩ (by decide) (by decide))
        clear hlong hOk
        go_wp2_with fail
        refine ht.out.mono ?_
        rintro e w1 ⟨v, rfl, hv, b1⟩
        have hv' := Lib.hid hv
        have b1' := Lib.hid b1
        clear hv b1
        go_wp2_with fail
        rw [hP.out, hOk'.out]
        exact ⟨_, rfl, hv'.out, ((Below.refl _ _).alloc (Nat.le_refl _) _).trans (b1'.out.mono (by simp))⟩
    · have hke : k = l.length := by omega
      subst hke
      have hall : ∀ s ∈ l, s.size ≤ 1024 := fun s hs => by
        obtain ⟨i, hi, rfl⟩ := List.getElem_of_mem hs
        exact hsm.out i _ hi (List.getElem?_eq_getElem hi)
      have hOk : O = Oe := by rw [hO'.out, longAt_none _ (fun s hs => by obtain ⟨t, ht, rfl⟩ := List.mem_map.1 hs; have := hall t ht; simpa using this)]
      have hOk' := Lib.hid hOk
      have hCc := Lib.hid (hC'.out hall)
      clear hall hOk
      go_wp2_with fail
      refine hCc.out.mono ?_
      rintro e w1 ⟨x, v, rfl, hv, b1⟩
      cases Oe with
      | val z =>
        obtain ⟨rfl, rfl⟩ := hv
        have b1' := Lib.hid b1
        clear b1
        go_wp2_with fail
        rw [hP.out, hOk'.out]
        exact ⟨_, rfl, rfl, b1'.out⟩
      | err cd p =>
        obtain ⟨rfl, hw⟩ := hv
        have ht := Lib.hid (told_any w1 (hE'.out.below b1 hN) (hT'.out.below b1 hN) (Nat.le_trans hN b1.size) hw hok'.out.1 hok'.out.2)
        obtain ⟨B, rfl, hB⟩ := hw
        have b1' := Lib.hid b1
        clear b1 hB
        go_wp2_with fail
        refine ht.out.mono ?_
        rintro e w2 ⟨u, rfl, hu, b2⟩
        have hu' := Lib.hid hu
        have b2' := Lib.hid (b1'.out.trans (b2.mono b1'.out.size))
        clear hu b2
        go_wp2_with fail
        rw [hP.out, hOk'.out]
        exact ⟨_, rfl, hu'.out, b2'.out⟩
set_option maxHeartbeats 1000000 in
set_option maxRecDepth 100000 in
theorem Eval_nil {E : Nat → Addr} {U : List UInt8 → List UInt8 → Option Bool} (p : Option Addr) (c : Nat) (tv : Value) (w : World) : Calls Tryz.prog 7 #[.slice p 0 c, tv] w (EvT E w (testO U [])) := by
  have hC := Lib.hid (eval0_any p c tv w)
  rw [show testO U [] = Out.val false from rfl]
  go_enter Tryz.func7, Tryz.ntmps7
  go_wp2_with fail
  refine wp_loop_rounds 1 ?_
  rw [rounds_succ]
  go_wp2_with fail
  refine hC.out.mono ?_
  rintro e w1 ⟨x, v, rfl, ⟨rfl, rfl⟩, b1⟩
  go_wp2_with fail
  go_ret2
  exact ⟨_, rfl, rfl, b1⟩
/-- test.Eval of any operands. -/
theorem Eval_any {N : Nat} {E : Nat → Addr} {tv : Value} {U : List UInt8 → List UInt8 → Option Bool} {G : World → Prop} (hG : ∀ W W', G W → Below W.heap.size W W' → G W') (hU : UnC tv U G) (sl : Value) (l : List ByteArray) (w : World)
    (hg : G w) (hE : Errs N E w) (hT : ErrT N w) (hN : N ≤ w.heap.size) (hR : IsOps w sl l) : Calls Tryz.prog 7 #[sl, tv] w (EvT E w (testO U (l.map fun s => s.data.toList))) := by
  obtain ⟨p, c, rfl, hc, h⟩ := hR
  by_cases hl : l.length ≤ 64
  · rcases h with rfl | ⟨b, rfl, hb, hR⟩
    · exact Eval_nil p c tv w
    · exact Eval_row b c tv l w hR hl hE hT hN fun hs => eval_any hG hU b c l w hg hT hN hb hc hs hR
  · have h64 : testO U (l.map fun s => s.data.toList) = .err 5 0 := by unfold testO; rw [if_pos (by simp; omega)]
    rw [h64]
    exact Eval_many _ tv p l.length c w rfl (by omega) hE hT hN
end Go.Proofs.YtfnaooplpofgiaaGreatDoor
