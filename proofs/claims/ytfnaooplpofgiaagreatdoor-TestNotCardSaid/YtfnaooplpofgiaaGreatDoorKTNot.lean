/- The walk over TestNot: a ! ahead turns what is told, parentheses change nothing. Conditions: the errors' variables hold their values. -/
import Derived.Test.YtfnaooplpofgiaaGreatDoorKFl
import Derived.WalkMore
import Derived.OwnWalk
import Derived.Handy
import Derived.Outline
namespace Go.Proofs.YtfnaooplpofgiaaGreatDoor
open Go Go.RowKit SN

/-- Is it an operator of two? -/
def knownP (l : List UInt8) : Bool := (binO [] l []).isSome
theorem known_bin (a o b : List UInt8) : (binO a o b).isSome = knownP o := by unfold knownP; rw [binO_isSome, binO_isSome]
set_option maxHeartbeats 4000000 in
set_option maxRecDepth 100000 in
theorem known_1 (w : World) : Calls Tryz.prog 12 #[.string ⟨#[61]⟩] w fun e w' => e = .returned (.bool true) ∧ w' = w := by
  go_enter Tryz.func12, Tryz.ntmps12
  go_wp2_with fail
  go_ret
  exact ⟨rfl, rfl⟩
set_option maxHeartbeats 4000000 in
set_option maxRecDepth 100000 in
theorem known_2 (w : World) : Calls Tryz.prog 12 #[.string ⟨#[33, 61]⟩] w fun e w' => e = .returned (.bool true) ∧ w' = w := by
  go_enter Tryz.func12, Tryz.ntmps12
  go_wp2_with fail
  go_ret
  exact ⟨rfl, rfl⟩
set_option maxHeartbeats 4000000 in
set_option maxRecDepth 100000 in
theorem known_3 (w : World) : Calls Tryz.prog 12 #[.string ⟨#[45, 101, 113]⟩] w fun e w' => e = .returned (.bool true) ∧ w' = w := by
  go_enter Tryz.func12, Tryz.ntmps12
  go_wp2_with fail
  go_ret
  exact ⟨rfl, rfl⟩
set_option maxHeartbeats 4000000 in
set_option maxRecDepth 100000 in
theorem known_4 (w : World) : Calls Tryz.prog 12 #[.string ⟨#[45, 110, 101]⟩] w fun e w' => e = .returned (.bool true) ∧ w' = w := by
  go_enter Tryz.func12, Tryz.ntmps12
  go_wp2_with fail
  go_ret
  exact ⟨rfl, rfl⟩
set_option maxHeartbeats 4000000 in
set_option maxRecDepth 100000 in
theorem known_5 (w : World) : Calls Tryz.prog 12 #[.string ⟨#[45, 103, 116]⟩] w fun e w' => e = .returned (.bool true) ∧ w' = w := by
  go_enter Tryz.func12, Tryz.ntmps12
  go_wp2_with fail
  go_ret
  exact ⟨rfl, rfl⟩
set_option maxHeartbeats 4000000 in
set_option maxRecDepth 100000 in
theorem known_6 (w : World) : Calls Tryz.prog 12 #[.string ⟨#[45, 103, 101]⟩] w fun e w' => e = .returned (.bool true) ∧ w' = w := by
  go_enter Tryz.func12, Tryz.ntmps12
  go_wp2_with fail
  go_ret
  exact ⟨rfl, rfl⟩
set_option maxHeartbeats 4000000 in
set_option maxRecDepth 100000 in
theorem known_7 (w : World) : Calls Tryz.prog 12 #[.string ⟨#[45, 108, 116]⟩] w fun e w' => e = .returned (.bool true) ∧ w' = w := by
  go_enter Tryz.func12, Tryz.ntmps12
  go_wp2_with fail
  go_ret
  exact ⟨rfl, rfl⟩
set_option maxHeartbeats 4000000 in
set_option maxRecDepth 100000 in
theorem known_8 (w : World) : Calls Tryz.prog 12 #[.string ⟨#[45, 108, 101]⟩] w fun e w' => e = .returned (.bool true) ∧ w' = w := by
  go_enter Tryz.func12, Tryz.ntmps12
  go_wp2_with fail
  go_ret
  exact ⟨rfl, rfl⟩
set_option maxHeartbeats 4000000 in
set_option maxRecDepth 100000 in
theorem known_other (o : ByteArray) (w : World) (h1 : (o.toList == [61]) = false) (h2 : (o.toList == [33, 61]) = false) (h3 : (o.toList == [45, 101, 113]) = false) (h4 : (o.toList == [45, 110, 101]) = false) (h5 : (o.toList == [45, 103, 116]) = false) (h6 : (o.toList == [45, 103, 101]) = false) (h7 : (o.toList == [45, 108, 116]) = false) (h8 : (o.toList == [45, 108, 101]) = false) : Calls Tryz.prog 12 #[.string o] w fun e w' => e = .returned (.bool (decide (1024 < o.size))) ∧ w' = w := by
  by_cases hs : 1024 < o.size
  · have hsI : (1024 : Int) < (o.size : Int) := by omega
    rw [decide_eq_true hs]
    go_enter Tryz.func12, Tryz.ntmps12
    go_wp2_with fail
    go_ret
    exact ⟨rfl, rfl⟩
  · have hsI : ¬ (1024 : Int) < (o.size : Int) := by omega
    rw [decide_eq_false hs]
    go_enter Tryz.func12, Tryz.ntmps12
    go_wp2_with fail
    go_ret
    exact ⟨rfl, rfl⟩
theorem known_any (o : ByteArray) (w : World) : Calls Tryz.prog 12 #[.string o] w fun e w' => e = .returned (.bool (knownP o.data.toList || decide (1024 < o.size))) ∧ w' = w := by
  by_cases h1 : (o.data.toList == [61]) = true
  · obtain rfl := bytes_eq h1
    exact known_1 w
  by_cases h2 : (o.data.toList == [33, 61]) = true
  · obtain rfl := bytes_eq h2
    exact known_2 w
  by_cases h3 : (o.data.toList == [45, 101, 113]) = true
  · obtain rfl := bytes_eq h3
    exact known_3 w
  by_cases h4 : (o.data.toList == [45, 110, 101]) = true
  · obtain rfl := bytes_eq h4
    exact known_4 w
  by_cases h5 : (o.data.toList == [45, 103, 116]) = true
  · obtain rfl := bytes_eq h5
    exact known_5 w
  by_cases h6 : (o.data.toList == [45, 103, 101]) = true
  · obtain rfl := bytes_eq h6
    exact known_6 w
  by_cases h7 : (o.data.toList == [45, 108, 116]) = true
  · obtain rfl := bytes_eq h7
    exact known_7 w
  by_cases h8 : (o.data.toList == [45, 108, 101]) = true
  · obtain rfl := bytes_eq h8
    exact known_8 w
  have e : knownP o.data.toList = false := by
    unfold knownP
    rw [binO_isSome]
    unfold opN
    rw [if_neg h3, if_neg h4, if_neg h5, if_neg h6, if_neg h7, if_neg h8, show (o.data.toList == [61]) = false by simpa using h1, show (o.data.toList == [33, 61]) = false by simpa using h2]
    rfl
  rw [e, Bool.false_or]
  exact known_other o w (beq_no h1) (beq_no h2) (beq_no h3) (beq_no h4) (beq_no h5) (beq_no h6) (beq_no h7) (beq_no h8)
/-- What Eval's error looks like. -/
def NilE (v : Value) : Out → Prop
  | .val _ => v = .nilIface
  | .err _ _ => ∃ S, v = .iface 53 (.pointer (some ⟨S, 0, none⟩))
def EvS (W0 : World) (t : Nat) : Prop := ∀ W sl l, Below W0.heap.size W0 W → W0.heap.size ≤ W.heap.size → IsOps W sl l → Calls Tryz.prog 7 #[sl, .pointer (some ⟨t, 0, none⟩)] W fun e w' => ∃ v, e = .returned (.tuple #[.bool (testO fU (l.map fun s => s.data.toList)).bool, v]) ∧ NilE v (testO fU (l.map fun s => s.data.toList)) ∧ Below W.heap.size W w'
theorem files_evs {N : Nat} {E : Nat → Addr} (w : World) (hE : Errs N E w) (hT : ErrT N w) (hM : MaxL N w) (hN : N ≤ w.heap.size) : Calls Tryz.prog 11 #[] w fun e w' => ∃ t m, e = .returned (.tuple #[.pointer (some ⟨t, 0, none⟩), .pointer (some ⟨m, 0, none⟩)]) ∧ EvS w' t ∧ Below w.heap.size w w' :=
  (files_any (E := E) w hE hM hN).mono fun e W0 ⟨t, r, T, cnt, m, L, D, b0, n1, n2, n3, n4, he, hTc, hst, hDt, hF, bF⟩ => by
    refine ⟨t, m, he, fun W sl l hb hz hR => ?_, bF⟩
    have hN0 : N ≤ W0.heap.size := Nat.le_trans hN bF.size
    have hG : GT N E t r T W0 := ⟨hE.below bF hN, hM.below bF hN, hN0, hTc.tr⟩
    refine (Eval_any (N := N) (E := E) GT.keep (unC_files (N := N) (E := E) hst) sl l W (GT.keep _ _ hG hb) ((hE.below bF hN).below hb hN0) ((hT.below bF hN).below hb hN0) (Nat.le_trans hN0 hz) hR).mono ?_
    rintro e w' ⟨v, he, hv, b⟩
    refine ⟨v, he, ?_, b⟩
    cases hO : testO fU (l.map fun s => s.data.toList) with
    | val x => rw [hO] at hv; exact hv
    | err c p =>
      rw [hO] at hv
      obtain ⟨S, P, e1, -, -⟩ := hv
      exact ⟨S, e1⟩
theorem testO_short {U : List UInt8 → List UInt8 → Option Bool} {l : List (List UInt8)} (h : l.length ≤ 64) (hs : ∀ s ∈ l, s.length ≤ 1024) : testO U l = evalO U l := by
  unfold testO
  rw [if_neg (by omega), longAt_none l hs]
theorem testO_long {U : List UInt8 → List UInt8 → Option Bool} {l : List (List UInt8)} (h : l.length ≤ 64) {k : Nat} (hk : longAt l = some k) : testO U l = .err 2 k := by
  unfold testO
  rw [if_neg (by omega), hk]
theorem lo1 {a : List UInt8} (h : 1024 < a.length) : testO fU [a] = .err 2 0 := testO_long (by simp) (by unfold longAt; rw [if_pos h])
theorem lo2 {a : List UInt8} (h : 1024 < a.length) : testO fU [[33], a] = .err 2 1 := testO_long (by simp) (by unfold longAt; rw [if_neg (by decide)]; unfold longAt; rw [if_pos h]; rfl)
theorem lo3 {a : List UInt8} (h : 1024 < a.length) : testO fU [[40], a, [41]] = .err 2 1 := testO_long (by simp) (by unfold longAt; rw [if_neg (by decide)]; unfold longAt; rw [if_pos h]; rfl)
theorem sh1 {a : List UInt8} (h : a.length ≤ 1024) : testO fU [a] = .val (!a.isEmpty) := by rw [testO_short (by simp) (by simp; omega)]; rfl
theorem sh2 {a : List UInt8} (h : a.length ≤ 1024) : testO fU [[33], a] = .val (!!a.isEmpty) := by rw [testO_short (by simp) (by simp; omega)]; rfl
theorem sh3 {a : List UInt8} (h : a.length ≤ 1024) (hk : knownP a = false) : testO fU [[40], a, [41]] = .val (!a.isEmpty) := by
  rw [testO_short (by simp) (by simp; omega)]
  show eval3O fU [40] a [41] = _
  unfold eval3O
  have hn : binO [40] a [41] = none := by
    have := known_bin [40] a [41]
    rw [hk] at this
    simpa using this
  rw [hn]
  rfl
theorem two1 {a b : List UInt8} (h : a.length ≤ 1024) (hb : b.length ≤ 1024) : testO fU [a, b] = eval2O fU a b := by rw [testO_short (by simp) (by simp; omega)]; rfl
theorem two2 {a b : List UInt8} (h : a.length ≤ 1024) (hb : b.length ≤ 1024) (hk : knownP a = false) : testO fU [[33], a, b] = (eval2O fU a b).neg := by
  rw [testO_short (by simp) (by simp; omega)]
  show eval3O fU [33] a b = _
  unfold eval3O
  have hn : binO [33] a b = none := by
    have := known_bin [33] a b
    rw [hk] at this
    simpa using this
  rw [hn]
  rfl
theorem two3 {a b : List UInt8} (h : a.length ≤ 1024) (hb : b.length ≤ 1024) : testO fU [[40], a, b, [41]] = (eval2O fU a b).mov := by
  rw [testO_short (by simp) (by simp; omega)]
  rfl
theorem two_out (a b : List UInt8) (ha : (a == [33]) = false) : (∃ x, eval2O fU a b = .val x) ∨ ∃ p, eval2O fU a b = .err 14 p := by
  unfold eval2O
  rw [if_neg (by rw [ha]; decide)]
  cases fU a b with
  | some x => exact .inl ⟨x, rfl⟩
  | none => exact .inr ⟨0, rfl⟩
set_option maxHeartbeats 4000000 in
set_option maxRecDepth 100000 in
theorem not_long_s {N : Nat} {E : Nat → Addr} (a b : ByteArray) (w : World) (hE : Errs N E w) (hT : ErrT N w) (hM : MaxL N w) (hN : N ≤ w.heap.size) (ha0 : 1024 < a.size) (hb0 : ¬ 1024 < b.size) (h33 : (a.toList == [33]) = false) (h40 : (a.toList == [40]) = false) :
    Calls Tryz.prog 4 #[.string a, .string b] w fun e w' => e = .returned (.bool true) ∧ Below w.heap.size w w' := by
  have hFl := Lib.hid (files_evs w hE hT hM hN)
  clear hE hT hM
  obtain ⟨Post, hPost⟩ : ∃ Post : Ending → World → Prop, Post = fun e w' => e = .returned (.bool true) ∧ Below w.heap.size w w' := ⟨_, rfl⟩
  rw [← hPost]
  have hP := Lib.hid hPost
  clear hPost
  have haI : (1024 : Int) < (a.size : Int) := by omega
  have hbI : ¬ (1024 : Int) < (b.size : Int) := by omega
  have ha := Lib.hid ha0
  have hkn := Lib.hid (show (knownP a.data.toList || decide (1024 < a.size)) = true by rw [decide_eq_true ha0, Bool.or_true])
  go_enter Tryz.func4, Tryz.ntmps4
  go_wp2_with fail
  refine hFl.out.mono ?_
  rintro e W0 ⟨t, m, rfl, hS0, bF⟩
  have hS := Lib.hid hS0
  have bF' := Lib.hid bF
  have bb0 := Lib.hid (Below.refl W0.heap.size W0)
  have z0 : W0.heap.size ≤ W0.heap.size := Nat.le_refl _
  clear hS0 bF hFl
  have bA1 := bb0.out.alloc z0 (.cells #[.string a] 9)
  have zA1 : W0.heap.size ≤ (W0.alloc (.cells #[.string a] 9)).heap.size := bA1.size
  have cl1 := hS.out _ _ [a] bA1 zA1 (ops1 a W0)
  rw [show testO fU (List.map (fun s => s.data.toList) [a]) = _ from lo1 (by simpa using ha.out)] at cl1
  have cl1' := Lib.hid cl1
  have bA1' := Lib.hid bA1
  clear cl1 bA1
  go_wp2_with fail
  refine cl1'.out.mono ?_
  rintro e w1 ⟨v1, rfl, hv1, b1⟩
  obtain ⟨S1, rfl⟩ := hv1
  have bb1 := Lib.hid (bA1'.out.trans (b1.mono zA1))
  have z1 : W0.heap.size ≤ w1.heap.size := Nat.le_trans zA1 b1.size
  clear b1 cl1' bA1' zA1 bb0
  have bA2 := bb1.out.alloc z1 (.cells #[.string ⟨#[33]⟩, .string a] 9)
  have zA2 : W0.heap.size ≤ (w1.alloc (.cells #[.string ⟨#[33]⟩, .string a] 9)).heap.size := bA2.size
  have cl2 := hS.out _ _ [⟨#[33]⟩, a] bA2 zA2 (ops2 ⟨#[33]⟩ a w1)
  rw [show testO fU (List.map (fun s => s.data.toList) [⟨#[33]⟩, a]) = _ from lo2 (by simpa using ha.out)] at cl2
  have cl2' := Lib.hid cl2
  have bA2' := Lib.hid bA2
  clear cl2 bA2
  go_wp2_with fail
  refine cl2'.out.mono ?_
  rintro e w2 ⟨v2, rfl, hv2, b2⟩
  obtain ⟨S2, rfl⟩ := hv2
  have bb2 := Lib.hid (bA2'.out.trans (b2.mono zA2))
  have z2 : W0.heap.size ≤ w2.heap.size := Nat.le_trans zA2 b2.size
  clear b2 cl2' bA2' zA2 bb1
  have bA3 := bb2.out.alloc z2 (.cells #[.string ⟨#[40]⟩, .string a, .string ⟨#[41]⟩] 9)
  have zA3 : W0.heap.size ≤ (w2.alloc (.cells #[.string ⟨#[40]⟩, .string a, .string ⟨#[41]⟩] 9)).heap.size := bA3.size
  have cl3 := hS.out _ _ [⟨#[40]⟩, a, ⟨#[41]⟩] bA3 zA3 (ops3 ⟨#[40]⟩ a ⟨#[41]⟩ w2)
  rw [show testO fU (List.map (fun s => s.data.toList) [⟨#[40]⟩, a, ⟨#[41]⟩]) = _ from lo3 (by simpa using ha.out)] at cl3
  have cl3' := Lib.hid cl3
  have bA3' := Lib.hid bA3
  clear cl3 bA3
  go_wp2_with fail
  refine cl3'.out.mono ?_
  rintro e w3 ⟨v3, rfl, hv3, b3⟩
  obtain ⟨S3, rfl⟩ := hv3
  have bb3 := Lib.hid (bA3'.out.trans (b3.mono zA3))
  have z3 : W0.heap.size ≤ w3.heap.size := Nat.le_trans zA3 b3.size
  clear b3 cl3' bA3' zA3 bb2
  go_wp2_with fail
  refine (known_any a _).mono ?_
  rintro e wk1 ⟨rfl, rfl⟩
  rw [show (knownP a.data.toList || decide (1024 < a.size)) = true from hkn.out]
  go_wp2_with fail
  refine (awake18_any _).mono ?_
  rintro e wz ⟨rfl, bz⟩
  have bZ := Lib.hid (bF'.out.trans ((bb3.out.trans (bz.mono z3)).mono bF'.out.size))
  clear bz
  go_wp2_with fail
  rw [hP.out]
  exact ⟨rfl, bZ.out⟩
set_option maxHeartbeats 4000000 in
set_option maxRecDepth 100000 in
theorem not_long_l {N : Nat} {E : Nat → Addr} (a b : ByteArray) (w : World) (hE : Errs N E w) (hT : ErrT N w) (hM : MaxL N w) (hN : N ≤ w.heap.size) (ha0 : 1024 < a.size) (hb0 : 1024 < b.size) (h33 : (a.toList == [33]) = false) (h40 : (a.toList == [40]) = false) :
    Calls Tryz.prog 4 #[.string a, .string b] w fun e w' => e = .returned (.bool true) ∧ Below w.heap.size w w' := by
  have hFl := Lib.hid (files_evs w hE hT hM hN)
  clear hE hT hM
  obtain ⟨Post, hPost⟩ : ∃ Post : Ending → World → Prop, Post = fun e w' => e = .returned (.bool true) ∧ Below w.heap.size w w' := ⟨_, rfl⟩
  rw [← hPost]
  have hP := Lib.hid hPost
  clear hPost
  have haI : (1024 : Int) < (a.size : Int) := by omega
  have hbI : (1024 : Int) < (b.size : Int) := by omega
  have ha := Lib.hid ha0
  have hkn := Lib.hid (show (knownP a.data.toList || decide (1024 < a.size)) = true by rw [decide_eq_true ha0, Bool.or_true])
  go_enter Tryz.func4, Tryz.ntmps4
  go_wp2_with fail
  refine hFl.out.mono ?_
  rintro e W0 ⟨t, m, rfl, hS0, bF⟩
  have hS := Lib.hid hS0
  have bF' := Lib.hid bF
  have bb0 := Lib.hid (Below.refl W0.heap.size W0)
  have z0 : W0.heap.size ≤ W0.heap.size := Nat.le_refl _
  clear hS0 bF hFl
  have bA1 := bb0.out.alloc z0 (.cells #[.string a] 9)
  have zA1 : W0.heap.size ≤ (W0.alloc (.cells #[.string a] 9)).heap.size := bA1.size
  have cl1 := hS.out _ _ [a] bA1 zA1 (ops1 a W0)
  rw [show testO fU (List.map (fun s => s.data.toList) [a]) = _ from lo1 (by simpa using ha.out)] at cl1
  have cl1' := Lib.hid cl1
  have bA1' := Lib.hid bA1
  clear cl1 bA1
  go_wp2_with fail
  refine cl1'.out.mono ?_
  rintro e w1 ⟨v1, rfl, hv1, b1⟩
  obtain ⟨S1, rfl⟩ := hv1
  have bb1 := Lib.hid (bA1'.out.trans (b1.mono zA1))
  have z1 : W0.heap.size ≤ w1.heap.size := Nat.le_trans zA1 b1.size
  clear b1 cl1' bA1' zA1 bb0
  have bA2 := bb1.out.alloc z1 (.cells #[.string ⟨#[33]⟩, .string a] 9)
  have zA2 : W0.heap.size ≤ (w1.alloc (.cells #[.string ⟨#[33]⟩, .string a] 9)).heap.size := bA2.size
  have cl2 := hS.out _ _ [⟨#[33]⟩, a] bA2 zA2 (ops2 ⟨#[33]⟩ a w1)
  rw [show testO fU (List.map (fun s => s.data.toList) [⟨#[33]⟩, a]) = _ from lo2 (by simpa using ha.out)] at cl2
  have cl2' := Lib.hid cl2
  have bA2' := Lib.hid bA2
  clear cl2 bA2
  go_wp2_with fail
  refine cl2'.out.mono ?_
  rintro e w2 ⟨v2, rfl, hv2, b2⟩
  obtain ⟨S2, rfl⟩ := hv2
  have bb2 := Lib.hid (bA2'.out.trans (b2.mono zA2))
  have z2 : W0.heap.size ≤ w2.heap.size := Nat.le_trans zA2 b2.size
  clear b2 cl2' bA2' zA2 bb1
  have bA3 := bb2.out.alloc z2 (.cells #[.string ⟨#[40]⟩, .string a, .string ⟨#[41]⟩] 9)
  have zA3 : W0.heap.size ≤ (w2.alloc (.cells #[.string ⟨#[40]⟩, .string a, .string ⟨#[41]⟩] 9)).heap.size := bA3.size
  have cl3 := hS.out _ _ [⟨#[40]⟩, a, ⟨#[41]⟩] bA3 zA3 (ops3 ⟨#[40]⟩ a ⟨#[41]⟩ w2)
  rw [show testO fU (List.map (fun s => s.data.toList) [⟨#[40]⟩, a, ⟨#[41]⟩]) = _ from lo3 (by simpa using ha.out)] at cl3
  have cl3' := Lib.hid cl3
  have bA3' := Lib.hid bA3
  clear cl3 bA3
  go_wp2_with fail
  refine cl3'.out.mono ?_
  rintro e w3 ⟨v3, rfl, hv3, b3⟩
  obtain ⟨S3, rfl⟩ := hv3
  have bb3 := Lib.hid (bA3'.out.trans (b3.mono zA3))
  have z3 : W0.heap.size ≤ w3.heap.size := Nat.le_trans zA3 b3.size
  clear b3 cl3' bA3' zA3 bb2
  go_wp2_with fail
  refine (known_any a _).mono ?_
  rintro e wk1 ⟨rfl, rfl⟩
  rw [show (knownP a.data.toList || decide (1024 < a.size)) = true from hkn.out]
  go_wp2_with fail
  refine (awake18_any _).mono ?_
  rintro e wz ⟨rfl, bz⟩
  have bZ := Lib.hid (bF'.out.trans ((bb3.out.trans (bz.mono z3)).mono bF'.out.size))
  clear bz
  go_wp2_with fail
  rw [hP.out]
  exact ⟨rfl, bZ.out⟩
set_option maxHeartbeats 4000000 in
set_option maxRecDepth 100000 in
theorem not_op_l_t {N : Nat} {E : Nat → Addr} (a b : ByteArray) (w : World) (hE : Errs N E w) (hT : ErrT N w) (hM : MaxL N w) (hN : N ≤ w.heap.size) (ha0 : ¬ 1024 < a.size) (hk0 : knownP a.data.toList = true) (hb0 : 1024 < b.size) (h33 : (a.toList == [33]) = false) (h40 : (a.toList == [40]) = false) (hz : a.data.toList.isEmpty = true) :
    Calls Tryz.prog 4 #[.string a, .string b] w fun e w' => e = .returned (.bool true) ∧ Below w.heap.size w w' := by
  have hFl := Lib.hid (files_evs w hE hT hM hN)
  clear hE hT hM
  obtain ⟨Post, hPost⟩ : ∃ Post : Ending → World → Prop, Post = fun e w' => e = .returned (.bool true) ∧ Below w.heap.size w w' := ⟨_, rfl⟩
  rw [← hPost]
  have hP := Lib.hid hPost
  clear hPost
  have haI : ¬ (1024 : Int) < (a.size : Int) := by omega
  have hbI : (1024 : Int) < (b.size : Int) := by omega
  have ha := Lib.hid ha0
  have hkn := Lib.hid (show (knownP a.data.toList || decide (1024 < a.size)) = true by rw [hk0]; rfl)
  clear hk0
  have hzz := Lib.hid hz
  clear hz
  go_enter Tryz.func4, Tryz.ntmps4
  go_wp2_with fail
  refine hFl.out.mono ?_
  rintro e W0 ⟨t, m, rfl, hS0, bF⟩
  have hS := Lib.hid hS0
  have bF' := Lib.hid bF
  have bb0 := Lib.hid (Below.refl W0.heap.size W0)
  have z0 : W0.heap.size ≤ W0.heap.size := Nat.le_refl _
  clear hS0 bF hFl
  have bA1 := bb0.out.alloc z0 (.cells #[.string a] 9)
  have zA1 : W0.heap.size ≤ (W0.alloc (.cells #[.string a] 9)).heap.size := bA1.size
  have cl1 := hS.out _ _ [a] bA1 zA1 (ops1 a W0)
  rw [show testO fU (List.map (fun s => s.data.toList) [a]) = _ from ((sh1 (by simpa using Nat.not_lt.1 ha.out)).trans (congrArg (fun z => Out.val (!z)) hzz.out : _ = Out.val false))] at cl1
  have cl1' := Lib.hid cl1
  have bA1' := Lib.hid bA1
  clear cl1 bA1
  go_wp2_with fail
  refine cl1'.out.mono ?_
  rintro e w1 ⟨v1, rfl, hv1, b1⟩
  obtain rfl := hv1
  have bb1 := Lib.hid (bA1'.out.trans (b1.mono zA1))
  have z1 : W0.heap.size ≤ w1.heap.size := Nat.le_trans zA1 b1.size
  clear b1 cl1' bA1' zA1 bb0
  have bA2 := bb1.out.alloc z1 (.cells #[.string ⟨#[33]⟩, .string a] 9)
  have zA2 : W0.heap.size ≤ (w1.alloc (.cells #[.string ⟨#[33]⟩, .string a] 9)).heap.size := bA2.size
  have cl2 := hS.out _ _ [⟨#[33]⟩, a] bA2 zA2 (ops2 ⟨#[33]⟩ a w1)
  rw [show testO fU (List.map (fun s => s.data.toList) [⟨#[33]⟩, a]) = _ from ((sh2 (by simpa using Nat.not_lt.1 ha.out)).trans (congrArg (fun z => Out.val (!!z)) hzz.out : _ = Out.val true))] at cl2
  have cl2' := Lib.hid cl2
  have bA2' := Lib.hid bA2
  clear cl2 bA2
  go_wp2_with fail
  refine cl2'.out.mono ?_
  rintro e w2 ⟨v2, rfl, hv2, b2⟩
  obtain rfl := hv2
  have bb2 := Lib.hid (bA2'.out.trans (b2.mono zA2))
  have z2 : W0.heap.size ≤ w2.heap.size := Nat.le_trans zA2 b2.size
  clear b2 cl2' bA2' zA2 bb1
  have bA3 := bb2.out.alloc z2 (.cells #[.string ⟨#[40]⟩, .string a, .string ⟨#[41]⟩] 9)
  have zA3 : W0.heap.size ≤ (w2.alloc (.cells #[.string ⟨#[40]⟩, .string a, .string ⟨#[41]⟩] 9)).heap.size := bA3.size
  have cl3 := hS.out _ _ [⟨#[40]⟩, a, ⟨#[41]⟩] bA3 zA3 (ops3 ⟨#[40]⟩ a ⟨#[41]⟩ w2)
  have cl3' := Lib.hid cl3
  have bA3' := Lib.hid bA3
  clear cl3 bA3
  go_wp2_with fail
  refine cl3'.out.mono ?_
  rintro e w3 ⟨v3, rfl, hv3, b3⟩
  clear hv3
  have bb3 := Lib.hid (bA3'.out.trans (b3.mono zA3))
  have z3 : W0.heap.size ≤ w3.heap.size := Nat.le_trans zA3 b3.size
  clear b3 cl3' bA3' zA3 bb2
  go_wp2_with fail
  refine (known_any a _).mono ?_
  rintro e wk1 ⟨rfl, rfl⟩
  rw [show (knownP a.data.toList || decide (1024 < a.size)) = true from hkn.out]
  go_wp2_with fail
  refine (awake18_any _).mono ?_
  rintro e wz ⟨rfl, bz⟩
  have bZ := Lib.hid (bF'.out.trans ((bb3.out.trans (bz.mono z3)).mono bF'.out.size))
  clear bz
  go_wp2_with fail
  rw [hP.out]
  exact ⟨rfl, bZ.out⟩
set_option maxHeartbeats 4000000 in
set_option maxRecDepth 100000 in
theorem not_op_s_t {N : Nat} {E : Nat → Addr} (a b : ByteArray) (w : World) (hE : Errs N E w) (hT : ErrT N w) (hM : MaxL N w) (hN : N ≤ w.heap.size) (ha0 : ¬ 1024 < a.size) (hk0 : knownP a.data.toList = true) (hb0 : ¬ 1024 < b.size) (h33 : (a.toList == [33]) = false) (h40 : (a.toList == [40]) = false) (hz : a.data.toList.isEmpty = true) :
    Calls Tryz.prog 4 #[.string a, .string b] w fun e w' => e = .returned (.bool true) ∧ Below w.heap.size w w' := by
  have hFl := Lib.hid (files_evs w hE hT hM hN)
  clear hE hT hM
  obtain ⟨Post, hPost⟩ : ∃ Post : Ending → World → Prop, Post = fun e w' => e = .returned (.bool true) ∧ Below w.heap.size w w' := ⟨_, rfl⟩
  rw [← hPost]
  have hP := Lib.hid hPost
  clear hPost
  have haI : ¬ (1024 : Int) < (a.size : Int) := by omega
  have hbI : ¬ (1024 : Int) < (b.size : Int) := by omega
  have ha := Lib.hid ha0
  have hkn := Lib.hid (show (knownP a.data.toList || decide (1024 < a.size)) = true by rw [hk0]; rfl)
  clear hk0
  have hzz := Lib.hid hz
  clear hz
  go_enter Tryz.func4, Tryz.ntmps4
  go_wp2_with fail
  refine hFl.out.mono ?_
  rintro e W0 ⟨t, m, rfl, hS0, bF⟩
  have hS := Lib.hid hS0
  have bF' := Lib.hid bF
  have bb0 := Lib.hid (Below.refl W0.heap.size W0)
  have z0 : W0.heap.size ≤ W0.heap.size := Nat.le_refl _
  clear hS0 bF hFl
  have bA1 := bb0.out.alloc z0 (.cells #[.string a] 9)
  have zA1 : W0.heap.size ≤ (W0.alloc (.cells #[.string a] 9)).heap.size := bA1.size
  have cl1 := hS.out _ _ [a] bA1 zA1 (ops1 a W0)
  rw [show testO fU (List.map (fun s => s.data.toList) [a]) = _ from ((sh1 (by simpa using Nat.not_lt.1 ha.out)).trans (congrArg (fun z => Out.val (!z)) hzz.out : _ = Out.val false))] at cl1
  have cl1' := Lib.hid cl1
  have bA1' := Lib.hid bA1
  clear cl1 bA1
  go_wp2_with fail
  refine cl1'.out.mono ?_
  rintro e w1 ⟨v1, rfl, hv1, b1⟩
  obtain rfl := hv1
  have bb1 := Lib.hid (bA1'.out.trans (b1.mono zA1))
  have z1 : W0.heap.size ≤ w1.heap.size := Nat.le_trans zA1 b1.size
  clear b1 cl1' bA1' zA1 bb0
  have bA2 := bb1.out.alloc z1 (.cells #[.string ⟨#[33]⟩, .string a] 9)
  have zA2 : W0.heap.size ≤ (w1.alloc (.cells #[.string ⟨#[33]⟩, .string a] 9)).heap.size := bA2.size
  have cl2 := hS.out _ _ [⟨#[33]⟩, a] bA2 zA2 (ops2 ⟨#[33]⟩ a w1)
  rw [show testO fU (List.map (fun s => s.data.toList) [⟨#[33]⟩, a]) = _ from ((sh2 (by simpa using Nat.not_lt.1 ha.out)).trans (congrArg (fun z => Out.val (!!z)) hzz.out : _ = Out.val true))] at cl2
  have cl2' := Lib.hid cl2
  have bA2' := Lib.hid bA2
  clear cl2 bA2
  go_wp2_with fail
  refine cl2'.out.mono ?_
  rintro e w2 ⟨v2, rfl, hv2, b2⟩
  obtain rfl := hv2
  have bb2 := Lib.hid (bA2'.out.trans (b2.mono zA2))
  have z2 : W0.heap.size ≤ w2.heap.size := Nat.le_trans zA2 b2.size
  clear b2 cl2' bA2' zA2 bb1
  have bA3 := bb2.out.alloc z2 (.cells #[.string ⟨#[40]⟩, .string a, .string ⟨#[41]⟩] 9)
  have zA3 : W0.heap.size ≤ (w2.alloc (.cells #[.string ⟨#[40]⟩, .string a, .string ⟨#[41]⟩] 9)).heap.size := bA3.size
  have cl3 := hS.out _ _ [⟨#[40]⟩, a, ⟨#[41]⟩] bA3 zA3 (ops3 ⟨#[40]⟩ a ⟨#[41]⟩ w2)
  have cl3' := Lib.hid cl3
  have bA3' := Lib.hid bA3
  clear cl3 bA3
  go_wp2_with fail
  refine cl3'.out.mono ?_
  rintro e w3 ⟨v3, rfl, hv3, b3⟩
  clear hv3
  have bb3 := Lib.hid (bA3'.out.trans (b3.mono zA3))
  have z3 : W0.heap.size ≤ w3.heap.size := Nat.le_trans zA3 b3.size
  clear b3 cl3' bA3' zA3 bb2
  go_wp2_with fail
  refine (known_any a _).mono ?_
  rintro e wk1 ⟨rfl, rfl⟩
  rw [show (knownP a.data.toList || decide (1024 < a.size)) = true from hkn.out]
  have bA4 := bb3.out.alloc z3 (.cells #[.string a, .string b] 9)
  have zA4 : W0.heap.size ≤ (wk1.alloc (.cells #[.string a, .string b] 9)).heap.size := bA4.size
  have cl4 := hS.out _ _ [a, b] bA4 zA4 (ops2 a b wk1)
  have cl4' := Lib.hid cl4
  have bA4' := Lib.hid bA4
  clear cl4 bA4
  go_wp2_with fail
  refine cl4'.out.mono ?_
  rintro e w4 ⟨v4, rfl, hv4, b4⟩
  clear hv4
  have bb4 := Lib.hid (bA4'.out.trans (b4.mono zA4))
  have z4 : W0.heap.size ≤ w4.heap.size := Nat.le_trans zA4 b4.size
  clear b4 cl4' bA4' zA4 bb3
  have bA5 := bb4.out.alloc z4 (.cells #[.string ⟨#[33]⟩, .string a, .string b] 9)
  have zA5 : W0.heap.size ≤ (w4.alloc (.cells #[.string ⟨#[33]⟩, .string a, .string b] 9)).heap.size := bA5.size
  have cl5 := hS.out _ _ [⟨#[33]⟩, a, b] bA5 zA5 (ops3 ⟨#[33]⟩ a b w4)
  have cl5' := Lib.hid cl5
  have bA5' := Lib.hid bA5
  clear cl5 bA5
  go_wp2_with fail
  refine cl5'.out.mono ?_
  rintro e w5 ⟨v5, rfl, hv5, b5⟩
  clear hv5
  have bb5 := Lib.hid (bA5'.out.trans (b5.mono zA5))
  have z5 : W0.heap.size ≤ w5.heap.size := Nat.le_trans zA5 b5.size
  clear b5 cl5' bA5' zA5 bb4
  go_wp2_with fail
  refine (known_any a _).mono ?_
  rintro e wk2 ⟨rfl, rfl⟩
  rw [show (knownP a.data.toList || decide (1024 < a.size)) = true from hkn.out]
  go_wp2_with fail
  refine (awake18_any _).mono ?_
  rintro e wz ⟨rfl, bz⟩
  have bZ := Lib.hid (bF'.out.trans ((bb5.out.trans (bz.mono z5)).mono bF'.out.size))
  clear bz
  go_wp2_with fail
  rw [hP.out]
  exact ⟨rfl, bZ.out⟩
set_option maxHeartbeats 4000000 in
set_option maxRecDepth 100000 in
theorem not_33_t {N : Nat} {E : Nat → Addr} (a b : ByteArray) (w : World) (hE : Errs N E w) (hT : ErrT N w) (hM : MaxL N w) (hN : N ≤ w.heap.size) (ha0 : ¬ 1024 < a.size) (hk0 : knownP a.data.toList = false) (h33 : (a.toList == [33]) = true) (hz : a.data.toList.isEmpty = true) :
    Calls Tryz.prog 4 #[.string a, .string b] w fun e w' => e = .returned (.bool true) ∧ Below w.heap.size w w' := by
  have hFl := Lib.hid (files_evs w hE hT hM hN)
  clear hE hT hM
  obtain ⟨Post, hPost⟩ : ∃ Post : Ending → World → Prop, Post = fun e w' => e = .returned (.bool true) ∧ Below w.heap.size w w' := ⟨_, rfl⟩
  rw [← hPost]
  have hP := Lib.hid hPost
  clear hPost
  have haI : ¬ (1024 : Int) < (a.size : Int) := by omega
  have ha := Lib.hid ha0
  have hkp := Lib.hid hk0
  have hkn := Lib.hid (show (knownP a.data.toList || decide (1024 < a.size)) = false by rw [hk0, decide_eq_false (by omega)]; rfl)
  clear hk0
  have hzz := Lib.hid hz
  clear hz
  go_enter Tryz.func4, Tryz.ntmps4
  go_wp2_with fail
  refine hFl.out.mono ?_
  rintro e W0 ⟨t, m, rfl, hS0, bF⟩
  have hS := Lib.hid hS0
  have bF' := Lib.hid bF
  have bb0 := Lib.hid (Below.refl W0.heap.size W0)
  have z0 : W0.heap.size ≤ W0.heap.size := Nat.le_refl _
  clear hS0 bF hFl
  have bA1 := bb0.out.alloc z0 (.cells #[.string a] 9)
  have zA1 : W0.heap.size ≤ (W0.alloc (.cells #[.string a] 9)).heap.size := bA1.size
  have cl1 := hS.out _ _ [a] bA1 zA1 (ops1 a W0)
  rw [show testO fU (List.map (fun s => s.data.toList) [a]) = _ from ((sh1 (by simpa using Nat.not_lt.1 ha.out)).trans (congrArg (fun z => Out.val (!z)) hzz.out : _ = Out.val false))] at cl1
  have cl1' := Lib.hid cl1
  have bA1' := Lib.hid bA1
  clear cl1 bA1
  go_wp2_with fail
  refine cl1'.out.mono ?_
  rintro e w1 ⟨v1, rfl, hv1, b1⟩
  obtain rfl := hv1
  have bb1 := Lib.hid (bA1'.out.trans (b1.mono zA1))
  have z1 : W0.heap.size ≤ w1.heap.size := Nat.le_trans zA1 b1.size
  clear b1 cl1' bA1' zA1 bb0
  have bA2 := bb1.out.alloc z1 (.cells #[.string ⟨#[33]⟩, .string a] 9)
  have zA2 : W0.heap.size ≤ (w1.alloc (.cells #[.string ⟨#[33]⟩, .string a] 9)).heap.size := bA2.size
  have cl2 := hS.out _ _ [⟨#[33]⟩, a] bA2 zA2 (ops2 ⟨#[33]⟩ a w1)
  rw [show testO fU (List.map (fun s => s.data.toList) [⟨#[33]⟩, a]) = _ from ((sh2 (by simpa using Nat.not_lt.1 ha.out)).trans (congrArg (fun z => Out.val (!!z)) hzz.out : _ = Out.val true))] at cl2
  have cl2' := Lib.hid cl2
  have bA2' := Lib.hid bA2
  clear cl2 bA2
  go_wp2_with fail
  refine cl2'.out.mono ?_
  rintro e w2 ⟨v2, rfl, hv2, b2⟩
  obtain rfl := hv2
  have bb2 := Lib.hid (bA2'.out.trans (b2.mono zA2))
  have z2 : W0.heap.size ≤ w2.heap.size := Nat.le_trans zA2 b2.size
  clear b2 cl2' bA2' zA2 bb1
  have bA3 := bb2.out.alloc z2 (.cells #[.string ⟨#[40]⟩, .string a, .string ⟨#[41]⟩] 9)
  have zA3 : W0.heap.size ≤ (w2.alloc (.cells #[.string ⟨#[40]⟩, .string a, .string ⟨#[41]⟩] 9)).heap.size := bA3.size
  have cl3 := hS.out _ _ [⟨#[40]⟩, a, ⟨#[41]⟩] bA3 zA3 (ops3 ⟨#[40]⟩ a ⟨#[41]⟩ w2)
  rw [show testO fU (List.map (fun s => s.data.toList) [⟨#[40]⟩, a, ⟨#[41]⟩]) = _ from ((sh3 (by simpa using Nat.not_lt.1 ha.out) hkp.out).trans (congrArg (fun z => Out.val (!z)) hzz.out : _ = Out.val false))] at cl3
  have cl3' := Lib.hid cl3
  have bA3' := Lib.hid bA3
  clear cl3 bA3
  go_wp2_with fail
  refine cl3'.out.mono ?_
  rintro e w3 ⟨v3, rfl, hv3, b3⟩
  obtain rfl := hv3
  have bb3 := Lib.hid (bA3'.out.trans (b3.mono zA3))
  have z3 : W0.heap.size ≤ w3.heap.size := Nat.le_trans zA3 b3.size
  clear b3 cl3' bA3' zA3 bb2
  go_wp2_with fail
  refine (known_any a _).mono ?_
  rintro e wk1 ⟨rfl, rfl⟩
  rw [show (knownP a.data.toList || decide (1024 < a.size)) = false from hkn.out]
  go_wp2_with fail
  refine (awake18_any _).mono ?_
  rintro e wz ⟨rfl, bz⟩
  have bZ := Lib.hid (bF'.out.trans ((bb3.out.trans (bz.mono z3)).mono bF'.out.size))
  clear bz
  go_wp2_with fail
  rw [hP.out]
  exact ⟨rfl, bZ.out⟩
set_option maxHeartbeats 4000000 in
set_option maxRecDepth 100000 in
theorem not_40_t {N : Nat} {E : Nat → Addr} (a b : ByteArray) (w : World) (hE : Errs N E w) (hT : ErrT N w) (hM : MaxL N w) (hN : N ≤ w.heap.size) (ha0 : ¬ 1024 < a.size) (hk0 : knownP a.data.toList = false) (h33 : (a.toList == [33]) = false) (h40 : (a.toList == [40]) = true) (hz : a.data.toList.isEmpty = true) :
    Calls Tryz.prog 4 #[.string a, .string b] w fun e w' => e = .returned (.bool true) ∧ Below w.heap.size w w' := by
  have hFl := Lib.hid (files_evs w hE hT hM hN)
  clear hE hT hM
  obtain ⟨Post, hPost⟩ : ∃ Post : Ending → World → Prop, Post = fun e w' => e = .returned (.bool true) ∧ Below w.heap.size w w' := ⟨_, rfl⟩
  rw [← hPost]
  have hP := Lib.hid hPost
  clear hPost
  have haI : ¬ (1024 : Int) < (a.size : Int) := by omega
  have ha := Lib.hid ha0
  have hkp := Lib.hid hk0
  have hkn := Lib.hid (show (knownP a.data.toList || decide (1024 < a.size)) = false by rw [hk0, decide_eq_false (by omega)]; rfl)
  clear hk0
  have hzz := Lib.hid hz
  clear hz
  go_enter Tryz.func4, Tryz.ntmps4
  go_wp2_with fail
  refine hFl.out.mono ?_
  rintro e W0 ⟨t, m, rfl, hS0, bF⟩
  have hS := Lib.hid hS0
  have bF' := Lib.hid bF
  have bb0 := Lib.hid (Below.refl W0.heap.size W0)
  have z0 : W0.heap.size ≤ W0.heap.size := Nat.le_refl _
  clear hS0 bF hFl
  have bA1 := bb0.out.alloc z0 (.cells #[.string a] 9)
  have zA1 : W0.heap.size ≤ (W0.alloc (.cells #[.string a] 9)).heap.size := bA1.size
  have cl1 := hS.out _ _ [a] bA1 zA1 (ops1 a W0)
  rw [show testO fU (List.map (fun s => s.data.toList) [a]) = _ from ((sh1 (by simpa using Nat.not_lt.1 ha.out)).trans (congrArg (fun z => Out.val (!z)) hzz.out : _ = Out.val false))] at cl1
  have cl1' := Lib.hid cl1
  have bA1' := Lib.hid bA1
  clear cl1 bA1
  go_wp2_with fail
  refine cl1'.out.mono ?_
  rintro e w1 ⟨v1, rfl, hv1, b1⟩
  obtain rfl := hv1
  have bb1 := Lib.hid (bA1'.out.trans (b1.mono zA1))
  have z1 : W0.heap.size ≤ w1.heap.size := Nat.le_trans zA1 b1.size
  clear b1 cl1' bA1' zA1 bb0
  have bA2 := bb1.out.alloc z1 (.cells #[.string ⟨#[33]⟩, .string a] 9)
  have zA2 : W0.heap.size ≤ (w1.alloc (.cells #[.string ⟨#[33]⟩, .string a] 9)).heap.size := bA2.size
  have cl2 := hS.out _ _ [⟨#[33]⟩, a] bA2 zA2 (ops2 ⟨#[33]⟩ a w1)
  rw [show testO fU (List.map (fun s => s.data.toList) [⟨#[33]⟩, a]) = _ from ((sh2 (by simpa using Nat.not_lt.1 ha.out)).trans (congrArg (fun z => Out.val (!!z)) hzz.out : _ = Out.val true))] at cl2
  have cl2' := Lib.hid cl2
  have bA2' := Lib.hid bA2
  clear cl2 bA2
  go_wp2_with fail
  refine cl2'.out.mono ?_
  rintro e w2 ⟨v2, rfl, hv2, b2⟩
  obtain rfl := hv2
  have bb2 := Lib.hid (bA2'.out.trans (b2.mono zA2))
  have z2 : W0.heap.size ≤ w2.heap.size := Nat.le_trans zA2 b2.size
  clear b2 cl2' bA2' zA2 bb1
  have bA3 := bb2.out.alloc z2 (.cells #[.string ⟨#[40]⟩, .string a, .string ⟨#[41]⟩] 9)
  have zA3 : W0.heap.size ≤ (w2.alloc (.cells #[.string ⟨#[40]⟩, .string a, .string ⟨#[41]⟩] 9)).heap.size := bA3.size
  have cl3 := hS.out _ _ [⟨#[40]⟩, a, ⟨#[41]⟩] bA3 zA3 (ops3 ⟨#[40]⟩ a ⟨#[41]⟩ w2)
  rw [show testO fU (List.map (fun s => s.data.toList) [⟨#[40]⟩, a, ⟨#[41]⟩]) = _ from ((sh3 (by simpa using Nat.not_lt.1 ha.out) hkp.out).trans (congrArg (fun z => Out.val (!z)) hzz.out : _ = Out.val false))] at cl3
  have cl3' := Lib.hid cl3
  have bA3' := Lib.hid bA3
  clear cl3 bA3
  go_wp2_with fail
  refine cl3'.out.mono ?_
  rintro e w3 ⟨v3, rfl, hv3, b3⟩
  obtain rfl := hv3
  have bb3 := Lib.hid (bA3'.out.trans (b3.mono zA3))
  have z3 : W0.heap.size ≤ w3.heap.size := Nat.le_trans zA3 b3.size
  clear b3 cl3' bA3' zA3 bb2
  go_wp2_with fail
  refine (known_any a _).mono ?_
  rintro e wk1 ⟨rfl, rfl⟩
  rw [show (knownP a.data.toList || decide (1024 < a.size)) = false from hkn.out]
  go_wp2_with fail
  refine (awake18_any _).mono ?_
  rintro e wz ⟨rfl, bz⟩
  have bZ := Lib.hid (bF'.out.trans ((bb3.out.trans (bz.mono z3)).mono bF'.out.size))
  clear bz
  go_wp2_with fail
  rw [hP.out]
  exact ⟨rfl, bZ.out⟩
set_option maxHeartbeats 4000000 in
set_option maxRecDepth 100000 in
theorem not_pl_l_t {N : Nat} {E : Nat → Addr} (a b : ByteArray) (w : World) (hE : Errs N E w) (hT : ErrT N w) (hM : MaxL N w) (hN : N ≤ w.heap.size) (ha0 : ¬ 1024 < a.size) (hk0 : knownP a.data.toList = false) (hb0 : 1024 < b.size) (h33 : (a.toList == [33]) = false) (h40 : (a.toList == [40]) = false) (hz : a.data.toList.isEmpty = true) :
    Calls Tryz.prog 4 #[.string a, .string b] w fun e w' => e = .returned (.bool true) ∧ Below w.heap.size w w' := by
  have hFl := Lib.hid (files_evs w hE hT hM hN)
  clear hE hT hM
  obtain ⟨Post, hPost⟩ : ∃ Post : Ending → World → Prop, Post = fun e w' => e = .returned (.bool true) ∧ Below w.heap.size w w' := ⟨_, rfl⟩
  rw [← hPost]
  have hP := Lib.hid hPost
  clear hPost
  have haI : ¬ (1024 : Int) < (a.size : Int) := by omega
  have hbI : (1024 : Int) < (b.size : Int) := by omega
  have ha := Lib.hid ha0
  have hkp := Lib.hid hk0
  have hkn := Lib.hid (show (knownP a.data.toList || decide (1024 < a.size)) = false by rw [hk0, decide_eq_false (by omega)]; rfl)
  clear hk0
  have hzz := Lib.hid hz
  clear hz
  go_enter Tryz.func4, Tryz.ntmps4
  go_wp2_with fail
  refine hFl.out.mono ?_
  rintro e W0 ⟨t, m, rfl, hS0, bF⟩
  have hS := Lib.hid hS0
  have bF' := Lib.hid bF
  have bb0 := Lib.hid (Below.refl W0.heap.size W0)
  have z0 : W0.heap.size ≤ W0.heap.size := Nat.le_refl _
  clear hS0 bF hFl
  have bA1 := bb0.out.alloc z0 (.cells #[.string a] 9)
  have zA1 : W0.heap.size ≤ (W0.alloc (.cells #[.string a] 9)).heap.size := bA1.size
  have cl1 := hS.out _ _ [a] bA1 zA1 (ops1 a W0)
  rw [show testO fU (List.map (fun s => s.data.toList) [a]) = _ from ((sh1 (by simpa using Nat.not_lt.1 ha.out)).trans (congrArg (fun z => Out.val (!z)) hzz.out : _ = Out.val false))] at cl1
  have cl1' := Lib.hid cl1
  have bA1' := Lib.hid bA1
  clear cl1 bA1
  go_wp2_with fail
  refine cl1'.out.mono ?_
  rintro e w1 ⟨v1, rfl, hv1, b1⟩
  obtain rfl := hv1
  have bb1 := Lib.hid (bA1'.out.trans (b1.mono zA1))
  have z1 : W0.heap.size ≤ w1.heap.size := Nat.le_trans zA1 b1.size
  clear b1 cl1' bA1' zA1 bb0
  have bA2 := bb1.out.alloc z1 (.cells #[.string ⟨#[33]⟩, .string a] 9)
  have zA2 : W0.heap.size ≤ (w1.alloc (.cells #[.string ⟨#[33]⟩, .string a] 9)).heap.size := bA2.size
  have cl2 := hS.out _ _ [⟨#[33]⟩, a] bA2 zA2 (ops2 ⟨#[33]⟩ a w1)
  rw [show testO fU (List.map (fun s => s.data.toList) [⟨#[33]⟩, a]) = _ from ((sh2 (by simpa using Nat.not_lt.1 ha.out)).trans (congrArg (fun z => Out.val (!!z)) hzz.out : _ = Out.val true))] at cl2
  have cl2' := Lib.hid cl2
  have bA2' := Lib.hid bA2
  clear cl2 bA2
  go_wp2_with fail
  refine cl2'.out.mono ?_
  rintro e w2 ⟨v2, rfl, hv2, b2⟩
  obtain rfl := hv2
  have bb2 := Lib.hid (bA2'.out.trans (b2.mono zA2))
  have z2 : W0.heap.size ≤ w2.heap.size := Nat.le_trans zA2 b2.size
  clear b2 cl2' bA2' zA2 bb1
  have bA3 := bb2.out.alloc z2 (.cells #[.string ⟨#[40]⟩, .string a, .string ⟨#[41]⟩] 9)
  have zA3 : W0.heap.size ≤ (w2.alloc (.cells #[.string ⟨#[40]⟩, .string a, .string ⟨#[41]⟩] 9)).heap.size := bA3.size
  have cl3 := hS.out _ _ [⟨#[40]⟩, a, ⟨#[41]⟩] bA3 zA3 (ops3 ⟨#[40]⟩ a ⟨#[41]⟩ w2)
  rw [show testO fU (List.map (fun s => s.data.toList) [⟨#[40]⟩, a, ⟨#[41]⟩]) = _ from ((sh3 (by simpa using Nat.not_lt.1 ha.out) hkp.out).trans (congrArg (fun z => Out.val (!z)) hzz.out : _ = Out.val false))] at cl3
  have cl3' := Lib.hid cl3
  have bA3' := Lib.hid bA3
  clear cl3 bA3
  go_wp2_with fail
  refine cl3'.out.mono ?_
  rintro e w3 ⟨v3, rfl, hv3, b3⟩
  obtain rfl := hv3
  have bb3 := Lib.hid (bA3'.out.trans (b3.mono zA3))
  have z3 : W0.heap.size ≤ w3.heap.size := Nat.le_trans zA3 b3.size
  clear b3 cl3' bA3' zA3 bb2
  go_wp2_with fail
  refine (known_any a _).mono ?_
  rintro e wk1 ⟨rfl, rfl⟩
  rw [show (knownP a.data.toList || decide (1024 < a.size)) = false from hkn.out]
  go_wp2_with fail
  refine (awake18_any _).mono ?_
  rintro e wz ⟨rfl, bz⟩
  have bZ := Lib.hid (bF'.out.trans ((bb3.out.trans (bz.mono z3)).mono bF'.out.size))
  clear bz
  go_wp2_with fail
  rw [hP.out]
  exact ⟨rfl, bZ.out⟩
set_option maxHeartbeats 4000000 in
set_option maxRecDepth 100000 in
theorem not_v_t_t {N : Nat} {E : Nat → Addr} (a b : ByteArray) (w : World) (hE : Errs N E w) (hT : ErrT N w) (hM : MaxL N w) (hN : N ≤ w.heap.size) (ha0 : ¬ 1024 < a.size) (hk0 : knownP a.data.toList = false) (hb0 : ¬ 1024 < b.size) (h33 : (a.toList == [33]) = false) (h40 : (a.toList == [40]) = false) (hz : a.data.toList.isEmpty = true) (hx : eval2O fU a.data.toList b.data.toList = .val true) :
    Calls Tryz.prog 4 #[.string a, .string b] w fun e w' => e = .returned (.bool true) ∧ Below w.heap.size w w' := by
  have hFl := Lib.hid (files_evs w hE hT hM hN)
  clear hE hT hM
  obtain ⟨Post, hPost⟩ : ∃ Post : Ending → World → Prop, Post = fun e w' => e = .returned (.bool true) ∧ Below w.heap.size w w' := ⟨_, rfl⟩
  rw [← hPost]
  have hP := Lib.hid hPost
  clear hPost
  have haI : ¬ (1024 : Int) < (a.size : Int) := by omega
  have hbI : ¬ (1024 : Int) < (b.size : Int) := by omega
  have hb := Lib.hid hb0
  have ha := Lib.hid ha0
  have hkp := Lib.hid hk0
  have hkn := Lib.hid (show (knownP a.data.toList || decide (1024 < a.size)) = false by rw [hk0, decide_eq_false (by omega)]; rfl)
  clear hk0
  have hzz := Lib.hid hz
  clear hz
  have hxx := Lib.hid hx
  clear hx
  go_enter Tryz.func4, Tryz.ntmps4
  go_wp2_with fail
  refine hFl.out.mono ?_
  rintro e W0 ⟨t, m, rfl, hS0, bF⟩
  have hS := Lib.hid hS0
  have bF' := Lib.hid bF
  have bb0 := Lib.hid (Below.refl W0.heap.size W0)
  have z0 : W0.heap.size ≤ W0.heap.size := Nat.le_refl _
  clear hS0 bF hFl
  have bA1 := bb0.out.alloc z0 (.cells #[.string a] 9)
  have zA1 : W0.heap.size ≤ (W0.alloc (.cells #[.string a] 9)).heap.size := bA1.size
  have cl1 := hS.out _ _ [a] bA1 zA1 (ops1 a W0)
  rw [show testO fU (List.map (fun s => s.data.toList) [a]) = _ from ((sh1 (by simpa using Nat.not_lt.1 ha.out)).trans (congrArg (fun z => Out.val (!z)) hzz.out : _ = Out.val false))] at cl1
  have cl1' := Lib.hid cl1
  have bA1' := Lib.hid bA1
  clear cl1 bA1
  go_wp2_with fail
  refine cl1'.out.mono ?_
  rintro e w1 ⟨v1, rfl, hv1, b1⟩
  obtain rfl := hv1
  have bb1 := Lib.hid (bA1'.out.trans (b1.mono zA1))
  have z1 : W0.heap.size ≤ w1.heap.size := Nat.le_trans zA1 b1.size
  clear b1 cl1' bA1' zA1 bb0
  have bA2 := bb1.out.alloc z1 (.cells #[.string ⟨#[33]⟩, .string a] 9)
  have zA2 : W0.heap.size ≤ (w1.alloc (.cells #[.string ⟨#[33]⟩, .string a] 9)).heap.size := bA2.size
  have cl2 := hS.out _ _ [⟨#[33]⟩, a] bA2 zA2 (ops2 ⟨#[33]⟩ a w1)
  rw [show testO fU (List.map (fun s => s.data.toList) [⟨#[33]⟩, a]) = _ from ((sh2 (by simpa using Nat.not_lt.1 ha.out)).trans (congrArg (fun z => Out.val (!!z)) hzz.out : _ = Out.val true))] at cl2
  have cl2' := Lib.hid cl2
  have bA2' := Lib.hid bA2
  clear cl2 bA2
  go_wp2_with fail
  refine cl2'.out.mono ?_
  rintro e w2 ⟨v2, rfl, hv2, b2⟩
  obtain rfl := hv2
  have bb2 := Lib.hid (bA2'.out.trans (b2.mono zA2))
  have z2 : W0.heap.size ≤ w2.heap.size := Nat.le_trans zA2 b2.size
  clear b2 cl2' bA2' zA2 bb1
  have bA3 := bb2.out.alloc z2 (.cells #[.string ⟨#[40]⟩, .string a, .string ⟨#[41]⟩] 9)
  have zA3 : W0.heap.size ≤ (w2.alloc (.cells #[.string ⟨#[40]⟩, .string a, .string ⟨#[41]⟩] 9)).heap.size := bA3.size
  have cl3 := hS.out _ _ [⟨#[40]⟩, a, ⟨#[41]⟩] bA3 zA3 (ops3 ⟨#[40]⟩ a ⟨#[41]⟩ w2)
  rw [show testO fU (List.map (fun s => s.data.toList) [⟨#[40]⟩, a, ⟨#[41]⟩]) = _ from ((sh3 (by simpa using Nat.not_lt.1 ha.out) hkp.out).trans (congrArg (fun z => Out.val (!z)) hzz.out : _ = Out.val false))] at cl3
  have cl3' := Lib.hid cl3
  have bA3' := Lib.hid bA3
  clear cl3 bA3
  go_wp2_with fail
  refine cl3'.out.mono ?_
  rintro e w3 ⟨v3, rfl, hv3, b3⟩
  obtain rfl := hv3
  have bb3 := Lib.hid (bA3'.out.trans (b3.mono zA3))
  have z3 : W0.heap.size ≤ w3.heap.size := Nat.le_trans zA3 b3.size
  clear b3 cl3' bA3' zA3 bb2
  go_wp2_with fail
  refine (known_any a _).mono ?_
  rintro e wk1 ⟨rfl, rfl⟩
  rw [show (knownP a.data.toList || decide (1024 < a.size)) = false from hkn.out]
  have bA4 := bb3.out.alloc z3 (.cells #[.string a, .string b] 9)
  have zA4 : W0.heap.size ≤ (wk1.alloc (.cells #[.string a, .string b] 9)).heap.size := bA4.size
  have cl4 := hS.out _ _ [a, b] bA4 zA4 (ops2 a b wk1)
  rw [show testO fU (List.map (fun s => s.data.toList) [a, b]) = _ from ((two1 (by simpa using Nat.not_lt.1 ha.out) (by simpa using Nat.not_lt.1 hb.out)).trans hxx.out)] at cl4
  have cl4' := Lib.hid cl4
  have bA4' := Lib.hid bA4
  clear cl4 bA4
  go_wp2_with fail
  refine cl4'.out.mono ?_
  rintro e w4 ⟨v4, rfl, hv4, b4⟩
  obtain rfl := hv4
  have bb4 := Lib.hid (bA4'.out.trans (b4.mono zA4))
  have z4 : W0.heap.size ≤ w4.heap.size := Nat.le_trans zA4 b4.size
  clear b4 cl4' bA4' zA4 bb3
  have bA5 := bb4.out.alloc z4 (.cells #[.string ⟨#[33]⟩, .string a, .string b] 9)
  have zA5 : W0.heap.size ≤ (w4.alloc (.cells #[.string ⟨#[33]⟩, .string a, .string b] 9)).heap.size := bA5.size
  have cl5 := hS.out _ _ [⟨#[33]⟩, a, b] bA5 zA5 (ops3 ⟨#[33]⟩ a b w4)
  rw [show testO fU (List.map (fun s => s.data.toList) [⟨#[33]⟩, a, b]) = _ from ((two2 (by simpa using Nat.not_lt.1 ha.out) (by simpa using Nat.not_lt.1 hb.out) hkp.out).trans (congrArg Out.neg hxx.out : _ = Out.val false))] at cl5
  have cl5' := Lib.hid cl5
  have bA5' := Lib.hid bA5
  clear cl5 bA5
  go_wp2_with fail
  refine cl5'.out.mono ?_
  rintro e w5 ⟨v5, rfl, hv5, b5⟩
  obtain rfl := hv5
  have bb5 := Lib.hid (bA5'.out.trans (b5.mono zA5))
  have z5 : W0.heap.size ≤ w5.heap.size := Nat.le_trans zA5 b5.size
  clear b5 cl5' bA5' zA5 bb4
  go_wp2_with fail
  refine (known_any a _).mono ?_
  rintro e wk2 ⟨rfl, rfl⟩
  rw [show (knownP a.data.toList || decide (1024 < a.size)) = false from hkn.out]
  have bA6 := bb5.out.alloc z5 (.cells #[.string ⟨#[40]⟩, .string a, .string b, .string ⟨#[41]⟩] 9)
  have zA6 : W0.heap.size ≤ (wk2.alloc (.cells #[.string ⟨#[40]⟩, .string a, .string b, .string ⟨#[41]⟩] 9)).heap.size := bA6.size
  have cl6 := hS.out _ _ [⟨#[40]⟩, a, b, ⟨#[41]⟩] bA6 zA6 (ops4 ⟨#[40]⟩ a b ⟨#[41]⟩ wk2)
  rw [show testO fU (List.map (fun s => s.data.toList) [⟨#[40]⟩, a, b, ⟨#[41]⟩]) = _ from ((two3 (by simpa using Nat.not_lt.1 ha.out) (by simpa using Nat.not_lt.1 hb.out)).trans (congrArg Out.mov hxx.out : _ = Out.val true))] at cl6
  have cl6' := Lib.hid cl6
  have bA6' := Lib.hid bA6
  clear cl6 bA6
  go_wp2_with fail
  refine cl6'.out.mono ?_
  rintro e w6 ⟨v6, rfl, hv6, b6⟩
  obtain rfl := hv6
  have bb6 := Lib.hid (bA6'.out.trans (b6.mono zA6))
  have z6 : W0.heap.size ≤ w6.heap.size := Nat.le_trans zA6 b6.size
  clear b6 cl6' bA6' zA6 bb5
  go_wp2_with fail
  refine (awake18_any _).mono ?_
  rintro e wz ⟨rfl, bz⟩
  have bZ := Lib.hid (bF'.out.trans ((bb6.out.trans (bz.mono z6)).mono bF'.out.size))
  clear bz
  go_wp2_with fail
  rw [hP.out]
  exact ⟨rfl, bZ.out⟩
set_option maxHeartbeats 4000000 in
set_option maxRecDepth 100000 in
theorem not_v_t_f {N : Nat} {E : Nat → Addr} (a b : ByteArray) (w : World) (hE : Errs N E w) (hT : ErrT N w) (hM : MaxL N w) (hN : N ≤ w.heap.size) (ha0 : ¬ 1024 < a.size) (hk0 : knownP a.data.toList = false) (hb0 : ¬ 1024 < b.size) (h33 : (a.toList == [33]) = false) (h40 : (a.toList == [40]) = false) (hz : a.data.toList.isEmpty = true) (hx : eval2O fU a.data.toList b.data.toList = .val false) :
    Calls Tryz.prog 4 #[.string a, .string b] w fun e w' => e = .returned (.bool true) ∧ Below w.heap.size w w' := by
  have hFl := Lib.hid (files_evs w hE hT hM hN)
  clear hE hT hM
  obtain ⟨Post, hPost⟩ : ∃ Post : Ending → World → Prop, Post = fun e w' => e = .returned (.bool true) ∧ Below w.heap.size w w' := ⟨_, rfl⟩
  rw [← hPost]
  have hP := Lib.hid hPost
  clear hPost
  have haI : ¬ (1024 : Int) < (a.size : Int) := by omega
  have hbI : ¬ (1024 : Int) < (b.size : Int) := by omega
  have hb := Lib.hid hb0
  have ha := Lib.hid ha0
  have hkp := Lib.hid hk0
  have hkn := Lib.hid (show (knownP a.data.toList || decide (1024 < a.size)) = false by rw [hk0, decide_eq_false (by omega)]; rfl)
  clear hk0
  have hzz := Lib.hid hz
  clear hz
  have hxx := Lib.hid hx
  clear hx
  go_enter Tryz.func4, Tryz.ntmps4
  go_wp2_with fail
  refine hFl.out.mono ?_
  rintro e W0 ⟨t, m, rfl, hS0, bF⟩
  have hS := Lib.hid hS0
  have bF' := Lib.hid bF
  have bb0 := Lib.hid (Below.refl W0.heap.size W0)
  have z0 : W0.heap.size ≤ W0.heap.size := Nat.le_refl _
  clear hS0 bF hFl
  have bA1 := bb0.out.alloc z0 (.cells #[.string a] 9)
  have zA1 : W0.heap.size ≤ (W0.alloc (.cells #[.string a] 9)).heap.size := bA1.size
  have cl1 := hS.out _ _ [a] bA1 zA1 (ops1 a W0)
  rw [show testO fU (List.map (fun s => s.data.toList) [a]) = _ from ((sh1 (by simpa using Nat.not_lt.1 ha.out)).trans (congrArg (fun z => Out.val (!z)) hzz.out : _ = Out.val false))] at cl1
  have cl1' := Lib.hid cl1
  have bA1' := Lib.hid bA1
  clear cl1 bA1
  go_wp2_with fail
  refine cl1'.out.mono ?_
  rintro e w1 ⟨v1, rfl, hv1, b1⟩
  obtain rfl := hv1
  have bb1 := Lib.hid (bA1'.out.trans (b1.mono zA1))
  have z1 : W0.heap.size ≤ w1.heap.size := Nat.le_trans zA1 b1.size
  clear b1 cl1' bA1' zA1 bb0
  have bA2 := bb1.out.alloc z1 (.cells #[.string ⟨#[33]⟩, .string a] 9)
  have zA2 : W0.heap.size ≤ (w1.alloc (.cells #[.string ⟨#[33]⟩, .string a] 9)).heap.size := bA2.size
  have cl2 := hS.out _ _ [⟨#[33]⟩, a] bA2 zA2 (ops2 ⟨#[33]⟩ a w1)
  rw [show testO fU (List.map (fun s => s.data.toList) [⟨#[33]⟩, a]) = _ from ((sh2 (by simpa using Nat.not_lt.1 ha.out)).trans (congrArg (fun z => Out.val (!!z)) hzz.out : _ = Out.val true))] at cl2
  have cl2' := Lib.hid cl2
  have bA2' := Lib.hid bA2
  clear cl2 bA2
  go_wp2_with fail
  refine cl2'.out.mono ?_
  rintro e w2 ⟨v2, rfl, hv2, b2⟩
  obtain rfl := hv2
  have bb2 := Lib.hid (bA2'.out.trans (b2.mono zA2))
  have z2 : W0.heap.size ≤ w2.heap.size := Nat.le_trans zA2 b2.size
  clear b2 cl2' bA2' zA2 bb1
  have bA3 := bb2.out.alloc z2 (.cells #[.string ⟨#[40]⟩, .string a, .string ⟨#[41]⟩] 9)
  have zA3 : W0.heap.size ≤ (w2.alloc (.cells #[.string ⟨#[40]⟩, .string a, .string ⟨#[41]⟩] 9)).heap.size := bA3.size
  have cl3 := hS.out _ _ [⟨#[40]⟩, a, ⟨#[41]⟩] bA3 zA3 (ops3 ⟨#[40]⟩ a ⟨#[41]⟩ w2)
  rw [show testO fU (List.map (fun s => s.data.toList) [⟨#[40]⟩, a, ⟨#[41]⟩]) = _ from ((sh3 (by simpa using Nat.not_lt.1 ha.out) hkp.out).trans (congrArg (fun z => Out.val (!z)) hzz.out : _ = Out.val false))] at cl3
  have cl3' := Lib.hid cl3
  have bA3' := Lib.hid bA3
  clear cl3 bA3
  go_wp2_with fail
  refine cl3'.out.mono ?_
  rintro e w3 ⟨v3, rfl, hv3, b3⟩
  obtain rfl := hv3
  have bb3 := Lib.hid (bA3'.out.trans (b3.mono zA3))
  have z3 : W0.heap.size ≤ w3.heap.size := Nat.le_trans zA3 b3.size
  clear b3 cl3' bA3' zA3 bb2
  go_wp2_with fail
  refine (known_any a _).mono ?_
  rintro e wk1 ⟨rfl, rfl⟩
  rw [show (knownP a.data.toList || decide (1024 < a.size)) = false from hkn.out]
  have bA4 := bb3.out.alloc z3 (.cells #[.string a, .string b] 9)
  have zA4 : W0.heap.size ≤ (wk1.alloc (.cells #[.string a, .string b] 9)).heap.size := bA4.size
  have cl4 := hS.out _ _ [a, b] bA4 zA4 (ops2 a b wk1)
  rw [show testO fU (List.map (fun s => s.data.toList) [a, b]) = _ from ((two1 (by simpa using Nat.not_lt.1 ha.out) (by simpa using Nat.not_lt.1 hb.out)).trans hxx.out)] at cl4
  have cl4' := Lib.hid cl4
  have bA4' := Lib.hid bA4
  clear cl4 bA4
  go_wp2_with fail
  refine cl4'.out.mono ?_
  rintro e w4 ⟨v4, rfl, hv4, b4⟩
  obtain rfl := hv4
  have bb4 := Lib.hid (bA4'.out.trans (b4.mono zA4))
  have z4 : W0.heap.size ≤ w4.heap.size := Nat.le_trans zA4 b4.size
  clear b4 cl4' bA4' zA4 bb3
  have bA5 := bb4.out.alloc z4 (.cells #[.string ⟨#[33]⟩, .string a, .string b] 9)
  have zA5 : W0.heap.size ≤ (w4.alloc (.cells #[.string ⟨#[33]⟩, .string a, .string b] 9)).heap.size := bA5.size
  have cl5 := hS.out _ _ [⟨#[33]⟩, a, b] bA5 zA5 (ops3 ⟨#[33]⟩ a b w4)
  rw [show testO fU (List.map (fun s => s.data.toList) [⟨#[33]⟩, a, b]) = _ from ((two2 (by simpa using Nat.not_lt.1 ha.out) (by simpa using Nat.not_lt.1 hb.out) hkp.out).trans (congrArg Out.neg hxx.out : _ = Out.val true))] at cl5
  have cl5' := Lib.hid cl5
  have bA5' := Lib.hid bA5
  clear cl5 bA5
  go_wp2_with fail
  refine cl5'.out.mono ?_
  rintro e w5 ⟨v5, rfl, hv5, b5⟩
  obtain rfl := hv5
  have bb5 := Lib.hid (bA5'.out.trans (b5.mono zA5))
  have z5 : W0.heap.size ≤ w5.heap.size := Nat.le_trans zA5 b5.size
  clear b5 cl5' bA5' zA5 bb4
  go_wp2_with fail
  refine (known_any a _).mono ?_
  rintro e wk2 ⟨rfl, rfl⟩
  rw [show (knownP a.data.toList || decide (1024 < a.size)) = false from hkn.out]
  have bA6 := bb5.out.alloc z5 (.cells #[.string ⟨#[40]⟩, .string a, .string b, .string ⟨#[41]⟩] 9)
  have zA6 : W0.heap.size ≤ (wk2.alloc (.cells #[.string ⟨#[40]⟩, .string a, .string b, .string ⟨#[41]⟩] 9)).heap.size := bA6.size
  have cl6 := hS.out _ _ [⟨#[40]⟩, a, b, ⟨#[41]⟩] bA6 zA6 (ops4 ⟨#[40]⟩ a b ⟨#[41]⟩ wk2)
  rw [show testO fU (List.map (fun s => s.data.toList) [⟨#[40]⟩, a, b, ⟨#[41]⟩]) = _ from ((two3 (by simpa using Nat.not_lt.1 ha.out) (by simpa using Nat.not_lt.1 hb.out)).trans (congrArg Out.mov hxx.out : _ = Out.val false))] at cl6
  have cl6' := Lib.hid cl6
  have bA6' := Lib.hid bA6
  clear cl6 bA6
  go_wp2_with fail
  refine cl6'.out.mono ?_
  rintro e w6 ⟨v6, rfl, hv6, b6⟩
  obtain rfl := hv6
  have bb6 := Lib.hid (bA6'.out.trans (b6.mono zA6))
  have z6 : W0.heap.size ≤ w6.heap.size := Nat.le_trans zA6 b6.size
  clear b6 cl6' bA6' zA6 bb5
  go_wp2_with fail
  refine (awake18_any _).mono ?_
  rintro e wz ⟨rfl, bz⟩
  have bZ := Lib.hid (bF'.out.trans ((bb6.out.trans (bz.mono z6)).mono bF'.out.size))
  clear bz
  go_wp2_with fail
  rw [hP.out]
  exact ⟨rfl, bZ.out⟩
set_option maxHeartbeats 4000000 in
set_option maxRecDepth 100000 in
theorem not_e_t {N : Nat} {E : Nat → Addr} (a b : ByteArray) (w : World) (hE : Errs N E w) (hT : ErrT N w) (hM : MaxL N w) (hN : N ≤ w.heap.size) (ha0 : ¬ 1024 < a.size) (hk0 : knownP a.data.toList = false) (hb0 : ¬ 1024 < b.size) (h33 : (a.toList == [33]) = false) (h40 : (a.toList == [40]) = false) (hz : a.data.toList.isEmpty = true) (p : Nat) (hx : eval2O fU a.data.toList b.data.toList = .err 14 p) :
    Calls Tryz.prog 4 #[.string a, .string b] w fun e w' => e = .returned (.bool true) ∧ Below w.heap.size w w' := by
  have hFl := Lib.hid (files_evs w hE hT hM hN)
  clear hE hT hM
  obtain ⟨Post, hPost⟩ : ∃ Post : Ending → World → Prop, Post = fun e w' => e = .returned (.bool true) ∧ Below w.heap.size w w' := ⟨_, rfl⟩
  rw [← hPost]
  have hP := Lib.hid hPost
  clear hPost
  have haI : ¬ (1024 : Int) < (a.size : Int) := by omega
  have hbI : ¬ (1024 : Int) < (b.size : Int) := by omega
  have hb := Lib.hid hb0
  have ha := Lib.hid ha0
  have hkp := Lib.hid hk0
  have hkn := Lib.hid (show (knownP a.data.toList || decide (1024 < a.size)) = false by rw [hk0, decide_eq_false (by omega)]; rfl)
  clear hk0
  have hzz := Lib.hid hz
  clear hz
  have hxx := Lib.hid hx
  clear hx
  go_enter Tryz.func4, Tryz.ntmps4
  go_wp2_with fail
  refine hFl.out.mono ?_
  rintro e W0 ⟨t, m, rfl, hS0, bF⟩
  have hS := Lib.hid hS0
  have bF' := Lib.hid bF
  have bb0 := Lib.hid (Below.refl W0.heap.size W0)
  have z0 : W0.heap.size ≤ W0.heap.size := Nat.le_refl _
  clear hS0 bF hFl
  have bA1 := bb0.out.alloc z0 (.cells #[.string a] 9)
  have zA1 : W0.heap.size ≤ (W0.alloc (.cells #[.string a] 9)).heap.size := bA1.size
  have cl1 := hS.out _ _ [a] bA1 zA1 (ops1 a W0)
  rw [show testO fU (List.map (fun s => s.data.toList) [a]) = _ from ((sh1 (by simpa using Nat.not_lt.1 ha.out)).trans (congrArg (fun z => Out.val (!z)) hzz.out : _ = Out.val false))] at cl1
  have cl1' := Lib.hid cl1
  have bA1' := Lib.hid bA1
  clear cl1 bA1
  go_wp2_with fail
  refine cl1'.out.mono ?_
  rintro e w1 ⟨v1, rfl, hv1, b1⟩
  obtain rfl := hv1
  have bb1 := Lib.hid (bA1'.out.trans (b1.mono zA1))
  have z1 : W0.heap.size ≤ w1.heap.size := Nat.le_trans zA1 b1.size
  clear b1 cl1' bA1' zA1 bb0
  have bA2 := bb1.out.alloc z1 (.cells #[.string ⟨#[33]⟩, .string a] 9)
  have zA2 : W0.heap.size ≤ (w1.alloc (.cells #[.string ⟨#[33]⟩, .string a] 9)).heap.size := bA2.size
  have cl2 := hS.out _ _ [⟨#[33]⟩, a] bA2 zA2 (ops2 ⟨#[33]⟩ a w1)
  rw [show testO fU (List.map (fun s => s.data.toList) [⟨#[33]⟩, a]) = _ from ((sh2 (by simpa using Nat.not_lt.1 ha.out)).trans (congrArg (fun z => Out.val (!!z)) hzz.out : _ = Out.val true))] at cl2
  have cl2' := Lib.hid cl2
  have bA2' := Lib.hid bA2
  clear cl2 bA2
  go_wp2_with fail
  refine cl2'.out.mono ?_
  rintro e w2 ⟨v2, rfl, hv2, b2⟩
  obtain rfl := hv2
  have bb2 := Lib.hid (bA2'.out.trans (b2.mono zA2))
  have z2 : W0.heap.size ≤ w2.heap.size := Nat.le_trans zA2 b2.size
  clear b2 cl2' bA2' zA2 bb1
  have bA3 := bb2.out.alloc z2 (.cells #[.string ⟨#[40]⟩, .string a, .string ⟨#[41]⟩] 9)
  have zA3 : W0.heap.size ≤ (w2.alloc (.cells #[.string ⟨#[40]⟩, .string a, .string ⟨#[41]⟩] 9)).heap.size := bA3.size
  have cl3 := hS.out _ _ [⟨#[40]⟩, a, ⟨#[41]⟩] bA3 zA3 (ops3 ⟨#[40]⟩ a ⟨#[41]⟩ w2)
  rw [show testO fU (List.map (fun s => s.data.toList) [⟨#[40]⟩, a, ⟨#[41]⟩]) = _ from ((sh3 (by simpa using Nat.not_lt.1 ha.out) hkp.out).trans (congrArg (fun z => Out.val (!z)) hzz.out : _ = Out.val false))] at cl3
  have cl3' := Lib.hid cl3
  have bA3' := Lib.hid bA3
  clear cl3 bA3
  go_wp2_with fail
  refine cl3'.out.mono ?_
  rintro e w3 ⟨v3, rfl, hv3, b3⟩
  obtain rfl := hv3
  have bb3 := Lib.hid (bA3'.out.trans (b3.mono zA3))
  have z3 : W0.heap.size ≤ w3.heap.size := Nat.le_trans zA3 b3.size
  clear b3 cl3' bA3' zA3 bb2
  go_wp2_with fail
  refine (known_any a _).mono ?_
  rintro e wk1 ⟨rfl, rfl⟩
  rw [show (knownP a.data.toList || decide (1024 < a.size)) = false from hkn.out]
  have bA4 := bb3.out.alloc z3 (.cells #[.string a, .string b] 9)
  have zA4 : W0.heap.size ≤ (wk1.alloc (.cells #[.string a, .string b] 9)).heap.size := bA4.size
  have cl4 := hS.out _ _ [a, b] bA4 zA4 (ops2 a b wk1)
  rw [show testO fU (List.map (fun s => s.data.toList) [a, b]) = _ from ((two1 (by simpa using Nat.not_lt.1 ha.out) (by simpa using Nat.not_lt.1 hb.out)).trans hxx.out)] at cl4
  have cl4' := Lib.hid cl4
  have bA4' := Lib.hid bA4
  clear cl4 bA4
  go_wp2_with fail
  refine cl4'.out.mono ?_
  rintro e w4 ⟨v4, rfl, hv4, b4⟩
  obtain ⟨S4, rfl⟩ := hv4
  have bb4 := Lib.hid (bA4'.out.trans (b4.mono zA4))
  have z4 : W0.heap.size ≤ w4.heap.size := Nat.le_trans zA4 b4.size
  clear b4 cl4' bA4' zA4 bb3
  have bA5 := bb4.out.alloc z4 (.cells #[.string ⟨#[33]⟩, .string a, .string b] 9)
  have zA5 : W0.heap.size ≤ (w4.alloc (.cells #[.string ⟨#[33]⟩, .string a, .string b] 9)).heap.size := bA5.size
  have cl5 := hS.out _ _ [⟨#[33]⟩, a, b] bA5 zA5 (ops3 ⟨#[33]⟩ a b w4)
  rw [show testO fU (List.map (fun s => s.data.toList) [⟨#[33]⟩, a, b]) = _ from ((two2 (by simpa using Nat.not_lt.1 ha.out) (by simpa using Nat.not_lt.1 hb.out) hkp.out).trans (congrArg Out.neg hxx.out : _ = Out.err 14 (p + 1)))] at cl5
  have cl5' := Lib.hid cl5
  have bA5' := Lib.hid bA5
  clear cl5 bA5
  go_wp2_with fail
  refine cl5'.out.mono ?_
  rintro e w5 ⟨v5, rfl, hv5, b5⟩
  obtain ⟨S5, rfl⟩ := hv5
  have bb5 := Lib.hid (bA5'.out.trans (b5.mono zA5))
  have z5 : W0.heap.size ≤ w5.heap.size := Nat.le_trans zA5 b5.size
  clear b5 cl5' bA5' zA5 bb4
  go_wp2_with fail
  refine (known_any a _).mono ?_
  rintro e wk2 ⟨rfl, rfl⟩
  rw [show (knownP a.data.toList || decide (1024 < a.size)) = false from hkn.out]
  have bA6 := bb5.out.alloc z5 (.cells #[.string ⟨#[40]⟩, .string a, .string b, .string ⟨#[41]⟩] 9)
  have zA6 : W0.heap.size ≤ (wk2.alloc (.cells #[.string ⟨#[40]⟩, .string a, .string b, .string ⟨#[41]⟩] 9)).heap.size := bA6.size
  have cl6 := hS.out _ _ [⟨#[40]⟩, a, b, ⟨#[41]⟩] bA6 zA6 (ops4 ⟨#[40]⟩ a b ⟨#[41]⟩ wk2)
  rw [show testO fU (List.map (fun s => s.data.toList) [⟨#[40]⟩, a, b, ⟨#[41]⟩]) = _ from ((two3 (by simpa using Nat.not_lt.1 ha.out) (by simpa using Nat.not_lt.1 hb.out)).trans (congrArg Out.mov hxx.out : _ = Out.err 14 (p + 1)))] at cl6
  have cl6' := Lib.hid cl6
  have bA6' := Lib.hid bA6
  clear cl6 bA6
  go_wp2_with fail
  refine cl6'.out.mono ?_
  rintro e w6 ⟨v6, rfl, hv6, b6⟩
  obtain ⟨S6, rfl⟩ := hv6
  have bb6 := Lib.hid (bA6'.out.trans (b6.mono zA6))
  have z6 : W0.heap.size ≤ w6.heap.size := Nat.le_trans zA6 b6.size
  clear b6 cl6' bA6' zA6 bb5
  go_wp2_with fail
  refine (awake18_any _).mono ?_
  rintro e wz ⟨rfl, bz⟩
  have bZ := Lib.hid (bF'.out.trans ((bb6.out.trans (bz.mono z6)).mono bF'.out.size))
  clear bz
  go_wp2_with fail
  rw [hP.out]
  exact ⟨rfl, bZ.out⟩
set_option maxHeartbeats 4000000 in
set_option maxRecDepth 100000 in
theorem not_op_l_f {N : Nat} {E : Nat → Addr} (a b : ByteArray) (w : World) (hE : Errs N E w) (hT : ErrT N w) (hM : MaxL N w) (hN : N ≤ w.heap.size) (ha0 : ¬ 1024 < a.size) (hk0 : knownP a.data.toList = true) (hb0 : 1024 < b.size) (h33 : (a.toList == [33]) = false) (h40 : (a.toList == [40]) = false) (hz : a.data.toList.isEmpty = false) :
    Calls Tryz.prog 4 #[.string a, .string b] w fun e w' => e = .returned (.bool true) ∧ Below w.heap.size w w' := by
  have hFl := Lib.hid (files_evs w hE hT hM hN)
  clear hE hT hM
  obtain ⟨Post, hPost⟩ : ∃ Post : Ending → World → Prop, Post = fun e w' => e = .returned (.bool true) ∧ Below w.heap.size w w' := ⟨_, rfl⟩
  rw [← hPost]
  have hP := Lib.hid hPost
  clear hPost
  have haI : ¬ (1024 : Int) < (a.size : Int) := by omega
  have hbI : (1024 : Int) < (b.size : Int) := by omega
  have ha := Lib.hid ha0
  have hkn := Lib.hid (show (knownP a.data.toList || decide (1024 < a.size)) = true by rw [hk0]; rfl)
  clear hk0
  have hzz := Lib.hid hz
  clear hz
  go_enter Tryz.func4, Tryz.ntmps4
  go_wp2_with fail
  refine hFl.out.mono ?_
  rintro e W0 ⟨t, m, rfl, hS0, bF⟩
  have hS := Lib.hid hS0
  have bF' := Lib.hid bF
  have bb0 := Lib.hid (Below.refl W0.heap.size W0)
  have z0 : W0.heap.size ≤ W0.heap.size := Nat.le_refl _
  clear hS0 bF hFl
  have bA1 := bb0.out.alloc z0 (.cells #[.string a] 9)
  have zA1 : W0.heap.size ≤ (W0.alloc (.cells #[.string a] 9)).heap.size := bA1.size
  have cl1 := hS.out _ _ [a] bA1 zA1 (ops1 a W0)
  rw [show testO fU (List.map (fun s => s.data.toList) [a]) = _ from ((sh1 (by simpa using Nat.not_lt.1 ha.out)).trans (congrArg (fun z => Out.val (!z)) hzz.out : _ = Out.val true))] at cl1
  have cl1' := Lib.hid cl1
  have bA1' := Lib.hid bA1
  clear cl1 bA1
  go_wp2_with fail
  refine cl1'.out.mono ?_
  rintro e w1 ⟨v1, rfl, hv1, b1⟩
  obtain rfl := hv1
  have bb1 := Lib.hid (bA1'.out.trans (b1.mono zA1))
  have z1 : W0.heap.size ≤ w1.heap.size := Nat.le_trans zA1 b1.size
  clear b1 cl1' bA1' zA1 bb0
  have bA2 := bb1.out.alloc z1 (.cells #[.string ⟨#[33]⟩, .string a] 9)
  have zA2 : W0.heap.size ≤ (w1.alloc (.cells #[.string ⟨#[33]⟩, .string a] 9)).heap.size := bA2.size
  have cl2 := hS.out _ _ [⟨#[33]⟩, a] bA2 zA2 (ops2 ⟨#[33]⟩ a w1)
  rw [show testO fU (List.map (fun s => s.data.toList) [⟨#[33]⟩, a]) = _ from ((sh2 (by simpa using Nat.not_lt.1 ha.out)).trans (congrArg (fun z => Out.val (!!z)) hzz.out : _ = Out.val false))] at cl2
  have cl2' := Lib.hid cl2
  have bA2' := Lib.hid bA2
  clear cl2 bA2
  go_wp2_with fail
  refine cl2'.out.mono ?_
  rintro e w2 ⟨v2, rfl, hv2, b2⟩
  obtain rfl := hv2
  have bb2 := Lib.hid (bA2'.out.trans (b2.mono zA2))
  have z2 : W0.heap.size ≤ w2.heap.size := Nat.le_trans zA2 b2.size
  clear b2 cl2' bA2' zA2 bb1
  have bA3 := bb2.out.alloc z2 (.cells #[.string ⟨#[40]⟩, .string a, .string ⟨#[41]⟩] 9)
  have zA3 : W0.heap.size ≤ (w2.alloc (.cells #[.string ⟨#[40]⟩, .string a, .string ⟨#[41]⟩] 9)).heap.size := bA3.size
  have cl3 := hS.out _ _ [⟨#[40]⟩, a, ⟨#[41]⟩] bA3 zA3 (ops3 ⟨#[40]⟩ a ⟨#[41]⟩ w2)
  have cl3' := Lib.hid cl3
  have bA3' := Lib.hid bA3
  clear cl3 bA3
  go_wp2_with fail
  refine cl3'.out.mono ?_
  rintro e w3 ⟨v3, rfl, hv3, b3⟩
  clear hv3
  have bb3 := Lib.hid (bA3'.out.trans (b3.mono zA3))
  have z3 : W0.heap.size ≤ w3.heap.size := Nat.le_trans zA3 b3.size
  clear b3 cl3' bA3' zA3 bb2
  go_wp2_with fail
  refine (known_any a _).mono ?_
  rintro e wk1 ⟨rfl, rfl⟩
  rw [show (knownP a.data.toList || decide (1024 < a.size)) = true from hkn.out]
  go_wp2_with fail
  refine (awake18_any _).mono ?_
  rintro e wz ⟨rfl, bz⟩
  have bZ := Lib.hid (bF'.out.trans ((bb3.out.trans (bz.mono z3)).mono bF'.out.size))
  clear bz
  go_wp2_with fail
  rw [hP.out]
  exact ⟨rfl, bZ.out⟩
set_option maxHeartbeats 4000000 in
set_option maxRecDepth 100000 in
theorem not_op_s_f {N : Nat} {E : Nat → Addr} (a b : ByteArray) (w : World) (hE : Errs N E w) (hT : ErrT N w) (hM : MaxL N w) (hN : N ≤ w.heap.size) (ha0 : ¬ 1024 < a.size) (hk0 : knownP a.data.toList = true) (hb0 : ¬ 1024 < b.size) (h33 : (a.toList == [33]) = false) (h40 : (a.toList == [40]) = false) (hz : a.data.toList.isEmpty = false) :
    Calls Tryz.prog 4 #[.string a, .string b] w fun e w' => e = .returned (.bool true) ∧ Below w.heap.size w w' := by
  have hFl := Lib.hid (files_evs w hE hT hM hN)
  clear hE hT hM
  obtain ⟨Post, hPost⟩ : ∃ Post : Ending → World → Prop, Post = fun e w' => e = .returned (.bool true) ∧ Below w.heap.size w w' := ⟨_, rfl⟩
  rw [← hPost]
  have hP := Lib.hid hPost
  clear hPost
  have haI : ¬ (1024 : Int) < (a.size : Int) := by omega
  have hbI : ¬ (1024 : Int) < (b.size : Int) := by omega
  have ha := Lib.hid ha0
  have hkn := Lib.hid (show (knownP a.data.toList || decide (1024 < a.size)) = true by rw [hk0]; rfl)
  clear hk0
  have hzz := Lib.hid hz
  clear hz
  go_enter Tryz.func4, Tryz.ntmps4
  go_wp2_with fail
  refine hFl.out.mono ?_
  rintro e W0 ⟨t, m, rfl, hS0, bF⟩
  have hS := Lib.hid hS0
  have bF' := Lib.hid bF
  have bb0 := Lib.hid (Below.refl W0.heap.size W0)
  have z0 : W0.heap.size ≤ W0.heap.size := Nat.le_refl _
  clear hS0 bF hFl
  have bA1 := bb0.out.alloc z0 (.cells #[.string a] 9)
  have zA1 : W0.heap.size ≤ (W0.alloc (.cells #[.string a] 9)).heap.size := bA1.size
  have cl1 := hS.out _ _ [a] bA1 zA1 (ops1 a W0)
  rw [show testO fU (List.map (fun s => s.data.toList) [a]) = _ from ((sh1 (by simpa using Nat.not_lt.1 ha.out)).trans (congrArg (fun z => Out.val (!z)) hzz.out : _ = Out.val true))] at cl1
  have cl1' := Lib.hid cl1
  have bA1' := Lib.hid bA1
  clear cl1 bA1
  go_wp2_with fail
  refine cl1'.out.mono ?_
  rintro e w1 ⟨v1, rfl, hv1, b1⟩
  obtain rfl := hv1
  have bb1 := Lib.hid (bA1'.out.trans (b1.mono zA1))
  have z1 : W0.heap.size ≤ w1.heap.size := Nat.le_trans zA1 b1.size
  clear b1 cl1' bA1' zA1 bb0
  have bA2 := bb1.out.alloc z1 (.cells #[.string ⟨#[33]⟩, .string a] 9)
  have zA2 : W0.heap.size ≤ (w1.alloc (.cells #[.string ⟨#[33]⟩, .string a] 9)).heap.size := bA2.size
  have cl2 := hS.out _ _ [⟨#[33]⟩, a] bA2 zA2 (ops2 ⟨#[33]⟩ a w1)
  rw [show testO fU (List.map (fun s => s.data.toList) [⟨#[33]⟩, a]) = _ from ((sh2 (by simpa using Nat.not_lt.1 ha.out)).trans (congrArg (fun z => Out.val (!!z)) hzz.out : _ = Out.val false))] at cl2
  have cl2' := Lib.hid cl2
  have bA2' := Lib.hid bA2
  clear cl2 bA2
  go_wp2_with fail
  refine cl2'.out.mono ?_
  rintro e w2 ⟨v2, rfl, hv2, b2⟩
  obtain rfl := hv2
  have bb2 := Lib.hid (bA2'.out.trans (b2.mono zA2))
  have z2 : W0.heap.size ≤ w2.heap.size := Nat.le_trans zA2 b2.size
  clear b2 cl2' bA2' zA2 bb1
  have bA3 := bb2.out.alloc z2 (.cells #[.string ⟨#[40]⟩, .string a, .string ⟨#[41]⟩] 9)
  have zA3 : W0.heap.size ≤ (w2.alloc (.cells #[.string ⟨#[40]⟩, .string a, .string ⟨#[41]⟩] 9)).heap.size := bA3.size
  have cl3 := hS.out _ _ [⟨#[40]⟩, a, ⟨#[41]⟩] bA3 zA3 (ops3 ⟨#[40]⟩ a ⟨#[41]⟩ w2)
  have cl3' := Lib.hid cl3
  have bA3' := Lib.hid bA3
  clear cl3 bA3
  go_wp2_with fail
  refine cl3'.out.mono ?_
  rintro e w3 ⟨v3, rfl, hv3, b3⟩
  clear hv3
  have bb3 := Lib.hid (bA3'.out.trans (b3.mono zA3))
  have z3 : W0.heap.size ≤ w3.heap.size := Nat.le_trans zA3 b3.size
  clear b3 cl3' bA3' zA3 bb2
  go_wp2_with fail
  refine (known_any a _).mono ?_
  rintro e wk1 ⟨rfl, rfl⟩
  rw [show (knownP a.data.toList || decide (1024 < a.size)) = true from hkn.out]
  have bA4 := bb3.out.alloc z3 (.cells #[.string a, .string b] 9)
  have zA4 : W0.heap.size ≤ (wk1.alloc (.cells #[.string a, .string b] 9)).heap.size := bA4.size
  have cl4 := hS.out _ _ [a, b] bA4 zA4 (ops2 a b wk1)
  have cl4' := Lib.hid cl4
  have bA4' := Lib.hid bA4
  clear cl4 bA4
  go_wp2_with fail
  refine cl4'.out.mono ?_
  rintro e w4 ⟨v4, rfl, hv4, b4⟩
  clear hv4
  have bb4 := Lib.hid (bA4'.out.trans (b4.mono zA4))
  have z4 : W0.heap.size ≤ w4.heap.size := Nat.le_trans zA4 b4.size
  clear b4 cl4' bA4' zA4 bb3
  have bA5 := bb4.out.alloc z4 (.cells #[.string ⟨#[33]⟩, .string a, .string b] 9)
  have zA5 : W0.heap.size ≤ (w4.alloc (.cells #[.string ⟨#[33]⟩, .string a, .string b] 9)).heap.size := bA5.size
  have cl5 := hS.out _ _ [⟨#[33]⟩, a, b] bA5 zA5 (ops3 ⟨#[33]⟩ a b w4)
  have cl5' := Lib.hid cl5
  have bA5' := Lib.hid bA5
  clear cl5 bA5
  go_wp2_with fail
  refine cl5'.out.mono ?_
  rintro e w5 ⟨v5, rfl, hv5, b5⟩
  clear hv5
  have bb5 := Lib.hid (bA5'.out.trans (b5.mono zA5))
  have z5 : W0.heap.size ≤ w5.heap.size := Nat.le_trans zA5 b5.size
  clear b5 cl5' bA5' zA5 bb4
  go_wp2_with fail
  refine (known_any a _).mono ?_
  rintro e wk2 ⟨rfl, rfl⟩
  rw [show (knownP a.data.toList || decide (1024 < a.size)) = true from hkn.out]
  go_wp2_with fail
  refine (awake18_any _).mono ?_
  rintro e wz ⟨rfl, bz⟩
  have bZ := Lib.hid (bF'.out.trans ((bb5.out.trans (bz.mono z5)).mono bF'.out.size))
  clear bz
  go_wp2_with fail
  rw [hP.out]
  exact ⟨rfl, bZ.out⟩
set_option maxHeartbeats 4000000 in
set_option maxRecDepth 100000 in
theorem not_33_f {N : Nat} {E : Nat → Addr} (a b : ByteArray) (w : World) (hE : Errs N E w) (hT : ErrT N w) (hM : MaxL N w) (hN : N ≤ w.heap.size) (ha0 : ¬ 1024 < a.size) (hk0 : knownP a.data.toList = false) (h33 : (a.toList == [33]) = true) (hz : a.data.toList.isEmpty = false) :
    Calls Tryz.prog 4 #[.string a, .string b] w fun e w' => e = .returned (.bool true) ∧ Below w.heap.size w w' := by
  have hFl := Lib.hid (files_evs w hE hT hM hN)
  clear hE hT hM
  obtain ⟨Post, hPost⟩ : ∃ Post : Ending → World → Prop, Post = fun e w' => e = .returned (.bool true) ∧ Below w.heap.size w w' := ⟨_, rfl⟩
  rw [← hPost]
  have hP := Lib.hid hPost
  clear hPost
  have haI : ¬ (1024 : Int) < (a.size : Int) := by omega
  have ha := Lib.hid ha0
  have hkp := Lib.hid hk0
  have hkn := Lib.hid (show (knownP a.data.toList || decide (1024 < a.size)) = false by rw [hk0, decide_eq_false (by omega)]; rfl)
  clear hk0
  have hzz := Lib.hid hz
  clear hz
  go_enter Tryz.func4, Tryz.ntmps4
  go_wp2_with fail
  refine hFl.out.mono ?_
  rintro e W0 ⟨t, m, rfl, hS0, bF⟩
  have hS := Lib.hid hS0
  have bF' := Lib.hid bF
  have bb0 := Lib.hid (Below.refl W0.heap.size W0)
  have z0 : W0.heap.size ≤ W0.heap.size := Nat.le_refl _
  clear hS0 bF hFl
  have bA1 := bb0.out.alloc z0 (.cells #[.string a] 9)
  have zA1 : W0.heap.size ≤ (W0.alloc (.cells #[.string a] 9)).heap.size := bA1.size
  have cl1 := hS.out _ _ [a] bA1 zA1 (ops1 a W0)
  rw [show testO fU (List.map (fun s => s.data.toList) [a]) = _ from ((sh1 (by simpa using Nat.not_lt.1 ha.out)).trans (congrArg (fun z => Out.val (!z)) hzz.out : _ = Out.val true))] at cl1
  have cl1' := Lib.hid cl1
  have bA1' := Lib.hid bA1
  clear cl1 bA1
  go_wp2_with fail
  refine cl1'.out.mono ?_
  rintro e w1 ⟨v1, rfl, hv1, b1⟩
  obtain rfl := hv1
  have bb1 := Lib.hid (bA1'.out.trans (b1.mono zA1))
  have z1 : W0.heap.size ≤ w1.heap.size := Nat.le_trans zA1 b1.size
  clear b1 cl1' bA1' zA1 bb0
  have bA2 := bb1.out.alloc z1 (.cells #[.string ⟨#[33]⟩, .string a] 9)
  have zA2 : W0.heap.size ≤ (w1.alloc (.cells #[.string ⟨#[33]⟩, .string a] 9)).heap.size := bA2.size
  have cl2 := hS.out _ _ [⟨#[33]⟩, a] bA2 zA2 (ops2 ⟨#[33]⟩ a w1)
  rw [show testO fU (List.map (fun s => s.data.toList) [⟨#[33]⟩, a]) = _ from ((sh2 (by simpa using Nat.not_lt.1 ha.out)).trans (congrArg (fun z => Out.val (!!z)) hzz.out : _ = Out.val false))] at cl2
  have cl2' := Lib.hid cl2
  have bA2' := Lib.hid bA2
  clear cl2 bA2
  go_wp2_with fail
  refine cl2'.out.mono ?_
  rintro e w2 ⟨v2, rfl, hv2, b2⟩
  obtain rfl := hv2
  have bb2 := Lib.hid (bA2'.out.trans (b2.mono zA2))
  have z2 : W0.heap.size ≤ w2.heap.size := Nat.le_trans zA2 b2.size
  clear b2 cl2' bA2' zA2 bb1
  have bA3 := bb2.out.alloc z2 (.cells #[.string ⟨#[40]⟩, .string a, .string ⟨#[41]⟩] 9)
  have zA3 : W0.heap.size ≤ (w2.alloc (.cells #[.string ⟨#[40]⟩, .string a, .string ⟨#[41]⟩] 9)).heap.size := bA3.size
  have cl3 := hS.out _ _ [⟨#[40]⟩, a, ⟨#[41]⟩] bA3 zA3 (ops3 ⟨#[40]⟩ a ⟨#[41]⟩ w2)
  rw [show testO fU (List.map (fun s => s.data.toList) [⟨#[40]⟩, a, ⟨#[41]⟩]) = _ from ((sh3 (by simpa using Nat.not_lt.1 ha.out) hkp.out).trans (congrArg (fun z => Out.val (!z)) hzz.out : _ = Out.val true))] at cl3
  have cl3' := Lib.hid cl3
  have bA3' := Lib.hid bA3
  clear cl3 bA3
  go_wp2_with fail
  refine cl3'.out.mono ?_
  rintro e w3 ⟨v3, rfl, hv3, b3⟩
  obtain rfl := hv3
  have bb3 := Lib.hid (bA3'.out.trans (b3.mono zA3))
  have z3 : W0.heap.size ≤ w3.heap.size := Nat.le_trans zA3 b3.size
  clear b3 cl3' bA3' zA3 bb2
  go_wp2_with fail
  refine (known_any a _).mono ?_
  rintro e wk1 ⟨rfl, rfl⟩
  rw [show (knownP a.data.toList || decide (1024 < a.size)) = false from hkn.out]
  go_wp2_with fail
  refine (awake18_any _).mono ?_
  rintro e wz ⟨rfl, bz⟩
  have bZ := Lib.hid (bF'.out.trans ((bb3.out.trans (bz.mono z3)).mono bF'.out.size))
  clear bz
  go_wp2_with fail
  rw [hP.out]
  exact ⟨rfl, bZ.out⟩
set_option maxHeartbeats 4000000 in
set_option maxRecDepth 100000 in
theorem not_40_f {N : Nat} {E : Nat → Addr} (a b : ByteArray) (w : World) (hE : Errs N E w) (hT : ErrT N w) (hM : MaxL N w) (hN : N ≤ w.heap.size) (ha0 : ¬ 1024 < a.size) (hk0 : knownP a.data.toList = false) (h33 : (a.toList == [33]) = false) (h40 : (a.toList == [40]) = true) (hz : a.data.toList.isEmpty = false) :
    Calls Tryz.prog 4 #[.string a, .string b] w fun e w' => e = .returned (.bool true) ∧ Below w.heap.size w w' := by
  have hFl := Lib.hid (files_evs w hE hT hM hN)
  clear hE hT hM
  obtain ⟨Post, hPost⟩ : ∃ Post : Ending → World → Prop, Post = fun e w' => e = .returned (.bool true) ∧ Below w.heap.size w w' := ⟨_, rfl⟩
  rw [← hPost]
  have hP := Lib.hid hPost
  clear hPost
  have haI : ¬ (1024 : Int) < (a.size : Int) := by omega
  have ha := Lib.hid ha0
  have hkp := Lib.hid hk0
  have hkn := Lib.hid (show (knownP a.data.toList || decide (1024 < a.size)) = false by rw [hk0, decide_eq_false (by omega)]; rfl)
  clear hk0
  have hzz := Lib.hid hz
  clear hz
  go_enter Tryz.func4, Tryz.ntmps4
  go_wp2_with fail
  refine hFl.out.mono ?_
  rintro e W0 ⟨t, m, rfl, hS0, bF⟩
  have hS := Lib.hid hS0
  have bF' := Lib.hid bF
  have bb0 := Lib.hid (Below.refl W0.heap.size W0)
  have z0 : W0.heap.size ≤ W0.heap.size := Nat.le_refl _
  clear hS0 bF hFl
  have bA1 := bb0.out.alloc z0 (.cells #[.string a] 9)
  have zA1 : W0.heap.size ≤ (W0.alloc (.cells #[.string a] 9)).heap.size := bA1.size
  have cl1 := hS.out _ _ [a] bA1 zA1 (ops1 a W0)
  rw [show testO fU (List.map (fun s => s.data.toList) [a]) = _ from ((sh1 (by simpa using Nat.not_lt.1 ha.out)).trans (congrArg (fun z => Out.val (!z)) hzz.out : _ = Out.val true))] at cl1
  have cl1' := Lib.hid cl1
  have bA1' := Lib.hid bA1
  clear cl1 bA1
  go_wp2_with fail
  refine cl1'.out.mono ?_
  rintro e w1 ⟨v1, rfl, hv1, b1⟩
  obtain rfl := hv1
  have bb1 := Lib.hid (bA1'.out.trans (b1.mono zA1))
  have z1 : W0.heap.size ≤ w1.heap.size := Nat.le_trans zA1 b1.size
  clear b1 cl1' bA1' zA1 bb0
  have bA2 := bb1.out.alloc z1 (.cells #[.string ⟨#[33]⟩, .string a] 9)
  have zA2 : W0.heap.size ≤ (w1.alloc (.cells #[.string ⟨#[33]⟩, .string a] 9)).heap.size := bA2.size
  have cl2 := hS.out _ _ [⟨#[33]⟩, a] bA2 zA2 (ops2 ⟨#[33]⟩ a w1)
  rw [show testO fU (List.map (fun s => s.data.toList) [⟨#[33]⟩, a]) = _ from ((sh2 (by simpa using Nat.not_lt.1 ha.out)).trans (congrArg (fun z => Out.val (!!z)) hzz.out : _ = Out.val false))] at cl2
  have cl2' := Lib.hid cl2
  have bA2' := Lib.hid bA2
  clear cl2 bA2
  go_wp2_with fail
  refine cl2'.out.mono ?_
  rintro e w2 ⟨v2, rfl, hv2, b2⟩
  obtain rfl := hv2
  have bb2 := Lib.hid (bA2'.out.trans (b2.mono zA2))
  have z2 : W0.heap.size ≤ w2.heap.size := Nat.le_trans zA2 b2.size
  clear b2 cl2' bA2' zA2 bb1
  have bA3 := bb2.out.alloc z2 (.cells #[.string ⟨#[40]⟩, .string a, .string ⟨#[41]⟩] 9)
  have zA3 : W0.heap.size ≤ (w2.alloc (.cells #[.string ⟨#[40]⟩, .string a, .string ⟨#[41]⟩] 9)).heap.size := bA3.size
  have cl3 := hS.out _ _ [⟨#[40]⟩, a, ⟨#[41]⟩] bA3 zA3 (ops3 ⟨#[40]⟩ a ⟨#[41]⟩ w2)
  rw [show testO fU (List.map (fun s => s.data.toList) [⟨#[40]⟩, a, ⟨#[41]⟩]) = _ from ((sh3 (by simpa using Nat.not_lt.1 ha.out) hkp.out).trans (congrArg (fun z => Out.val (!z)) hzz.out : _ = Out.val true))] at cl3
  have cl3' := Lib.hid cl3
  have bA3' := Lib.hid bA3
  clear cl3 bA3
  go_wp2_with fail
  refine cl3'.out.mono ?_
  rintro e w3 ⟨v3, rfl, hv3, b3⟩
  obtain rfl := hv3
  have bb3 := Lib.hid (bA3'.out.trans (b3.mono zA3))
  have z3 : W0.heap.size ≤ w3.heap.size := Nat.le_trans zA3 b3.size
  clear b3 cl3' bA3' zA3 bb2
  go_wp2_with fail
  refine (known_any a _).mono ?_
  rintro e wk1 ⟨rfl, rfl⟩
  rw [show (knownP a.data.toList || decide (1024 < a.size)) = false from hkn.out]
  go_wp2_with fail
  refine (awake18_any _).mono ?_
  rintro e wz ⟨rfl, bz⟩
  have bZ := Lib.hid (bF'.out.trans ((bb3.out.trans (bz.mono z3)).mono bF'.out.size))
  clear bz
  go_wp2_with fail
  rw [hP.out]
  exact ⟨rfl, bZ.out⟩
set_option maxHeartbeats 4000000 in
set_option maxRecDepth 100000 in
theorem not_pl_l_f {N : Nat} {E : Nat → Addr} (a b : ByteArray) (w : World) (hE : Errs N E w) (hT : ErrT N w) (hM : MaxL N w) (hN : N ≤ w.heap.size) (ha0 : ¬ 1024 < a.size) (hk0 : knownP a.data.toList = false) (hb0 : 1024 < b.size) (h33 : (a.toList == [33]) = false) (h40 : (a.toList == [40]) = false) (hz : a.data.toList.isEmpty = false) :
    Calls Tryz.prog 4 #[.string a, .string b] w fun e w' => e = .returned (.bool true) ∧ Below w.heap.size w w' := by
  have hFl := Lib.hid (files_evs w hE hT hM hN)
  clear hE hT hM
  obtain ⟨Post, hPost⟩ : ∃ Post : Ending → World → Prop, Post = fun e w' => e = .returned (.bool true) ∧ Below w.heap.size w w' := ⟨_, rfl⟩
  rw [← hPost]
  have hP := Lib.hid hPost
  clear hPost
  have haI : ¬ (1024 : Int) < (a.size : Int) := by omega
  have hbI : (1024 : Int) < (b.size : Int) := by omega
  have ha := Lib.hid ha0
  have hkp := Lib.hid hk0
  have hkn := Lib.hid (show (knownP a.data.toList || decide (1024 < a.size)) = false by rw [hk0, decide_eq_false (by omega)]; rfl)
  clear hk0
  have hzz := Lib.hid hz
  clear hz
  go_enter Tryz.func4, Tryz.ntmps4
  go_wp2_with fail
  refine hFl.out.mono ?_
  rintro e W0 ⟨t, m, rfl, hS0, bF⟩
  have hS := Lib.hid hS0
  have bF' := Lib.hid bF
  have bb0 := Lib.hid (Below.refl W0.heap.size W0)
  have z0 : W0.heap.size ≤ W0.heap.size := Nat.le_refl _
  clear hS0 bF hFl
  have bA1 := bb0.out.alloc z0 (.cells #[.string a] 9)
  have zA1 : W0.heap.size ≤ (W0.alloc (.cells #[.string a] 9)).heap.size := bA1.size
  have cl1 := hS.out _ _ [a] bA1 zA1 (ops1 a W0)
  rw [show testO fU (List.map (fun s => s.data.toList) [a]) = _ from ((sh1 (by simpa using Nat.not_lt.1 ha.out)).trans (congrArg (fun z => Out.val (!z)) hzz.out : _ = Out.val true))] at cl1
  have cl1' := Lib.hid cl1
  have bA1' := Lib.hid bA1
  clear cl1 bA1
  go_wp2_with fail
  refine cl1'.out.mono ?_
  rintro e w1 ⟨v1, rfl, hv1, b1⟩
  obtain rfl := hv1
  have bb1 := Lib.hid (bA1'.out.trans (b1.mono zA1))
  have z1 : W0.heap.size ≤ w1.heap.size := Nat.le_trans zA1 b1.size
  clear b1 cl1' bA1' zA1 bb0
  have bA2 := bb1.out.alloc z1 (.cells #[.string ⟨#[33]⟩, .string a] 9)
  have zA2 : W0.heap.size ≤ (w1.alloc (.cells #[.string ⟨#[33]⟩, .string a] 9)).heap.size := bA2.size
  have cl2 := hS.out _ _ [⟨#[33]⟩, a] bA2 zA2 (ops2 ⟨#[33]⟩ a w1)
  rw [show testO fU (List.map (fun s => s.data.toList) [⟨#[33]⟩, a]) = _ from ((sh2 (by simpa using Nat.not_lt.1 ha.out)).trans (congrArg (fun z => Out.val (!!z)) hzz.out : _ = Out.val false))] at cl2
  have cl2' := Lib.hid cl2
  have bA2' := Lib.hid bA2
  clear cl2 bA2
  go_wp2_with fail
  refine cl2'.out.mono ?_
  rintro e w2 ⟨v2, rfl, hv2, b2⟩
  obtain rfl := hv2
  have bb2 := Lib.hid (bA2'.out.trans (b2.mono zA2))
  have z2 : W0.heap.size ≤ w2.heap.size := Nat.le_trans zA2 b2.size
  clear b2 cl2' bA2' zA2 bb1
  have bA3 := bb2.out.alloc z2 (.cells #[.string ⟨#[40]⟩, .string a, .string ⟨#[41]⟩] 9)
  have zA3 : W0.heap.size ≤ (w2.alloc (.cells #[.string ⟨#[40]⟩, .string a, .string ⟨#[41]⟩] 9)).heap.size := bA3.size
  have cl3 := hS.out _ _ [⟨#[40]⟩, a, ⟨#[41]⟩] bA3 zA3 (ops3 ⟨#[40]⟩ a ⟨#[41]⟩ w2)
  rw [show testO fU (List.map (fun s => s.data.toList) [⟨#[40]⟩, a, ⟨#[41]⟩]) = _ from ((sh3 (by simpa using Nat.not_lt.1 ha.out) hkp.out).trans (congrArg (fun z => Out.val (!z)) hzz.out : _ = Out.val true))] at cl3
  have cl3' := Lib.hid cl3
  have bA3' := Lib.hid bA3
  clear cl3 bA3
  go_wp2_with fail
  refine cl3'.out.mono ?_
  rintro e w3 ⟨v3, rfl, hv3, b3⟩
  obtain rfl := hv3
  have bb3 := Lib.hid (bA3'.out.trans (b3.mono zA3))
  have z3 : W0.heap.size ≤ w3.heap.size := Nat.le_trans zA3 b3.size
  clear b3 cl3' bA3' zA3 bb2
  go_wp2_with fail
  refine (known_any a _).mono ?_
  rintro e wk1 ⟨rfl, rfl⟩
  rw [show (knownP a.data.toList || decide (1024 < a.size)) = false from hkn.out]
  go_wp2_with fail
  refine (awake18_any _).mono ?_
  rintro e wz ⟨rfl, bz⟩
  have bZ := Lib.hid (bF'.out.trans ((bb3.out.trans (bz.mono z3)).mono bF'.out.size))
  clear bz
  go_wp2_with fail
  rw [hP.out]
  exact ⟨rfl, bZ.out⟩
set_option maxHeartbeats 4000000 in
set_option maxRecDepth 100000 in
theorem not_v_f_t {N : Nat} {E : Nat → Addr} (a b : ByteArray) (w : World) (hE : Errs N E w) (hT : ErrT N w) (hM : MaxL N w) (hN : N ≤ w.heap.size) (ha0 : ¬ 1024 < a.size) (hk0 : knownP a.data.toList = false) (hb0 : ¬ 1024 < b.size) (h33 : (a.toList == [33]) = false) (h40 : (a.toList == [40]) = false) (hz : a.data.toList.isEmpty = false) (hx : eval2O fU a.data.toList b.data.toList = .val true) :
    Calls Tryz.prog 4 #[.string a, .string b] w fun e w' => e = .returned (.bool true) ∧ Below w.heap.size w w' := by
  have hFl := Lib.hid (files_evs w hE hT hM hN)
  clear hE hT hM
  obtain ⟨Post, hPost⟩ : ∃ Post : Ending → World → Prop, Post = fun e w' => e = .returned (.bool true) ∧ Below w.heap.size w w' := ⟨_, rfl⟩
  rw [← hPost]
  have hP := Lib.hid hPost
  clear hPost
  have haI : ¬ (1024 : Int) < (a.size : Int) := by omega
  have hbI : ¬ (1024 : Int) < (b.size : Int) := by omega
  have hb := Lib.hid hb0
  have ha := Lib.hid ha0
  have hkp := Lib.hid hk0
  have hkn := Lib.hid (show (knownP a.data.toList || decide (1024 < a.size)) = false by rw [hk0, decide_eq_false (by omega)]; rfl)
  clear hk0
  have hzz := Lib.hid hz
  clear hz
  have hxx := Lib.hid hx
  clear hx
  go_enter Tryz.func4, Tryz.ntmps4
  go_wp2_with fail
  refine hFl.out.mono ?_
  rintro e W0 ⟨t, m, rfl, hS0, bF⟩
  have hS := Lib.hid hS0
  have bF' := Lib.hid bF
  have bb0 := Lib.hid (Below.refl W0.heap.size W0)
  have z0 : W0.heap.size ≤ W0.heap.size := Nat.le_refl _
  clear hS0 bF hFl
  have bA1 := bb0.out.alloc z0 (.cells #[.string a] 9)
  have zA1 : W0.heap.size ≤ (W0.alloc (.cells #[.string a] 9)).heap.size := bA1.size
  have cl1 := hS.out _ _ [a] bA1 zA1 (ops1 a W0)
  rw [show testO fU (List.map (fun s => s.data.toList) [a]) = _ from ((sh1 (by simpa using Nat.not_lt.1 ha.out)).trans (congrArg (fun z => Out.val (!z)) hzz.out : _ = Out.val true))] at cl1
  have cl1' := Lib.hid cl1
  have bA1' := Lib.hid bA1
  clear cl1 bA1
  go_wp2_with fail
  refine cl1'.out.mono ?_
  rintro e w1 ⟨v1, rfl, hv1, b1⟩
  obtain rfl := hv1
  have bb1 := Lib.hid (bA1'.out.trans (b1.mono zA1))
  have z1 : W0.heap.size ≤ w1.heap.size := Nat.le_trans zA1 b1.size
  clear b1 cl1' bA1' zA1 bb0
  have bA2 := bb1.out.alloc z1 (.cells #[.string ⟨#[33]⟩, .string a] 9)
  have zA2 : W0.heap.size ≤ (w1.alloc (.cells #[.string ⟨#[33]⟩, .string a] 9)).heap.size := bA2.size
  have cl2 := hS.out _ _ [⟨#[33]⟩, a] bA2 zA2 (ops2 ⟨#[33]⟩ a w1)
  rw [show testO fU (List.map (fun s => s.data.toList) [⟨#[33]⟩, a]) = _ from ((sh2 (by simpa using Nat.not_lt.1 ha.out)).trans (congrArg (fun z => Out.val (!!z)) hzz.out : _ = Out.val false))] at cl2
  have cl2' := Lib.hid cl2
  have bA2' := Lib.hid bA2
  clear cl2 bA2
  go_wp2_with fail
  refine cl2'.out.mono ?_
  rintro e w2 ⟨v2, rfl, hv2, b2⟩
  obtain rfl := hv2
  have bb2 := Lib.hid (bA2'.out.trans (b2.mono zA2))
  have z2 : W0.heap.size ≤ w2.heap.size := Nat.le_trans zA2 b2.size
  clear b2 cl2' bA2' zA2 bb1
  have bA3 := bb2.out.alloc z2 (.cells #[.string ⟨#[40]⟩, .string a, .string ⟨#[41]⟩] 9)
  have zA3 : W0.heap.size ≤ (w2.alloc (.cells #[.string ⟨#[40]⟩, .string a, .string ⟨#[41]⟩] 9)).heap.size := bA3.size
  have cl3 := hS.out _ _ [⟨#[40]⟩, a, ⟨#[41]⟩] bA3 zA3 (ops3 ⟨#[40]⟩ a ⟨#[41]⟩ w2)
  rw [show testO fU (List.map (fun s => s.data.toList) [⟨#[40]⟩, a, ⟨#[41]⟩]) = _ from ((sh3 (by simpa using Nat.not_lt.1 ha.out) hkp.out).trans (congrArg (fun z => Out.val (!z)) hzz.out : _ = Out.val true))] at cl3
  have cl3' := Lib.hid cl3
  have bA3' := Lib.hid bA3
  clear cl3 bA3
  go_wp2_with fail
  refine cl3'.out.mono ?_
  rintro e w3 ⟨v3, rfl, hv3, b3⟩
  obtain rfl := hv3
  have bb3 := Lib.hid (bA3'.out.trans (b3.mono zA3))
  have z3 : W0.heap.size ≤ w3.heap.size := Nat.le_trans zA3 b3.size
  clear b3 cl3' bA3' zA3 bb2
  go_wp2_with fail
  refine (known_any a _).mono ?_
  rintro e wk1 ⟨rfl, rfl⟩
  rw [show (knownP a.data.toList || decide (1024 < a.size)) = false from hkn.out]
  have bA4 := bb3.out.alloc z3 (.cells #[.string a, .string b] 9)
  have zA4 : W0.heap.size ≤ (wk1.alloc (.cells #[.string a, .string b] 9)).heap.size := bA4.size
  have cl4 := hS.out _ _ [a, b] bA4 zA4 (ops2 a b wk1)
  rw [show testO fU (List.map (fun s => s.data.toList) [a, b]) = _ from ((two1 (by simpa using Nat.not_lt.1 ha.out) (by simpa using Nat.not_lt.1 hb.out)).trans hxx.out)] at cl4
  have cl4' := Lib.hid cl4
  have bA4' := Lib.hid bA4
  clear cl4 bA4
  go_wp2_with fail
  refine cl4'.out.mono ?_
  rintro e w4 ⟨v4, rfl, hv4, b4⟩
  obtain rfl := hv4
  have bb4 := Lib.hid (bA4'.out.trans (b4.mono zA4))
  have z4 : W0.heap.size ≤ w4.heap.size := Nat.le_trans zA4 b4.size
  clear b4 cl4' bA4' zA4 bb3
  have bA5 := bb4.out.alloc z4 (.cells #[.string ⟨#[33]⟩, .string a, .string b] 9)
  have zA5 : W0.heap.size ≤ (w4.alloc (.cells #[.string ⟨#[33]⟩, .string a, .string b] 9)).heap.size := bA5.size
  have cl5 := hS.out _ _ [⟨#[33]⟩, a, b] bA5 zA5 (ops3 ⟨#[33]⟩ a b w4)
  rw [show testO fU (List.map (fun s => s.data.toList) [⟨#[33]⟩, a, b]) = _ from ((two2 (by simpa using Nat.not_lt.1 ha.out) (by simpa using Nat.not_lt.1 hb.out) hkp.out).trans (congrArg Out.neg hxx.out : _ = Out.val false))] at cl5
  have cl5' := Lib.hid cl5
  have bA5' := Lib.hid bA5
  clear cl5 bA5
  go_wp2_with fail
  refine cl5'.out.mono ?_
  rintro e w5 ⟨v5, rfl, hv5, b5⟩
  obtain rfl := hv5
  have bb5 := Lib.hid (bA5'.out.trans (b5.mono zA5))
  have z5 : W0.heap.size ≤ w5.heap.size := Nat.le_trans zA5 b5.size
  clear b5 cl5' bA5' zA5 bb4
  go_wp2_with fail
  refine (known_any a _).mono ?_
  rintro e wk2 ⟨rfl, rfl⟩
  rw [show (knownP a.data.toList || decide (1024 < a.size)) = false from hkn.out]
  have bA6 := bb5.out.alloc z5 (.cells #[.string ⟨#[40]⟩, .string a, .string b, .string ⟨#[41]⟩] 9)
  have zA6 : W0.heap.size ≤ (wk2.alloc (.cells #[.string ⟨#[40]⟩, .string a, .string b, .string ⟨#[41]⟩] 9)).heap.size := bA6.size
  have cl6 := hS.out _ _ [⟨#[40]⟩, a, b, ⟨#[41]⟩] bA6 zA6 (ops4 ⟨#[40]⟩ a b ⟨#[41]⟩ wk2)
  rw [show testO fU (List.map (fun s => s.data.toList) [⟨#[40]⟩, a, b, ⟨#[41]⟩]) = _ from ((two3 (by simpa using Nat.not_lt.1 ha.out) (by simpa using Nat.not_lt.1 hb.out)).trans (congrArg Out.mov hxx.out : _ = Out.val true))] at cl6
  have cl6' := Lib.hid cl6
  have bA6' := Lib.hid bA6
  clear cl6 bA6
  go_wp2_with fail
  refine cl6'.out.mono ?_
  rintro e w6 ⟨v6, rfl, hv6, b6⟩
  obtain rfl := hv6
  have bb6 := Lib.hid (bA6'.out.trans (b6.mono zA6))
  have z6 : W0.heap.size ≤ w6.heap.size := Nat.le_trans zA6 b6.size
  clear b6 cl6' bA6' zA6 bb5
  go_wp2_with fail
  refine (awake18_any _).mono ?_
  rintro e wz ⟨rfl, bz⟩
  have bZ := Lib.hid (bF'.out.trans ((bb6.out.trans (bz.mono z6)).mono bF'.out.size))
  clear bz
  go_wp2_with fail
  rw [hP.out]
  exact ⟨rfl, bZ.out⟩
set_option maxHeartbeats 4000000 in
set_option maxRecDepth 100000 in
theorem not_v_f_f {N : Nat} {E : Nat → Addr} (a b : ByteArray) (w : World) (hE : Errs N E w) (hT : ErrT N w) (hM : MaxL N w) (hN : N ≤ w.heap.size) (ha0 : ¬ 1024 < a.size) (hk0 : knownP a.data.toList = false) (hb0 : ¬ 1024 < b.size) (h33 : (a.toList == [33]) = false) (h40 : (a.toList == [40]) = false) (hz : a.data.toList.isEmpty = false) (hx : eval2O fU a.data.toList b.data.toList = .val false) :
    Calls Tryz.prog 4 #[.string a, .string b] w fun e w' => e = .returned (.bool true) ∧ Below w.heap.size w w' := by
  have hFl := Lib.hid (files_evs w hE hT hM hN)
  clear hE hT hM
  obtain ⟨Post, hPost⟩ : ∃ Post : Ending → World → Prop, Post = fun e w' => e = .returned (.bool true) ∧ Below w.heap.size w w' := ⟨_, rfl⟩
  rw [← hPost]
  have hP := Lib.hid hPost
  clear hPost
  have haI : ¬ (1024 : Int) < (a.size : Int) := by omega
  have hbI : ¬ (1024 : Int) < (b.size : Int) := by omega
  have hb := Lib.hid hb0
  have ha := Lib.hid ha0
  have hkp := Lib.hid hk0
  have hkn := Lib.hid (show (knownP a.data.toList || decide (1024 < a.size)) = false by rw [hk0, decide_eq_false (by omega)]; rfl)
  clear hk0
  have hzz := Lib.hid hz
  clear hz
  have hxx := Lib.hid hx
  clear hx
  go_enter Tryz.func4, Tryz.ntmps4
  go_wp2_with fail
  refine hFl.out.mono ?_
  rintro e W0 ⟨t, m, rfl, hS0, bF⟩
  have hS := Lib.hid hS0
  have bF' := Lib.hid bF
  have bb0 := Lib.hid (Below.refl W0.heap.size W0)
  have z0 : W0.heap.size ≤ W0.heap.size := Nat.le_refl _
  clear hS0 bF hFl
  have bA1 := bb0.out.alloc z0 (.cells #[.string a] 9)
  have zA1 : W0.heap.size ≤ (W0.alloc (.cells #[.string a] 9)).heap.size := bA1.size
  have cl1 := hS.out _ _ [a] bA1 zA1 (ops1 a W0)
  rw [show testO fU (List.map (fun s => s.data.toList) [a]) = _ from ((sh1 (by simpa using Nat.not_lt.1 ha.out)).trans (congrArg (fun z => Out.val (!z)) hzz.out : _ = Out.val true))] at cl1
  have cl1' := Lib.hid cl1
  have bA1' := Lib.hid bA1
  clear cl1 bA1
  go_wp2_with fail
  refine cl1'.out.mono ?_
  rintro e w1 ⟨v1, rfl, hv1, b1⟩
  obtain rfl := hv1
  have bb1 := Lib.hid (bA1'.out.trans (b1.mono zA1))
  have z1 : W0.heap.size ≤ w1.heap.size := Nat.le_trans zA1 b1.size
  clear b1 cl1' bA1' zA1 bb0
  have bA2 := bb1.out.alloc z1 (.cells #[.string ⟨#[33]⟩, .string a] 9)
  have zA2 : W0.heap.size ≤ (w1.alloc (.cells #[.string ⟨#[33]⟩, .string a] 9)).heap.size := bA2.size
  have cl2 := hS.out _ _ [⟨#[33]⟩, a] bA2 zA2 (ops2 ⟨#[33]⟩ a w1)
  rw [show testO fU (List.map (fun s => s.data.toList) [⟨#[33]⟩, a]) = _ from ((sh2 (by simpa using Nat.not_lt.1 ha.out)).trans (congrArg (fun z => Out.val (!!z)) hzz.out : _ = Out.val false))] at cl2
  have cl2' := Lib.hid cl2
  have bA2' := Lib.hid bA2
  clear cl2 bA2
  go_wp2_with fail
  refine cl2'.out.mono ?_
  rintro e w2 ⟨v2, rfl, hv2, b2⟩
  obtain rfl := hv2
  have bb2 := Lib.hid (bA2'.out.trans (b2.mono zA2))
  have z2 : W0.heap.size ≤ w2.heap.size := Nat.le_trans zA2 b2.size
  clear b2 cl2' bA2' zA2 bb1
  have bA3 := bb2.out.alloc z2 (.cells #[.string ⟨#[40]⟩, .string a, .string ⟨#[41]⟩] 9)
  have zA3 : W0.heap.size ≤ (w2.alloc (.cells #[.string ⟨#[40]⟩, .string a, .string ⟨#[41]⟩] 9)).heap.size := bA3.size
  have cl3 := hS.out _ _ [⟨#[40]⟩, a, ⟨#[41]⟩] bA3 zA3 (ops3 ⟨#[40]⟩ a ⟨#[41]⟩ w2)
  rw [show testO fU (List.map (fun s => s.data.toList) [⟨#[40]⟩, a, ⟨#[41]⟩]) = _ from ((sh3 (by simpa using Nat.not_lt.1 ha.out) hkp.out).trans (congrArg (fun z => Out.val (!z)) hzz.out : _ = Out.val true))] at cl3
  have cl3' := Lib.hid cl3
  have bA3' := Lib.hid bA3
  clear cl3 bA3
  go_wp2_with fail
  refine cl3'.out.mono ?_
  rintro e w3 ⟨v3, rfl, hv3, b3⟩
  obtain rfl := hv3
  have bb3 := Lib.hid (bA3'.out.trans (b3.mono zA3))
  have z3 : W0.heap.size ≤ w3.heap.size := Nat.le_trans zA3 b3.size
  clear b3 cl3' bA3' zA3 bb2
  go_wp2_with fail
  refine (known_any a _).mono ?_
  rintro e wk1 ⟨rfl, rfl⟩
  rw [show (knownP a.data.toList || decide (1024 < a.size)) = false from hkn.out]
  have bA4 := bb3.out.alloc z3 (.cells #[.string a, .string b] 9)
  have zA4 : W0.heap.size ≤ (wk1.alloc (.cells #[.string a, .string b] 9)).heap.size := bA4.size
  have cl4 := hS.out _ _ [a, b] bA4 zA4 (ops2 a b wk1)
  rw [show testO fU (List.map (fun s => s.data.toList) [a, b]) = _ from ((two1 (by simpa using Nat.not_lt.1 ha.out) (by simpa using Nat.not_lt.1 hb.out)).trans hxx.out)] at cl4
  have cl4' := Lib.hid cl4
  have bA4' := Lib.hid bA4
  clear cl4 bA4
  go_wp2_with fail
  refine cl4'.out.mono ?_
  rintro e w4 ⟨v4, rfl, hv4, b4⟩
  obtain rfl := hv4
  have bb4 := Lib.hid (bA4'.out.trans (b4.mono zA4))
  have z4 : W0.heap.size ≤ w4.heap.size := Nat.le_trans zA4 b4.size
  clear b4 cl4' bA4' zA4 bb3
  have bA5 := bb4.out.alloc z4 (.cells #[.string ⟨#[33]⟩, .string a, .string b] 9)
  have zA5 : W0.heap.size ≤ (w4.alloc (.cells #[.string ⟨#[33]⟩, .string a, .string b] 9)).heap.size := bA5.size
  have cl5 := hS.out _ _ [⟨#[33]⟩, a, b] bA5 zA5 (ops3 ⟨#[33]⟩ a b w4)
  rw [show testO fU (List.map (fun s => s.data.toList) [⟨#[33]⟩, a, b]) = _ from ((two2 (by simpa using Nat.not_lt.1 ha.out) (by simpa using Nat.not_lt.1 hb.out) hkp.out).trans (congrArg Out.neg hxx.out : _ = Out.val true))] at cl5
  have cl5' := Lib.hid cl5
  have bA5' := Lib.hid bA5
  clear cl5 bA5
  go_wp2_with fail
  refine cl5'.out.mono ?_
  rintro e w5 ⟨v5, rfl, hv5, b5⟩
  obtain rfl := hv5
  have bb5 := Lib.hid (bA5'.out.trans (b5.mono zA5))
  have z5 : W0.heap.size ≤ w5.heap.size := Nat.le_trans zA5 b5.size
  clear b5 cl5' bA5' zA5 bb4
  go_wp2_with fail
  refine (known_any a _).mono ?_
  rintro e wk2 ⟨rfl, rfl⟩
  rw [show (knownP a.data.toList || decide (1024 < a.size)) = false from hkn.out]
  have bA6 := bb5.out.alloc z5 (.cells #[.string ⟨#[40]⟩, .string a, .string b, .string ⟨#[41]⟩] 9)
  have zA6 : W0.heap.size ≤ (wk2.alloc (.cells #[.string ⟨#[40]⟩, .string a, .string b, .string ⟨#[41]⟩] 9)).heap.size := bA6.size
  have cl6 := hS.out _ _ [⟨#[40]⟩, a, b, ⟨#[41]⟩] bA6 zA6 (ops4 ⟨#[40]⟩ a b ⟨#[41]⟩ wk2)
  rw [show testO fU (List.map (fun s => s.data.toList) [⟨#[40]⟩, a, b, ⟨#[41]⟩]) = _ from ((two3 (by simpa using Nat.not_lt.1 ha.out) (by simpa using Nat.not_lt.1 hb.out)).trans (congrArg Out.mov hxx.out : _ = Out.val false))] at cl6
  have cl6' := Lib.hid cl6
  have bA6' := Lib.hid bA6
  clear cl6 bA6
  go_wp2_with fail
  refine cl6'.out.mono ?_
  rintro e w6 ⟨v6, rfl, hv6, b6⟩
  obtain rfl := hv6
  have bb6 := Lib.hid (bA6'.out.trans (b6.mono zA6))
  have z6 : W0.heap.size ≤ w6.heap.size := Nat.le_trans zA6 b6.size
  clear b6 cl6' bA6' zA6 bb5
  go_wp2_with fail
  refine (awake18_any _).mono ?_
  rintro e wz ⟨rfl, bz⟩
  have bZ := Lib.hid (bF'.out.trans ((bb6.out.trans (bz.mono z6)).mono bF'.out.size))
  clear bz
  go_wp2_with fail
  rw [hP.out]
  exact ⟨rfl, bZ.out⟩
set_option maxHeartbeats 4000000 in
set_option maxRecDepth 100000 in
theorem not_e_f {N : Nat} {E : Nat → Addr} (a b : ByteArray) (w : World) (hE : Errs N E w) (hT : ErrT N w) (hM : MaxL N w) (hN : N ≤ w.heap.size) (ha0 : ¬ 1024 < a.size) (hk0 : knownP a.data.toList = false) (hb0 : ¬ 1024 < b.size) (h33 : (a.toList == [33]) = false) (h40 : (a.toList == [40]) = false) (hz : a.data.toList.isEmpty = false) (p : Nat) (hx : eval2O fU a.data.toList b.data.toList = .err 14 p) :
    Calls Tryz.prog 4 #[.string a, .string b] w fun e w' => e = .returned (.bool true) ∧ Below w.heap.size w w' := by
  have hFl := Lib.hid (files_evs w hE hT hM hN)
  clear hE hT hM
  obtain ⟨Post, hPost⟩ : ∃ Post : Ending → World → Prop, Post = fun e w' => e = .returned (.bool true) ∧ Below w.heap.size w w' := ⟨_, rfl⟩
  rw [← hPost]
  have hP := Lib.hid hPost
  clear hPost
  have haI : ¬ (1024 : Int) < (a.size : Int) := by omega
  have hbI : ¬ (1024 : Int) < (b.size : Int) := by omega
  have hb := Lib.hid hb0
  have ha := Lib.hid ha0
  have hkp := Lib.hid hk0
  have hkn := Lib.hid (show (knownP a.data.toList || decide (1024 < a.size)) = false by rw [hk0, decide_eq_false (by omega)]; rfl)
  clear hk0
  have hzz := Lib.hid hz
  clear hz
  have hxx := Lib.hid hx
  clear hx
  go_enter Tryz.func4, Tryz.ntmps4
  go_wp2_with fail
  refine hFl.out.mono ?_
  rintro e W0 ⟨t, m, rfl, hS0, bF⟩
  have hS := Lib.hid hS0
  have bF' := Lib.hid bF
  have bb0 := Lib.hid (Below.refl W0.heap.size W0)
  have z0 : W0.heap.size ≤ W0.heap.size := Nat.le_refl _
  clear hS0 bF hFl
  have bA1 := bb0.out.alloc z0 (.cells #[.string a] 9)
  have zA1 : W0.heap.size ≤ (W0.alloc (.cells #[.string a] 9)).heap.size := bA1.size
  have cl1 := hS.out _ _ [a] bA1 zA1 (ops1 a W0)
  rw [show testO fU (List.map (fun s => s.data.toList) [a]) = _ from ((sh1 (by simpa using Nat.not_lt.1 ha.out)).trans (congrArg (fun z => Out.val (!z)) hzz.out : _ = Out.val true))] at cl1
  have cl1' := Lib.hid cl1
  have bA1' := Lib.hid bA1
  clear cl1 bA1
  go_wp2_with fail
  refine cl1'.out.mono ?_
  rintro e w1 ⟨v1, rfl, hv1, b1⟩
  obtain rfl := hv1
  have bb1 := Lib.hid (bA1'.out.trans (b1.mono zA1))
  have z1 : W0.heap.size ≤ w1.heap.size := Nat.le_trans zA1 b1.size
  clear b1 cl1' bA1' zA1 bb0
  have bA2 := bb1.out.alloc z1 (.cells #[.string ⟨#[33]⟩, .string a] 9)
  have zA2 : W0.heap.size ≤ (w1.alloc (.cells #[.string ⟨#[33]⟩, .string a] 9)).heap.size := bA2.size
  have cl2 := hS.out _ _ [⟨#[33]⟩, a] bA2 zA2 (ops2 ⟨#[33]⟩ a w1)
  rw [show testO fU (List.map (fun s => s.data.toList) [⟨#[33]⟩, a]) = _ from ((sh2 (by simpa using Nat.not_lt.1 ha.out)).trans (congrArg (fun z => Out.val (!!z)) hzz.out : _ = Out.val false))] at cl2
  have cl2' := Lib.hid cl2
  have bA2' := Lib.hid bA2
  clear cl2 bA2
  go_wp2_with fail
  refine cl2'.out.mono ?_
  rintro e w2 ⟨v2, rfl, hv2, b2⟩
  obtain rfl := hv2
  have bb2 := Lib.hid (bA2'.out.trans (b2.mono zA2))
  have z2 : W0.heap.size ≤ w2.heap.size := Nat.le_trans zA2 b2.size
  clear b2 cl2' bA2' zA2 bb1
  have bA3 := bb2.out.alloc z2 (.cells #[.string ⟨#[40]⟩, .string a, .string ⟨#[41]⟩] 9)
  have zA3 : W0.heap.size ≤ (w2.alloc (.cells #[.string ⟨#[40]⟩, .string a, .string ⟨#[41]⟩] 9)).heap.size := bA3.size
  have cl3 := hS.out _ _ [⟨#[40]⟩, a, ⟨#[41]⟩] bA3 zA3 (ops3 ⟨#[40]⟩ a ⟨#[41]⟩ w2)
  rw [show testO fU (List.map (fun s => s.data.toList) [⟨#[40]⟩, a, ⟨#[41]⟩]) = _ from ((sh3 (by simpa using Nat.not_lt.1 ha.out) hkp.out).trans (congrArg (fun z => Out.val (!z)) hzz.out : _ = Out.val true))] at cl3
  have cl3' := Lib.hid cl3
  have bA3' := Lib.hid bA3
  clear cl3 bA3
  go_wp2_with fail
  refine cl3'.out.mono ?_
  rintro e w3 ⟨v3, rfl, hv3, b3⟩
  obtain rfl := hv3
  have bb3 := Lib.hid (bA3'.out.trans (b3.mono zA3))
  have z3 : W0.heap.size ≤ w3.heap.size := Nat.le_trans zA3 b3.size
  clear b3 cl3' bA3' zA3 bb2
  go_wp2_with fail
  refine (known_any a _).mono ?_
  rintro e wk1 ⟨rfl, rfl⟩
  rw [show (knownP a.data.toList || decide (1024 < a.size)) = false from hkn.out]
  have bA4 := bb3.out.alloc z3 (.cells #[.string a, .string b] 9)
  have zA4 : W0.heap.size ≤ (wk1.alloc (.cells #[.string a, .string b] 9)).heap.size := bA4.size
  have cl4 := hS.out _ _ [a, b] bA4 zA4 (ops2 a b wk1)
  rw [show testO fU (List.map (fun s => s.data.toList) [a, b]) = _ from ((two1 (by simpa using Nat.not_lt.1 ha.out) (by simpa using Nat.not_lt.1 hb.out)).trans hxx.out)] at cl4
  have cl4' := Lib.hid cl4
  have bA4' := Lib.hid bA4
  clear cl4 bA4
  go_wp2_with fail
  refine cl4'.out.mono ?_
  rintro e w4 ⟨v4, rfl, hv4, b4⟩
  obtain ⟨S4, rfl⟩ := hv4
  have bb4 := Lib.hid (bA4'.out.trans (b4.mono zA4))
  have z4 : W0.heap.size ≤ w4.heap.size := Nat.le_trans zA4 b4.size
  clear b4 cl4' bA4' zA4 bb3
  have bA5 := bb4.out.alloc z4 (.cells #[.string ⟨#[33]⟩, .string a, .string b] 9)
  have zA5 : W0.heap.size ≤ (w4.alloc (.cells #[.string ⟨#[33]⟩, .string a, .string b] 9)).heap.size := bA5.size
  have cl5 := hS.out _ _ [⟨#[33]⟩, a, b] bA5 zA5 (ops3 ⟨#[33]⟩ a b w4)
  rw [show testO fU (List.map (fun s => s.data.toList) [⟨#[33]⟩, a, b]) = _ from ((two2 (by simpa using Nat.not_lt.1 ha.out) (by simpa using Nat.not_lt.1 hb.out) hkp.out).trans (congrArg Out.neg hxx.out : _ = Out.err 14 (p + 1)))] at cl5
  have cl5' := Lib.hid cl5
  have bA5' := Lib.hid bA5
  clear cl5 bA5
  go_wp2_with fail
  refine cl5'.out.mono ?_
  rintro e w5 ⟨v5, rfl, hv5, b5⟩
  obtain ⟨S5, rfl⟩ := hv5
  have bb5 := Lib.hid (bA5'.out.trans (b5.mono zA5))
  have z5 : W0.heap.size ≤ w5.heap.size := Nat.le_trans zA5 b5.size
  clear b5 cl5' bA5' zA5 bb4
  go_wp2_with fail
  refine (known_any a _).mono ?_
  rintro e wk2 ⟨rfl, rfl⟩
  rw [show (knownP a.data.toList || decide (1024 < a.size)) = false from hkn.out]
  have bA6 := bb5.out.alloc z5 (.cells #[.string ⟨#[40]⟩, .string a, .string b, .string ⟨#[41]⟩] 9)
  have zA6 : W0.heap.size ≤ (wk2.alloc (.cells #[.string ⟨#[40]⟩, .string a, .string b, .string ⟨#[41]⟩] 9)).heap.size := bA6.size
  have cl6 := hS.out _ _ [⟨#[40]⟩, a, b, ⟨#[41]⟩] bA6 zA6 (ops4 ⟨#[40]⟩ a b ⟨#[41]⟩ wk2)
  rw [show testO fU (List.map (fun s => s.data.toList) [⟨#[40]⟩, a, b, ⟨#[41]⟩]) = _ from ((two3 (by simpa using Nat.not_lt.1 ha.out) (by simpa using Nat.not_lt.1 hb.out)).trans (congrArg Out.mov hxx.out : _ = Out.err 14 (p + 1)))] at cl6
  have cl6' := Lib.hid cl6
  have bA6' := Lib.hid bA6
  clear cl6 bA6
  go_wp2_with fail
  refine cl6'.out.mono ?_
  rintro e w6 ⟨v6, rfl, hv6, b6⟩
  obtain ⟨S6, rfl⟩ := hv6
  have bb6 := Lib.hid (bA6'.out.trans (b6.mono zA6))
  have z6 : W0.heap.size ≤ w6.heap.size := Nat.le_trans zA6 b6.size
  clear b6 cl6' bA6' zA6 bb5
  go_wp2_with fail
  refine (awake18_any _).mono ?_
  rintro e wz ⟨rfl, bz⟩
  have bZ := Lib.hid (bF'.out.trans ((bb6.out.trans (bz.mono z6)).mono bF'.out.size))
  clear bz
  go_wp2_with fail
  rw [hP.out]
  exact ⟨rfl, bZ.out⟩
theorem no_of_known {a : ByteArray} {l : List UInt8} (hk : knownP a.data.toList = true) (hl : knownP l = false) : (a.toList == l) = false := by
  refine beq_no fun h => ?_
  rw [eq_of_beq h, hl] at hk
  cases hk
theorem no_of_long {a : ByteArray} {l : List UInt8} (ha : 1024 < a.size) (hl : l.length ≤ 1024) : (a.toList == l) = false := by
  refine beq_no fun h => ?_
  have := congrArg List.length (eq_of_beq h)
  simp at this
  omega
theorem tnot2_any {N : Nat} {E : Nat → Addr} (a b : ByteArray) (w : World) (hE : Errs N E w) (hT : ErrT N w) (hM : MaxL N w) (hN : N ≤ w.heap.size) :
    Calls Tryz.prog 4 #[.string a, .string b] w fun e w' => e = .returned (.bool true) ∧ Below w.heap.size w w' := by
  by_cases ha : 1024 < a.size
  · by_cases hb : 1024 < b.size
    · exact not_long_l a b w hE hT hM hN ha hb (no_of_long ha (by decide)) (no_of_long ha (by decide))
    · exact not_long_s a b w hE hT hM hN ha hb (no_of_long ha (by decide)) (no_of_long ha (by decide))
  · cases hk : knownP a.data.toList with
    | true =>
      have h33 := no_of_known hk (l := [33]) (by decide)
      have h40 := no_of_known hk (l := [40]) (by decide)
      cases hz : a.data.toList.isEmpty with
      | true =>
        by_cases hb : 1024 < b.size
        · exact not_op_l_t a b w hE hT hM hN ha hk hb h33 h40 hz
        · exact not_op_s_t a b w hE hT hM hN ha hk hb h33 h40 hz
      | false =>
        by_cases hb : 1024 < b.size
        · exact not_op_l_f a b w hE hT hM hN ha hk hb h33 h40 hz
        · exact not_op_s_f a b w hE hT hM hN ha hk hb h33 h40 hz
    | false =>
      by_cases h33 : (a.toList == [33]) = true
      · cases hz : a.data.toList.isEmpty with
        | true => exact not_33_t a b w hE hT hM hN ha hk h33 hz
        | false => exact not_33_f a b w hE hT hM hN ha hk h33 hz
      have h33' : (a.toList == [33]) = false := by simpa using h33
      by_cases h40 : (a.toList == [40]) = true
      · cases hz : a.data.toList.isEmpty with
        | true => exact not_40_t a b w hE hT hM hN ha hk h33' h40 hz
        | false => exact not_40_f a b w hE hT hM hN ha hk h33' h40 hz
      have h40' : (a.toList == [40]) = false := by simpa using h40
      by_cases hb : 1024 < b.size
      · cases hz : a.data.toList.isEmpty with
        | true => exact not_pl_l_t a b w hE hT hM hN ha hk hb h33' h40' hz
        | false => exact not_pl_l_f a b w hE hT hM hN ha hk hb h33' h40' hz
      · rcases two_out a.data.toList b.data.toList (by rw [← Lib.toList_data]; exact h33') with ⟨x, hx⟩ | ⟨p, hx⟩
        · cases hz : a.data.toList.isEmpty <;> cases x
          · exact not_v_f_f a b w hE hT hM hN ha hk hb h33' h40' hz hx
          · exact not_v_f_t a b w hE hT hM hN ha hk hb h33' h40' hz hx
          · exact not_v_t_f a b w hE hT hM hN ha hk hb h33' h40' hz hx
          · exact not_v_t_t a b w hE hT hM hN ha hk hb h33' h40' hz hx
        · cases hz : a.data.toList.isEmpty with
          | true => exact not_e_t a b w hE hT hM hN ha hk hb h33' h40' hz p hx
          | false => exact not_e_f a b w hE hT hM hN ha hk hb h33' h40' hz p hx
end Go.Proofs.YtfnaooplpofgiaaGreatDoor
