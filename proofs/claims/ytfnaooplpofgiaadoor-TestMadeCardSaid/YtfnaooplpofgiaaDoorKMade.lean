/- The walk over TestMade: what is made is there; what is taken away is not. Conditions: the errors' variables hold their values; the library's variable of lengths a number. -/
import Derived.Test.YtfnaooplpofgiaaDoorKRm
import Derived.Test.YtfnaooplpofgiaaDoorKAwk
import Derived.WalkMore
import Derived.OwnWalk
import Derived.Handy
import Derived.Outline
namespace Go.Proofs.YtfnaooplpofgiaaDoor
open Go Go.RowKit SN

theorem find_x {T : Nat → Option Nd} {r : Nat} {nd : Nd} (hT : T r = some nd) (hd : nd.dir = true) {p x : List UInt8} (hcl : cleanP p = some [x]) : findP T r p = .inr (some r, x, lookE nd.ents x) := by
  unfold findP
  rw [hcl]
  show (match walkT T none [] (some r) [x] with | none => Sum.inl 16 | some x => Sum.inr x) = _
  rw [walk_dir hT hd]
  rfl
/-- Where a path leads in a tree of a root alone. -/
theorem find_one {T : Nat → Option Nd} {r : Nat} {nd : Nd} (hT : T r = some nd) (hd : nd.dir = true) (he : nd.ents = []) (p : List UInt8) : (∃ c, findP T r p = .inl c) ∨ findP T r p = .inr (none, [], some r) ∨ ∃ x, cleanP p = some [x] := by
  cases hc : cleanP p with
  | none => exact .inl ⟨15, by unfold findP; rw [hc]⟩
  | some L =>
    match L with
    | [] => exact .inr (.inl (by unfold findP; rw [hc]; rfl))
    | [x] => exact .inr (.inr ⟨x, rfl⟩)
    | x :: y :: l =>
      refine .inl ⟨16, ?_⟩
      unfold findP
      rw [hc]
      show (match walkT T none [] (some r) (x :: y :: l) with | none => Sum.inl 16 | some x => Sum.inr x) = _
      rw [walk_dir hT hd, show lookE nd.ents x = none by rw [he]; rfl, walk_none]
theorem clean_len {p : List UInt8} {L : List (List UInt8)} (h : cleanP p = some L) : p.length ≤ 256 := by
  unfold cleanP at h
  split at h
  · cases h
  · next hn => exact Nat.le_of_not_lt fun h => hn (.inr (.inl h))
theorem Eval2_tree (a b : ByteArray) (tv : Value) (x : Bool) (w : World) (ha : a.size ≤ 1024) (hb : b.size ≤ 1024) (h33 : (a.toList == [33]) = false)
    (hC : ∀ W, Below w.heap.size w W → w.heap.size ≤ W.heap.size → Calls Tryd.prog 27 #[.string a, .string b, tv] W fun e w' => e = .returned (.tuple #[.bool x, .bool true]) ∧ Below W.heap.size W w') :
    Calls Tryd.prog 7 #[.slice (some ⟨w.heap.size, 0, none⟩) 2 2, tv] (w.alloc (.cells #[.string a, .string b] 9)) fun e w' => e = .returned (.tuple #[.bool x, .nilIface]) ∧ Below w.heap.size w w' := by
  have h := rw2 a b w
  have b0 : Below w.heap.size w (w.alloc (.cells #[.string a, .string b] 9)) := (Below.refl _ _).alloc (Nat.le_refl _) _
  have h1 := eval2_ok w.heap.size 0 2 tv a b x (w.alloc (.cells #[.string a, .string b] 9)) h.1 h33 (h.2 0 a rfl) (h.2 1 b rfl) (fun W hW hz => hC W (b0.trans (hW.mono (by simp))) (by simp at hz; omega))
  have h2 := Eval_ok w.heap.size 2 tv [a, b] x (w.alloc (.cells #[.string a, .string b] 9)) h (by simp) (by simp [ha, hb]) h1
  exact h2.mono fun e w' ⟨e1, e2⟩ => ⟨e1, b0.trans (e2.mono (by simp))⟩
set_option maxHeartbeats 1000000 in
set_option maxRecDepth 100000 in
/-- The law's inner function: what one operator tells of the path. -/
theorem madeF_any (op path : ByteArray) (tv : Value) (x : Bool) (B3 B7 : Nat) (w : World) (ho : op.size ≤ 1024) (hp : path.size ≤ 1024) (h33 : (op.toList == [33]) = false) (c3 : w.cell? ⟨B3, 0, none⟩ = some (.string path)) (c7 : w.cell? ⟨B7, 0, none⟩ = some tv)
    (hC : ∀ W, Below w.heap.size w W → w.heap.size ≤ W.heap.size → Calls Tryd.prog 27 #[.string op, .string path, tv] W fun e w' => e = .returned (.tuple #[.bool x, .bool true]) ∧ Below W.heap.size W w') :
    Calls Tryd.prog 13 #[.string op, .pointer (some ⟨B3, 0, none⟩), .pointer (some ⟨B7, 0, none⟩)] w fun e w' => e = .returned (.bool x) ∧ Below w.heap.size w w' := by
  have hE := Lib.hid (Eval2_tree op path tv x w ho hp h33 hC)
  have hb7 : B7 < w.heap.size := World.block_lt_of_cell? w _ c7
  have c7' : (w.alloc (.cells #[.string op, .string path] 9)).cell? ⟨B7, 0, none⟩ = some tv := by rw [World.cell?_alloc_lt _ _ ⟨B7, 0, none⟩ hb7]; exact c7
  clear hC c7
  go_enter Tryd.func13, Tryd.ntmps13
  go_wp2_with fail
  refine hE.out.mono ?_
  rintro e w1 ⟨rfl, b1⟩
  cases x
  · go_wp2_with fail
    go_ret
    exact ⟨rfl, b1⟩
  · go_wp2_with fail
    go_ret
    exact ⟨rfl, b1⟩
theorem is_any {N : Nat} {E : Nat → Addr} {t r : Nat} {T : Nat → Option Nd} (op path : ByteArray) (x : Bool) (B3 B7 : Nat) (w : World) (hE : Errs N E w) (hM : MaxL N w) (hN : N ≤ w.heap.size) (hTr : IsTr w t r T) (ho : op.size ≤ 1024) (hp : path.size ≤ 1024) (h33 : (op.toList == [33]) = false)
    (r3 : w.heap[B3]? = some (.cells #[.string path] 9 (0, 0))) (r7 : w.heap[B7]? = some (.cells #[.pointer (some ⟨t, 0, none⟩)] 33 (0, 0))) (hx : unP (statP T r path.data.toList) op.data.toList path.data.toList = some x) :
    Calls Tryd.prog 13 #[.string op, .pointer (some ⟨B3, 0, none⟩), .pointer (some ⟨B7, 0, none⟩)] w fun e w' => e = .returned (.bool x) ∧ Below w.heap.size w w' :=
  madeF_any op path _ x B3 B7 w ho hp h33 (row_cell r3 rfl) (row_cell r7 rfl) fun V hV _ => by
    have hS := stat_any (E := E) path V (hE.below hV hN) (hM.below hV hN) (Nat.le_trans hN hV.size) (hTr.below hV)
    have hu := unary_any (some ⟨t, 0, none⟩) op path _ (fun _ => by simp) V hS
    rw [hx] at hu
    exact hu
/-- A block that is no part of the tree of one entry. -/
def T4_none (r m0 n : Nat) (nm : ByteArray) (kd : Nd) (k : Nat) : Prop := addT (oneT r m0) r n nm kd k = none ∧ ∀ B nd, addT (oneT r m0) r n nm kd B = some nd → nd.dir = true → nd.mp ≠ k
theorem t4_none {r m0 n k : Nat} {nm : ByteArray} {kd : Nd} (h1 : k ≠ r ∧ m0 ≠ k) (h2 : k ≠ n) (h3 : kd.dir = true → kd.mp ≠ k) : T4_none r m0 n nm kd k := by
  refine ⟨?_, fun B nd hB hd => ?_⟩
  · rw [addT_old _ h2 h1.1]; unfold oneT; rw [if_neg h1.1]
  · by_cases e1 : B = n
    · subst e1; rw [addT_new] at hB; cases hB; exact h3 hd
    · by_cases e2 : B = r
      · subst e2; rw [addT_dir (oneT_at _ _) e1] at hB; cases hB; exact h1.2
      · rw [addT_old _ e1 e2] at hB; exact absurd (oneT_inv hB).1 e2
set_option maxHeartbeats 4000000 in
set_option maxRecDepth 100000 in
theorem made_dir {N : Nat} {E : Nat → Addr} (path data : ByteArray) (p : Option Addr) (cap : Nat) (w : World) (hE : Errs N E w) (hM : MaxL N w) (hN : N ≤ w.heap.size) (hds : data.size ≤ 1000) :
    Calls Tryd.prog 5 #[.string path, .slice p data.size cap, .bool true] w fun e w' => e = .returned (.bool true) ∧ Below w.heap.size w w' := by
  have hE' := Lib.hid hE
  have hM' := Lib.hid hM
  have hdI : ¬ (1000 : Int) < (data.size : Int) := by omega
  clear hE hM
  go_enter Tryd.func5, Tryd.ntmps5
  go_wp2_with fail
  refine (new_any _).mono ?_
  rintro e w2 ⟨rfl, hT, bN⟩
  rw [World.size_alloc] at hT bN ⊢
  have z2 := bN.size
  rw [World.size_alloc] at z2
  have rp := row_below (heap_alloc_new w (.cells #[.string path] 9)) bN (by omega)
  have b3 := Lib.hid ((((Below.refl w.heap.size w).alloc (Nat.le_refl _) (.cells #[.string path] 9)).trans (bN.mono (by omega))).alloc (by omega) (.cells #[.pointer (some ⟨w.heap.size + 1 + 2, 0, none⟩)] 33))
  have c3 := Lib.hid (hT.below ((Below.refl w2.heap.size w2).alloc (Nat.le_refl _) (.cells #[.pointer (some ⟨w.heap.size + 1 + 2, 0, none⟩)] 33)))
  have t3 := Lib.hid (IsTc.tr c3.out)
  have r33 := Lib.hid (row_alloc rp (.cells #[.pointer (some ⟨w.heap.size + 1 + 2, 0, none⟩)] 33))
  have r73 := Lib.hid (heap_alloc_new w2 (.cells #[.pointer (some ⟨w.heap.size + 1 + 2, 0, none⟩)] 33))
  have k3 : (w2.alloc (.cells #[.pointer (some ⟨w.heap.size + 1 + 2, 0, none⟩)] 33)).cell? ⟨w.heap.size, 0, none⟩ = some (.string path) := row_cell r33.out rfl
  have z3 : w2.heap.size < (w2.alloc (.cells #[.pointer (some ⟨w.heap.size + 1 + 2, 0, none⟩)] 33)).heap.size := by simp
  have hq0 : (some ⟨w.heap.size, 0, none⟩ : Option Addr) = some ⟨w.heap.size, 0, none⟩ := rfl
  have htT : w.heap.size + 1 + 2 < w2.heap.size := by
    obtain ⟨q, hq⟩ := hT.top
    exact row_lt hq
  clear hT bN rp hq0
  go_wp2_with fail
  generalize hW3 : w2.alloc (.cells #[.pointer (some ⟨w.heap.size + 1 + 2, 0, none⟩)] 33) = w3 at b3 c3 t3 r33 r73 k3 z3
  have hE3 := hE'.out.below b3.out hN
  have hM3 := hM'.out.below b3.out hN
  have hroot := oneT_at (w.heap.size + 1 + 1) (w.heap.size + 1)
  rcases find_one hroot rfl rfl path.data.toList with ⟨c, hf⟩ | hf | ⟨x, hcl⟩
  · refine (mkdir_err (E := E) _ path c _ (by have := find_any (E := E) path w3 hE3 hM3 (by omega) t3.out; rw [hf] at this; exact this)).mono ?_
    rintro e w4 ⟨u, rfl, bq⟩
    have b4 := b3.out.trans (bq.mono (by omega))
    have z4 := bq.size
    clear bq hE3 hM3
    go_wp2_with fail
    refine (awake18_any w4).mono ?_
    rintro e wz ⟨rfl, bz⟩
    have bf := b4.trans (bz.mono (by omega))
    clear bz
    go_wp2_with fail
    go_ret
    exact ⟨rfl, bf⟩
  · refine (mkdir_there (E := E) _ path _ _ _ _ hE3 (by omega) (by have := find_any (E := E) path w3 hE3 hM3 (by omega) t3.out; rw [hf] at this; exact this)).mono ?_
    rintro e w4 ⟨u, rfl, bq⟩
    have b4 := b3.out.trans (bq.mono (by omega))
    have z4 := bq.size
    clear bq hE3 hM3
    go_wp2_with fail
    refine (awake18_any w4).mono ?_
    rintro e wz ⟨rfl, bz⟩
    have bf := b4.trans (bz.mono (by omega))
    clear bz
    go_wp2_with fail
    go_ret
    exact ⟨rfl, bf⟩
  · have hpz : path.size ≤ 1024 := by have := clean_len hcl; simp at this; omega
    have hxb : x = (⟨x.toArray⟩ : ByteArray).data.toList := by simp
    have hfx := find_x hroot rfl hcl
    rw [hxb] at hfx hcl
    generalize (⟨x.toArray⟩ : ByteArray) = nm at hfx hcl
    refine (mkdir_new (E := E) path nm w3 hE3 hM3 (by omega) c3.out (by omega) (by decide) hfx hroot rfl rfl).mono ?_
    rintro e w4 ⟨rfl, n, m, hn1, hm1, hc4, bb4, f4⟩
    have z4 : w2.heap.size < w4.heap.size := by
      have := (hc4.nds n _ (addT_new _ _ _ _ _)).lt
      omega
    have b4 := Lib.hid (b3.out.trans (bb4.mono (by omega)))
    have r34 := Lib.hid (row_below r33.out bb4 (by omega))
    have r74 := Lib.hid ((f4 w2.heap.size z3 (by omega) (by unfold oneT; rw [if_neg (by omega)]) (fun B nd hB _ => by obtain ⟨rfl, rfl⟩ := oneT_inv hB; show w.heap.size + 1 ≠ w2.heap.size; omega)).trans r73.out)
    have c4 := Lib.hid hc4
    have t4 := Lib.hid hc4.tr
    have hD4 : addT (oneT (w.heap.size + 1 + 1) (w.heap.size + 1)) (w.heap.size + 1 + 1) n nm ⟨true, 0, m, []⟩ (w.heap.size + 1 + 1) = some ⟨true, 0, w.heap.size + 1, [(nm, n)]⟩ := addT_dir hroot (by omega) _ _
    have hst : statP (addT (oneT (w.heap.size + 1 + 1) (w.heap.size + 1)) (w.heap.size + 1 + 1) n nm ⟨true, 0, m, []⟩) (w.heap.size + 1 + 1) path.data.toList = some (true, 0) := by
      unfold statP
      rw [find_x hD4 rfl hcl, show lookE [(nm, n)] nm.data.toList = some n by unfold lookE; rw [List.find?_cons_of_pos (by simp)]; rfl]
      show (addT _ _ _ _ _ n).map _ = _
      rw [addT_new]
      rfl
    clear bb4 f4 hc4 hE3 hM3 hW3
    have hnw : w2.heap.size < n := by omega
    have hrem : T4_none (w.heap.size + 1 + 1) (w.heap.size + 1) n nm ⟨true, 0, m, []⟩ w2.heap.size := t4_none ⟨by omega, by omega⟩ (by omega) (by intro _; show m ≠ w2.heap.size; omega)
    have hrem' := Lib.hid hrem
    clear hrem
    go_wp2_with fail
    refine (is_any (E := E) ⟨#[45, 101]⟩ path true w.heap.size w2.heap.size w4 (hE'.out.below b4.out hN) (hM'.out.below b4.out hN) (by omega) t4.out (by decide) hpz (by decide +kernel) r34.out r74.out (by rw [hst]; rfl)).mono ?_
    rintro e w5 ⟨rfl, bq⟩
    have b5 := Lib.hid (b4.out.trans (bq.mono (by omega)))
    have r35 := Lib.hid (row_below r34.out bq (by omega))
    have r75 := Lib.hid (row_below r74.out bq (row_lt r74.out))
    have t5 := Lib.hid (IsTr.below t4.out bq)
    have c5 := Lib.hid (IsTc.below c4.out bq)
    have z5 : w2.heap.size < w5.heap.size := row_lt r75.out
    clear bq
    go_wp2_with fail
    refine (is_any (E := E) ⟨#[45, 102]⟩ path false w.heap.size w2.heap.size w5 (hE'.out.below b5.out hN) (hM'.out.below b5.out hN) (by omega) t5.out (by decide) hpz (by decide +kernel) r35.out r75.out (by rw [hst]; rfl)).mono ?_
    rintro e w6 ⟨rfl, bq⟩
    have b6 := Lib.hid (b5.out.trans (bq.mono (by omega)))
    have r36 := Lib.hid (row_below r35.out bq (by omega))
    have r76 := Lib.hid (row_below r75.out bq (row_lt r75.out))
    have t6 := Lib.hid (IsTr.below t5.out bq)
    have c6 := Lib.hid (IsTc.below c5.out bq)
    have z6 : w2.heap.size < w6.heap.size := row_lt r76.out
    clear bq
    go_wp2_with fail
    refine (is_any (E := E) ⟨#[45, 100]⟩ path true w.heap.size w2.heap.size w6 (hE'.out.below b6.out hN) (hM'.out.below b6.out hN) (by omega) t6.out (by decide) hpz (by decide +kernel) r36.out r76.out (by rw [hst]; rfl)).mono ?_
    rintro e w7 ⟨rfl, bq⟩
    have b7 := Lib.hid (b6.out.trans (bq.mono (by omega)))
    have r37 := Lib.hid (row_below r36.out bq (by omega))
    have r77 := Lib.hid (row_below r76.out bq (row_lt r76.out))
    have t7 := Lib.hid (IsTr.below t6.out bq)
    have c7 := Lib.hid (IsTc.below c6.out bq)
    have z7 : w2.heap.size < w7.heap.size := row_lt r77.out
    clear bq
    go_wp2_with fail
    refine (is_any (E := E) ⟨#[45, 115]⟩ path false w.heap.size w2.heap.size w7 (hE'.out.below b7.out hN) (hM'.out.below b7.out hN) (by omega) t7.out (by decide) hpz (by decide +kernel) r37.out r77.out (by rw [hst]; rfl)).mono ?_
    rintro e w8 ⟨rfl, bq⟩
    have b8 := Lib.hid (b7.out.trans (bq.mono (by omega)))
    have r38 := Lib.hid (row_below r37.out bq (by omega))
    have r78 := Lib.hid (row_below r77.out bq (row_lt r77.out))
    have t8 := Lib.hid (IsTr.below t7.out bq)
    have c8 := Lib.hid (IsTc.below c7.out bq)
    have z8 : w2.heap.size < w8.heap.size := row_lt r78.out
    clear bq
    have k78 : w8.cell? ⟨w2.heap.size, 0, none⟩ = some (.pointer (some ⟨w.heap.size + 1 + 2, 0, none⟩)) := row_cell r78.out rfl
    have k38 : w8.cell? ⟨w.heap.size, 0, none⟩ = some (.string path) := row_cell r38.out rfl
    go_wp2_with fail
    have hF8 := find_any (E := E) path w8 (hE'.out.below b8.out hN) (hM'.out.below b8.out hN) (by omega) t8.out
    rw [find_x hD4 rfl hcl, show lookE [(nm, n)] nm.data.toList = some n by unfold lookE; rw [List.find?_cons_of_pos (by simp)]; rfl] at hF8
    have hF8' : Calls Tryd.prog 18 #[.pointer (some ⟨w.heap.size + 1 + 2, 0, none⟩), .string path] w8 fun e w' => Below w8.heap.size w8 w' ∧ e = .returned (.tuple #[.agg (spC (some ⟨w.heap.size + 1 + 1, 0, none⟩) nm (some ⟨n, 0, none⟩)), .nilIface]) := hF8.mono fun e w' ⟨a, b⟩ => ⟨a, by rw [← bytes_id nm]; exact b⟩
    refine (remove_dir path nm w8 c8.out (by omega) (by decide) (by decide) hF8' hD4 rfl rfl (addT_new _ _ _ _ _) rfl rfl).mono ?_
    rintro e w9 ⟨rfl, ⟨cc, hc9⟩, bb9, f9⟩
    have b9 := Lib.hid (b8.out.trans (bb9.mono (by omega)))
    have r39 := Lib.hid (row_below r38.out bb9 (by omega))
    have r79 := Lib.hid ((f9 w2.heap.size z8 (by omega) hrem'.out.1 hrem'.out.2).trans r78.out)
    have z9 : w2.heap.size < w9.heap.size := row_lt r79.out
    have t9 := Lib.hid hc9.tr
    have c9 := Lib.hid hc9
    have hst9 : statP (cutT (addT (oneT (w.heap.size + 1 + 1) (w.heap.size + 1)) (w.heap.size + 1 + 1) n nm ⟨true, 0, m, []⟩) (w.heap.size + 1 + 1) ⟨true, 0, w.heap.size + 1, [(nm, n)]⟩) (w.heap.size + 1 + 1) path.data.toList = none := by
      unfold statP
      rw [find_x (nd := ⟨true, 0, w.heap.size + 1, []⟩) (by unfold cutT; rw [if_pos rfl]) rfl hcl]
      rfl
    clear bb9 f9 hc9 hF8 hF8'
    go_wp2_with fail
    refine (is_any (E := E) ⟨#[45, 101]⟩ path false w.heap.size w2.heap.size w9 (hE'.out.below b9.out hN) (hM'.out.below b9.out hN) (by omega) t9.out (by decide) hpz (by decide +kernel) r39.out r79.out (by rw [hst9]; rfl)).mono ?_
    rintro e w10 ⟨rfl, bq⟩
    have b10 := Lib.hid (b9.out.trans (bq.mono (by omega)))
    have r310 := Lib.hid (row_below r39.out bq (by omega))
    have r710 := Lib.hid (row_below r79.out bq (row_lt r79.out))
    have t10 := Lib.hid (IsTr.below t9.out bq)
    have c10 := Lib.hid (IsTc.below c9.out bq)
    have z10 : w2.heap.size < w10.heap.size := row_lt r710.out
    clear bq
    go_wp2_with fail
    refine (is_any (E := E) ⟨#[45, 102]⟩ path false w.heap.size w2.heap.size w10 (hE'.out.below b10.out hN) (hM'.out.below b10.out hN) (by omega) t10.out (by decide) hpz (by decide +kernel) r310.out r710.out (by rw [hst9]; rfl)).mono ?_
    rintro e w11 ⟨rfl, bq⟩
    have b11 := Lib.hid (b10.out.trans (bq.mono (by omega)))
    have r311 := Lib.hid (row_below r310.out bq (by omega))
    have r711 := Lib.hid (row_below r710.out bq (row_lt r710.out))
    have t11 := Lib.hid (IsTr.below t10.out bq)
    have c11 := Lib.hid (IsTc.below c10.out bq)
    have z11 : w2.heap.size < w11.heap.size := row_lt r711.out
    clear bq
    go_wp2_with fail
    refine (is_any (E := E) ⟨#[45, 100]⟩ path false w.heap.size w2.heap.size w11 (hE'.out.below b11.out hN) (hM'.out.below b11.out hN) (by omega) t11.out (by decide) hpz (by decide +kernel) r311.out r711.out (by rw [hst9]; rfl)).mono ?_
    rintro e w12 ⟨rfl, bq⟩
    have b12 := Lib.hid (b11.out.trans (bq.mono (by omega)))
    have r312 := Lib.hid (row_below r311.out bq (by omega))
    have r712 := Lib.hid (row_below r711.out bq (row_lt r711.out))
    have t12 := Lib.hid (IsTr.below t11.out bq)
    have c12 := Lib.hid (IsTc.below c11.out bq)
    have z12 : w2.heap.size < w12.heap.size := row_lt r712.out
    clear bq
    go_wp2_with fail
    refine (is_any (E := E) ⟨#[45, 115]⟩ path false w.heap.size w2.heap.size w12 (hE'.out.below b12.out hN) (hM'.out.below b12.out hN) (by omega) t12.out (by decide) hpz (by decide +kernel) r312.out r712.out (by rw [hst9]; rfl)).mono ?_
    rintro e w13 ⟨rfl, bq⟩
    have b13 := Lib.hid (b12.out.trans (bq.mono (by omega)))
    have r313 := Lib.hid (row_below r312.out bq (by omega))
    have r713 := Lib.hid (row_below r712.out bq (row_lt r712.out))
    have t13 := Lib.hid (IsTr.below t12.out bq)
    have c13 := Lib.hid (IsTc.below c12.out bq)
    have z13 : w2.heap.size < w13.heap.size := row_lt r713.out
    clear bq
    go_wp2_with fail
    refine (awake18_any w13).mono ?_
    rintro e wz ⟨rfl, bz⟩
    have bf := b13.out.trans (bz.mono (by omega))
    clear bz
    go_wp2_with fail
    go_ret
    exact ⟨rfl, bf⟩
set_option maxHeartbeats 4000000 in
set_option maxRecDepth 100000 in
theorem made_some {N : Nat} {E : Nat → Addr} (path data : ByteArray) (p : Option Addr) (cap : Nat) (w : World) (hE : Errs N E w) (hM : MaxL N w) (hN : N ≤ w.heap.size) (hds : data.size ≤ 1000) (hS : HasB w p data) (hnil : p = none → cap = 0) (hcap : data.size ≤ cap) (hpos : 0 < data.size) :
    Calls Tryd.prog 5 #[.string path, .slice p data.size cap, .bool false] w fun e w' => e = .returned (.bool true) ∧ Below w.heap.size w w' := by
  have hE' := Lib.hid hE
  have hM' := Lib.hid hM
  have hdI : ¬ (1000 : Int) < (data.size : Int) := by omega
  have hS' := Lib.hid hS
  clear hS
  have hpI : (0 : Int) < (data.size : Int) := by omega
  clear hE hM
  go_enter Tryd.func5, Tryd.ntmps5
  go_wp2_with fail
  refine (new_any _).mono ?_
  rintro e w2 ⟨rfl, hT, bN⟩
  rw [World.size_alloc] at hT bN ⊢
  have z2 := bN.size
  rw [World.size_alloc] at z2
  have rp := row_below (heap_alloc_new w (.cells #[.string path] 9)) bN (by omega)
  have b3 := Lib.hid ((((Below.refl w.heap.size w).alloc (Nat.le_refl _) (.cells #[.string path] 9)).trans (bN.mono (by omega))).alloc (by omega) (.cells #[.pointer (some ⟨w.heap.size + 1 + 2, 0, none⟩)] 33))
  have c3 := Lib.hid (hT.below ((Below.refl w2.heap.size w2).alloc (Nat.le_refl _) (.cells #[.pointer (some ⟨w.heap.size + 1 + 2, 0, none⟩)] 33)))
  have t3 := Lib.hid (IsTc.tr c3.out)
  have r33 := Lib.hid (row_alloc rp (.cells #[.pointer (some ⟨w.heap.size + 1 + 2, 0, none⟩)] 33))
  have r73 := Lib.hid (heap_alloc_new w2 (.cells #[.pointer (some ⟨w.heap.size + 1 + 2, 0, none⟩)] 33))
  have k3 : (w2.alloc (.cells #[.pointer (some ⟨w.heap.size + 1 + 2, 0, none⟩)] 33)).cell? ⟨w.heap.size, 0, none⟩ = some (.string path) := row_cell r33.out rfl
  have z3 : w2.heap.size < (w2.alloc (.cells #[.pointer (some ⟨w.heap.size + 1 + 2, 0, none⟩)] 33)).heap.size := by simp
  have hq0 : (some ⟨w.heap.size, 0, none⟩ : Option Addr) = some ⟨w.heap.size, 0, none⟩ := rfl
  have htT : w.heap.size + 1 + 2 < w2.heap.size := by
    obtain ⟨q, hq⟩ := hT.top
    exact row_lt hq
  clear hT bN rp hq0
  go_wp2_with fail
  generalize hW3 : w2.alloc (.cells #[.pointer (some ⟨w.heap.size + 1 + 2, 0, none⟩)] 33) = w3 at b3 c3 t3 r33 r73 k3 z3
  have hE3 := hE'.out.below b3.out hN
  have hM3 := hM'.out.below b3.out hN
  have hS3 := hS'.out.below b3.out (Nat.le_refl _)
  have hroot := oneT_at (w.heap.size + 1 + 1) (w.heap.size + 1)
  rcases find_one hroot rfl rfl path.data.toList with ⟨c, hf⟩ | hf | ⟨x, hcl⟩
  · refine (write_err _ _ path _ (put_err (E := E) _ _ path c _ (by have := find_any (E := E) path w3 hE3 hM3 (by omega) t3.out; rw [hf] at this; exact this))).mono ?_
    rintro e w4 ⟨u, rfl, bq⟩
    have b4 := b3.out.trans (bq.mono (by omega))
    have z4 := bq.size
    clear bq hE3 hM3 hS3
    go_wp2_with fail
    refine (awake18_any w4).mono ?_
    rintro e wz ⟨rfl, bz⟩
    have bf := b4.trans (bz.mono (by omega))
    clear bz
    go_wp2_with fail
    go_ret
    exact ⟨rfl, bf⟩
  · refine (write_err _ _ path _ (put_dir (E := E) _ path _ _ _ hE3 (by omega) t3.out hroot rfl (by have := find_any (E := E) path w3 hE3 hM3 (by omega) t3.out; rw [hf] at this; exact this))).mono ?_
    rintro e w4 ⟨u, rfl, bq⟩
    have b4 := b3.out.trans (bq.mono (by omega))
    have z4 := bq.size
    clear bq hE3 hM3 hS3
    go_wp2_with fail
    refine (awake18_any w4).mono ?_
    rintro e wz ⟨rfl, bz⟩
    have bf := b4.trans (bz.mono (by omega))
    clear bz
    go_wp2_with fail
    go_ret
    exact ⟨rfl, bf⟩
  · have hpz : path.size ≤ 1024 := by have := clean_len hcl; simp at this; omega
    have hxb : x = (⟨x.toArray⟩ : ByteArray).data.toList := by simp
    have hfx := find_x hroot rfl hcl
    rw [hxb] at hfx hcl
    generalize (⟨x.toArray⟩ : ByteArray) = nm at hfx hcl
    refine (write_new (E := E) path nm data p cap w3 hE3 hM3 (by omega) c3.out (by omega) (by decide) hS3 hnil hcap (by omega) hfx hroot rfl rfl).mono ?_
    rintro e w4 ⟨n, rfl, hn1, hc4, bb4, f4⟩
    have z4 : w2.heap.size < w4.heap.size := by
      have := (hc4.nds n _ (addT_new _ _ _ _ _)).lt
      omega
    have b4 := Lib.hid (b3.out.trans (bb4.mono (by omega)))
    have r34 := Lib.hid (row_below r33.out bb4 (by omega))
    have r74 := Lib.hid ((f4 w2.heap.size z3 (by omega) (by unfold oneT; rw [if_neg (by omega)]) (fun B nd hB _ => by obtain ⟨rfl, rfl⟩ := oneT_inv hB; show w.heap.size + 1 ≠ w2.heap.size; omega)).trans r73.out)
    have c4 := Lib.hid hc4
    have t4 := Lib.hid hc4.tr
    have hD4 : addT (oneT (w.heap.size + 1 + 1) (w.heap.size + 1)) (w.heap.size + 1 + 1) n nm ⟨false, data.size, 0, []⟩ (w.heap.size + 1 + 1) = some ⟨true, 0, w.heap.size + 1, [(nm, n)]⟩ := addT_dir hroot (by omega) _ _
    have hst : statP (addT (oneT (w.heap.size + 1 + 1) (w.heap.size + 1)) (w.heap.size + 1 + 1) n nm ⟨false, data.size, 0, []⟩) (w.heap.size + 1 + 1) path.data.toList = some (false, data.size) := by
      unfold statP
      rw [find_x hD4 rfl hcl, show lookE [(nm, n)] nm.data.toList = some n by unfold lookE; rw [List.find?_cons_of_pos (by simp)]; rfl]
      show (addT _ _ _ _ _ n).map _ = _
      rw [addT_new]
      rfl
    clear bb4 f4 hc4 hE3 hM3 hS3 hW3
    have hnw : w2.heap.size < n := by omega
    have hrem : T4_none (w.heap.size + 1 + 1) (w.heap.size + 1) n nm ⟨false, data.size, 0, []⟩ w2.heap.size := t4_none ⟨by omega, by omega⟩ (by omega) (by intro hx; cases hx)
    have hrem' := Lib.hid hrem
    clear hrem
    go_wp2_with fail
    refine (is_any (E := E) ⟨#[45, 101]⟩ path true w.heap.size w2.heap.size w4 (hE'.out.below b4.out hN) (hM'.out.below b4.out hN) (by omega) t4.out (by decide) hpz (by decide +kernel) r34.out r74.out (by rw [hst]; rfl)).mono ?_
    rintro e w5 ⟨rfl, bq⟩
    have b5 := Lib.hid (b4.out.trans (bq.mono (by omega)))
    have r35 := Lib.hid (row_below r34.out bq (by omega))
    have r75 := Lib.hid (row_below r74.out bq (row_lt r74.out))
    have t5 := Lib.hid (IsTr.below t4.out bq)
    have c5 := Lib.hid (IsTc.below c4.out bq)
    have z5 : w2.heap.size < w5.heap.size := row_lt r75.out
    clear bq
    go_wp2_with fail
    refine (is_any (E := E) ⟨#[45, 102]⟩ path true w.heap.size w2.heap.size w5 (hE'.out.below b5.out hN) (hM'.out.below b5.out hN) (by omega) t5.out (by decide) hpz (by decide +kernel) r35.out r75.out (by rw [hst]; rfl)).mono ?_
    rintro e w6 ⟨rfl, bq⟩
    have b6 := Lib.hid (b5.out.trans (bq.mono (by omega)))
    have r36 := Lib.hid (row_below r35.out bq (by omega))
    have r76 := Lib.hid (row_below r75.out bq (row_lt r75.out))
    have t6 := Lib.hid (IsTr.below t5.out bq)
    have c6 := Lib.hid (IsTc.below c5.out bq)
    have z6 : w2.heap.size < w6.heap.size := row_lt r76.out
    clear bq
    go_wp2_with fail
    refine (is_any (E := E) ⟨#[45, 100]⟩ path false w.heap.size w2.heap.size w6 (hE'.out.below b6.out hN) (hM'.out.below b6.out hN) (by omega) t6.out (by decide) hpz (by decide +kernel) r36.out r76.out (by rw [hst]; rfl)).mono ?_
    rintro e w7 ⟨rfl, bq⟩
    have b7 := Lib.hid (b6.out.trans (bq.mono (by omega)))
    have r37 := Lib.hid (row_below r36.out bq (by omega))
    have r77 := Lib.hid (row_below r76.out bq (row_lt r76.out))
    have t7 := Lib.hid (IsTr.below t6.out bq)
    have c7 := Lib.hid (IsTc.below c6.out bq)
    have z7 : w2.heap.size < w7.heap.size := row_lt r77.out
    clear bq
    go_wp2_with fail
    refine (is_any (E := E) ⟨#[45, 115]⟩ path true w.heap.size w2.heap.size w7 (hE'.out.below b7.out hN) (hM'.out.below b7.out hN) (by omega) t7.out (by decide) hpz (by decide +kernel) r37.out r77.out (by rw [hst]; show some (decide (0 < data.size)) = _; rw [decide_eq_true hpos])).mono ?_
    rintro e w8 ⟨rfl, bq⟩
    have b8 := Lib.hid (b7.out.trans (bq.mono (by omega)))
    have r38 := Lib.hid (row_below r37.out bq (by omega))
    have r78 := Lib.hid (row_below r77.out bq (row_lt r77.out))
    have t8 := Lib.hid (IsTr.below t7.out bq)
    have c8 := Lib.hid (IsTc.below c7.out bq)
    have z8 : w2.heap.size < w8.heap.size := row_lt r78.out
    clear bq
    have k78 : w8.cell? ⟨w2.heap.size, 0, none⟩ = some (.pointer (some ⟨w.heap.size + 1 + 2, 0, none⟩)) := row_cell r78.out rfl
    have k38 : w8.cell? ⟨w.heap.size, 0, none⟩ = some (.string path) := row_cell r38.out rfl
    go_wp2_with fail
    have hF8 := find_any (E := E) path w8 (hE'.out.below b8.out hN) (hM'.out.below b8.out hN) (by omega) t8.out
    rw [find_x hD4 rfl hcl, show lookE [(nm, n)] nm.data.toList = some n by unfold lookE; rw [List.find?_cons_of_pos (by simp)]; rfl] at hF8
    have hF8' : Calls Tryd.prog 18 #[.pointer (some ⟨w.heap.size + 1 + 2, 0, none⟩), .string path] w8 fun e w' => Below w8.heap.size w8 w' ∧ e = .returned (.tuple #[.agg (spC (some ⟨w.heap.size + 1 + 1, 0, none⟩) nm (some ⟨n, 0, none⟩)), .nilIface]) := hF8.mono fun e w' ⟨a, b⟩ => ⟨a, by rw [← bytes_id nm]; exact b⟩
    refine (remove_file path nm w8 c8.out (by omega) (by decide) (by decide) hF8' hD4 rfl rfl (addT_new _ _ _ _ _) rfl).mono ?_
    rintro e w9 ⟨rfl, ⟨cc, hc9⟩, bb9, f9⟩
    have b9 := Lib.hid (b8.out.trans (bb9.mono (by omega)))
    have r39 := Lib.hid (row_below r38.out bb9 (by omega))
    have r79 := Lib.hid ((f9 w2.heap.size z8 (by omega) hrem'.out.1 hrem'.out.2).trans r78.out)
    have z9 : w2.heap.size < w9.heap.size := row_lt r79.out
    have t9 := Lib.hid hc9.tr
    have c9 := Lib.hid hc9
    have hst9 : statP (cutT (addT (oneT (w.heap.size + 1 + 1) (w.heap.size + 1)) (w.heap.size + 1 + 1) n nm ⟨false, data.size, 0, []⟩) (w.heap.size + 1 + 1) ⟨true, 0, w.heap.size + 1, [(nm, n)]⟩) (w.heap.size + 1 + 1) path.data.toList = none := by
      unfold statP
      rw [find_x (nd := ⟨true, 0, w.heap.size + 1, []⟩) (by unfold cutT; rw [if_pos rfl]) rfl hcl]
      rfl
    clear bb9 f9 hc9 hF8 hF8'
    go_wp2_with fail
    refine (is_any (E := E) ⟨#[45, 101]⟩ path false w.heap.size w2.heap.size w9 (hE'.out.below b9.out hN) (hM'.out.below b9.out hN) (by omega) t9.out (by decide) hpz (by decide +kernel) r39.out r79.out (by rw [hst9]; rfl)).mono ?_
    rintro e w10 ⟨rfl, bq⟩
    have b10 := Lib.hid (b9.out.trans (bq.mono (by omega)))
    have r310 := Lib.hid (row_below r39.out bq (by omega))
    have r710 := Lib.hid (row_below r79.out bq (row_lt r79.out))
    have t10 := Lib.hid (IsTr.below t9.out bq)
    have c10 := Lib.hid (IsTc.below c9.out bq)
    have z10 : w2.heap.size < w10.heap.size := row_lt r710.out
    clear bq
    go_wp2_with fail
    refine (is_any (E := E) ⟨#[45, 102]⟩ path false w.heap.size w2.heap.size w10 (hE'.out.below b10.out hN) (hM'.out.below b10.out hN) (by omega) t10.out (by decide) hpz (by decide +kernel) r310.out r710.out (by rw [hst9]; rfl)).mono ?_
    rintro e w11 ⟨rfl, bq⟩
    have b11 := Lib.hid (b10.out.trans (bq.mono (by omega)))
    have r311 := Lib.hid (row_below r310.out bq (by omega))
    have r711 := Lib.hid (row_below r710.out bq (row_lt r710.out))
    have t11 := Lib.hid (IsTr.below t10.out bq)
    have c11 := Lib.hid (IsTc.below c10.out bq)
    have z11 : w2.heap.size < w11.heap.size := row_lt r711.out
    clear bq
    go_wp2_with fail
    refine (is_any (E := E) ⟨#[45, 100]⟩ path false w.heap.size w2.heap.size w11 (hE'.out.below b11.out hN) (hM'.out.below b11.out hN) (by omega) t11.out (by decide) hpz (by decide +kernel) r311.out r711.out (by rw [hst9]; rfl)).mono ?_
    rintro e w12 ⟨rfl, bq⟩
    have b12 := Lib.hid (b11.out.trans (bq.mono (by omega)))
    have r312 := Lib.hid (row_below r311.out bq (by omega))
    have r712 := Lib.hid (row_below r711.out bq (row_lt r711.out))
    have t12 := Lib.hid (IsTr.below t11.out bq)
    have c12 := Lib.hid (IsTc.below c11.out bq)
    have z12 : w2.heap.size < w12.heap.size := row_lt r712.out
    clear bq
    go_wp2_with fail
    refine (is_any (E := E) ⟨#[45, 115]⟩ path false w.heap.size w2.heap.size w12 (hE'.out.below b12.out hN) (hM'.out.below b12.out hN) (by omega) t12.out (by decide) hpz (by decide +kernel) r312.out r712.out (by rw [hst9]; rfl)).mono ?_
    rintro e w13 ⟨rfl, bq⟩
    have b13 := Lib.hid (b12.out.trans (bq.mono (by omega)))
    have r313 := Lib.hid (row_below r312.out bq (by omega))
    have r713 := Lib.hid (row_below r712.out bq (row_lt r712.out))
    have t13 := Lib.hid (IsTr.below t12.out bq)
    have c13 := Lib.hid (IsTc.below c12.out bq)
    have z13 : w2.heap.size < w13.heap.size := row_lt r713.out
    clear bq
    go_wp2_with fail
    refine (awake18_any w13).mono ?_
    rintro e wz ⟨rfl, bz⟩
    have bf := b13.out.trans (bz.mono (by omega))
    clear bz
    go_wp2_with fail
    go_ret
    exact ⟨rfl, bf⟩
set_option maxHeartbeats 4000000 in
set_option maxRecDepth 100000 in
theorem made_none {N : Nat} {E : Nat → Addr} (path data : ByteArray) (p : Option Addr) (cap : Nat) (w : World) (hE : Errs N E w) (hM : MaxL N w) (hN : N ≤ w.heap.size) (hds : data.size ≤ 1000) (hS : HasB w p data) (hnil : p = none → cap = 0) (hcap : data.size ≤ cap) (hpos : ¬ 0 < data.size) :
    Calls Tryd.prog 5 #[.string path, .slice p data.size cap, .bool false] w fun e w' => e = .returned (.bool true) ∧ Below w.heap.size w w' := by
  have hE' := Lib.hid hE
  have hM' := Lib.hid hM
  have hdI : ¬ (1000 : Int) < (data.size : Int) := by omega
  have hS' := Lib.hid hS
  clear hS
  have hpI : ¬ (0 : Int) < (data.size : Int) := by omega
  clear hE hM
  go_enter Tryd.func5, Tryd.ntmps5
  go_wp2_with fail
  refine (new_any _).mono ?_
  rintro e w2 ⟨rfl, hT, bN⟩
  rw [World.size_alloc] at hT bN ⊢
  have z2 := bN.size
  rw [World.size_alloc] at z2
  have rp := row_below (heap_alloc_new w (.cells #[.string path] 9)) bN (by omega)
  have b3 := Lib.hid ((((Below.refl w.heap.size w).alloc (Nat.le_refl _) (.cells #[.string path] 9)).trans (bN.mono (by omega))).alloc (by omega) (.cells #[.pointer (some ⟨w.heap.size + 1 + 2, 0, none⟩)] 33))
  have c3 := Lib.hid (hT.below ((Below.refl w2.heap.size w2).alloc (Nat.le_refl _) (.cells #[.pointer (some ⟨w.heap.size + 1 + 2, 0, none⟩)] 33)))
  have t3 := Lib.hid (IsTc.tr c3.out)
  have r33 := Lib.hid (row_alloc rp (.cells #[.pointer (some ⟨w.heap.size + 1 + 2, 0, none⟩)] 33))
  have r73 := Lib.hid (heap_alloc_new w2 (.cells #[.pointer (some ⟨w.heap.size + 1 + 2, 0, none⟩)] 33))
  have k3 : (w2.alloc (.cells #[.pointer (some ⟨w.heap.size + 1 + 2, 0, none⟩)] 33)).cell? ⟨w.heap.size, 0, none⟩ = some (.string path) := row_cell r33.out rfl
  have z3 : w2.heap.size < (w2.alloc (.cells #[.pointer (some ⟨w.heap.size + 1 + 2, 0, none⟩)] 33)).heap.size := by simp
  have hq0 : (some ⟨w.heap.size, 0, none⟩ : Option Addr) = some ⟨w.heap.size, 0, none⟩ := rfl
  have htT : w.heap.size + 1 + 2 < w2.heap.size := by
    obtain ⟨q, hq⟩ := hT.top
    exact row_lt hq
  clear hT bN rp hq0
  go_wp2_with fail
  generalize hW3 : w2.alloc (.cells #[.pointer (some ⟨w.heap.size + 1 + 2, 0, none⟩)] 33) = w3 at b3 c3 t3 r33 r73 k3 z3
  have hE3 := hE'.out.below b3.out hN
  have hM3 := hM'.out.below b3.out hN
  have hS3 := hS'.out.below b3.out (Nat.le_refl _)
  have hroot := oneT_at (w.heap.size + 1 + 1) (w.heap.size + 1)
  rcases find_one hroot rfl rfl path.data.toList with ⟨c, hf⟩ | hf | ⟨x, hcl⟩
  · refine (write_err _ _ path _ (put_err (E := E) _ _ path c _ (by have := find_any (E := E) path w3 hE3 hM3 (by omega) t3.out; rw [hf] at this; exact this))).mono ?_
    rintro e w4 ⟨u, rfl, bq⟩
    have b4 := b3.out.trans (bq.mono (by omega))
    have z4 := bq.size
    clear bq hE3 hM3 hS3
    go_wp2_with fail
    refine (awake18_any w4).mono ?_
    rintro e wz ⟨rfl, bz⟩
    have bf := b4.trans (bz.mono (by omega))
    clear bz
    go_wp2_with fail
    go_ret
    exact ⟨rfl, bf⟩
  · refine (write_err _ _ path _ (put_dir (E := E) _ path _ _ _ hE3 (by omega) t3.out hroot rfl (by have := find_any (E := E) path w3 hE3 hM3 (by omega) t3.out; rw [hf] at this; exact this))).mono ?_
    rintro e w4 ⟨u, rfl, bq⟩
    have b4 := b3.out.trans (bq.mono (by omega))
    have z4 := bq.size
    clear bq hE3 hM3 hS3
    go_wp2_with fail
    refine (awake18_any w4).mono ?_
    rintro e wz ⟨rfl, bz⟩
    have bf := b4.trans (bz.mono (by omega))
    clear bz
    go_wp2_with fail
    go_ret
    exact ⟨rfl, bf⟩
  · have hpz : path.size ≤ 1024 := by have := clean_len hcl; simp at this; omega
    have hxb : x = (⟨x.toArray⟩ : ByteArray).data.toList := by simp
    have hfx := find_x hroot rfl hcl
    rw [hxb] at hfx hcl
    generalize (⟨x.toArray⟩ : ByteArray) = nm at hfx hcl
    refine (write_new (E := E) path nm data p cap w3 hE3 hM3 (by omega) c3.out (by omega) (by decide) hS3 hnil hcap (by omega) hfx hroot rfl rfl).mono ?_
    rintro e w4 ⟨n, rfl, hn1, hc4, bb4, f4⟩
    have z4 : w2.heap.size < w4.heap.size := by
      have := (hc4.nds n _ (addT_new _ _ _ _ _)).lt
      omega
    have b4 := Lib.hid (b3.out.trans (bb4.mono (by omega)))
    have r34 := Lib.hid (row_below r33.out bb4 (by omega))
    have r74 := Lib.hid ((f4 w2.heap.size z3 (by omega) (by unfold oneT; rw [if_neg (by omega)]) (fun B nd hB _ => by obtain ⟨rfl, rfl⟩ := oneT_inv hB; show w.heap.size + 1 ≠ w2.heap.size; omega)).trans r73.out)
    have c4 := Lib.hid hc4
    have t4 := Lib.hid hc4.tr
    have hD4 : addT (oneT (w.heap.size + 1 + 1) (w.heap.size + 1)) (w.heap.size + 1 + 1) n nm ⟨false, data.size, 0, []⟩ (w.heap.size + 1 + 1) = some ⟨true, 0, w.heap.size + 1, [(nm, n)]⟩ := addT_dir hroot (by omega) _ _
    have hst : statP (addT (oneT (w.heap.size + 1 + 1) (w.heap.size + 1)) (w.heap.size + 1 + 1) n nm ⟨false, data.size, 0, []⟩) (w.heap.size + 1 + 1) path.data.toList = some (false, data.size) := by
      unfold statP
      rw [find_x hD4 rfl hcl, show lookE [(nm, n)] nm.data.toList = some n by unfold lookE; rw [List.find?_cons_of_pos (by simp)]; rfl]
      show (addT _ _ _ _ _ n).map _ = _
      rw [addT_new]
      rfl
    clear bb4 f4 hc4 hE3 hM3 hS3 hW3
    have hnw : w2.heap.size < n := by omega
    have hrem : T4_none (w.heap.size + 1 + 1) (w.heap.size + 1) n nm ⟨false, data.size, 0, []⟩ w2.heap.size := t4_none ⟨by omega, by omega⟩ (by omega) (by intro hx; cases hx)
    have hrem' := Lib.hid hrem
    clear hrem
    go_wp2_with fail
    refine (is_any (E := E) ⟨#[45, 101]⟩ path true w.heap.size w2.heap.size w4 (hE'.out.below b4.out hN) (hM'.out.below b4.out hN) (by omega) t4.out (by decide) hpz (by decide +kernel) r34.out r74.out (by rw [hst]; rfl)).mono ?_
    rintro e w5 ⟨rfl, bq⟩
    have b5 := Lib.hid (b4.out.trans (bq.mono (by omega)))
    have r35 := Lib.hid (row_below r34.out bq (by omega))
    have r75 := Lib.hid (row_below r74.out bq (row_lt r74.out))
    have t5 := Lib.hid (IsTr.below t4.out bq)
    have c5 := Lib.hid (IsTc.below c4.out bq)
    have z5 : w2.heap.size < w5.heap.size := row_lt r75.out
    clear bq
    go_wp2_with fail
    refine (is_any (E := E) ⟨#[45, 102]⟩ path true w.heap.size w2.heap.size w5 (hE'.out.below b5.out hN) (hM'.out.below b5.out hN) (by omega) t5.out (by decide) hpz (by decide +kernel) r35.out r75.out (by rw [hst]; rfl)).mono ?_
    rintro e w6 ⟨rfl, bq⟩
    have b6 := Lib.hid (b5.out.trans (bq.mono (by omega)))
    have r36 := Lib.hid (row_below r35.out bq (by omega))
    have r76 := Lib.hid (row_below r75.out bq (row_lt r75.out))
    have t6 := Lib.hid (IsTr.below t5.out bq)
    have c6 := Lib.hid (IsTc.below c5.out bq)
    have z6 : w2.heap.size < w6.heap.size := row_lt r76.out
    clear bq
    go_wp2_with fail
    refine (is_any (E := E) ⟨#[45, 100]⟩ path false w.heap.size w2.heap.size w6 (hE'.out.below b6.out hN) (hM'.out.below b6.out hN) (by omega) t6.out (by decide) hpz (by decide +kernel) r36.out r76.out (by rw [hst]; rfl)).mono ?_
    rintro e w7 ⟨rfl, bq⟩
    have b7 := Lib.hid (b6.out.trans (bq.mono (by omega)))
    have r37 := Lib.hid (row_below r36.out bq (by omega))
    have r77 := Lib.hid (row_below r76.out bq (row_lt r76.out))
    have t7 := Lib.hid (IsTr.below t6.out bq)
    have c7 := Lib.hid (IsTc.below c6.out bq)
    have z7 : w2.heap.size < w7.heap.size := row_lt r77.out
    clear bq
    go_wp2_with fail
    refine (is_any (E := E) ⟨#[45, 115]⟩ path false w.heap.size w2.heap.size w7 (hE'.out.below b7.out hN) (hM'.out.below b7.out hN) (by omega) t7.out (by decide) hpz (by decide +kernel) r37.out r77.out (by rw [hst]; show some (decide (0 < data.size)) = _; rw [decide_eq_false hpos])).mono ?_
    rintro e w8 ⟨rfl, bq⟩
    have b8 := Lib.hid (b7.out.trans (bq.mono (by omega)))
    have r38 := Lib.hid (row_below r37.out bq (by omega))
    have r78 := Lib.hid (row_below r77.out bq (row_lt r77.out))
    have t8 := Lib.hid (IsTr.below t7.out bq)
    have c8 := Lib.hid (IsTc.below c7.out bq)
    have z8 : w2.heap.size < w8.heap.size := row_lt r78.out
    clear bq
    have k78 : w8.cell? ⟨w2.heap.size, 0, none⟩ = some (.pointer (some ⟨w.heap.size + 1 + 2, 0, none⟩)) := row_cell r78.out rfl
    have k38 : w8.cell? ⟨w.heap.size, 0, none⟩ = some (.string path) := row_cell r38.out rfl
    go_wp2_with fail
    have hF8 := find_any (E := E) path w8 (hE'.out.below b8.out hN) (hM'.out.below b8.out hN) (by omega) t8.out
    rw [find_x hD4 rfl hcl, show lookE [(nm, n)] nm.data.toList = some n by unfold lookE; rw [List.find?_cons_of_pos (by simp)]; rfl] at hF8
    have hF8' : Calls Tryd.prog 18 #[.pointer (some ⟨w.heap.size + 1 + 2, 0, none⟩), .string path] w8 fun e w' => Below w8.heap.size w8 w' ∧ e = .returned (.tuple #[.agg (spC (some ⟨w.heap.size + 1 + 1, 0, none⟩) nm (some ⟨n, 0, none⟩)), .nilIface]) := hF8.mono fun e w' ⟨a, b⟩ => ⟨a, by rw [← bytes_id nm]; exact b⟩
    refine (remove_file path nm w8 c8.out (by omega) (by decide) (by decide) hF8' hD4 rfl rfl (addT_new _ _ _ _ _) rfl).mono ?_
    rintro e w9 ⟨rfl, ⟨cc, hc9⟩, bb9, f9⟩
    have b9 := Lib.hid (b8.out.trans (bb9.mono (by omega)))
    have r39 := Lib.hid (row_below r38.out bb9 (by omega))
    have r79 := Lib.hid ((f9 w2.heap.size z8 (by omega) hrem'.out.1 hrem'.out.2).trans r78.out)
    have z9 : w2.heap.size < w9.heap.size := row_lt r79.out
    have t9 := Lib.hid hc9.tr
    have c9 := Lib.hid hc9
    have hst9 : statP (cutT (addT (oneT (w.heap.size + 1 + 1) (w.heap.size + 1)) (w.heap.size + 1 + 1) n nm ⟨false, data.size, 0, []⟩) (w.heap.size + 1 + 1) ⟨true, 0, w.heap.size + 1, [(nm, n)]⟩) (w.heap.size + 1 + 1) path.data.toList = none := by
      unfold statP
      rw [find_x (nd := ⟨true, 0, w.heap.size + 1, []⟩) (by unfold cutT; rw [if_pos rfl]) rfl hcl]
      rfl
    clear bb9 f9 hc9 hF8 hF8'
    go_wp2_with fail
    refine (is_any (E := E) ⟨#[45, 101]⟩ path false w.heap.size w2.heap.size w9 (hE'.out.below b9.out hN) (hM'.out.below b9.out hN) (by omega) t9.out (by decide) hpz (by decide +kernel) r39.out r79.out (by rw [hst9]; rfl)).mono ?_
    rintro e w10 ⟨rfl, bq⟩
    have b10 := Lib.hid (b9.out.trans (bq.mono (by omega)))
    have r310 := Lib.hid (row_below r39.out bq (by omega))
    have r710 := Lib.hid (row_below r79.out bq (row_lt r79.out))
    have t10 := Lib.hid (IsTr.below t9.out bq)
    have c10 := Lib.hid (IsTc.below c9.out bq)
    have z10 : w2.heap.size < w10.heap.size := row_lt r710.out
    clear bq
    go_wp2_with fail
    refine (is_any (E := E) ⟨#[45, 102]⟩ path false w.heap.size w2.heap.size w10 (hE'.out.below b10.out hN) (hM'.out.below b10.out hN) (by omega) t10.out (by decide) hpz (by decide +kernel) r310.out r710.out (by rw [hst9]; rfl)).mono ?_
    rintro e w11 ⟨rfl, bq⟩
    have b11 := Lib.hid (b10.out.trans (bq.mono (by omega)))
    have r311 := Lib.hid (row_below r310.out bq (by omega))
    have r711 := Lib.hid (row_below r710.out bq (row_lt r710.out))
    have t11 := Lib.hid (IsTr.below t10.out bq)
    have c11 := Lib.hid (IsTc.below c10.out bq)
    have z11 : w2.heap.size < w11.heap.size := row_lt r711.out
    clear bq
    go_wp2_with fail
    refine (is_any (E := E) ⟨#[45, 100]⟩ path false w.heap.size w2.heap.size w11 (hE'.out.below b11.out hN) (hM'.out.below b11.out hN) (by omega) t11.out (by decide) hpz (by decide +kernel) r311.out r711.out (by rw [hst9]; rfl)).mono ?_
    rintro e w12 ⟨rfl, bq⟩
    have b12 := Lib.hid (b11.out.trans (bq.mono (by omega)))
    have r312 := Lib.hid (row_below r311.out bq (by omega))
    have r712 := Lib.hid (row_below r711.out bq (row_lt r711.out))
    have t12 := Lib.hid (IsTr.below t11.out bq)
    have c12 := Lib.hid (IsTc.below c11.out bq)
    have z12 : w2.heap.size < w12.heap.size := row_lt r712.out
    clear bq
    go_wp2_with fail
    refine (is_any (E := E) ⟨#[45, 115]⟩ path false w.heap.size w2.heap.size w12 (hE'.out.below b12.out hN) (hM'.out.below b12.out hN) (by omega) t12.out (by decide) hpz (by decide +kernel) r312.out r712.out (by rw [hst9]; rfl)).mono ?_
    rintro e w13 ⟨rfl, bq⟩
    have b13 := Lib.hid (b12.out.trans (bq.mono (by omega)))
    have r313 := Lib.hid (row_below r312.out bq (by omega))
    have r713 := Lib.hid (row_below r712.out bq (row_lt r712.out))
    have t13 := Lib.hid (IsTr.below t12.out bq)
    have c13 := Lib.hid (IsTc.below c12.out bq)
    have z13 : w2.heap.size < w13.heap.size := row_lt r713.out
    clear bq
    go_wp2_with fail
    refine (awake18_any w13).mono ?_
    rintro e wz ⟨rfl, bz⟩
    have bf := b13.out.trans (bz.mono (by omega))
    clear bz
    go_wp2_with fail
    go_ret
    exact ⟨rfl, bf⟩
end Go.Proofs.YtfnaooplpofgiaaDoor
