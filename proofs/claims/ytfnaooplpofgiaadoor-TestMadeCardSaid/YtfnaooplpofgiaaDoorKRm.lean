/- (*tree.Tree).Remove of the one entry that the root has. Conditions: the tree lies in memory, and the errors' variables. -/
import Derived.Test.YtfnaooplpofgiaaDoorKMd
import Derived.Test.YtfnaooplpofgiaaDoorKSt
import Derived.StillTailTactics
import Derived.WalkMore
import Derived.OwnWalk
import Derived.Handy
import Derived.Outline
namespace Go.Proofs.YtfnaooplpofgiaaDoor
open Go Go.RowKit SN

variable {w w' : World} {base t r : Nat} {T : Nat → Option Nd} {cnt : Nat}
theorem IsTc.set_links (h : IsTc w base t r T cnt) {C : Nat} {kd : Nd} (hC : T C = some kd) (k : Int) : IsTc (w.setCell ⟨C, 3, none⟩ (.int .i64 k)) base t r T cnt := by
  obtain ⟨ck, ht⟩ := h.top
  refine ⟨⟨ck, row_set_other ht (Ne.symm (h.ne_t hC)) _ _⟩, fun B nd hB => ?_, h.root, h.kids, h.inj, h.bt, h.bn⟩
  obtain ⟨⟨sl, cap, li, ti, g1⟩, g2⟩ := h.nds B nd hB
  have hm : nd.dir = true → IsMp (w.setCell ⟨C, 3, none⟩ (.int .i64 k)) nd.mp nd.ents := fun hd => by
    obtain ⟨l, ck2, m1, m2⟩ := g2 hd
    exact ⟨l, ck2, row_set_other m1 (h.mp_n hB hC hd) _ _, m2⟩
  by_cases e : B = C
  · subst e
    refine ⟨⟨sl, cap, k, ti, ?_⟩, hm⟩
    have := row_set g1 3 (.int .i64 k)
    exact this
  · exact ⟨⟨sl, cap, li, ti, row_set_other g1 e _ _⟩, hm⟩
/-- A directory without its entries. -/
def cutT (T : Nat → Option Nd) (D : Nat) (nd : Nd) : Nat → Option Nd := fun B => if B = D then some { nd with ents := [] } else T B
def mapDel (w : World) (m ck : Nat) : World := { w with heap := w.heap.setIfInBounds m (.map #[] ck) }
theorem mapDel_size (m ck : Nat) : (mapDel w m ck).heap.size = w.heap.size := by simp [mapDel]
theorem mapDel_at {m : Nat} (hm : m < w.heap.size) (ck : Nat) : (mapDel w m ck).heap[m]? = some (.map #[] ck) := by simp [mapDel, hm]
theorem mapDel_other {m B : Nat} (h : B ≠ m) (ck : Nat) : (mapDel w m ck).heap[B]? = w.heap[B]? := by simp [mapDel, Ne.symm h]
theorem mapDel_grown (m ck : Nat) : w.grownBy (mapDel w m ck) (some m) := ⟨rfl, rfl, rfl, by rw [mapDel_size]; exact Nat.le_refl _, fun k _ hk => mapDel_other (fun e => hk (by rw [e])) ck⟩
theorem run_del {m : Nat} {l : Array MapEntry} {ck n : Nat} {s : ByteArray} (hb : w.heap[m]? = some (.map l ck)) (he : l.toList.map (fun e => (e.key, e.val)) = [(s, n)].map entV) (ty : TypeId) :
    (Builtin.delete_ #[45, 9] ty #[.map (some m), .string s]).run Tryd.prog w = .ok (.tuple #[]) (mapDel w m ck) := by
  obtain ⟨e0, rfl⟩ : ∃ e0, l = #[e0] := by
    have hl : l.toList.length = 1 := by have := congrArg List.length he; simpa using this
    match hx : l.toList, hl with
    | [e0], _ => exact ⟨e0, Array.toList_inj.1 (by rw [hx])⟩
  obtain ⟨j, hj⟩ := findNow_ents s [e0] [(s, n)] 0 he
  have hs : lookE [(s, n)] s.data.toList = some n := by unfold lookE; rw [List.find?_cons_of_pos (by simp)]; rfl
  rw [hs] at hj
  have hk : e0.key = .string s := by simp only [List.map_cons, List.cons.injEq] at he; exact (Prod.mk.inj he.1).1
  have hj0 : Instr.findNow .string (.string s) [e0] 0 = some (some (0, e0.val)) := by
    unfold Instr.findNow
    rw [show Instr.sameNow .string (.string s) e0.key = some true by rw [hk]; show some (s == s) = _; rw [beq_bytes]; simp]
  have hc : (Instr.checkKey false 10000 9 (.string s)).run Tryd.prog w = .ok () w := MapKept.run_checkKey (k := .string s) Tryd.underlying9 (by simp [MapKept.IsKey]) _ 9999
  have hso := MapKept.run_setObj_map (P := Tryd.prog) (.map #[] ck) hb
  simp [Builtin.delete_, run_underlying Tryd.underlying45, MapKept.run_getObj_map hb, hc, MapKept.run_findKey Tryd.underlying9 hj0, hso, Result.andThen, mapDel, Array.eraseIdxIfInBounds]
theorem IsTc.cut (h : IsTc w base t r T cnt) {D : Nat} {nd : Nd} (hD : T D = some nd) (hd : nd.dir = true) {l : Array MapEntry} {ck : Nat} (hm : w.heap[nd.mp]? = some (.map l ck)) : IsTc (mapDel w nd.mp ck) base t r (cutT T D nd) cnt := by
  obtain ⟨tk, ht⟩ := h.top
  have hml := row_lt hm
  have get : ∀ B x, cutT T D nd B = some x → ∃ y, T B = some y ∧ x.dir = y.dir ∧ x.mp = y.mp ∧ x.len = y.len ∧ ((B = D ∧ x.ents = []) ∨ (B ≠ D ∧ x.ents = y.ents)) := fun B x hB => by
    unfold cutT at hB
    by_cases e : B = D
    · rw [if_pos e] at hB; cases hB; exact ⟨nd, by rw [e]; exact hD, rfl, rfl, rfl, .inl ⟨e, rfl⟩⟩
    · rw [if_neg e] at hB; exact ⟨x, hB, rfl, rfl, rfl, .inr ⟨e, rfl⟩⟩
  have put : ∀ B y, T B = some y → ∃ x, cutT T D nd B = some x := fun B y hB => by
    unfold cutT
    by_cases e : B = D
    · rw [if_pos e]; exact ⟨_, rfl⟩
    · rw [if_neg e]; exact ⟨y, hB⟩
  refine ⟨⟨tk, by rw [mapDel_other (Ne.symm (h.mp_t hD hd))]; exact ht⟩, fun B x hB => ?_, ?_, fun B x y hB hy => ?_, fun B C n1 n2 h1 h2 d1 d2 e => ?_, h.bt, fun B x hB => ?_⟩
  · obtain ⟨y, hy, e1, e2, e3, e4⟩ := get B x hB
    obtain ⟨⟨sl, cap, li, ti, g1⟩, g2⟩ := h.nds B y hy
    refine ⟨⟨sl, cap, li, ti, ?_⟩, fun hx => ?_⟩
    · rw [mapDel_other (Ne.symm (h.mp_n hD hy hd)), show nodeC x sl cap li ti = nodeC y sl cap li ti by unfold nodeC; rw [e1, e2, e3]]
      exact g1
    · rcases e4 with ⟨e4, e5⟩ | ⟨e4, e5⟩
      · subst e4
        obtain rfl : y = nd := by rw [hD] at hy; cases hy; rfl
        exact ⟨#[], ck, by rw [e2]; exact mapDel_at hml ck, by rw [e5]; rfl⟩
      · rw [e1] at hx
        obtain ⟨l2, ck2, m1, m2⟩ := g2 hx
        exact ⟨l2, ck2, by rw [e2, mapDel_other (fun e => e4 (h.inj B D y nd hy hD hx hd e))]; exact m1, by rw [e5]; exact m2⟩
  · obtain ⟨x, hx⟩ := h.root; exact put r x hx
  · obtain ⟨z, hz, -, -, -, e4⟩ := get B x hB
    rcases e4 with ⟨-, e5⟩ | ⟨-, e5⟩
    · rw [e5] at hy; cases hy
    · rw [e5] at hy
      obtain ⟨k, hk⟩ := h.kids B z y hz hy
      exact put _ _ hk
  · obtain ⟨y1, hy1, a1, b1, -⟩ := get B n1 h1
    obtain ⟨y2, hy2, a2, b2, -⟩ := get C n2 h2
    exact h.inj B C y1 y2 hy1 hy2 (by rw [← a1]; exact d1) (by rw [← a2]; exact d2) (by rw [← b1, ← b2]; exact e)
  · obtain ⟨y, hy, e1, e2, -⟩ := get B x hB
    rw [e1, e2]
    exact h.bn B y hy
theorem mp_kept {m : Nat} {es : List (ByteArray × Nat)} {o : Obj} {w2 : World} (h : IsMp w m es) (g : (w.alloc o).grownBy w2 (some w.heap.size)) (_hz : w.heap.size ≤ w2.heap.size) : IsMp w2 m es := by
  have hl := h.lt
  obtain ⟨l, ck, h1, h2⟩ := h
  exact ⟨l, ck, by rw [g.block m (by simp; omega) (by intro e; injection e with e; omega), Below.heap_alloc _ _ _ hl]; exact h1, h2⟩
set_option maxHeartbeats 4000000 in
set_option maxRecDepth 100000 in
theorem remove_dir (s nm : ByteArray) {n : Nat} {nd kd : Nd} (w : World) (h : IsTc w base t r T cnt) (hbs : base ≤ w.heap.size) (hcn : 1 ≤ cnt) (hcm : cnt ≤ 200)
    (hF : Calls Tryd.prog 18 #[.pointer (some ⟨t, 0, none⟩), .string s] w fun e w' => Below w.heap.size w w' ∧ e = .returned (.tuple #[.agg (spC (some ⟨r, 0, none⟩) nm (some ⟨n, 0, none⟩)), .nilIface]))
    (hD : T r = some nd) (hd : nd.dir = true) (hes : nd.ents = [(nm, n)]) (hn : T n = some kd) (hk : kd.dir = true) (hke : kd.ents = []) :
    Calls Tryd.prog 14 #[.pointer (some ⟨t, 0, none⟩), .string s] w fun e w' => e = .returned .nilIface ∧ (∃ c', IsTc w' base t r (cutT T r nd) c') ∧ Below base w w' ∧ FrT w w' t T := by
  have hF2 := Lib.hid hF
  have h' := Lib.hid h
  have hD' := Lib.hid hD
  have hn' := Lib.hid hn
  clear hF h hD hn
  go_enter Tryd.func14, Tryd.ntmps14
  go_wp2_with fail
  refine hF2.out.mono ?_
  rintro e w1 ⟨b1, rfl⟩
  have h1 := h'.out.below b1
  have bb1 := b1.mono hbs
  have z1 := b1.size
  have bw1 := Lib.hid b1
  clear b1
  have hq := Lib.hid (zSp w1)
  obtain ⟨⟨sln, capn, lin, tin, gn⟩, gm⟩ := h1.nds n kd hn'.out
  have gn' := Lib.hid gn
  have gm' := Lib.hid gm
  have hnl := row_lt gn
  clear gn gm
  have h1' := Lib.hid h1
  have bb1' := Lib.hid bb1
  clear h1 bb1
  go_wp2_with (refine store_sp rfl rfl _ _ rfl _ (some ⟨r, 0, none⟩) (some ⟨n, 0, none⟩) none none nm ⟨#[]⟩ rfl rfl hq.out ?_; intro w2 h2 g2 z2; have q2 : w2.cell? ⟨w1.heap.size, 2, none⟩ = some (.pointer (some ⟨n, 0, none⟩)) := row_cell h2 rfl; have q0 : w2.cell? ⟨w1.heap.size, 0, none⟩ = some (.pointer (some ⟨r, 0, none⟩)) := row_cell h2 rfl; have gn2 := row_grown (row_alloc gn'.out (.cells #[.pointer none, .string ⟨#[]⟩, .pointer none] 51)) g2 (by intro e; injection e with e; omega); have n0 : w2.cell? ⟨n, 0, none⟩ = some (.bool true) := row_cell gn2 (by unfold nodeC; rw [hk]; rfl); have n2 : w2.cell? ⟨n, 2, none⟩ = some (.map (some kd.mp)) := row_cell gn2 (by unfold nodeC; rw [hk]; rfl); have hml := run_len_map (w := w2) (m := kd.mp) (es := kd.ents) (mp_kept (gm'.out hk) g2 (by have := g2.size; simp at this; omega)); rw [hke] at hml)
  have hs2 := Lib.hid h2
  have b12 : Below w1.heap.size w1 w2 := ((Below.refl w1.heap.size w1).alloc (Nat.le_refl _) (.cells #[.pointer none, .string ⟨#[]⟩, .pointer none] 51)).grown g2 (by simp) (fun j hj => by cases hj; exact Nat.le_refl _)
  have z2' : w2.heap.size = w1.heap.size + 1 := by rw [z2]; simp
  have h2c := h1'.out.below b12
  have b2 := bb1'.out.trans (b12.mono (by omega))
  obtain ⟨⟨slr, capr, lir, tir, gr⟩, gm2⟩ := h2c.nds r nd hD'.out
  obtain ⟨l, mk, hm, he⟩ := gm2 hd
  rw [hes] at he
  have hne : n ≠ r := fun e => by
    have := hn'.out
    rw [e, hD'.out] at this
    cases this
    rw [hke] at hes; cases hes
  have hml2 := row_lt hm
  have hmx : nd.mp < w1.heap.size := by
    obtain ⟨-, gx⟩ := h1'.out.nds r nd hD'.out
    exact (gx hd).lt
  have htl : t < w1.heap.size := by obtain ⟨ck2, ht2⟩ := h1'.out.top; exact row_lt ht2
  have dD2 : w2.drew.cell? ⟨r, 2, none⟩ = some (.map (some nd.mp)) := row_cell gr (by unfold nodeC; rw [hd]; rfl)
  have s0 : w2.drew.cell? ⟨w1.heap.size, 0, none⟩ = some (.pointer (some ⟨r, 0, none⟩)) := row_cell hs2.out rfl
  have s1 : w2.drew.cell? ⟨w1.heap.size, 1, none⟩ = some (.string nm) := row_cell hs2.out rfl
  have hdel := run_del (w := w2.drew) hm he
  have h5 := IsTc.cut (w := w2.drew) (show IsTc w2.drew base t r T cnt from h2c.keep rfl (fun B x _ => ⟨rfl, fun _ => rfl⟩)) hD'.out hd hm
  have hbm := (h2c.bn r nd hD'.out).2 hd
  have b5 : Below base w (mapDel w2.drew nd.mp mk) := (below_drewN b2 1).grown (mapDel_grown (w := w2.drew) nd.mp mk) (by show base ≤ w2.heap.size; omega) (fun j hj => by cases hj; exact hbm)
  have hs5 : IsSp (mapDel w2.drew nd.mp mk) w1.heap.size (some ⟨r, 0, none⟩) nm (some ⟨n, 0, none⟩) := by
    unfold IsSp
    rw [mapDel_other (by omega)]
    exact row_drew hs2.out
  have z5 : (mapDel w2.drew nd.mp mk).heap.size = w1.heap.size + 1 := by rw [mapDel_size]; exact z2'
  have k5 : ∀ k, k < w.heap.size → k ≠ nd.mp → (mapDel w2.drew nd.mp mk).heap[k]? = w.heap[k]? := fun k hk h2 => (mapDel_other h2 _).trans ((b12.block k (by omega)).trans (bw1.out.block k hk))
  have z2h := Lib.hid z2'
  clear z2' z2 g2 h2 hs2 gr gm2 hm he h2c b12 b2 q2 q0 gn2 n0 n2 hml hml2 hq hF2 gn' gm'
  go_still_tail 7, (by kernel_rfl)
  change wpList _ _ _ _ _ w2.drew
  generalize mapDel w2.drew nd.mp mk = W5 at hdel h5 b5 hs5 z5 k5
  have k5' := Lib.hid k5
  clear k5
  generalize w2.drew = W4d at hdel
  obtain ⟨ck5, ht5⟩ := h5.top
  have c2 : W5.cell? ⟨t, 2, none⟩ = some (.int .i64 cnt) := row_cell ht5 rfl
  have f2 := row_free ht5 2
  have hnC : cutT T r nd n = some kd := by unfold cutT; rw [if_neg hne]; exact hn'.out
  obtain ⟨⟨sl5, cap5, li5, ti5, g5⟩, -⟩ := h5.nds n kd hnC
  have m0 : W5.cell? ⟨n, 0, none⟩ = some (.bool true) := row_cell g5 (by unfold nodeC; rw [hk]; rfl)
  have m3 : W5.cell? ⟨n, 3, none⟩ = some (.int .i64 li5) := row_cell g5 rfl
  have f3 := row_free g5 3
  have hnt := h5.ne_t hnC
  have htn := Ne.symm hnt
  have s50 : W5.cell? ⟨w1.heap.size, 0, none⟩ = some (.pointer (some ⟨r, 0, none⟩)) := row_cell hs5 rfl
  have s52 : W5.cell? ⟨w1.heap.size, 2, none⟩ = some (.pointer (some ⟨n, 0, none⟩)) := row_cell hs5 rfl
  have hw : IntKind.i64.wrap ((cnt : Int) - 1) = ((cnt - 1 : Nat) : Int) := by rw [IntKind.wrap_i64]; omega
  have hne1 : w1.heap.size ≠ t := by omega
  have hne2 : t ≠ w1.heap.size := by omega
  have hne3 : w1.heap.size ≠ n := by omega
  have hne4 : n ≠ w1.heap.size := by omega
  have h5' := Lib.hid h5
  have b5' := Lib.hid b5
  clear h5 b5 ht5 hs5 g5
  go_wp2_with fail
  have h6 := h5'.out.set_links hnC (wrap64 (li5 - 1))
  have b6 := b5'.out.setCell (p := ⟨n, 3, none⟩) (h5'.out.bn n kd hnC).1 (.int .i64 (wrap64 (li5 - 1)))
  have z6 : (W5.setCell ⟨n, 3, none⟩ (.int .i64 (wrap64 (li5 - 1)))).heap.size = w1.heap.size + 1 := by rw [World.size_setCell]; exact z5
  have h6 := h6.set_count (cnt - 1)
  have b6 := b6.setCell (p := ⟨t, 2, none⟩) h5'.out.bt (.int .i64 ((cnt - 1 : Nat) : Int))
  have z6 : ((W5.setCell ⟨n, 3, none⟩ (.int .i64 (wrap64 (li5 - 1)))).setCell ⟨t, 2, none⟩ (.int .i64 ((cnt - 1 : Nat) : Int))).heap.size = w1.heap.size + 1 := by rw [World.size_setCell]; exact z6
  have k6 : ∀ k, k < w.heap.size → k ≠ t → k ≠ n → k ≠ nd.mp → ((W5.setCell ⟨n, 3, none⟩ (.int .i64 (wrap64 (li5 - 1)))).setCell ⟨t, 2, none⟩ (.int .i64 ((cnt - 1 : Nat) : Int))).heap[k]? = w.heap[k]? := fun k h1 h2 h3 h4 => (Below.heap_setCell _ _ _ _ h2).trans ((Below.heap_setCell _ _ _ _ h3).trans (k5'.out k h1 h4))
  generalize (W5.setCell ⟨n, 3, none⟩ (.int .i64 (wrap64 (li5 - 1)))).setCell ⟨t, 2, none⟩ (.int .i64 ((cnt - 1 : Nat) : Int)) = W6 at h6 b6 z6 k6
  have hrow : NRow (W6.alloc (.cells #[.pointer (some ⟨r, 0, none⟩)] 44)) (w1.heap.size + 1) [r] := by
    have := heap_alloc_new W6 (.cells #[.pointer (some ⟨r, 0, none⟩)] 44)
    rw [z6] at this
    exact this
  have h7 := h6.below ((Below.refl W6.heap.size W6).alloc (Nat.le_refl _) (.cells #[.pointer (some ⟨r, 0, none⟩)] 44))
  have b7 := Lib.hid (b6.alloc (by have := z2h.out; omega) (.cells #[.pointer (some ⟨r, 0, none⟩)] 44))
  refine (tick_any (w1.heap.size + 1) 1 [r] _ h7 (fun B x hB => by have := (h6.nds B x hB).lt; omega) (by omega) hrow (by show 1 ≤ 10; decide) (fun B hB => by rw [List.mem_singleton.1 hB]; unfold cutT; rw [if_pos rfl]; exact ⟨_, rfl⟩)).mono ?_
  rintro e w8 ⟨rfl, h8, b8, -, f8⟩
  have hfr : FrT w w8 t T := fun k hk1 hk2 hk3 hk4 => by
    have hkn : k ≠ n := fun e => by rw [e, hn'.out] at hk3; cases hk3
    have hkr : k ≠ r := fun e => by rw [e, hD'.out] at hk3; cases hk3
    rw [f8 k hk2 (by unfold cutT; rw [if_neg hkr]; exact hk3), Below.heap_alloc _ _ _ (by omega), k6 k hk1 hk2 hkn (fun e => hk4 r nd hD'.out hd e.symm)]
  have h8' := Lib.hid h8
  have b8' := Lib.hid (b7.out.trans b8)
  clear h8 b8 h7 hrow h6 b6
  go_wp2_with fail
  go_ret
  exact ⟨rfl, ⟨_, h8'.out⟩, b8'.out, hfr⟩
set_option maxHeartbeats 4000000 in
set_option maxRecDepth 100000 in
theorem remove_file (s nm : ByteArray) {n : Nat} {nd kd : Nd} (w : World) (h : IsTc w base t r T cnt) (hbs : base ≤ w.heap.size) (hcn : 1 ≤ cnt) (hcm : cnt ≤ 200)
    (hF : Calls Tryd.prog 18 #[.pointer (some ⟨t, 0, none⟩), .string s] w fun e w' => Below w.heap.size w w' ∧ e = .returned (.tuple #[.agg (spC (some ⟨r, 0, none⟩) nm (some ⟨n, 0, none⟩)), .nilIface]))
    (hD : T r = some nd) (hd : nd.dir = true) (hes : nd.ents = [(nm, n)]) (hn : T n = some kd) (hk : kd.dir = false) :
    Calls Tryd.prog 14 #[.pointer (some ⟨t, 0, none⟩), .string s] w fun e w' => e = .returned .nilIface ∧ (∃ c', IsTc w' base t r (cutT T r nd) c') ∧ Below base w w' ∧ FrT w w' t T := by
  have hF2 := Lib.hid hF
  have h' := Lib.hid h
  have hD' := Lib.hid hD
  have hn' := Lib.hid hn
  clear hF h hD hn
  go_enter Tryd.func14, Tryd.ntmps14
  go_wp2_with fail
  refine hF2.out.mono ?_
  rintro e w1 ⟨b1, rfl⟩
  have h1 := h'.out.below b1
  have bb1 := b1.mono hbs
  have z1 := b1.size
  have bw1 := Lib.hid b1
  clear b1
  have hq := Lib.hid (zSp w1)
  obtain ⟨⟨sln, capn, lin, tin, gn⟩, gm⟩ := h1.nds n kd hn'.out
  have gn' := Lib.hid gn
  have gm' := Lib.hid gm
  have hnl := row_lt gn
  clear gn gm
  have h1' := Lib.hid h1
  have bb1' := Lib.hid bb1
  clear h1 bb1
  go_wp2_with (refine store_sp rfl rfl _ _ rfl _ (some ⟨r, 0, none⟩) (some ⟨n, 0, none⟩) none none nm ⟨#[]⟩ rfl rfl hq.out ?_; intro w2 h2 g2 z2; have q2 : w2.cell? ⟨w1.heap.size, 2, none⟩ = some (.pointer (some ⟨n, 0, none⟩)) := row_cell h2 rfl; have q0 : w2.cell? ⟨w1.heap.size, 0, none⟩ = some (.pointer (some ⟨r, 0, none⟩)) := row_cell h2 rfl; have gn2 := row_grown (row_alloc gn'.out (.cells #[.pointer none, .string ⟨#[]⟩, .pointer none] 51)) g2 (by intro e; injection e with e; omega); have n0 : w2.cell? ⟨n, 0, none⟩ = some (.bool false) := row_cell gn2 (by unfold nodeC; rw [hk]; rfl))
  have hs2 := Lib.hid h2
  have b12 : Below w1.heap.size w1 w2 := ((Below.refl w1.heap.size w1).alloc (Nat.le_refl _) (.cells #[.pointer none, .string ⟨#[]⟩, .pointer none] 51)).grown g2 (by simp) (fun j hj => by cases hj; exact Nat.le_refl _)
  have z2' : w2.heap.size = w1.heap.size + 1 := by rw [z2]; simp
  have h2c := h1'.out.below b12
  have b2 := bb1'.out.trans (b12.mono (by omega))
  obtain ⟨⟨slr, capr, lir, tir, gr⟩, gm2⟩ := h2c.nds r nd hD'.out
  obtain ⟨l, mk, hm, he⟩ := gm2 hd
  rw [hes] at he
  have hne : n ≠ r := fun e => by
    have := hn'.out
    rw [e, hD'.out] at this
    cases this
    rw [hk] at hd; cases hd
  have hml2 := row_lt hm
  have hmx : nd.mp < w1.heap.size := by
    obtain ⟨-, gx⟩ := h1'.out.nds r nd hD'.out
    exact (gx hd).lt
  have htl : t < w1.heap.size := by obtain ⟨ck2, ht2⟩ := h1'.out.top; exact row_lt ht2
  have dD2 : w2.drew.cell? ⟨r, 2, none⟩ = some (.map (some nd.mp)) := row_cell gr (by unfold nodeC; rw [hd]; rfl)
  have s0 : w2.drew.cell? ⟨w1.heap.size, 0, none⟩ = some (.pointer (some ⟨r, 0, none⟩)) := row_cell hs2.out rfl
  have s1 : w2.drew.cell? ⟨w1.heap.size, 1, none⟩ = some (.string nm) := row_cell hs2.out rfl
  have hdel := run_del (w := w2.drew) hm he
  have h5 := IsTc.cut (w := w2.drew) (show IsTc w2.drew base t r T cnt from h2c.keep rfl (fun B x _ => ⟨rfl, fun _ => rfl⟩)) hD'.out hd hm
  have hbm := (h2c.bn r nd hD'.out).2 hd
  have b5 : Below base w (mapDel w2.drew nd.mp mk) := (below_drewN b2 1).grown (mapDel_grown (w := w2.drew) nd.mp mk) (by show base ≤ w2.heap.size; omega) (fun j hj => by cases hj; exact hbm)
  have hs5 : IsSp (mapDel w2.drew nd.mp mk) w1.heap.size (some ⟨r, 0, none⟩) nm (some ⟨n, 0, none⟩) := by
    unfold IsSp
    rw [mapDel_other (by omega)]
    exact row_drew hs2.out
  have z5 : (mapDel w2.drew nd.mp mk).heap.size = w1.heap.size + 1 := by rw [mapDel_size]; exact z2'
  have k5 : ∀ k, k < w.heap.size → k ≠ nd.mp → (mapDel w2.drew nd.mp mk).heap[k]? = w.heap[k]? := fun k hk h2 => (mapDel_other h2 _).trans ((b12.block k (by omega)).trans (bw1.out.block k hk))
  have z2h := Lib.hid z2'
  clear z2' z2 g2 h2 hs2 gr gm2 hm he h2c b12 b2 q2 q0 gn2 n0 hml2 hq hF2 gn' gm'
  go_still_tail 7, (by kernel_rfl)
  change wpList _ _ _ _ _ w2.drew
  generalize mapDel w2.drew nd.mp mk = W5 at hdel h5 b5 hs5 z5 k5
  have k5' := Lib.hid k5
  clear k5
  generalize w2.drew = W4d at hdel
  obtain ⟨ck5, ht5⟩ := h5.top
  have c2 : W5.cell? ⟨t, 2, none⟩ = some (.int .i64 cnt) := row_cell ht5 rfl
  have f2 := row_free ht5 2
  have hnC : cutT T r nd n = some kd := by unfold cutT; rw [if_neg hne]; exact hn'.out
  obtain ⟨⟨sl5, cap5, li5, ti5, g5⟩, -⟩ := h5.nds n kd hnC
  have m0 : W5.cell? ⟨n, 0, none⟩ = some (.bool false) := row_cell g5 (by unfold nodeC; rw [hk]; rfl)
  have m3 : W5.cell? ⟨n, 3, none⟩ = some (.int .i64 li5) := row_cell g5 rfl
  have f3 := row_free g5 3
  have hnt := h5.ne_t hnC
  have htn := Ne.symm hnt
  have s50 : W5.cell? ⟨w1.heap.size, 0, none⟩ = some (.pointer (some ⟨r, 0, none⟩)) := row_cell hs5 rfl
  have s52 : W5.cell? ⟨w1.heap.size, 2, none⟩ = some (.pointer (some ⟨n, 0, none⟩)) := row_cell hs5 rfl
  have hw : IntKind.i64.wrap ((cnt : Int) - 1) = ((cnt - 1 : Nat) : Int) := by rw [IntKind.wrap_i64]; omega
  have hne1 : w1.heap.size ≠ t := by omega
  have hne2 : t ≠ w1.heap.size := by omega
  have hne3 : w1.heap.size ≠ n := by omega
  have hne4 : n ≠ w1.heap.size := by omega
  have h5' := Lib.hid h5
  have b5' := Lib.hid b5
  clear h5 b5 ht5 hs5 g5
  by_cases hz : wrap64 (li5 - 1) = 0
  · go_wp2_with fail
    have h6 := h5'.out.set_links hnC (0)
    have b6 := b5'.out.setCell (p := ⟨n, 3, none⟩) (h5'.out.bn n kd hnC).1 (.int .i64 (0))
    have z6 : (W5.setCell ⟨n, 3, none⟩ (.int .i64 (0))).heap.size = w1.heap.size + 1 := by rw [World.size_setCell]; exact z5
    have h6 := h6.set_count (cnt - 1)
    have b6 := b6.setCell (p := ⟨t, 2, none⟩) h5'.out.bt (.int .i64 ((cnt - 1 : Nat) : Int))
    have z6 : ((W5.setCell ⟨n, 3, none⟩ (.int .i64 (0))).setCell ⟨t, 2, none⟩ (.int .i64 ((cnt - 1 : Nat) : Int))).heap.size = w1.heap.size + 1 := by rw [World.size_setCell]; exact z6
    have k6 : ∀ k, k < w.heap.size → k ≠ t → k ≠ n → k ≠ nd.mp → ((W5.setCell ⟨n, 3, none⟩ (.int .i64 (0))).setCell ⟨t, 2, none⟩ (.int .i64 ((cnt - 1 : Nat) : Int))).heap[k]? = w.heap[k]? := fun k h1 h2 h3 h4 => (Below.heap_setCell _ _ _ _ h2).trans ((Below.heap_setCell _ _ _ _ h3).trans (k5'.out k h1 h4))
    generalize (W5.setCell ⟨n, 3, none⟩ (.int .i64 (0))).setCell ⟨t, 2, none⟩ (.int .i64 ((cnt - 1 : Nat) : Int)) = W6 at h6 b6 z6 k6
    have hrow : NRow (W6.alloc (.cells #[.pointer (some ⟨r, 0, none⟩)] 44)) (w1.heap.size + 1) [r] := by
      have := heap_alloc_new W6 (.cells #[.pointer (some ⟨r, 0, none⟩)] 44)
      rw [z6] at this
      exact this
    have h7 := h6.below ((Below.refl W6.heap.size W6).alloc (Nat.le_refl _) (.cells #[.pointer (some ⟨r, 0, none⟩)] 44))
    have b7 := Lib.hid (b6.alloc (by have := z2h.out; omega) (.cells #[.pointer (some ⟨r, 0, none⟩)] 44))
    refine (tick_any (w1.heap.size + 1) 1 [r] _ h7 (fun B x hB => by have := (h6.nds B x hB).lt; omega) (by omega) hrow (by show 1 ≤ 10; decide) (fun B hB => by rw [List.mem_singleton.1 hB]; unfold cutT; rw [if_pos rfl]; exact ⟨_, rfl⟩)).mono ?_
    rintro e w8 ⟨rfl, h8, b8, -, f8⟩
    have hfr : FrT w w8 t T := fun k hk1 hk2 hk3 hk4 => by
      have hkn : k ≠ n := fun e => by rw [e, hn'.out] at hk3; cases hk3
      have hkr : k ≠ r := fun e => by rw [e, hD'.out] at hk3; cases hk3
      rw [f8 k hk2 (by unfold cutT; rw [if_neg hkr]; exact hk3), Below.heap_alloc _ _ _ (by omega), k6 k hk1 hk2 hkn (fun e => hk4 r nd hD'.out hd e.symm)]
    have h8' := Lib.hid h8
    have b8' := Lib.hid (b7.out.trans b8)
    clear h8 b8 h7 hrow h6 b6
    go_wp2_with fail
    go_ret
    exact ⟨rfl, ⟨_, h8'.out⟩, b8'.out, hfr⟩
  · go_wp2_with fail
    have h6 := h5'.out.set_links hnC (wrap64 (li5 - 1))
    have b6 := b5'.out.setCell (p := ⟨n, 3, none⟩) (h5'.out.bn n kd hnC).1 (.int .i64 (wrap64 (li5 - 1)))
    have z6 : (W5.setCell ⟨n, 3, none⟩ (.int .i64 (wrap64 (li5 - 1)))).heap.size = w1.heap.size + 1 := by rw [World.size_setCell]; exact z5
    have k6 : ∀ k, k < w.heap.size → k ≠ t → k ≠ n → k ≠ nd.mp → (W5.setCell ⟨n, 3, none⟩ (.int .i64 (wrap64 (li5 - 1)))).heap[k]? = w.heap[k]? := fun k h1 _ h3 h4 => (Below.heap_setCell _ _ _ _ h3).trans (k5'.out k h1 h4)
    generalize W5.setCell ⟨n, 3, none⟩ (.int .i64 (wrap64 (li5 - 1))) = W6 at h6 b6 z6 k6
    have hrow : NRow (W6.alloc (.cells #[.pointer (some ⟨r, 0, none⟩)] 44)) (w1.heap.size + 1) [r] := by
      have := heap_alloc_new W6 (.cells #[.pointer (some ⟨r, 0, none⟩)] 44)
      rw [z6] at this
      exact this
    have h7 := h6.below ((Below.refl W6.heap.size W6).alloc (Nat.le_refl _) (.cells #[.pointer (some ⟨r, 0, none⟩)] 44))
    have b7 := Lib.hid (b6.alloc (by have := z2h.out; omega) (.cells #[.pointer (some ⟨r, 0, none⟩)] 44))
    refine (tick_any (w1.heap.size + 1) 1 [r] _ h7 (fun B x hB => by have := (h6.nds B x hB).lt; omega) (by omega) hrow (by show 1 ≤ 10; decide) (fun B hB => by rw [List.mem_singleton.1 hB]; unfold cutT; rw [if_pos rfl]; exact ⟨_, rfl⟩)).mono ?_
    rintro e w8 ⟨rfl, h8, b8, -, f8⟩
    have hfr : FrT w w8 t T := fun k hk1 hk2 hk3 hk4 => by
      have hkn : k ≠ n := fun e => by rw [e, hn'.out] at hk3; cases hk3
      have hkr : k ≠ r := fun e => by rw [e, hD'.out] at hk3; cases hk3
      rw [f8 k hk2 (by unfold cutT; rw [if_neg hkr]; exact hk3), Below.heap_alloc _ _ _ (by omega), k6 k hk1 hk2 hkn (fun e => hk4 r nd hD'.out hd e.symm)]
    have h8' := Lib.hid h8
    have b8' := Lib.hid (b7.out.trans b8)
    clear h8 b8 h7 hrow h6 b6
    go_wp2_with fail
    go_ret
    exact ⟨rfl, ⟨_, h8'.out⟩, b8'.out, hfr⟩
end Go.Proofs.YtfnaooplpofgiaaDoor
