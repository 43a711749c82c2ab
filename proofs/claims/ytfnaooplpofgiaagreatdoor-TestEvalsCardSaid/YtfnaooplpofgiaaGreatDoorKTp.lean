/- (*tree.Tree).put and Write of a new file. Conditions: the tree lies in memory, and the errors' variables; at most 65536 bytes. -/
import Derived.Test.YtfnaooplpofgiaaGreatDoorKTc
import Derived.Test.YtfnaooplpofgiaaGreatDoorKB
import Derived.Laws.AppendOwnNone
import Derived.WalkMore
import Derived.OwnWalk
import Derived.Handy
import Derived.Outline
namespace Go.Proofs.YtfnaooplpofgiaaGreatDoor
open Go Go.RowKit SN

def bv (l : List Nat) : List Value := l.map fun (b : Nat) => Value.int .u8 (b : Int)
def OwnsB (w : World) (base : Nat) (v : Value) (l : List Nat) : Prop := w.ownsRow base 5 1 v l.length (bv l)
theorem info_u8 : (Tryz.prog.info? 5).map (fun i => (i.zero, i.size, i.bytes)) = some (some (.int .u8 0), 1, 1) := by kernel_rfl
theorem grown0 (w : World) (row : Option Nat) : w.grownBy w row := ⟨rfl, rfl, rfl, Nat.le_refl _, fun _ _ _ => rfl⟩
theorem append_bytes {w : World} {ops : Array Oper} {rest : List Oper} {o : Oper} {a : Act} {Q : Exit → Act → World → Prop} (hgd : o.guard = none) (s x : Operand)
    (ho : o.op = .call { callee := .builtin .append, args := #[s, x], argTypes := #[62, 62] })
    (base : Nat) (v : Value) (xs : List Nat) (hs : a.eval s = v) (hown : OwnsB w base v xs) (p : Option Addr) (t : ByteArray) (cap : Nat) (l : List Nat) (hl : l = t.data.toList.map (·.toNat)) (hx : a.eval x = .slice p t.size cap) (hS : HasB w p t) (hnil : p = none → cap = 0) (hcap : t.size ≤ cap)
    (hsm : xs.length + t.size ≤ 1048576) (hbase : base ≤ w.heap.size)
    (h : ∀ v' w', OwnsB w' base v' (xs ++ l) → w.grownBy w' v.ownBlock → wpList Tryz.prog ops Q rest (a.put o.dst v') w') : wpList Tryz.prog ops Q (o :: rest) a w := by
  obtain ⟨i0, hi0, hz0, hz1, hz2⟩ := info_parts info_u8
  have hll : l.length = t.size := by rw [hl]; simp
  have key : ∀ w', ∀ v', w'.ownsRow base 5 1 v' (xs.length + t.size) (bv xs ++ bv l) → OwnsB w' base v' (xs ++ l) := fun w' v' hh => by
    unfold OwnsB
    rw [List.length_append, hll, show bv (xs ++ l) = bv xs ++ bv l by simp [bv]]
    exact hh
  cases p with
  | none =>
    have h0 := hnil rfl
    subst h0
    have ht : t.size = 0 := by omega
    rw [ht] at hx
    have hl0 : l = [] := List.eq_nil_of_length_eq_zero (by omega)
    refine wpList_append_own_none hgd s x 62 ho base 5 i0 1 Tryz.underlying62 hi0 v xs.length (bv xs) hs hown hx ?_
    exact h v w (by rw [hl0, List.append_nil]; exact hown) (grown0 _ _)
  | some ad =>
    refine wpList_append_own w hgd s x 62 ho base 5 i0 (.int .u8 0) 1 1 Tryz.underlying62 hi0 hz0 hz1 hz2 rfl (by decide) v xs.length (bv xs) hs hown ad t.size cap (bv l) hx (by simp [bv, hll]) ?_ ?_ (by unfold maxLen; omega) (by omega) hbase ?_
    · rcases hS with h0 | ⟨b, of, e, hc, hlt⟩
      · intro j u hu
        have : l = [] := List.eq_nil_of_length_eq_zero (by omega)
        rw [this] at hu
        cases hu
      · cases e
        intro j u hu
        have hj : j < t.size := by
          rcases Nat.lt_or_ge j (bv l).length with h' | h'
          · simpa [bv, hll] using h'
          · rw [List.getElem?_eq_none h'] at hu; cases hu
        have e2 : (⟨b, of, none⟩ : Addr).add j = ⟨b, of + j, none⟩ := by unfold Addr.add; split <;> simp_all
        rw [e2, hc j hj, ← hu, hl]
        simp [bv, hj, ByteArray.getElem_eq_getElem_data]
    · intro u hu; simp only [bv, List.mem_map] at hu; obtain ⟨y, -, rfl⟩ := hu; rfl
    · intro v' w' h2 h3 _
      exact h v' w' (key w' v' h2) h3
theorem OwnsB.shape {w : World} {base : Nat} {v : Value} {l : List Nat} (h : OwnsB w base v l) : ∃ sl cap, v = .slice sl l.length cap ∧ ∀ g, v.ownBlock = some g → base ≤ g := by
  obtain ⟨h1, ⟨rfl, h2⟩ | ⟨g, cap, cur, rfl, hg, -⟩⟩ := h
  · exact ⟨none, 0, by rw [h2], fun g hg => by cases hg⟩
  · exact ⟨_, cap, rfl, fun j hj => by have e : g = j := by injection hj
                                       omega⟩
variable {w w' : World} {base t r : Nat} {T : Nat → Option Nd} {cnt : Nat}
theorem IsTc.set_data (h : IsTc w base t r T cnt) {C : Nat} {kd : Nd} (hC : T C = some kd) (sl : Option Addr) (len cap : Nat) : IsTc (w.setCell ⟨C, 1, none⟩ (.slice sl len cap)) base t r (setLen T C len) cnt := by
  obtain ⟨ck, ht⟩ := h.top
  have get : ∀ B x, setLen T C len B = some x → ∃ y, T B = some y ∧ x.dir = y.dir ∧ x.mp = y.mp ∧ x.ents = y.ents ∧ x.len = (if B = C then len else y.len) := fun B x hB => by
    unfold setLen at hB
    by_cases e : B = C
    · subst e; rw [if_pos rfl, hC] at hB; cases hB; exact ⟨kd, hC, rfl, rfl, rfl, by rw [if_pos rfl]⟩
    · rw [if_neg e] at hB; exact ⟨x, hB, rfl, rfl, rfl, by rw [if_neg e]⟩
  have put : ∀ B y, T B = some y → ∃ x, setLen T C len B = some x := fun B y hB => by
    unfold setLen
    by_cases e : B = C
    · subst e; rw [if_pos rfl, hC]; exact ⟨_, rfl⟩
    · rw [if_neg e]; exact ⟨y, hB⟩
  refine ⟨⟨ck, row_set_other ht (Ne.symm (h.ne_t hC)) _ _⟩, fun B x hB => ?_, ?_, fun B x y hB hy => ?_, fun B D n1 n2 h1 h2 d1 d2 e => ?_, h.bt, fun B x hB => ?_⟩
  · obtain ⟨y, hy, e1, e2, e3, e4⟩ := get B x hB
    obtain ⟨⟨s0, c0, li, ti, g1⟩, g2⟩ := h.nds B y hy
    have hm : x.dir = true → IsMp (w.setCell ⟨C, 1, none⟩ (.slice sl len cap)) x.mp x.ents := fun hd => by
      rw [e1] at hd
      obtain ⟨l, ck2, m1, m2⟩ := g2 hd
      exact ⟨l, ck2, by rw [e2]; exact row_set_other m1 (h.mp_n hy hC hd) _ _, by rw [e3]; exact m2⟩
    by_cases e : B = C
    · subst e
      refine ⟨⟨sl, cap, li, ti, ?_⟩, hm⟩
      have := row_set g1 1 (.slice sl len cap)
      rw [show nodeC x sl cap li ti = (nodeC y s0 c0 li ti).setIfInBounds 1 (.slice sl len cap) by unfold nodeC; rw [e1, e2, e4, if_pos rfl]; rfl]
      exact this
    · refine ⟨⟨s0, c0, li, ti, ?_⟩, hm⟩
      rw [show nodeC x s0 c0 li ti = nodeC y s0 c0 li ti by unfold nodeC; rw [e1, e2, e4, if_neg e]]
      exact row_set_other g1 e _ _
  · obtain ⟨x, hx⟩ := h.root; exact put r x hx
  · obtain ⟨z, hz, -, -, e3, -⟩ := get B x hB
    rw [e3] at hy
    obtain ⟨k, hk⟩ := h.kids B z y hz hy
    exact put _ _ hk
  · obtain ⟨y1, hy1, a1, b1, -⟩ := get B n1 h1
    obtain ⟨y2, hy2, a2, b2, -⟩ := get D n2 h2
    exact h.inj B D y1 y2 hy1 hy2 (by rw [← a1]; exact d1) (by rw [← a2]; exact d2) (by rw [← b1, ← b2]; exact e)
  · obtain ⟨y, hy, e1, e2, -⟩ := get B x hB
    rw [e1, e2]
    exact h.bn B y hy
theorem setLen_add (T : Nat → Option Nd) (D n : Nat) (nm : ByteArray) (len : Nat) : setLen (addT T D n nm ⟨false, 0, 0, []⟩) n len = addT T D n nm ⟨false, len, 0, []⟩ := by
  funext B
  unfold setLen
  by_cases e : B = n
  · subst e; rw [if_pos rfl, addT_new, addT_new]; rfl
  · rw [if_neg e]; unfold addT; rw [if_neg e, if_neg e]
theorem u8_out (h : IsTc w base t r T cnt) {b o : Nat} {x : Int} (hc : w.cell? ⟨b, o, none⟩ = some (.int .u8 x)) : b ≠ t ∧ T b = none ∧ ∀ B nd, T B = some nd → nd.dir = true → nd.mp ≠ b := by
  refine ⟨?_, ?_, fun B nd hB hd e => ?_⟩
  · rintro rfl
    obtain ⟨ck, ht⟩ := h.top
    unfold World.cell? at hc
    rw [ht] at hc
    rcases o with _ | _ | _ | o <;> simp at hc
  · cases hB : T b with
    | none => rfl
    | some nd =>
      obtain ⟨⟨sl, cap, li, ti, g1⟩, -⟩ := h.nds b nd hB
      unfold World.cell? at hc
      rw [g1] at hc
      unfold nodeC at hc
      rcases o with _ | _ | _ | _ | _ | o <;> simp at hc
  · obtain ⟨-, g2⟩ := h.nds B nd hB
    obtain ⟨l, ck2, m1, -⟩ := g2 hd
    unfold World.cell? at hc
    rw [e] at m1
    rw [m1] at hc
    cases hc
/-- Bytes are no part of a tree. -/
theorem data_out (h : IsTc w base t r T cnt) {p : Option Addr} {data : ByteArray} (hS : HasB w p data) : ∀ w', w.heap.size ≤ w'.heap.size → FrT w w' t T → HasB w' p data := fun w' hz hf => by
  rcases hS with h0 | ⟨b, o, e, hc, hl⟩
  · exact .inl h0
  · by_cases h0 : data.size = 0
    · exact .inl h0
    · obtain ⟨h1, h2, h3⟩ := u8_out h (hc 0 (by omega))
      exact HasB.keep (.inr ⟨b, o, e, hc, hl⟩) (fun b' o' e' hl' => by rw [e] at e'; cases e'; exact hf b hl h1 h2 h3) hz
theorem after_app {w8 w9 : World} {p : Option Addr} {data : ByteArray} {v9 : Value} {l : List Nat} {row : Option Nat} (hS : HasB w8 p data) (hv : OwnsB w9 w8.heap.size v9 l) (g : w8.grownBy w9 row) (hr : ∀ j, row = some j → w8.heap.size ≤ j) :
    w8.heap.size ≤ w9.heap.size ∧ HasB w9 p data ∧ Below w8.heap.size w8 w9 ∧ ∀ j, v9.ownBlock = some j → w8.heap.size ≤ j := by
  have hb : Below w8.heap.size w8 w9 := (Below.refl _ _).grown g (Nat.le_refl _) hr
  obtain ⟨sl, cap, e, hx⟩ := hv.shape
  exact ⟨g.size, hS.below hb (Nat.le_refl _), hb, hx⟩
theorem fr_node (h : IsTc w base t r T cnt) {C : Nat} {kd : Nd} (hC : T C = some kd) : w.frozen? ⟨C, 1, none⟩ = false := by
  obtain ⟨⟨sl, cap, li, ti, g1⟩, -⟩ := h.nds C kd hC
  exact row_free g1 1
set_option maxHeartbeats 4000000 in
set_option maxRecDepth 100000 in
/-- (*tree.Tree).put of a new file: where a directory is and the name is not. -/
theorem put_new {N : Nat} {E : Nat → Addr} (s nm data : ByteArray) (pd : Option Addr) (cd : Nat) {D : Nat} {nd : Nd} (w : World) (hE : Errs N E w) (hM : MaxL N w) (hN : N ≤ w.heap.size) (h : IsTc w base t r T cnt) (hbs : base ≤ w.heap.size) (hcn : cnt < 200) (hS : HasB w pd data) (hnil : pd = none → cd = 0) (hcap : data.size ≤ cd) (hdz : data.size ≤ 65536)
    (hf : findP T r s.data.toList = .inr (some D, nm.data.toList, none)) (hD : T D = some nd) (hd : nd.dir = true) (hlk : lookE nd.ents nm.data.toList = none) :
    Calls Tryz.prog 52 #[.pointer (some ⟨t, 0, none⟩), .string s, .slice pd data.size cd, .bool false] w fun e w' => ∃ n, e = .returned (.tuple #[.pointer (some ⟨n, 0, none⟩), .nilIface]) ∧ w.heap.size ≤ n ∧ IsTc w' base t r (addT T D n nm ⟨false, data.size, 0, []⟩) (cnt + 1) ∧ Below base w w' ∧ FrT w w' t T := by
  have hF := find_any (E := E) s w hE hM hN h.tr
  rw [hf] at hF
  have hF' : Calls Tryz.prog 43 #[.pointer (some ⟨t, 0, none⟩), .string s] w fun e w' => Below w.heap.size w w' ∧ e = .returned (.tuple #[.agg (spC (some ⟨D, 0, none⟩) nm none), .nilIface]) := hF.mono fun e w' ⟨a, b⟩ => ⟨a, by rw [← bytes_id nm]; exact b⟩
  have hF2 := Lib.hid hF'
  have h' := Lib.hid h
  have hD' := Lib.hid hD
  have hout := Lib.hid (data_out h hS)
  clear hF hF' hE hM h hD hS
  go_enter Tryz.func52, Tryz.ntmps52
  go_wp2_with fail
  refine hF2.out.mono ?_
  rintro e w1 ⟨b1, rfl⟩
  have h1 := Lib.hid (h'.out.below b1)
  have bb1 := Lib.hid (b1.mono hbs)
  have bw1 := b1
  have z1 := b1.size
  clear b1
  have hq := Lib.hid (zSp w1)
  obtain ⟨ck, ht1⟩ := h1.out.top
  have ht1' := Lib.hid ht1
  have hcI : ¬ (200 : Int) ≤ (cnt : Int) := by omega
  have hdI : ¬ (65536 : Int) < (data.size : Int) := by omega
  clear ht1
  go_wp2_with (refine store_sp rfl rfl _ _ rfl _ (some ⟨D, 0, none⟩) none none none nm ⟨#[]⟩ rfl rfl hq.out ?_; intro w2 h2 g2 z2; have q2 : w2.cell? ⟨w1.heap.size, 2, none⟩ = some (.pointer none) := row_cell h2 rfl; have q0 : w2.cell? ⟨w1.heap.size, 0, none⟩ = some (.pointer (some ⟨D, 0, none⟩)) := row_cell h2 rfl; have t2 : w2.cell? ⟨t, 2, none⟩ = some (.int .i64 cnt) := row_cell (row_grown (row_alloc ht1'.out (.cells #[.pointer none, .string ⟨#[]⟩, .pointer none] 103)) g2 (by intro e; injection e with e; have := row_lt ht1'.out; omega)) rfl; have z2h := Lib.hid z2; clear z2)
  have hs2 := Lib.hid h2
  have b12 : Below w1.heap.size w1 w2 := ((Below.refl w1.heap.size w1).alloc (Nat.le_refl _) (.cells #[.pointer none, .string ⟨#[]⟩, .pointer none] 103)).grown g2 (by simp) (fun j hj => by cases hj; exact Nat.le_refl _)
  have z2' : w2.heap.size = w1.heap.size + 1 := by rw [z2h.out]; simp
  have hn4 := heap_alloc_new w2 (.cells #[.bool false, .slice none 0 0, .map none, .int .i64 1, .int .i64 0] 91)
  have hz4 : (w2.alloc (.cells #[.bool false, .slice none 0 0, .map none, .int .i64 1, .int .i64 0] 91)).heap.size = w2.heap.size + 1 := by rw [World.size_alloc]
  have b14 : Below w1.heap.size w1 (w2.alloc (.cells #[.bool false, .slice none 0 0, .map none, .int .i64 1, .int .i64 0] 91)) := b12.alloc (by omega) _
  have hs4 : IsSp (w2.alloc (.cells #[.bool false, .slice none 0 0, .map none, .int .i64 1, .int .i64 0] 91)) w1.heap.size (some ⟨D, 0, none⟩) nm none := row_alloc hs2.out _
  clear q2 q0 t2 g2 z2h h2 hs2 b12 ht1' hq hF2
  generalize World.alloc w2 _ = W4 at hn4 hz4 b14 hs4 ⊢
  have h4 := Lib.hid (h1.out.below b14)
  have k4 : ∀ k, k < w.heap.size → W4.heap[k]? = w.heap[k]? := fun k hk => (b14.block k (by omega)).trans (bw1.block k hk)
  have b4 := Lib.hid (bb1.out.trans (b14.mono (by omega)))
  obtain ⟨⟨sl, cap, li, ti, gD⟩, gm⟩ := h4.out.nds D nd hD'.out
  obtain ⟨l, mk, hm, he⟩ := gm hd
  have dD2 : W4.drew.cell? ⟨D, 2, none⟩ = some (.map (some nd.mp)) := row_cell gD (by unfold nodeC; rw [hd]; rfl)
  have s0 : W4.drew.cell? ⟨w1.heap.size, 0, none⟩ = some (.pointer (some ⟨D, 0, none⟩)) := row_cell hs4 rfl
  have s1 : W4.drew.cell? ⟨w1.heap.size, 1, none⟩ = some (.string nm) := row_cell hs4 rfl
  have hput := run_put (w := W4.drew) hm he nm hlk (.pointer (some ⟨w2.heap.size, 0, none⟩))
  have hTn : ∀ B x, T B = some x → B < w1.heap.size ∧ (x.dir = true → x.mp < w1.heap.size) := fun B x hB => by
    obtain ⟨g1, g2⟩ := h1.out.nds B x hB
    exact ⟨(show IsNd w1 B x from ⟨g1, g2⟩).lt, fun hd2 => (g2 hd2).lt⟩
  have htl : t < w1.heap.size := by obtain ⟨ck2, ht2⟩ := h1.out.top; exact row_lt ht2
  have hnew : T w2.heap.size = none := by
    cases hx : T w2.heap.size with
    | none => rfl
    | some x => have := (hTn _ x hx).1; omega
  have h5 := IsTc.add (w := W4.drew) (n := w2.heap.size) (kd := ⟨false, 0, 0, []⟩) (show IsTc W4.drew base t r T cnt from h4.out.keep rfl (fun B x _ => ⟨rfl, fun _ => rfl⟩)) hD'.out hd nm hm he ⟨⟨none, 0, 1, 0, hn4⟩, fun hx => by cases hx⟩ rfl hnew (by omega)
    (fun hx => by cases hx) ⟨by omega, fun hx => by cases hx⟩ (fun B x hB hd2 => by have := (hTn B x hB).2 hd2; omega) (fun hx => by cases hx)
  have hbm := (h4.out.bn D nd hD'.out).2 hd
  have b5 : Below base w (mapPut W4.drew nd.mp l mk nm (.pointer (some ⟨w2.heap.size, 0, none⟩))) := (below_drewN b4.out 1).grown (mapPut_grown (w := W4.drew) nd.mp l mk nm _) (by show base ≤ W4.heap.size; omega) (fun j hj => by cases hj; exact hbm)
  have hs5 : IsSp (mapPut W4.drew nd.mp l mk nm (.pointer (some ⟨w2.heap.size, 0, none⟩))) w1.heap.size (some ⟨D, 0, none⟩) nm none := by
    unfold IsSp
    rw [mapPut_other (by have := (hTn D nd hD'.out).2 hd; omega)]
    exact row_drew hs4
  have z5 : (mapPut W4.drew nd.mp l mk nm (.pointer (some ⟨w2.heap.size, 0, none⟩))).heap.size = w2.heap.size + 1 := by rw [mapPut_size]; exact hz4
  have k5 : ∀ k, k < w.heap.size → k ≠ nd.mp → (mapPut W4.drew nd.mp l mk nm (.pointer (some ⟨w2.heap.size, 0, none⟩))).heap[k]? = w.heap[k]? := fun k hk h2 => (mapPut_other h2 _ _ _ _).trans (k4 k hk)
  have n15 : (mapPut W4.drew nd.mp l mk nm (.pointer (some ⟨w2.heap.size, 0, none⟩))).cell? ⟨w2.heap.size, 1, none⟩ = some (.slice none 0 0) := by
    have hx : (mapPut W4.drew nd.mp l mk nm (.pointer (some ⟨w2.heap.size, 0, none⟩))).heap[w2.heap.size]? = some (.cells #[.bool false, .slice none 0 0, .map none, .int .i64 1, .int .i64 0] 91 (0, 0)) := by
      rw [mapPut_other (by have := (hTn D nd hD'.out).2 hd; omega)]; exact hn4
    exact row_cell hx rfl
  have k5' := Lib.hid k5
  clear k4 k5 bw1
  have hput' := hput
  clear hput
  have hput := hput'
  have z2'' := Lib.hid z2'
  have hz4' := Lib.hid hz4
  have k5 := k5'.out
  clear k5'
  clear hput' hn4 b14 hs4 gD gm hm he hnew z2' hz4
  go_still_tail 8, (by kernel_rfl)
  change wpList _ _ _ _ _ W4.drew
  generalize mapPut W4.drew nd.mp l mk nm (.pointer (some ⟨w2.heap.size, 0, none⟩)) = W5 at hput h5 b5 hs5 z5 k5 n15
  have k5' := Lib.hid k5
  clear k5
  generalize W4.drew = W4d at hput
  obtain ⟨ck5, ht5⟩ := h5.top
  have c2 : W5.cell? ⟨t, 2, none⟩ = some (.int .i64 cnt) := row_cell ht5 rfl
  have f2 := row_free ht5 2
  have hw : IntKind.i64.wrap ((cnt : Int) + 1) = ((cnt + 1 : Nat) : Int) := by rw [IntKind.wrap_i64]; omega
  have s5 : W5.cell? ⟨w1.heap.size, 0, none⟩ = some (.pointer (some ⟨D, 0, none⟩)) := row_cell hs5 rfl
  have hne1 : w1.heap.size ≠ t := by omega
  have hne2 : t ≠ w1.heap.size := by omega
  have h5' := Lib.hid h5
  have b5' := Lib.hid b5
  clear h5 b5 ht5 hs5
  go_wp2_with fail
  rw [show ((cnt : Int) + 1) = ((cnt + 1 : Nat) : Int) by omega]
  have z2v := z2''.out
  clear z2'' hz4'
  have h6 := h5'.out.set_count (cnt + 1)
  have b6 := b5'.out.setCell (p := ⟨t, 2, none⟩) h5'.out.bt (.int .i64 ((cnt + 1 : Nat) : Int))
  have z6 : (W5.setCell ⟨t, 2, none⟩ (.int .i64 ((cnt + 1 : Nat) : Int))).heap.size = w2.heap.size + 1 := by rw [World.size_setCell]; exact z5
  have k6 : ∀ k, k < w.heap.size → k ≠ t → k ≠ nd.mp → (W5.setCell ⟨t, 2, none⟩ (.int .i64 ((cnt + 1 : Nat) : Int))).heap[k]? = w.heap[k]? := fun k hk1 hk2 hk3 => (Below.heap_setCell _ _ _ _ hk2).trans (k5'.out k hk1 hk3)
  have n16 : (W5.setCell ⟨t, 2, none⟩ (.int .i64 ((cnt + 1 : Nat) : Int))).cell? ⟨w2.heap.size, 1, none⟩ = some (.slice none 0 0) := by rw [World.cell?_setCell_far _ ⟨t, 2, none⟩ ⟨w2.heap.size, 1, none⟩ _ (by show t ≠ w2.heap.size; omega)]; exact n15
  generalize W5.setCell ⟨t, 2, none⟩ (.int .i64 ((cnt + 1 : Nat) : Int)) = W6 at h6 b6 z6 k6 n16
  have k6 := Lib.hid k6
  have hrow : NRow (W6.alloc (.cells #[.pointer (some ⟨w2.heap.size, 0, none⟩), .pointer (some ⟨D, 0, none⟩)] 88)) (w2.heap.size + 1) [w2.heap.size, D] := by
    have := heap_alloc_new W6 (.cells #[.pointer (some ⟨w2.heap.size, 0, none⟩), .pointer (some ⟨D, 0, none⟩)] 88)
    rw [z6] at this
    exact this
  have n17 : (W6.alloc (.cells #[.pointer (some ⟨w2.heap.size, 0, none⟩), .pointer (some ⟨D, 0, none⟩)] 88)).cell? ⟨w2.heap.size, 1, none⟩ = some (.slice none 0 0) := by rw [World.cell?_alloc_lt _ _ ⟨w2.heap.size, 1, none⟩ (by show w2.heap.size < W6.heap.size; omega)]; exact n16
  have h7 := h6.below ((Below.refl W6.heap.size W6).alloc (Nat.le_refl _) (.cells #[.pointer (some ⟨w2.heap.size, 0, none⟩), .pointer (some ⟨D, 0, none⟩)] 88))
  have b7 := Lib.hid (b6.alloc (by omega) (.cells #[.pointer (some ⟨w2.heap.size, 0, none⟩), .pointer (some ⟨D, 0, none⟩)] 88))
  have htb : w2.heap.size + 1 ≠ t := by obtain ⟨k, hk⟩ := h6.top; have := row_lt hk; omega
  refine (tick_any (cnt := cnt + 1) (w2.heap.size + 1) 2 [w2.heap.size, D] _ h7 (fun B x hB => by have := (h6.nds B x hB).lt; omega) htb hrow (by show 2 ≤ 10; decide) (fun B hB => ?_)).mono ?_
  · rcases List.mem_cons.1 hB with rfl | hB
    · exact ⟨_, addT_new _ _ _ _ _⟩
    · rw [List.mem_singleton.1 hB]; exact ⟨_, addT_dir hD'.out (by have := (hTn D nd hD'.out).1; omega) _ _⟩
  rintro e w8 ⟨rfl, h8, b8, hsl8, f8⟩
  have hfr : FrT w w8 t T := fun k hk1 hk2 hk3 hk4 => by
    have hkn : k ≠ w2.heap.size := by omega
    have hkD : k ≠ D := fun e => by rw [e, hD'.out] at hk3; cases hk3
    rw [f8 k hk2 (by rw [addT_old T hkn hkD]; exact hk3), Below.heap_alloc _ _ _ (by omega), k6.out k hk1 hk2 (fun e => hk4 D nd hD'.out hd e.symm)]
  have h8' := Lib.hid h8
  have b8' := Lib.hid (b7.out.trans b8)
  have hC := addT_new T D w2.heap.size nm ⟨false, 0, 0, []⟩
  obtain ⟨⟨sl9, cap9, li9, ti9, gn⟩, -⟩ := h8'.out.nds _ _ hC
  have n1 : w8.cell? ⟨w2.heap.size, 1, none⟩ = some (.slice none 0 0) := by rw [hsl8 _ _ hC]; exact n17
  have hn8 : w2.heap.size < w8.heap.size := row_lt gn
  have hw8 : w.heap.size ≤ w8.heap.size := by omega
  have hS8 := Lib.hid (hout.out w8 hw8 hfr)
  have hfr' := Lib.hid hfr
  have z2w := Lib.hid z2v
  clear gn hsl8 z2v h8 b8 h7 hrow h6 b6 hfr f8 n17 n16
  go_wp2_with (first | (at_builtin; refine append_bytes rfl _ _ rfl w8.heap.size _ [] rfl (World.ownsRow_nil w8 _ _ _) none ⟨#[]⟩ 0 [] rfl rfl (.inl rfl) (fun _ => rfl) (Nat.le_refl _) (by decide) (Nat.le_refl _) ?_; intro v9 w9 hv9 g9; obtain ⟨z9, hS9, bb9, x9⟩ := after_app hS8.out hv9 g9 (fun j hj => by cases hj)) | (at_builtin; refine append_bytes rfl _ _ rfl w8.heap.size v9 [] rfl hv9 pd data cd _ rfl rfl hS9 hnil hcap (by simp; omega) z9 ?_; intro v10 w10 hv10 g10; obtain ⟨sl10, cap10, e10, -⟩ := hv10.shape; have bb10 := bb9.grown g10 z9 x9; have n10 : w10.cell? ⟨w2.heap.size, 1, none⟩ = some (.slice none 0 0) := (bb10.cell (p := ⟨w2.heap.size, 1, none⟩) hn8).trans n1; have f10 : w10.frozen? ⟨w2.heap.size, 1, none⟩ = false := fr_node (h8'.out.below bb10) hC))
  go_ret2
  refine ⟨_, rfl, by have := z2w.out; omega, ?_, ?_, fun k h1 h2 h3 h4 => ?_⟩
  · have := (h8'.out.below bb10).set_data hC sl10 data.size cap10
    rw [setLen_add] at this
    exact this
  · exact (b8'.out.trans (bb10.mono (by have := z2w.out; omega))).setCell (p := ⟨w2.heap.size, 1, none⟩) (by show base ≤ w2.heap.size; have := z2w.out; omega) _
  · rw [Below.heap_setCell _ _ _ _ (by show k ≠ w2.heap.size; have := z2w.out; omega), bb10.block k (by omega), hfr'.out k h1 h2 h3 h4]
set_option maxHeartbeats 1000000 in
set_option maxRecDepth 100000 in
/-- (*tree.Tree).Write of a new file. -/
theorem write_new {N : Nat} {E : Nat → Addr} (s nm data : ByteArray) (pd : Option Addr) (cd : Nat) {D : Nat} {nd : Nd} (w : World) (hE : Errs N E w) (hM : MaxL N w) (hN : N ≤ w.heap.size) (h : IsTc w base t r T cnt) (hbs : base ≤ w.heap.size) (hcn : cnt < 200) (hS : HasB w pd data) (hnil : pd = none → cd = 0) (hcap : data.size ≤ cd) (hdz : data.size ≤ 65536)
    (hf : findP T r s.data.toList = .inr (some D, nm.data.toList, none)) (hD : T D = some nd) (hd : nd.dir = true) (hlk : lookE nd.ents nm.data.toList = none) :
    Calls Tryz.prog 24 #[.pointer (some ⟨t, 0, none⟩), .string s, .slice pd data.size cd, .bool false] w fun e w' => ∃ n, e = .returned .nilIface ∧ w.heap.size ≤ n ∧ IsTc w' base t r (addT T D n nm ⟨false, data.size, 0, []⟩) (cnt + 1) ∧ Below base w w' ∧ FrT w w' t T := by
  have hP := Lib.hid (put_new s nm data pd cd w hE hM hN h hbs hcn hS hnil hcap hdz hf hD hd hlk)
  clear hE hM h hS hf hD
  go_enter Tryz.func24, Tryz.ntmps24
  go_wp2_with fail
  refine hP.out.mono ?_
  rintro e w1 ⟨n, rfl, h1, h2, h3, h4⟩
  have h2' := Lib.hid h2
  have h3' := Lib.hid h3
  have h4' := Lib.hid h4
  clear h2 h3 h4
  go_wp2_with fail
  go_ret
  exact ⟨n, rfl, h1, h2'.out, h3'.out, h4'.out⟩
end Go.Proofs.YtfnaooplpofgiaaGreatDoor
