/- A tree of files that the call itself made: its nodes may be written. No conditions. -/
import Derived.Test.YtfnaooplpofgiaaGreatDoorKTr
import Derived.MapKept
import Derived.Deep.RegionHeld
import Derived.Carry
import Derived.StillTailTactics
import Derived.WalkMore
import Derived.OwnWalk
import Derived.Handy
import Derived.Outline
namespace Go.Proofs.YtfnaooplpofgiaaGreatDoor
open Go Go.RowKit SN

structure IsTc (w : World) (base t r : Nat) (T : Nat → Option Nd) (cnt : Nat) : Prop where
  top : ∃ ck, w.heap[t]? = some (.cells #[.pointer (some ⟨r, 0, none⟩), .int .i64 ck, .int .i64 cnt] 93 (0, 0))
  nds : ∀ B nd, T B = some nd → IsNd w B nd
  root : ∃ nd, T r = some nd
  kids : ∀ B nd x, T B = some nd → x ∈ nd.ents → ∃ kd, T x.2 = some kd
  inj : ∀ B C n1 n2, T B = some n1 → T C = some n2 → n1.dir = true → n2.dir = true → n1.mp = n2.mp → B = C
  bt : base ≤ t
  bn : ∀ B nd, T B = some nd → base ≤ B ∧ (nd.dir = true → base ≤ nd.mp)
variable {w w' : World} {base t r : Nat} {T : Nat → Option Nd} {cnt : Nat}
theorem IsTc.tr (h : IsTc w base t r T cnt) : IsTr w t r T := by
  obtain ⟨ck, ht⟩ := h.top
  exact ⟨⟨ck, _, ht⟩, h.nds, h.root, h.kids⟩
theorem IsTc.below (h : IsTc w base t r T cnt) (hb : Below w.heap.size w w') : IsTc w' base t r T cnt := by
  obtain ⟨ck, ht⟩ := h.top
  exact ⟨⟨ck, by rw [hb.block t (row_lt ht)]; exact ht⟩, fun B nd hB => (h.nds B nd hB).below hb, h.root, h.kids, h.inj, h.bt, h.bn⟩
/-- Only blocks that are no part of the tree have changed. -/
theorem IsTc.keep (h : IsTc w base t r T cnt) (ht : w'.heap[t]? = w.heap[t]?) (hn : ∀ B nd, T B = some nd → w'.heap[B]? = w.heap[B]? ∧ (nd.dir = true → w'.heap[nd.mp]? = w.heap[nd.mp]?)) : IsTc w' base t r T cnt := by
  obtain ⟨ck, ht0⟩ := h.top
  refine ⟨⟨ck, ht.trans ht0⟩, fun B nd hB => ?_, h.root, h.kids, h.inj, h.bt, h.bn⟩
  obtain ⟨h1, h2⟩ := hn B nd hB
  obtain ⟨⟨sl, cap, li, ti, g1⟩, g2⟩ := h.nds B nd hB
  refine ⟨⟨sl, cap, li, ti, h1.trans g1⟩, fun hd => ?_⟩
  obtain ⟨l, ck2, m1, m2⟩ := g2 hd
  exact ⟨l, ck2, (h2 hd).trans m1, m2⟩
theorem IsTc.ne_t (h : IsTc w base t r T cnt) {B : Nat} {nd : Nd} (hB : T B = some nd) : B ≠ t := by
  rintro rfl
  obtain ⟨ck, ht⟩ := h.top
  obtain ⟨⟨sl, cap, li, ti, g1⟩, -⟩ := h.nds _ _ hB
  rw [ht] at g1
  injection g1 with g1
  injection g1 with _ g2
  exact absurd g2 (by decide)
theorem IsTc.mp_t (h : IsTc w base t r T cnt) {B : Nat} {nd : Nd} (hB : T B = some nd) (hd : nd.dir = true) : nd.mp ≠ t := by
  intro e
  obtain ⟨ck, ht⟩ := h.top
  obtain ⟨-, g2⟩ := h.nds _ _ hB
  obtain ⟨l, ck2, m1, -⟩ := g2 hd
  rw [e, ht] at m1
  cases m1
theorem IsTc.mp_n (h : IsTc w base t r T cnt) {B C : Nat} {nd kd : Nd} (hB : T B = some nd) (hC : T C = some kd) (hd : nd.dir = true) : nd.mp ≠ C := by
  intro e
  obtain ⟨-, g2⟩ := h.nds _ _ hB
  obtain ⟨l, ck2, m1, -⟩ := g2 hd
  obtain ⟨⟨sl, cap, li, ti, g1⟩, -⟩ := h.nds _ _ hC
  rw [e, g1] at m1
  cases m1
theorem IsTc.set_clock (h : IsTc w base t r T cnt) (k : Int) : IsTc (w.setCell ⟨t, 1, none⟩ (.int .i64 k)) base t r T cnt := by
  obtain ⟨ck, ht⟩ := h.top
  refine ⟨⟨k, by have := row_set ht 1 (.int .i64 k); exact this⟩, fun B nd hB => ?_, h.root, h.kids, h.inj, h.bt, h.bn⟩
  obtain ⟨⟨sl, cap, li, ti, g1⟩, g2⟩ := h.nds B nd hB
  refine ⟨⟨sl, cap, li, ti, row_set_other g1 (h.ne_t hB) _ _⟩, fun hd => ?_⟩
  obtain ⟨l, ck2, m1, m2⟩ := g2 hd
  exact ⟨l, ck2, row_set_other m1 (h.mp_t hB hd) _ _, m2⟩
theorem IsTc.set_count (h : IsTc w base t r T cnt) (k : Nat) : IsTc (w.setCell ⟨t, 2, none⟩ (.int .i64 k)) base t r T k := by
  obtain ⟨ck, ht⟩ := h.top
  refine ⟨⟨ck, by have := row_set ht 2 (.int .i64 k); exact this⟩, fun B nd hB => ?_, h.root, h.kids, h.inj, h.bt, h.bn⟩
  obtain ⟨⟨sl, cap, li, ti, g1⟩, g2⟩ := h.nds B nd hB
  refine ⟨⟨sl, cap, li, ti, row_set_other g1 (h.ne_t hB) _ _⟩, fun hd => ?_⟩
  obtain ⟨l, ck2, m1, m2⟩ := g2 hd
  exact ⟨l, ck2, row_set_other m1 (h.mp_t hB hd) _ _, m2⟩
theorem IsTc.set_tick (h : IsTc w base t r T cnt) {C : Nat} {kd : Nd} (hC : T C = some kd) (k : Int) : IsTc (w.setCell ⟨C, 4, none⟩ (.int .i64 k)) base t r T cnt := by
  obtain ⟨ck, ht⟩ := h.top
  refine ⟨⟨ck, row_set_other ht (Ne.symm (h.ne_t hC)) _ _⟩, fun B nd hB => ?_, h.root, h.kids, h.inj, h.bt, h.bn⟩
  obtain ⟨⟨sl, cap, li, ti, g1⟩, g2⟩ := h.nds B nd hB
  have hm : nd.dir = true → IsMp (w.setCell ⟨C, 4, none⟩ (.int .i64 k)) nd.mp nd.ents := fun hd => by
    obtain ⟨l, ck2, m1, m2⟩ := g2 hd
    exact ⟨l, ck2, row_set_other m1 (h.mp_n hB hC hd) _ _, m2⟩
  by_cases e : B = C
  · subst e
    refine ⟨⟨sl, cap, li, k, ?_⟩, hm⟩
    have := row_set g1 4 (.int .i64 k)
    exact this
  · exact ⟨⟨sl, cap, li, ti, row_set_other g1 e _ _⟩, hm⟩
/-- A file's bytes are another slice. -/
def setLen (T : Nat → Option Nd) (C len : Nat) : Nat → Option Nd := fun B => if B = C then (T C).map fun nd => { nd with len := len } else T B
/-- One node more, as an entry of a directory. -/
def addT (T : Nat → Option Nd) (D n : Nat) (nm : ByteArray) (kd : Nd) : Nat → Option Nd := fun B =>
  if B = n then some kd else if B = D then (T D).map fun nd => { nd with ents := nd.ents ++ [(nm, n)] } else T B
theorem addT_new (T : Nat → Option Nd) (D n : Nat) (nm : ByteArray) (kd : Nd) : addT T D n nm kd n = some kd := by unfold addT; rw [if_pos rfl]
theorem addT_dir {T : Nat → Option Nd} {D n : Nat} {nd : Nd} (hD : T D = some nd) (hne : D ≠ n) (nm : ByteArray) (kd : Nd) : addT T D n nm kd D = some { nd with ents := nd.ents ++ [(nm, n)] } := by
  unfold addT; rw [if_neg hne, if_pos rfl, hD]; rfl
theorem addT_old (T : Nat → Option Nd) {D n B : Nat} (h1 : B ≠ n) (h2 : B ≠ D) (nm : ByteArray) (kd : Nd) : addT T D n nm kd B = T B := by unfold addT; rw [if_neg h1, if_neg h2]
/-- The world behind a map's update at a key that it does not have. -/
def mapPut (w : World) (m : Nat) (l : Array MapEntry) (ck : Nat) (s : ByteArray) (v : Value) : World := { w with heap := w.heap.setIfInBounds m (.map (l.push { key := .string s, val := v, born := ck }) (ck + 1)) }
theorem run_put {m : Nat} {es : List (ByteArray × Nat)} {l : Array MapEntry} {ck : Nat} (hb : w.heap[m]? = some (.map l ck)) (he : l.toList.map (fun e => (e.key, e.val)) = es.map entV) (s : ByteArray) (hs : lookE es s.data.toList = none) (v : Value) :
    (Instr.mapUpdate 89 (.map (some m)) (.string s) v).run Tryz.prog w = .ok () (mapPut w m l ck s v) := by
  obtain ⟨j, hj⟩ := findNow_ents s l.toList es 0 he
  rw [hs] at hj
  have hj' : Instr.findNow .string (.string s) l.toList 0 = some none := hj
  have hc : (Instr.checkKey false 10000 9 (.string s)).run Tryz.prog w = .ok () w := MapKept.run_checkKey (k := .string s) Tryz.underlying9 (by simp [MapKept.IsKey]) false 9999
  simp [Instr.mapUpdate, run_underlying Tryz.underlying89, MapKept.run_getObj_map hb, hc, MapKept.run_findKey Tryz.underlying9 hj', MapKept.run_setObj_map _ hb, Result.andThen, mapPut]
theorem mapPut_size (m : Nat) (l : Array MapEntry) (ck : Nat) (s : ByteArray) (v : Value) : (mapPut w m l ck s v).heap.size = w.heap.size := by simp [mapPut]
theorem mapPut_at {m : Nat} (hm : m < w.heap.size) (l : Array MapEntry) (ck : Nat) (s : ByteArray) (v : Value) : (mapPut w m l ck s v).heap[m]? = some (.map (l.push { key := .string s, val := v, born := ck }) (ck + 1)) := by
  simp [mapPut, hm]
theorem mapPut_other {m B : Nat} (h : B ≠ m) (l : Array MapEntry) (ck : Nat) (s : ByteArray) (v : Value) : (mapPut w m l ck s v).heap[B]? = w.heap[B]? := by
  simp [mapPut, Ne.symm h]
theorem mapPut_grown (m : Nat) (l : Array MapEntry) (ck : Nat) (s : ByteArray) (v : Value) : w.grownBy (mapPut w m l ck s v) (some m) := ⟨rfl, rfl, rfl, by rw [mapPut_size]; exact Nat.le_refl _, fun k _ hk => mapPut_other (fun e => hk (by rw [e])) l ck s v⟩
/-- A node is laid and becomes an entry. -/
theorem IsTc.add (h : IsTc w base t r T cnt) {D n : Nat} {nd kd : Nd} (hD : T D = some nd) (hd : nd.dir = true) (nm : ByteArray) {l : Array MapEntry} {ck : Nat} (hm : w.heap[nd.mp]? = some (.map l ck)) (he : l.toList.map (fun e => (e.key, e.val)) = nd.ents.map entV)
    (hk : IsNd w n kd) (hk0 : kd.ents = []) (hnew : T n = none) (hnt : n ≠ t) (hmn : kd.dir = true → kd.mp ≠ t ∧ ∀ B x, T B = some x → kd.mp ≠ B ∧ (x.dir = true → kd.mp ≠ x.mp)) (hbn : base ≤ n ∧ (kd.dir = true → base ≤ kd.mp)) (hnm : ∀ B x, T B = some x → x.dir = true → x.mp ≠ n) (hkn : kd.dir = true → kd.mp ≠ n) :
    IsTc (mapPut w nd.mp l ck nm (.pointer (some ⟨n, 0, none⟩))) base t r (addT T D n nm kd) cnt := by
  obtain ⟨tk, ht⟩ := h.top
  have hne : D ≠ n := fun e => by subst e; rw [hD] at hnew; cases hnew
  have hml := row_lt hm
  refine ⟨⟨tk, by rw [mapPut_other (Ne.symm (h.mp_t hD hd))]; exact ht⟩, fun B x hB => ?_, ?_, fun B x y hB hy => ?_, fun B C n1 n2 h1 h2 d1 d2 e => ?_, h.bt, fun B x hB => ?_⟩
  · by_cases e1 : B = n
    · subst e1
      rw [addT_new] at hB; cases hB
      obtain ⟨⟨sl, cap, li, ti, g1⟩, g2⟩ := hk
      refine ⟨⟨sl, cap, li, ti, by rw [mapPut_other (Ne.symm (hnm D nd hD hd))]; exact g1⟩, fun hd2 => ?_⟩
      obtain ⟨l2, ck2, m1, m2⟩ := g2 hd2
      exact ⟨l2, ck2, by rw [mapPut_other ((hmn hd2).2 D nd hD |>.2 hd)]; exact m1, m2⟩
    · by_cases e2 : B = D
      · subst e2
        rw [addT_dir hD hne] at hB; cases hB
        obtain ⟨⟨sl, cap, li, ti, g1⟩, g2⟩ := h.nds _ _ hD
        refine ⟨⟨sl, cap, li, ti, by rw [mapPut_other (Ne.symm (h.mp_n hD hD hd))]; exact g1⟩, fun hd2 => ⟨_, _, mapPut_at hml l ck nm _, ?_⟩⟩
        rw [Array.toList_push, List.map_append, he, List.map_append]
        rfl
      · rw [addT_old T e1 e2] at hB
        obtain ⟨⟨sl, cap, li, ti, g1⟩, g2⟩ := h.nds _ _ hB
        refine ⟨⟨sl, cap, li, ti, by rw [mapPut_other (Ne.symm (h.mp_n hD hB hd))]; exact g1⟩, fun hd2 => ?_⟩
        obtain ⟨l2, ck2, m1, m2⟩ := g2 hd2
        exact ⟨l2, ck2, by rw [mapPut_other (fun e => e2 (h.inj B D x nd hB hD hd2 hd e))]; exact m1, m2⟩
  · obtain ⟨x, hx⟩ := h.root
    by_cases e1 : r = n
    · exact ⟨kd, by rw [e1, addT_new]⟩
    · by_cases e2 : r = D
      · exact ⟨_, by rw [e2]; exact addT_dir hD hne nm kd⟩
      · exact ⟨x, by rw [addT_old T e1 e2]; exact hx⟩
  · have old : ∀ C z, T C = some z → ∃ k2, addT T D n nm kd C = some k2 := fun C z hC => by
      by_cases e1 : C = n
      · exact ⟨kd, by rw [e1, addT_new]⟩
      · by_cases e2 : C = D
        · exact ⟨_, by rw [e2]; exact addT_dir hD hne nm kd⟩
        · exact ⟨z, by rw [addT_old T e1 e2]; exact hC⟩
    by_cases e1 : B = n
    · subst e1; rw [addT_new] at hB; cases hB; rw [hk0] at hy; cases hy
    · by_cases e2 : B = D
      · subst e2
        rw [addT_dir hD hne] at hB; cases hB
        rcases List.mem_append.1 hy with hy | hy
        · obtain ⟨z, hz⟩ := h.kids _ _ _ hD hy; exact old _ _ hz
        · rw [List.mem_singleton.1 hy]; exact ⟨kd, addT_new T _ n nm kd⟩
      · rw [addT_old T e1 e2] at hB
        obtain ⟨z, hz⟩ := h.kids _ _ _ hB hy
        exact old _ _ hz
  · have get : ∀ B x, addT T D n nm kd B = some x → x.dir = true → (B = n ∧ x = kd) ∨ (B ≠ n ∧ ∃ x0, T B = some x0 ∧ x0.dir = true ∧ x0.mp = x.mp) := fun B x hB dx => by
      by_cases e1 : B = n
      · subst e1; rw [addT_new] at hB; cases hB; exact .inl ⟨rfl, rfl⟩
      · by_cases e2 : B = D
        · subst e2; rw [addT_dir hD hne] at hB; cases hB; exact .inr ⟨e1, nd, hD, hd, rfl⟩
        · rw [addT_old T e1 e2] at hB; exact .inr ⟨e1, x, hB, dx, rfl⟩
    rcases get B n1 h1 d1 with ⟨rfl, rfl⟩ | ⟨-, x0, hx, dx, ex⟩ <;> rcases get C n2 h2 d2 with ⟨rfl, rfl⟩ | ⟨-, y0, hy, dy, ey⟩
    · rfl
    · exact absurd (e.trans ey.symm) ((hmn d1).2 _ _ hy |>.2 dy)
    · exact absurd (e.symm.trans ex.symm) ((hmn d2).2 _ _ hx |>.2 dx)
    · exact h.inj B C x0 y0 hx hy dx dy (by rw [ex, ey]; exact e)
  · by_cases e1 : B = n
    · subst e1; rw [addT_new] at hB; cases hB; exact hbn
    · by_cases e2 : B = D
      · subst e2; rw [addT_dir hD hne] at hB; cases hB; exact h.bn _ nd hD
      · rw [addT_old T e1 e2] at hB; exact h.bn _ _ hB
/-- What is no part of the tree stands as it did. -/
def FrT (w w' : World) (t : Nat) (T : Nat → Option Nd) : Prop := ∀ k, k < w.heap.size → k ≠ t → T k = none → (∀ B nd, T B = some nd → nd.dir = true → nd.mp ≠ k) → w'.heap[k]? = w.heap[k]?
/-- A row of nodes in memory. -/
def NRow (w : World) (b : Nat) (l : List Nat) : Prop := w.heap[b]? = some (.cells (l.map fun B => Value.pointer (some ⟨B, 0, none⟩)).toArray 88 (0, 0))
set_option maxHeartbeats 2000000 in
set_option maxRecDepth 100000 in
/-- (*tree.Tree).tick: the tree stands as it did but for clock and ticks. -/
theorem tick_any (b c : Nat) (l : List Nat) (w : World) (h : IsTc w base t r T cnt) (hb : ∀ B nd, T B = some nd → b ≠ B) (hbt : b ≠ t) (hR : NRow w b l) (hl : l.length ≤ 10) (hin : ∀ B ∈ l, ∃ nd, T B = some nd) :
    Calls Tryz.prog 45 #[.pointer (some ⟨t, 0, none⟩), .slice (some ⟨b, 0, none⟩) l.length c] w fun e w' => e = .returned (.tuple #[]) ∧ IsTc w' base t r T cnt ∧ Below base w w' ∧ (∀ C nd, T C = some nd → w'.cell? ⟨C, 1, none⟩ = w.cell? ⟨C, 1, none⟩) ∧ (∀ k, k ≠ t → T k = none → w'.heap[k]? = w.heap[k]?) := by
  have hR' := Lib.hid hR
  have hin' := Lib.hid hin
  have hb' := Lib.hid hb
  have h' := Lib.hid h
  obtain ⟨ck, ht⟩ := h.top
  have c1 : w.cell? ⟨t, 1, none⟩ = some (.int .i64 ck) := row_cell ht rfl
  have f1 := row_free ht 1
  clear hR hin hb h ht
  obtain ⟨Post, hPost⟩ : ∃ Post : Ending → World → Prop, Post = fun e w' => e = .returned (.tuple #[]) ∧ IsTc w' base t r T cnt ∧ Below base w w' ∧ (∀ C nd, T C = some nd → w'.cell? ⟨C, 1, none⟩ = w.cell? ⟨C, 1, none⟩) ∧ (∀ k, k ≠ t → T k = none → w'.heap[k]? = w.heap[k]?) := ⟨_, rfl⟩
  rw [← hPost]
  have hP := Lib.hid hPost
  clear hPost
  go_enter Tryz.func45, Tryz.ntmps45
  go_wp2_with fail
  go_loopw [15] (fun i wr => ∃ (k : Nat), k ≤ l.length ∧ i = .int .i64 k ∧ Hid (IsTc wr base t r T cnt) ∧ Hid (Below base w wr) ∧ Hid (NRow wr b l) ∧ Hid (∀ C nd, T C = some nd → wr.cell? ⟨C, 1, none⟩ = w.cell? ⟨C, 1, none⟩) ∧ Hid (∀ k, k ≠ t → T k = none → wr.heap[k]? = w.heap[k]?)) (fun i _ => l.length - (intOf i).toNat)
  case atStart => exact ⟨0, Nat.zero_le _, rfl, Lib.hid (h'.out.set_clock _), Lib.hid ((Below.refl _ _).setCell (p := ⟨t, 1, none⟩) h'.out.bt _), Lib.hid (row_set_other hR'.out hbt _ _), Lib.hid fun C nd hC => World.cell?_setCell_far _ _ _ _ (Ne.symm (h'.out.ne_t hC)), Lib.hid fun k hk _ => Below.heap_setCell _ _ _ _ hk⟩
  case round =>
    clear c1 f1
    obtain ⟨k, hk, rfl, hTc, hbl, hrow, hsl, hfr⟩ := hrel
    by_cases hkk : k < l.length
    · have hld : wr.cell? ⟨b, k, none⟩ = some (.pointer (some ⟨l[k], 0, none⟩)) := row_cell hrow.out (by rw [List.getElem?_toArray, List.getElem?_map, List.getElem?_eq_getElem hkk]; rfl)
      obtain ⟨nd, hnd⟩ := hin'.out l[k] (List.getElem_mem hkk)
      have hkI : (k : Int) < (l.length : Int) := by omega
      have hnb := hb'.out l[k] nd hnd
      generalize l[k] = C at hld hnd hnb
      obtain ⟨ck, ht⟩ := hTc.out.top
      have c1 : wr.cell? ⟨t, 1, none⟩ = some (.int .i64 ck) := row_cell ht rfl
      obtain ⟨⟨sl, cap, li, ti, g1⟩, -⟩ := hTc.out.nds C nd hnd
      have c4 : wr.cell? ⟨C, 4, none⟩ = some (.int .i64 ti) := row_cell g1 rfl
      have f4 := row_free g1 4
      have hnd' := Lib.hid hnd
      clear ht g1 hnd
      go_wp2_with fail
      case roundEnd =>
        refine ⟨⟨k + 1, by omega, rfl, Lib.hid (hTc.out.set_tick hnd'.out _), Lib.hid (hbl.out.setCell (p := ⟨C, 4, none⟩) (hTc.out.bn C nd hnd'.out).1 _), Lib.hid (row_set_other hrow.out hnb _ _), Lib.hid fun X nx hX => by rw [World.cell?_setCell_other (h := fun e => by injection e with _ e; cases e)]; exact hsl.out X nx hX, Lib.hid fun X h1 h2 => (Below.heap_setCell _ _ _ _ (fun e => by subst e; rw [hnd'.out] at h2; cases h2)).trans (hfr.out X h1 h2)⟩, ?_⟩
        simp [intOf]; omega
    · have hke : k = l.length := by omega
      subst hke
      have hkI : ¬ ((l.length : Nat) : Int) < (l.length : Int) := by omega
      go_wp2_with fail
      refine bodyPost_end (results_none rfl _ _ _) rfl ?_
      rw [hP.out]
      exact ⟨rfl, hTc.out, hbl.out, hsl.out, hfr.out⟩
/-- The tree of a root alone. -/
def oneT (r m : Nat) : Nat → Option Nd := fun B => if B = r then some ⟨true, 0, m, []⟩ else none
theorem oneT_at (r m : Nat) : oneT r m r = some ⟨true, 0, m, []⟩ := by unfold oneT; rw [if_pos rfl]
theorem oneT_inv {r m B : Nat} {nd : Nd} (h : oneT r m B = some nd) : B = r ∧ nd = ⟨true, 0, m, []⟩ := by
  unfold oneT at h
  by_cases e : B = r
  · rw [if_pos e] at h; cases h; exact ⟨e, rfl⟩
  · rw [if_neg e] at h; cases h
theorem new_any (w : World) : Calls Tryz.prog 20 #[] w fun e w' => e = .returned (.pointer (some ⟨w.heap.size + 2, 0, none⟩)) ∧ IsTc w' w.heap.size (w.heap.size + 2) (w.heap.size + 1) (oneT (w.heap.size + 1) w.heap.size) 1 ∧ Below w.heap.size w w' := by
  have hmm := @run_makeMap Tryz.prog
  go_enter Tryz.func20, Tryz.ntmps20
  go_wp2_with fail
  go_ret
  have z1 : (w.alloc (.map #[] 0)).heap.size = w.heap.size + 1 := World.size_alloc _ _
  have hm := heap_alloc_new w (.map #[] 0)
  have hr := heap_alloc_new (w.alloc (.map #[] 0)) (.cells #[.bool true, .slice none 0 0, .map (some w.heap.size), .int .i64 0, .int .i64 0] 91)
  rw [z1] at hr
  have z2 : ((w.alloc (.map #[] 0)).alloc (.cells #[.bool true, .slice none 0 0, .map (some w.heap.size), .int .i64 0, .int .i64 0] 91)).heap.size = w.heap.size + 2 := by rw [World.size_alloc, z1]
  have ht := heap_alloc_new ((w.alloc (.map #[] 0)).alloc (.cells #[.bool true, .slice none 0 0, .map (some w.heap.size), .int .i64 0, .int .i64 0] 91)) (.cells #[.pointer (some ⟨w.heap.size + 1, 0, none⟩), .int .i64 0, .int .i64 1] 93)
  rw [z2] at ht
  refine ⟨rfl, ⟨⟨0, ht⟩, fun B nd hB => ?_, ⟨_, oneT_at _ _⟩, fun B nd x hB hx => ?_, fun B C n1 n2 h1 h2 _ _ _ => by rw [(oneT_inv h1).1, (oneT_inv h2).1], by omega, fun B nd hB => ?_⟩, ?_⟩
  · obtain ⟨rfl, rfl⟩ := oneT_inv hB
    exact ⟨⟨none, 0, 0, 0, row_alloc hr _⟩, fun _ => ⟨#[], 0, row_alloc (row_alloc hm _) _, rfl⟩⟩
  · obtain ⟨rfl, rfl⟩ := oneT_inv hB; cases hx
  · obtain ⟨rfl, rfl⟩ := oneT_inv hB; exact ⟨by omega, fun _ => Nat.le_refl _⟩
  · exact (((Below.refl _ _).alloc (Nat.le_refl _) _).alloc (by simp) _).alloc (by simp; omega) _
set_option maxHeartbeats 4000000 in
set_option maxRecDepth 100000 in
/-- (*tree.Tree).Mkdir where a directory is and the name is not. -/
theorem mkdir_new {N : Nat} {E : Nat → Addr} (s nm : ByteArray) {D : Nat} {nd : Nd} (w : World) (hE : Errs N E w) (hM : MaxL N w) (hN : N ≤ w.heap.size) (h : IsTc w base t r T cnt) (hbs : base ≤ w.heap.size) (hcn : cnt < 200)
    (hf : findP T r s.data.toList = .inr (some D, nm.data.toList, none)) (hD : T D = some nd) (hd : nd.dir = true) (hlk : lookE nd.ents nm.data.toList = none) :
    Calls Tryz.prog 22 #[.pointer (some ⟨t, 0, none⟩), .string s] w fun e w' => e = .returned .nilIface ∧ ∃ n m, w.heap.size ≤ n ∧ w.heap.size ≤ m ∧ IsTc w' base t r (addT T D n nm ⟨true, 0, m, []⟩) (cnt + 1) ∧ Below base w w' ∧ FrT w w' t T := by
  have hF := find_any (E := E) s w hE hM hN h.tr
  rw [hf] at hF
  have hF' : Calls Tryz.prog 43 #[.pointer (some ⟨t, 0, none⟩), .string s] w fun e w' => Below w.heap.size w w' ∧ e = .returned (.tuple #[.agg (spC (some ⟨D, 0, none⟩) nm none), .nilIface]) := hF.mono fun e w' ⟨a, b⟩ => ⟨a, by rw [← bytes_id nm]; exact b⟩
  have hF2 := Lib.hid hF'
  have h' := Lib.hid h
  have hD' := Lib.hid hD
  clear hF hF' hE hM h hD
  have hmm := @run_makeMap Tryz.prog
  go_enter Tryz.func22, Tryz.ntmps22
  go_wp2_with fail
  refine hF2.out.mono ?_
  rintro e w1 ⟨b1, rfl⟩
  have h1 := Lib.hid (h'.out.below b1)
  have bb1 := Lib.hid (b1.mono hbs)
  have bw1 := b1
  have z1 := b1.size
  clear b1
  have hq := Lib.hid (zSp w1)
  obtain ⟨ck, ht1⟩ := h1.out.top
  have ht1' := Lib.hid ht1
  have hcI : ¬ (200 : Int) ≤ (cnt : Int) := by omega
  clear ht1
  go_wp2_with (refine store_sp rfl rfl _ _ rfl _ (some ⟨D, 0, none⟩) none none none nm ⟨#[]⟩ rfl rfl hq.out ?_; intro w2 h2 g2 z2; have q2 : w2.cell? ⟨w1.heap.size, 2, none⟩ = some (.pointer none) := row_cell h2 rfl; have q0 : w2.cell? ⟨w1.heap.size, 0, none⟩ = some (.pointer (some ⟨D, 0, none⟩)) := row_cell h2 rfl; have t2 : w2.cell? ⟨t, 2, none⟩ = some (.int .i64 cnt) := row_cell (row_grown (row_alloc ht1'.out (.cells #[.pointer none, .string ⟨#[]⟩, .pointer none] 103)) g2 (by intro e; injection e with e; have := row_lt ht1'.out; omega)) rfl; have z2h := Lib.hid z2; clear z2)
  have hs2 := Lib.hid h2
  have b12 : Below w1.heap.size w1 w2 := ((Below.refl w1.heap.size w1).alloc (Nat.le_refl _) (.cells #[.pointer none, .string ⟨#[]⟩, .pointer none] 103)).grown g2 (by simp) (fun j hj => by cases hj; exact Nat.le_refl _)
  have z2' : w2.heap.size = w1.heap.size + 1 := by rw [z2h.out]; simp
  have hm4 : ((w2.alloc (.map #[] 0)).alloc (.cells #[.bool true, .slice none 0 0, .map (some w2.heap.size), .int .i64 0, .int .i64 0] 91)).heap[w2.heap.size]? = some (.map #[] 0) := row_alloc (heap_alloc_new w2 _) _
  have hn4 := heap_alloc_new (w2.alloc (.map #[] 0)) (.cells #[.bool true, .slice none 0 0, .map (some w2.heap.size), .int .i64 0, .int .i64 0] 91)
  rw [World.size_alloc] at hn4
  have hz4 : ((w2.alloc (.map #[] 0)).alloc (.cells #[.bool true, .slice none 0 0, .map (some w2.heap.size), .int .i64 0, .int .i64 0] 91)).heap.size = w2.heap.size + 2 := by rw [World.size_alloc, World.size_alloc]
  have b14 : Below w1.heap.size w1 ((w2.alloc (.map #[] 0)).alloc (.cells #[.bool true, .slice none 0 0, .map (some w2.heap.size), .int .i64 0, .int .i64 0] 91)) := (b12.alloc (by omega) _).alloc (by simp; omega) _
  have hs4 : IsSp ((w2.alloc (.map #[] 0)).alloc (.cells #[.bool true, .slice none 0 0, .map (some w2.heap.size), .int .i64 0, .int .i64 0] 91)) w1.heap.size (some ⟨D, 0, none⟩) nm none := row_alloc (row_alloc hs2.out _) _
  clear q2 q0 t2 g2 z2h h2 hs2 b12 ht1' hq hF2
  generalize World.alloc (World.alloc w2 _) _ = W4 at hm4 hn4 hz4 b14 hs4 ⊢
  have h4 := Lib.hid (h1.out.below b14)
  have k4 : ∀ k, k < w.heap.size → W4.heap[k]? = w.heap[k]? := fun k hk => (b14.block k (by omega)).trans (bw1.block k hk)
  have b4 := Lib.hid (bb1.out.trans (b14.mono (by omega)))
  obtain ⟨⟨sl, cap, li, ti, gD⟩, gm⟩ := h4.out.nds D nd hD'.out
  obtain ⟨l, mk, hm, he⟩ := gm hd
  have dD2 : W4.drew.cell? ⟨D, 2, none⟩ = some (.map (some nd.mp)) := row_cell gD (by unfold nodeC; rw [hd]; rfl)
  have s0 : W4.drew.cell? ⟨w1.heap.size, 0, none⟩ = some (.pointer (some ⟨D, 0, none⟩)) := row_cell hs4 rfl
  have s1 : W4.drew.cell? ⟨w1.heap.size, 1, none⟩ = some (.string nm) := row_cell hs4 rfl
  have hput := run_put (w := W4.drew) hm he nm hlk (.pointer (some ⟨w2.heap.size + 1, 0, none⟩))
  have hTn : ∀ B x, T B = some x → B < w1.heap.size ∧ (x.dir = true → x.mp < w1.heap.size) := fun B x hB => by
    obtain ⟨g1, g2⟩ := h1.out.nds B x hB
    exact ⟨(show IsNd w1 B x from ⟨g1, g2⟩).lt, fun hd2 => (g2 hd2).lt⟩
  have htl : t < w1.heap.size := by obtain ⟨ck2, ht2⟩ := h1.out.top; exact row_lt ht2
  have hnew : T (w2.heap.size + 1) = none := by
    cases hx : T (w2.heap.size + 1) with
    | none => rfl
    | some x => have := (hTn _ x hx).1; omega
  have h5 := IsTc.add (w := W4.drew) (n := w2.heap.size + 1) (kd := ⟨true, 0, w2.heap.size, []⟩) (show IsTc W4.drew base t r T cnt from h4.out.keep rfl (fun B x _ => ⟨rfl, fun _ => rfl⟩)) hD'.out hd nm hm he ⟨⟨none, 0, 0, 0, hn4⟩, fun _ => ⟨#[], 0, hm4, rfl⟩⟩ rfl hnew (by omega)
    (fun _ => ⟨by show w2.heap.size ≠ t; omega, fun B x hB => ⟨by have := (hTn B x hB).1; show w2.heap.size ≠ B; omega, fun hd2 => by have := (hTn B x hB).2 hd2; show w2.heap.size ≠ x.mp; omega⟩⟩) ⟨by omega, fun _ => by show base ≤ w2.heap.size; omega⟩ (fun B x hB hd2 => by have := (hTn B x hB).2 hd2; omega) (fun _ => by show w2.heap.size ≠ w2.heap.size + 1; omega)
  have hbm := (h4.out.bn D nd hD'.out).2 hd
  have b5 : Below base w (mapPut W4.drew nd.mp l mk nm (.pointer (some ⟨w2.heap.size + 1, 0, none⟩))) := (below_drewN b4.out 1).grown (mapPut_grown (w := W4.drew) nd.mp l mk nm _) (by show base ≤ W4.heap.size; omega) (fun j hj => by cases hj; exact hbm)
  have hs5 : IsSp (mapPut W4.drew nd.mp l mk nm (.pointer (some ⟨w2.heap.size + 1, 0, none⟩))) w1.heap.size (some ⟨D, 0, none⟩) nm none := by
    unfold IsSp
    rw [mapPut_other (by have := (hTn D nd hD'.out).2 hd; omega)]
    exact row_drew hs4
  have z5 : (mapPut W4.drew nd.mp l mk nm (.pointer (some ⟨w2.heap.size + 1, 0, none⟩))).heap.size = w2.heap.size + 2 := by rw [mapPut_size]; exact hz4
  have k5 : ∀ k, k < w.heap.size → k ≠ nd.mp → (mapPut W4.drew nd.mp l mk nm (.pointer (some ⟨w2.heap.size + 1, 0, none⟩))).heap[k]? = w.heap[k]? := fun k hk h2 => (mapPut_other h2 _ _ _ _).trans (k4 k hk)
  have k5' := Lib.hid k5
  clear k4 k5 bw1
  have hput' := hput
  clear hput
  have hput := hput'
  have z2'' := Lib.hid z2'
  have hz4' := Lib.hid hz4
  have k5 := k5'.out
  clear k5'
  clear hput' hm4 hn4 b14 hs4 gD gm hm he hnew z2' hz4
  go_still_tail 8, (by kernel_rfl)
  change wpList _ _ _ _ _ W4.drew
  generalize mapPut W4.drew nd.mp l mk nm (.pointer (some ⟨w2.heap.size + 1, 0, none⟩)) = W5 at hput h5 b5 hs5 z5 k5
  have k5' := Lib.hid k5
  clear k5
  generalize W4.drew = W4d at hput
  obtain ⟨ck5, ht5⟩ := h5.top
  have c2 : W5.cell? ⟨t, 2, none⟩ = some (.int .i64 cnt) := row_cell ht5 rfl
  have f2 := row_free ht5 2
  have hw : IntKind.i64.wrap ((cnt : Int) + 1) = ((cnt + 1 : Nat) : Int) := by rw [IntKind.wrap_i64]; omega
  have s5 : W5.cell? ⟨w1.heap.size, 0, none⟩ = some (.pointer (some ⟨D, 0, none⟩)) := row_cell hs5 rfl
  have hne1 : w1.heap.size ≠ t := by omega
  have hne2 : t ≠ w1.heap.size := by omega
  have h5' := Lib.hid h5
  have b5' := Lib.hid b5
  clear h5 b5 ht5 hs5
  go_wp2_with fail
  rw [show ((cnt : Int) + 1) = ((cnt + 1 : Nat) : Int) by omega]
  have z2v := z2''.out
  clear z2'' hz4'
  have h6 := h5'.out.set_count (cnt + 1)
  have b6 := b5'.out.setCell (p := ⟨t, 2, none⟩) h5'.out.bt (.int .i64 ((cnt + 1 : Nat) : Int))
  have z6 : (W5.setCell ⟨t, 2, none⟩ (.int .i64 ((cnt + 1 : Nat) : Int))).heap.size = w2.heap.size + 2 := by rw [World.size_setCell]; exact z5
  have k6 : ∀ k, k < w.heap.size → k ≠ t → k ≠ nd.mp → (W5.setCell ⟨t, 2, none⟩ (.int .i64 ((cnt + 1 : Nat) : Int))).heap[k]? = w.heap[k]? := fun k hk1 hk2 hk3 => (Below.heap_setCell _ _ _ _ hk2).trans (k5'.out k hk1 hk3)
  generalize W5.setCell ⟨t, 2, none⟩ (.int .i64 ((cnt + 1 : Nat) : Int)) = W6 at h6 b6 z6 k6
  have k6 := Lib.hid k6
  have hrow : NRow (W6.alloc (.cells #[.pointer (some ⟨w2.heap.size + 1, 0, none⟩), .pointer (some ⟨D, 0, none⟩)] 88)) (w2.heap.size + 2) [w2.heap.size + 1, D] := by
    have := heap_alloc_new W6 (.cells #[.pointer (some ⟨w2.heap.size + 1, 0, none⟩), .pointer (some ⟨D, 0, none⟩)] 88)
    rw [z6] at this
    exact this
  have h7 := h6.below ((Below.refl W6.heap.size W6).alloc (Nat.le_refl _) (.cells #[.pointer (some ⟨w2.heap.size + 1, 0, none⟩), .pointer (some ⟨D, 0, none⟩)] 88))
  have b7 := Lib.hid (b6.alloc (by omega) (.cells #[.pointer (some ⟨w2.heap.size + 1, 0, none⟩), .pointer (some ⟨D, 0, none⟩)] 88))
  have htb : w2.heap.size + 2 ≠ t := by obtain ⟨k, hk⟩ := h6.top; have := row_lt hk; omega
  refine (tick_any (cnt := cnt + 1) (w2.heap.size + 2) 2 [w2.heap.size + 1, D] _ h7 (fun B x hB => by have := (h6.nds B x hB).lt; omega) htb hrow (by show 2 ≤ 10; decide) (fun B hB => ?_)).mono ?_
  · rcases List.mem_cons.1 hB with rfl | hB
    · exact ⟨_, addT_new _ _ _ _ _⟩
    · rw [List.mem_singleton.1 hB]; exact ⟨_, addT_dir hD'.out (by have := (hTn D nd hD'.out).1; omega) _ _⟩
  rintro e w8 ⟨rfl, h8, b8, -, f8⟩
  have hfr : FrT w w8 t T := fun k hk1 hk2 hk3 hk4 => by
    have hkn : k ≠ w2.heap.size + 1 := by omega
    have hkD : k ≠ D := fun e => by rw [e, hD'.out] at hk3; cases hk3
    rw [f8 k hk2 (by rw [addT_old T hkn hkD]; exact hk3), Below.heap_alloc _ _ _ (by omega), k6.out k hk1 hk2 (fun e => hk4 D nd hD'.out hd e.symm)]
  have h8' := Lib.hid h8
  have b8' := Lib.hid (b7.out.trans b8)
  clear h8 b8 h7 hrow h6 b6
  go_wp2_with fail
  go_ret
  exact ⟨rfl, w2.heap.size + 1, w2.heap.size, by omega, by omega, h8'.out, b8'.out, hfr⟩
end Go.Proofs.YtfnaooplpofgiaaGreatDoor
