/- The document's tree: one entry more; stamps. Conditions: the tree lies in memory. -/
import Derived.Test.YtfnaooplpofgiaaGreatDoorKRNw
import Derived.Deep.RegionLawGrows
import Derived.WalkMore
import Derived.OwnWalk
import Derived.Handy
import Derived.Outline
namespace Go.Proofs.YtfnaooplpofgiaaGreatDoor
open Go Go.RowKit SN

/-- A row with one entry more. -/
def insL (L : DRow) (k : Nat) (p : ByteArray) (n : Nat) : DRow := L.take k ++ (p, n) :: L.drop k
theorem insL_len (L : DRow) (k : Nat) (p : ByteArray) (n : Nat) : (insL L k p n).length = L.length + 1 := by
  unfold insL
  rw [List.length_append, List.length_take, List.length_cons, List.length_drop]; omega
theorem insL_mem {L : DRow} {k : Nat} {p : ByteArray} {n : Nat} {x : ByteArray × Nat} (h : x ∈ insL L k p n) : x = (p, n) ∨ x ∈ L := by
  unfold insL at h
  rcases List.mem_append.1 h with h | h
  · exact .inr (List.mem_of_mem_take h)
  · rcases List.mem_cons.1 h with h | h
    · exact .inl h
    · exact .inr (List.mem_of_mem_drop h)
theorem insL_has (L : DRow) (k : Nat) (p : ByteArray) (n : Nat) : (p, n) ∈ insL L k p n := by unfold insL; simp
theorem insL_old {L : DRow} {x : ByteArray × Nat} (k : Nat) (p : ByteArray) (n : Nat) (h : x ∈ L) : x ∈ insL L k p n := by
  rw [← List.take_append_drop k L] at h
  unfold insL
  rcases List.mem_append.1 h with h | h
  · exact List.mem_append.2 (.inl h)
  · exact List.mem_append.2 (.inr (List.mem_cons_of_mem _ h))
theorem lookE_ins {L : DRow} {p : ByteArray} (h : lookE L p.data.toList = none) (k n : Nat) (s : List UInt8) : lookE (insL L k p n) s = if p.data.toList == s then some n else lookE L s := by
  unfold lookE at h ⊢
  rw [Option.map_eq_none_iff] at h
  unfold insL
  by_cases e : (p.data.toList == s) = true
  · rw [if_pos e]
    have e' := eq_of_beq e
    subst e'
    have h1 : (L.take k).find? (fun x => x.1.data.toList == p.data.toList) = none := by
      rw [List.find?_eq_none] at h ⊢
      exact fun x hx => h x (List.mem_of_mem_take hx)
    rw [List.find?_append, h1, Option.none_or, List.find?_cons_of_pos (by exact e)]
    rfl
  · rw [if_neg e]
    have h2 : L.find? (fun x => x.1.data.toList == s) = (L.take k ++ L.drop k).find? (fun x => x.1.data.toList == s) := by rw [List.take_append_drop]
    rw [h2, List.find?_append, List.find?_append, List.find?_cons_of_neg (by exact e)]
theorem hasKid_ins (L : DRow) (k : Nat) (p : ByteArray) (n : Nat) (q : List UInt8) : hasKid (insL L k p n) q = (hasKid L q || isKid q p.data.toList) := by
  unfold hasKid insL
  conv => rhs; rw [← List.take_append_drop k L]
  rw [List.any_append, List.any_append, List.any_cons]
  cases (List.take k L).any fun x => isKid q x.1.data.toList <;> cases isKid q p.data.toList <;> simp
/-- What is no part of the document's tree stands as it did. -/
def FrD (w w' : World) (m : Nat) (L : DRow) : Prop := ∀ k, k < w.heap.size → k ≠ m → (∀ x, x ∈ L → x.2 ≠ k) → w'.heap[k]? = w.heap[k]?
theorem rowg_ne {w : World} {g : Nat} {L : DRow} (h : ∀ i x, L[i]? = some x → w.rangeAt g (i * 2) (entL x)) (hL : 0 < L.length) {B : Nat} {cs : Array Value} {ty : TypeId} (hB : w.heap[B]? = some (.cells cs ty (0, 0))) {v : Value} (h0 : cs[0]? = some v) (hv : ∀ s, v ≠ .string s) : g ≠ B := by
  rintro rfl
  have h1 := h 0 L[0] (List.getElem?_eq_getElem hL) 0 (.string (L[0]).1) rfl
  have h2 : w.cell? ⟨g, 0, none⟩ = some v := row_cell hB h0
  have h3 : w.cell? ⟨g, 0, none⟩ = some (.string (L[0]).1) := h1
  rw [h2] at h3
  cases h3
  exact hv _ rfl
theorem IsDt.ne_m {w : World} {m : Nat} {L : DRow} {D : Nat → Option DN} (h : IsDt w m L D) {B : Nat} {nd : DN} (hB : IsDn w B nd) : B ≠ m := by
  rintro rfl
  obtain ⟨g, cap, now, gr, h1, -⟩ := h.row
  obtain ⟨sl, cap, ti, h2⟩ := hB
  rw [h1] at h2
  injection h2 with h2
  injection h2 with _ h3
  exact absurd h3 (by decide)
theorem range_set {w : World} {g o : Nat} {cs : List Value} (h : w.rangeAt g o cs) {B : Nat} (hB : g ≠ B) (i : Nat) (v : Value) : (w.setCell ⟨B, i, none⟩ v).rangeAt g o cs := fun j u hu => by
  rw [World.cell?_setCell_far _ _ _ _ (Ne.symm hB)]
  exact h j u hu
theorem IsDt.set_now {w : World} {m : Nat} {L : DRow} {D : Nat → Option DN} (h : IsDt w m L D) (hL : 0 < L.length) (k : Int) : IsDt (w.setCell ⟨m, 1, none⟩ (.int .i64 k)) m L D := by
  have hne := @IsDt.ne_m w m L D h
  obtain ⟨⟨g, cap, now, gr, h1, hcap, h3, h4⟩, h5, h6, h7⟩ := h
  have hg := rowg_ne h4 hL h1 rfl (fun s e => by cases e)
  refine ⟨⟨g, cap, k, gr, by have := row_set h1 1 (.int .i64 k); exact this, hcap, by simpa using h3, fun i x hx => range_set (h4 i x hx) hg _ _⟩, fun x hx => ?_, h6, h7⟩
  obtain ⟨nd, hD, hn⟩ := h5 x hx
  have hx2 := hne hn
  obtain ⟨sl, c, ti, hn⟩ := hn
  exact ⟨nd, hD, sl, c, ti, row_set_other hn hx2 _ _⟩
/-- A cell of a node is another value. -/
theorem IsDt.set_node {w : World} {m : Nat} {L : DRow} {D : Nat → Option DN} (h : IsDt w m L D) (hL : 0 < L.length) {B : Nat} {nd nd' : DN} (hB : IsDn w B nd) (i : Nat) (v : Value) (hB' : IsDn (w.setCell ⟨B, i, none⟩ v) B nd') : IsDt (w.setCell ⟨B, i, none⟩ v) m L (fun C => if C = B then some nd' else D C) := by
  have hbm := h.ne_m hB
  obtain ⟨⟨g, cap, now, gr, h1, hcap, h3, h4⟩, h5, h6, h7⟩ := h
  obtain ⟨sl, c, ti, hn0⟩ := hB
  have hg := rowg_ne h4 hL hn0 rfl (fun s e => by cases e)
  refine ⟨⟨g, cap, now, gr, row_set_other h1 (Ne.symm hbm) _ _, hcap, by simpa using h3, fun i x hx => range_set (h4 i x hx) hg _ _⟩, fun x hx => ?_, h6, h7⟩
  by_cases e : x.2 = B
  · exact ⟨nd', by rw [if_pos e], by rw [e]; exact hB'⟩
  · obtain ⟨nx, hD, sl, c, ti, hn⟩ := h5 x hx
    exact ⟨nx, by rw [if_neg e]; exact hD, sl, c, ti, row_set_other hn e _ _⟩
theorem dn_tick {w : World} {B : Nat} {nd : DN} (h : IsDn w B nd) (k : Int) : IsDn (w.setCell ⟨B, 2, none⟩ (.int .i64 k)) B nd := by
  obtain ⟨sl, c, ti, h⟩ := h
  exact ⟨sl, c, k, by have := row_set h 2 (.int .i64 k); exact this⟩
theorem dn_data {w : World} {B : Nat} {nd : DN} (h : IsDn w B nd) (sl : Option Addr) (len cap : Nat) : IsDn (w.setCell ⟨B, 1, none⟩ (.slice sl len cap)) B ⟨nd.dir, len⟩ := by
  obtain ⟨s0, c, ti, h⟩ := h
  exact ⟨sl, cap, ti, by have := row_set h 1 (.slice sl len cap); exact this⟩
theorem IsDt.congr {w : World} {m : Nat} {L : DRow} {D D' : Nat → Option DN} (h : IsDt w m L D) (he : ∀ x, x ∈ L → D' x.2 = D x.2) : IsDt w m L D' :=
  ⟨h.row, fun x hx => by obtain ⟨nd, hD, hn⟩ := h.nds x hx; exact ⟨nd, (he x hx).trans hD, hn⟩, h.few, h.short⟩
theorem IsDt.set_tick {w : World} {m : Nat} {L : DRow} {D : Nat → Option DN} (h : IsDt w m L D) (hL : 0 < L.length) {B : Nat} {nd : DN} (hB : IsDn w B nd) (hD : D B = some nd) (k : Int) : IsDt (w.setCell ⟨B, 2, none⟩ (.int .i64 k)) m L D :=
  (h.set_node hL hB 2 _ (dn_tick hB k)).congr fun x _ => by
    by_cases e : x.2 = B
    · rw [if_pos e, e, hD]
    · rw [if_neg e]
/-- A row of nodes in memory. -/
def NRd (w : World) (b : Nat) (l : List Nat) : Prop := w.heap[b]? = some (.cells (l.map fun B => Value.pointer (some ⟨B, 0, none⟩)).toArray 94 (0, 0))
set_option maxHeartbeats 2000000 in
set_option maxRecDepth 100000 in
/-- stamp: the tree stands as it did but for clock and ticks. -/
theorem stamp_any {base m : Nat} {L : DRow} {D : Nat → Option DN} (b c : Nat) (l : List Nat) (w : World) (h : IsDt w m L D) (hL : 0 < L.length) (hm : base ≤ m) (hx : ∀ x, x ∈ L → base ≤ x.2) (hb : ∀ x, x ∈ L → b ≠ x.2) (hbt : b ≠ m) (hR : NRd w b l) (hl : l.length ≤ 10) (hin : ∀ B ∈ l, ∃ x, x ∈ L ∧ x.2 = B) :
    Calls Tryz.prog 51 #[.pointer (some ⟨m, 0, none⟩), .slice (some ⟨b, 0, none⟩) l.length c] w fun e w' => e = .returned (.tuple #[]) ∧ IsDt w' m L D ∧ Below base w w' ∧ (∀ k, k ≠ m → (∀ x, x ∈ L → x.2 ≠ k) → w'.heap[k]? = w.heap[k]?) := by
  have hR' := Lib.hid hR
  have hin' := Lib.hid hin
  have hb' := Lib.hid hb
  have hx' := Lib.hid hx
  have h' := Lib.hid h
  obtain ⟨g, cap, now, gr, ht, -⟩ := h.row
  have c1 : w.cell? ⟨m, 1, none⟩ = some (.int .i64 now) := row_cell ht rfl
  have f1 := row_free ht 1
  clear hR hin hb h ht hx
  obtain ⟨Post, hPost⟩ : ∃ Post : Ending → World → Prop, Post = fun e w' => e = .returned (.tuple #[]) ∧ IsDt w' m L D ∧ Below base w w' ∧ (∀ k, k ≠ m → (∀ x, x ∈ L → x.2 ≠ k) → w'.heap[k]? = w.heap[k]?) := ⟨_, rfl⟩
  rw [← hPost]
  have hP := Lib.hid hPost
  clear hPost
  go_enter Tryz.func51, Tryz.ntmps51
  go_wp2_with fail
  go_loopw [15] (fun i wr => ∃ (k : Nat), k ≤ l.length ∧ i = .int .i64 k ∧ Hid (IsDt wr m L D) ∧ Hid (Below base w wr) ∧ Hid (NRd wr b l) ∧ Hid (∀ k, k ≠ m → (∀ x, x ∈ L → x.2 ≠ k) → wr.heap[k]? = w.heap[k]?)) (fun i _ => l.length - (intOf i).toNat)
  case atStart => exact ⟨0, Nat.zero_le _, rfl, Lib.hid (h'.out.set_now hL _), Lib.hid ((Below.refl _ _).setCell (p := ⟨m, 1, none⟩) hm _), Lib.hid (row_set_other hR'.out hbt _ _), Lib.hid fun k hk _ => Below.heap_setCell _ _ _ _ hk⟩
  case round =>
    clear c1 f1
    obtain ⟨k, hk, rfl, hTc, hbl, hrow, hfr⟩ := hrel
    by_cases hkk : k < l.length
    · have hld : wr.cell? ⟨b, k, none⟩ = some (.pointer (some ⟨l[k], 0, none⟩)) := row_cell hrow.out (by rw [List.getElem?_toArray, List.getElem?_map, List.getElem?_eq_getElem hkk]; rfl)
      obtain ⟨x, hxL, hxB⟩ := hin'.out l[k] (List.getElem_mem hkk)
      have hkI : (k : Int) < (l.length : Int) := by omega
      have hnb := hb'.out x hxL
      have hbx := hx'.out x hxL
      rw [hxB] at hnb hbx
      generalize l[k] = C at hld hxB hnb hbx
      obtain ⟨g, cap, now, gr, ht, -⟩ := hTc.out.row
      have c1 : wr.cell? ⟨m, 1, none⟩ = some (.int .i64 now) := row_cell ht rfl
      obtain ⟨nd, hD, hdn⟩ := hTc.out.nds x hxL
      rw [hxB] at hD hdn
      have hdn' := Lib.hid hdn
      obtain ⟨sl, cap, ti, g1⟩ := hdn
      have c4 : wr.cell? ⟨C, 2, none⟩ = some (.int .i64 ti) := row_cell g1 rfl
      have f4 := row_free g1 2
      have hD' := Lib.hid hD
      have hxL' := Lib.hid hxL
      have hxB' := Lib.hid hxB
      clear ht g1 hD hxL hxB
      go_wp2_with fail
      case roundEnd =>
        refine ⟨⟨k + 1, by omega, rfl, Lib.hid (hTc.out.set_tick hL hdn'.out hD'.out _), Lib.hid (hbl.out.setCell (p := ⟨C, 2, none⟩) hbx _), Lib.hid (row_set_other hrow.out hnb _ _), Lib.hid fun X h1 h2 => (Below.heap_setCell _ _ _ _ (fun e => h2 x hxL'.out (hxB'.out.trans e.symm))).trans (hfr.out X h1 h2)⟩, ?_⟩
        simp [intOf]; omega
    · have hke : k = l.length := by omega
      subst hke
      have hkI : ¬ ((l.length : Nat) : Int) < (l.length : Int) := by omega
      go_wp2_with fail
      refine bodyPost_end (results_none rfl _ _ _) rfl ?_
      rw [hP.out]
      exact ⟨rfl, hTc.out, hbl.out, hfr.out⟩
end Go.Proofs.YtfnaooplpofgiaaGreatDoor
