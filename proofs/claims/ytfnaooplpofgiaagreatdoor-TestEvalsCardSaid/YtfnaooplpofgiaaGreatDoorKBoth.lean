/- The program's tree and the document's, side by side in memory: what one writes leaves the other as it was. No conditions. -/
import Derived.Test.YtfnaooplpofgiaaGreatDoorKTp
import Derived.Test.YtfnaooplpofgiaaGreatDoorKRMw
import Derived.Test.YtfnaooplpofgiaaGreatDoorKFilP
import Derived.WalkMore
import Derived.OwnWalk
import Derived.Handy
import Derived.Outline
namespace Go.Proofs.YtfnaooplpofgiaaGreatDoor
open Go Go.RowKit SN

section
variable {w w' : World} {base t r m : Nat} {T : Nat → Option Nd} {cnt : Nat} {L : DRow} {D : Nat → Option DN}
theorem tc_apart (h : IsTc w base t r T cnt) {k : Nat} {cs : Array Value} {ty : TypeId} (hk : w.heap[k]? = some (.cells cs ty (0, 0))) (h1 : ty ≠ 93) (h2 : ty ≠ 91) : k ≠ t ∧ T k = none ∧ ∀ B nd, T B = some nd → nd.dir = true → nd.mp ≠ k := by
  refine ⟨?_, ?_, fun B nd hB hd e => ?_⟩
  · rintro rfl
    obtain ⟨ck, ht⟩ := h.top
    rw [hk] at ht
    injection ht with ht
    injection ht with _ ht
    exact h1 ht
  · cases hB : T k with
    | none => rfl
    | some nd =>
      obtain ⟨⟨sl, cap, li, ti, g1⟩, -⟩ := h.nds k nd hB
      rw [hk] at g1
      injection g1 with g1
      injection g1 with _ g1
      exact absurd g1 h2
  · obtain ⟨-, g2⟩ := h.nds B nd hB
    obtain ⟨l, ck2, m1, -⟩ := g2 hd
    rw [e, hk] at m1
    cases m1
theorem str_out (h : IsTc w base t r T cnt) {b : Nat} {s : ByteArray} (hc : w.cell? ⟨b, 0, none⟩ = some (.string s)) : b ≠ t ∧ T b = none ∧ ∀ B nd, T B = some nd → nd.dir = true → nd.mp ≠ b := by
  refine ⟨?_, ?_, fun B nd hB hd e => ?_⟩
  · rintro rfl
    obtain ⟨ck, ht⟩ := h.top
    have h2 : w.cell? ⟨b, 0, none⟩ = some (.pointer (some ⟨r, 0, none⟩)) := row_cell ht rfl
    rw [h2] at hc
    cases hc
  · cases hB : T b with
    | none => rfl
    | some nd =>
      obtain ⟨⟨sl, cap, li, ti, g1⟩, -⟩ := h.nds b nd hB
      have h2 : w.cell? ⟨b, 0, none⟩ = some (.bool nd.dir) := row_cell g1 rfl
      rw [h2] at hc
      cases hc
  · obtain ⟨-, g2⟩ := h.nds B nd hB
    obtain ⟨l, ck2, m1, -⟩ := g2 hd
    unfold World.cell? at hc
    rw [e] at m1
    rw [m1] at hc
    cases hc
/-- The program's tree has changed; the document's stands. -/
theorem IsDt.keepT (h : IsDt w m L D) (hL : 0 < L.length) (ht : IsTc w base t r T cnt) (hf : FrT w w' t T) (hz : w.heap.size ≤ w'.heap.size) : IsDt w' m L D := by
  obtain ⟨⟨g, cap, now, gr, h1, hcap, h3, h4⟩, h5, h6, h7⟩ := h
  have am := tc_apart ht h1 (by decide) (by decide)
  have ag := str_out ht (b := g) (s := (L[0]).1) (h4 0 L[0] (List.getElem?_eq_getElem hL) 0 (.string (L[0]).1) rfl)
  have eg := hf g h3 ag.1 ag.2.1 ag.2.2
  refine ⟨⟨g, cap, now, gr, (hf m (row_lt h1) am.1 am.2.1 am.2.2).trans h1, hcap, Nat.lt_of_lt_of_le h3 hz, fun i x hx j v hv => ?_⟩, fun x hx => ?_, h6, h7⟩
  · have h8 := h4 i x hx j v hv
    show w'.cell? ⟨g, i * 2 + j, none⟩ = some v
    rw [World.cell?_of_block (w := w) (by exact eg)]
    exact h8
  · obtain ⟨nd, hD, sl, c, ti, hn⟩ := h5 x hx
    have an := tc_apart ht hn (by decide) (by decide)
    exact ⟨nd, hD, sl, c, ti, (hf x.2 (row_lt hn) an.1 an.2.1 an.2.2).trans hn⟩
/-- The document's tree has changed; the program's stands. -/
theorem IsTc.keepD (ht : IsTc w base t r T cnt) (h : IsDt w m L D) (hf : FrD w w' m L) : IsTc w' base t r T cnt := by
  obtain ⟨⟨g, cap, now, gr, h1, -⟩, h5, -⟩ := h
  have am := tc_apart ht h1 (by decide) (by decide)
  have an : ∀ x, x ∈ L → x.2 ≠ t ∧ T x.2 = none ∧ ∀ B nd, T B = some nd → nd.dir = true → nd.mp ≠ x.2 := fun x hx => by
    obtain ⟨nd, -, sl, c, ti, hn⟩ := h5 x hx
    exact tc_apart ht hn (by decide) (by decide)
  obtain ⟨ck, htop⟩ := ht.top
  refine ht.keep (hf t (row_lt htop) (Ne.symm am.1) (fun x hx => (an x hx).1)) fun B nd hB => ⟨hf B ?_ ?_ ?_, fun hd => hf nd.mp ?_ ?_ ?_⟩
  · obtain ⟨⟨sl, cap, li, ti, g1⟩, -⟩ := ht.nds B nd hB; exact row_lt g1
  · rintro rfl; rw [am.2.1] at hB; cases hB
  · intro x hx e; have := (an x hx).2.1; rw [e, hB] at this; cases this
  · obtain ⟨-, g2⟩ := ht.nds B nd hB; obtain ⟨l, ck2, m1, -⟩ := g2 hd
    exact (Array.getElem?_eq_some_iff.1 m1).1
  · exact am.2.2 B nd hB hd
  · intro x hx e; exact (an x hx).2.2 B nd hB hd e.symm
/-- Both trees in memory. -/
structure Two (base : Nat) (w : World) (t r : Nat) (T : Nat → Option Nd) (cnt m : Nat) (L : DRow) (D : Nat → Option DN) : Prop where
  tc : IsTc w base t r T cnt
  dt : IsDt w m L D
  bm : base ≤ m
  bx : ∀ x, x ∈ L → base ≤ x.2
  ln : 0 < L.length
  bs : base ≤ w.heap.size
theorem Two.below (h : Two base w t r T cnt m L D) (hb : Below w.heap.size w w') : Two base w' t r T cnt m L D := ⟨h.tc.below hb, h.dt.below hb, h.bm, h.bx, h.ln, Nat.le_trans h.bs hb.size⟩
/-- Rows of texts stand as they did. -/
def StrK (w w' : World) : Prop := ∀ (b : Nat) (cs : Array Value) (ty : TypeId), w.heap[b]? = some (.cells cs ty (0, 0)) → (∃ s, cs[0]? = some (.string s)) → w'.heap[b]? = w.heap[b]?
theorem Two.strT (h : Two base w t r T cnt m L D) (hf : FrT w w' t T) : StrK w w' := by
  intro b cs ty hb ⟨s, hs⟩
  have ho := str_out h.tc (b := b) (s := s) (row_cell hb hs)
  exact hf b (row_lt hb) ho.1 ho.2.1 ho.2.2
theorem Two.strD (h : Two base w t r T cnt m L D) (hf : FrD w w' m L) : StrK w w' := by
  intro b cs ty hb ⟨s, hs⟩
  have hc : w.cell? ⟨b, 0, none⟩ = some (.string s) := row_cell hb hs
  refine hf b (row_lt hb) ?_ fun x hx e => ?_
  · rintro rfl
    obtain ⟨g, cap, now, gr, h1, -⟩ := h.dt.row
    have h2 : w.cell? ⟨b, 0, none⟩ = some (.slice (some ⟨g, 0, none⟩) L.length cap) := row_cell h1 rfl
    rw [h2] at hc
    cases hc
  · obtain ⟨nd, -, sl, c, ti, hn⟩ := h.dt.nds x hx
    have h2 : w.cell? ⟨x.2, 0, none⟩ = some (.bool nd.dir) := row_cell hn rfl
    rw [e, hc] at h2
    cases h2
def TStep (base : Nat) (w : World) (t r : Nat) (T : Nat → Option Nd) (cnt m : Nat) (L : DRow) (D : Nat → Option DN) (B0 : Nat) (nd : Nd) (nm : ByteArray) (d : Bool) (len : Nat) (e : Ending) (w' : World) : Prop := e = .returned .nilIface ∧ StrK w w' ∧ Below base w w' ∧
  ∃ n T' mp, Two base w' t r T' (cnt + 1) m L D ∧ T' n = some ⟨d, len, mp, []⟩ ∧ T' B0 = some ⟨nd.dir, nd.len, nd.mp, nd.ents ++ [(nm, n)]⟩ ∧ ∀ B x, T B = some x → B ≠ n ∧ (B ≠ B0 → T' B = some x)
def DStep (base : Nat) (w : World) (t r : Nat) (T : Nat → Option Nd) (cnt m : Nat) (L : DRow) (D : Nat → Option DN) (p : List UInt8) (nd : DN) (e : Ending) (w' : World) : Prop := e = .returned (fv 0 0 0) ∧ StrK w w' ∧ Below base w w' ∧
  ∃ n L' D', Two base w' t r T cnt m L' D' ∧ L'.length = L.length + 1 ∧ (∀ s, lookE L' s = if p == s then some n else lookE L s) ∧ (∀ q, hasKid L' q = (hasKid L q || isKid q p)) ∧ D' n = some nd ∧ (∀ s B, lookE L s = some B → D' B = D B)
theorem addT_step (h : IsTc w base t r T cnt) {B0 n : Nat} {nd : Nd} (hB : T B0 = some nd) (hn : w.heap.size ≤ n) (nm : ByteArray) (kd : Nd) :
    addT T B0 n nm kd n = some kd ∧ addT T B0 n nm kd B0 = some ⟨nd.dir, nd.len, nd.mp, nd.ents ++ [(nm, n)]⟩ ∧ ∀ B x, T B = some x → B ≠ n ∧ (B ≠ B0 → addT T B0 n nm kd B = some x) := by
  have lt : ∀ B x, T B = some x → B ≠ n := fun B x hx => by have := (h.nds B x hx).lt; omega
  exact ⟨addT_new T B0 n nm kd, addT_dir hB (lt _ _ hB) nm kd, fun B x hx => ⟨lt B x hx, fun hne => by rw [addT_old T (lt B x hx) hne]; exact hx⟩⟩
theorem two_tmk {N : Nat} {E : Nat → Addr} (s nm : ByteArray) {B0 : Nat} {nd : Nd} (hE : Errs N E w) (hM : MaxL N w) (hN : N ≤ w.heap.size) (h : Two base w t r T cnt m L D) (hcn : cnt < 200)
    (hf : findP T r s.data.toList = .inr (some B0, nm.data.toList, none)) (hD : T B0 = some nd) (hd : nd.dir = true) (hlk : lookE nd.ents nm.data.toList = none) :
    Calls Tryz.prog 22 #[.pointer (some ⟨t, 0, none⟩), .string s] w (TStep base w t r T cnt m L D B0 nd nm true 0) :=
  (mkdir_new s nm w hE hM hN h.tc h.bs hcn hf hD hd hlk).mono fun e w' ⟨he, n, mp, h1, _, h3, h4, h5⟩ => by
    have hz : w.heap.size ≤ w'.heap.size := h4.size
    obtain ⟨a1, a2, a3⟩ := addT_step h.tc hD h1 nm ⟨true, 0, mp, []⟩
    exact ⟨he, h.strT h5, h4, n, _, mp, ⟨h3, h.dt.keepT h.ln h.tc h5 hz, h.bm, h.bx, h.ln, Nat.le_trans h.bs hz⟩, a1, a2, a3⟩
theorem two_twr {N : Nat} {E : Nat → Addr} (s nm data : ByteArray) (pd : Option Addr) (cd : Nat) {B0 : Nat} {nd : Nd} (hE : Errs N E w) (hM : MaxL N w) (hN : N ≤ w.heap.size) (h : Two base w t r T cnt m L D) (hcn : cnt < 200) (hS : HasB w pd data) (hnil : pd = none → cd = 0) (hcap : data.size ≤ cd) (hdz : data.size ≤ 65536)
    (hf : findP T r s.data.toList = .inr (some B0, nm.data.toList, none)) (hD : T B0 = some nd) (hd : nd.dir = true) (hlk : lookE nd.ents nm.data.toList = none) :
    Calls Tryz.prog 24 #[.pointer (some ⟨t, 0, none⟩), .string s, .slice pd data.size cd, .bool false] w (TStep base w t r T cnt m L D B0 nd nm false data.size) :=
  (write_new s nm data pd cd w hE hM hN h.tc h.bs hcn hS hnil hcap hdz hf hD hd hlk).mono fun e w' ⟨n, he, h1, h3, h4, h5⟩ => by
    have hz : w.heap.size ≤ w'.heap.size := h4.size
    obtain ⟨a1, a2, a3⟩ := addT_step h.tc hD h1 nm ⟨false, data.size, 0, []⟩
    exact ⟨he, h.strT h5, h4, n, _, 0, ⟨h3, h.dt.keepT h.ln h.tc h5 hz, h.bm, h.bx, h.ln, Nat.le_trans h.bs hz⟩, a1, a2, a3⟩
theorem dstep (h : Two base w t r T cnt m L D) {p : List UInt8} {nd : DN} (hnew : lookE L p = none) {e : Ending} (hR : NewR w base m L D ⟨p.toArray⟩ nd e w') : DStep base w t r T cnt m L D p nd e w' := by
  obtain ⟨n, k, he, h1, h2, h3, h4⟩ := hR
  have hz : w.heap.size ≤ w'.heap.size := h2.size
  refine ⟨he, h.strD h3, h2, n, insL L k ⟨p.toArray⟩ n, setD D n nd, ⟨h.tc.keepD h.dt h3, h4, h.bm, fun x hx => ?_, by rw [insL_len]; omega, Nat.le_trans h.bs hz⟩, insL_len _ _ _ _, fun s => lookE_ins (by exact hnew) k n s, fun q => hasKid_ins L k _ n q, setD_at _ _ _, fun s B hB => ?_⟩
  · rcases insL_mem hx with rfl | hx
    · exact Nat.le_trans h.bs h1
    · exact h.bx x hx
  · obtain ⟨nx, -, hnx⟩ := h.dt.node hB
    exact setD_old D (by have := hnx.lt; omega) nd
theorem two_dmk (s : ByteArray) (p d : List UInt8) {B : Nat} (h : Two base w t r T cnt m L D) (hlen : L.length < 200) (hP : placeD L D s.data.toList = .inr (p, d)) (hpl : p.length ≤ 1000) (hnew : lookE L p = none) (hdir : lookE L d = some B) :
    Calls Tryz.prog 23 #[.pointer (some ⟨m, 0, none⟩), .string s] w (DStep base w t r T cnt m L D p ⟨true, 0⟩) :=
  (rmkdir_new s p d w h.dt h.bm h.bx h.bs h.ln hlen hP hpl hnew hdir).mono fun _ _ hR => dstep h hnew hR
theorem two_dwr (s data : ByteArray) (pd : Option Addr) (cd : Nat) (p d : List UInt8) {B : Nat} (h : Two base w t r T cnt m L D) (hlen : L.length < 200) (hS : HasB w pd data) (hnil : pd = none → cd = 0) (hcap : data.size ≤ cd) (hdz : data.size ≤ 65536) (hP : placeD L D s.data.toList = .inr (p, d)) (hpl : p.length ≤ 1000) (hnew : lookE L p = none) (hdir : lookE L d = some B) :
    Calls Tryz.prog 25 #[.pointer (some ⟨m, 0, none⟩), .string s, .slice pd data.size cd, .bool false] w (DStep base w t r T cnt m L D p ⟨false, data.size⟩) :=
  (rwrite_new s p d data pd cd w h.dt h.bm h.bx h.bs h.ln hlen hS hnil hcap hdz hP hpl hnew hdir).mono fun _ _ hR => dstep h hnew hR
end
/-! Where the paths of files() lead. -/
theorem find_one {T : Nat → Option Nd} {r : Nat} {nd : Nd} (h : T r = some nd) (hd : nd.dir = true) {p s : List UInt8} (hc : cleanP p = some [s]) (hn : lookE nd.ents s = none) : findP T r p = .inr (some r, s, none) := by
  unfold findP
  rw [hc]
  show (match walkT T none [] (some r) [s] with | none => Sum.inl 16 | some x => Sum.inr x) = _
  rw [walk_dir h hd, hn]
  rfl
theorem find_two {T : Nat → Option Nd} {r B : Nat} {nd kd : Nd} (h : T r = some nd) (hd : nd.dir = true) {p s u : List UInt8} (hc : cleanP p = some [s, u]) (hs : lookE nd.ents s = some B) (hB : T B = some kd) (hk : kd.dir = true) (hn : lookE kd.ents u = none) : findP T r p = .inr (some B, u, none) := by
  unfold findP
  rw [hc]
  show (match walkT T none [] (some r) [s, u] with | none => Sum.inl 16 | some x => Sum.inr x) = _
  rw [walk_dir h hd, hs, walk_dir hB hk, hn]
  rfl
theorem place_one {L : DRow} {D : Nat → Option DN} {p s : List UInt8} (hc : cleanP p = some [s]) (h : dirAt L D [] = true) : placeD L D p = .inr (47 :: s, []) := by
  unfold placeD
  rw [hc]
  have e : wayOk L D [s] 1 = true := by
    rw [wayOk_succ]
    show (true && dirAt L D []) = true
    rw [h]; rfl
  show (if wayOk L D [s] 1 then Sum.inr (joinD [s], joinD ([s].take 0)) else Sum.inl 16) = _
  rw [if_pos e, join1]
  rfl
theorem place_two {L : DRow} {D : Nat → Option DN} {p s u : List UInt8} (hc : cleanP p = some [s, u]) (h : dirAt L D [] = true) (h1 : dirAt L D (47 :: s) = true) : placeD L D p = .inr (47 :: (s ++ 47 :: u), 47 :: s) := by
  unfold placeD
  rw [hc]
  have e : wayOk L D [s, u] 2 = true := by
    rw [wayOk_succ, wayOk_succ]
    show ((true && dirAt L D []) && dirAt L D (joinD [s])) = true
    rw [h, join1, h1]; rfl
  show (if wayOk L D [s, u] 2 then Sum.inr (joinD [s, u], joinD ([s, u].take 1)) else Sum.inl 16) = _
  rw [if_pos e, join2]
  show Sum.inr (_, joinD [s]) = _
  rw [join1]
theorem dirAt_of {L : DRow} {D : Nat → Option DN} {p : List UInt8} {B n : Nat} (h : lookE L p = some B) (hD : D B = some ⟨true, n⟩) : dirAt L D p = true := by
  unfold dirAt
  rw [h]
  show (match D B with | none => false | some nd => nd.dir) = true
  rw [hD]
theorem clean_d : cleanP [100] = some [[100]] := by decide
theorem clean_f : cleanP [102] = some [[102]] := by decide
theorem clean_e : cleanP [101] = some [[101]] := by decide
theorem clean_dg : cleanP [100, 47, 103] = some [[100], [103]] := by decide
end Go.Proofs.YtfnaooplpofgiaaGreatDoor
