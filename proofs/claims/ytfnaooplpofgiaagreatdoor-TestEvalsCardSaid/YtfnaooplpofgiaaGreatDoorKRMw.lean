/- The document's Mkdir and Write where a directory is and the name is not. Conditions: the tree lies in memory. -/
import Derived.Test.YtfnaooplpofgiaaGreatDoorKRAr
import Derived.Test.YtfnaooplpofgiaaGreatDoorKTp
import Derived.WalkMore
import Derived.OwnWalk
import Derived.Handy
import Derived.Outline
namespace Go.Proofs.YtfnaooplpofgiaaGreatDoor
open Go Go.RowKit SN

def setD (D : Nat → Option DN) (n : Nat) (nd : DN) : Nat → Option DN := fun C => if C = n then some nd else D C
theorem setD_at (D : Nat → Option DN) (n : Nat) (nd : DN) : setD D n nd n = some nd := by unfold setD; rw [if_pos rfl]
theorem setD_old (D : Nat → Option DN) {n C : Nat} (h : C ≠ n) (nd : DN) : setD D n nd C = D C := by unfold setD; rw [if_neg h]
def NewR (w0 : World) (base m : Nat) (L : DRow) (D : Nat → Option DN) (p : ByteArray) (nd : DN) (e : Ending) (w' : World) : Prop := ∃ n k, e = .returned (fv 0 0 0) ∧ w0.heap.size ≤ n ∧ Below base w0 w' ∧ FrD w0 w' m L ∧ IsDt w' m (insL L k p n) (setD D n nd)
theorem IsDt.lt {w : World} {m : Nat} {L : DRow} {D : Nat → Option DN} (h : IsDt w m L D) : m < w.heap.size := by obtain ⟨g, cap, now, gr, h1, -⟩ := h.row; exact row_lt h1
theorem IsDt.fresh {w w' : World} {m n : Nat} {L : DRow} {D : Nat → Option DN} {nd : DN} (h : IsDt w m L D) (hb : Below w.heap.size w w') (hn : w.heap.size ≤ n) : IsDt w' m L (setD D n nd) :=
  (h.below hb).congr fun x hx => by
    obtain ⟨nx, -, hnx⟩ := h.nds x hx
    exact setD_old D (by have := hnx.lt; omega) nd
theorem insL_fresh {L : DRow} {k : Nat} {p : ByteArray} {n j : Nat} (h : ∀ x, x ∈ L → x.2 ≠ j) (hn : n ≠ j) : ∀ x, x ∈ insL L k p n → x.2 ≠ j := fun x hx => by
  rcases insL_mem hx with rfl | hx
  · exact hn
  · exact h x hx
/-- A fault's block is no part of the tree. -/
theorem IsDt.other {w w' : World} {m : Nat} {L : DRow} {D : Nat → Option DN} (h : IsDt w m L D) {B : Nat} (hg : w.grownBy w' (some B)) {c p l : Int} (hB : IsF w B c p l) : IsDt w' m L D := by
  by_cases hL : 0 < L.length
  · obtain ⟨⟨g, cap, now, gr, h1, hcap, h3, h4⟩, h5, h6, h7⟩ := h
    have hgB := rowg_ne h4 hL hB rfl (fun s e => by cases e)
    have hmB : m ≠ B := by
      rintro rfl
      have hB' : w.heap[m]? = some (.cells (fc c p l) 28 (0, 0)) := hB
      rw [h1] at hB'
      injection hB' with hB'
      injection hB' with _ hB'
      exact absurd hB' (by decide)
    refine ⟨⟨g, cap, now, gr, row_grown h1 hg (fun e => by injection e with e; exact hmB e), hcap, Nat.lt_of_lt_of_le h3 hg.size, fun i x hx j v hv => ?_⟩, fun x hx => ?_, h6, h7⟩
    · exact hg.cell (h4 i x hx j v hv) (fun e => by injection e with e; exact hgB e)
    · obtain ⟨nd, hD, sl, cc, ti, hn⟩ := h5 x hx
      refine ⟨nd, hD, sl, cc, ti, row_grown hn hg (fun e => ?_)⟩
      injection e with e
      have hB' : w.heap[x.2]? = some (.cells (fc c p l) 28 (0, 0)) := by rw [e]; exact hB
      rw [hn] at hB'
      injection hB' with hB'
      injection hB' with _ hB'
      exact absurd hB' (by decide)
  · obtain ⟨⟨g, cap, now, gr, h1, hcap, h3, h4⟩, h5, h6, h7⟩ := h
    have hmB : m ≠ B := by
      rintro rfl
      have hB' : w.heap[m]? = some (.cells (fc c p l) 28 (0, 0)) := hB
      rw [h1] at hB'
      injection hB' with hB'
      injection hB' with _ hB'
      exact absurd hB' (by decide)
    have hnil : L = [] := List.eq_nil_of_length_eq_zero (by omega)
    subst hnil
    exact ⟨⟨g, cap, now, gr, row_grown h1 hg (fun e => by injection e with e; exact hmB e), hcap, Nat.lt_of_lt_of_le h3 hg.size, fun i x hx => by cases hx⟩, fun x hx => (by cases hx), h6, h7⟩
set_option maxHeartbeats 4000000 in
set_option maxRecDepth 100000 in
theorem rmkdir_new {base m : Nat} {L : DRow} {D : Nat → Option DN} (s : ByteArray) (p d : List UInt8) {B : Nat} (w : World) (h : IsDt w m L D) (hm : base ≤ m) (hx : ∀ x, x ∈ L → base ≤ x.2) (hbs : base ≤ w.heap.size) (hL : 0 < L.length) (hlen : L.length < 200)
    (hP : placeD L D s.data.toList = .inr (p, d)) (hpl : p.length ≤ 1000) (hnew : lookE L p = none) (hdir : lookE L d = some B) : Calls Tryz.prog 23 #[.pointer (some ⟨m, 0, none⟩), .string s] w (NewR w base m L D ⟨p.toArray⟩ ⟨true, 0⟩) := by
  have hz := Lib.hid (zF w)
  have ht := Lib.hid h
  have hP' := Lib.hid hP
  have hnew' := Lib.hid hnew
  have hdir' := Lib.hid hdir
  have hx' := Lib.hid hx
  have hml := h.lt
  have hxl := Lib.hid (show ∀ x, x ∈ L → x.2 < w.heap.size from fun x hx => by obtain ⟨nx, -, hnx⟩ := h.nds x hx; exact hnx.lt)
  clear h hP hnew hdir hx
  obtain ⟨Post, hPost⟩ : ∃ Post : Ending → World → Prop, Post = NewR w base m L D ⟨p.toArray⟩ ⟨true, 0⟩ := ⟨_, rfl⟩
  rw [← hPost]
  have hPo := Lib.hid hPost
  clear hPost
  go_enter Tryz.func23, Tryz.ntmps23
  go_wp2_with fail
  refine (rplace_any s _ (ht.out.below ((Below.refl _ _).alloc (Nat.le_refl _) _))).mono ?_
  rw [hP'.out]
  rintro e w1 ⟨b1, rfl⟩
  have hz1 := Lib.hid (row_below hz.out b1 (by simp))
  have bb1 := Lib.hid (((Below.refl w.heap.size w).alloc (Nat.le_refl _) (.cells #[.int .i64 0, .int .i64 0, .int .i64 0] 28)).trans (b1.mono (by simp)))
  have z1 : w.heap.size + 1 ≤ w1.heap.size := by have := b1.size; simpa using this
  have hq := Lib.hid (zF w1)
  clear b1
  go_wp2_with (refine store_flt rfl rfl _ _ rfl _ 0 0 0 0 0 0 rfl rfl hq.out ?_; intro w2 h2 g2 z2; have q1 : w2.cell? ⟨w1.heap.size, 0, none⟩ = some (.int .i64 0) := row_cell h2 rfl)
  have hz2 := Lib.hid (row_grown (row_alloc hz1.out _) g2 (by intro e; injection e with e; omega))
  have bb2 := Lib.hid ((bb1.out.alloc (by omega) (.cells #[.int .i64 0, .int .i64 0, .int .i64 0] 28)).grown g2 (by simp; omega) (fun j hj => by cases hj; omega))
  have z2' : w.heap.size + 1 ≤ w2.heap.size := by rw [z2]; simp; omega
  have ht2 := Lib.hid (ht.out.below bb2.out)
  clear h2 g2 z2 q1 hq hz1 bb1
  refine (rat_any ⟨p.toArray⟩ _ ht2.out).mono ?_
  rintro e w3 ⟨rfl, b3⟩
  have e3 : lookE L (⟨p.toArray⟩ : ByteArray).data.toList = none := hnew'.out
  rw [e3, show aP none = none from rfl]
  have hz3 := Lib.hid (row_below hz2.out b3 (by omega))
  have bb3 := Lib.hid (bb2.out.trans (b3.mono (by omega)))
  have z3 : w.heap.size + 1 ≤ w3.heap.size := by have := b3.size; omega
  have ht3 := Lib.hid (ht2.out.below b3)
  clear b3 e3 ht2 hz2 bb2
  go_wp2_with fail
  have ht4 := ht3
  have hz4 := hz3
  have bb4 := bb3
  have z4 := z3
  clear ht3 hz3 bb3
  refine (nodes_any _ ht4.out).mono ?_
  rintro e w5 ⟨kk, hkk, rfl, b5⟩
  have hkI : ¬ (200 : Int) ≤ (kk : Int) := by omega
  have hz5 := Lib.hid (row_below hz4.out b5 (by omega))
  have bb5 := Lib.hid (bb4.out.trans (b5.mono (by omega)))
  have z5 : w.heap.size + 1 ≤ w5.heap.size := by have := b5.size; omega
  have ht5 := Lib.hid (ht4.out.below b5)
  clear b5 ht4 hz4 bb4 hkk
  have bA : Below w5.heap.size w5 (w5.alloc (.cells #[.bool true, .slice none 0 0, .int .i64 0] 96)) := (Below.refl _ _).alloc (Nat.le_refl _) _
  have hn6 := Lib.hid (show IsDn (w5.alloc (.cells #[.bool true, .slice none 0 0, .int .i64 0] 96)) w5.heap.size ⟨true, 0⟩ from ⟨none, 0, 0, heap_alloc_new w5 _⟩)
  have ht6 := Lib.hid (ht5.out.fresh (n := w5.heap.size) (nd := ⟨true, 0⟩) bA (Nat.le_refl _))
  have hz6 := Lib.hid (row_below hz5.out bA (by omega))
  have bb6 := Lib.hid (bb5.out.trans (bA.mono (by omega)))
  have z6 : (w5.alloc (.cells #[.bool true, .slice none 0 0, .int .i64 0] 96)).heap.size = w5.heap.size + 1 := by simp
  clear bA
  go_wp2_with fail
  have hadd := radd_any (base := base) (⟨p.toArray⟩ : ByteArray) w5.heap.size _ ht6.out hm (by rw [z6]; omega) (setD_at _ _ _) hn6.out (by show p.toArray.size ≤ 1000; simpa using hpl) hlen
  clear hn6
  generalize w5.alloc (.cells #[.bool true, .slice none 0 0, .int .i64 0] 96) = w6 at ht6 hz6 bb6 z6 hadd ⊢
  refine hadd.mono ?_
  clear hadd
  rintro e w7 ⟨rfl, b7, f7, k7, ht7⟩
  have ht7' := Lib.hid ht7
  have b7' := Lib.hid b7
  have f7' := Lib.hid f7
  have z7 : w5.heap.size + 1 ≤ w7.heap.size := by have := b7.size; omega
  have hz7 := Lib.hid (show IsF w7 w.heap.size 0 0 0 from (f7 w.heap.size (by omega) (by omega)).trans hz6.out)
  clear b7 f7 ht7 hz6
  go_wp2_with fail
  refine (rat_any ⟨d.toArray⟩ _ ht7'.out).mono ?_
  rintro e w8 ⟨rfl, b8⟩
  have e8 : lookE (insL L k7 ⟨p.toArray⟩ w5.heap.size) (⟨d.toArray⟩ : ByteArray).data.toList = some B := by
    rw [lookE_ins (by exact hnew'.out)]
    rw [if_neg]
    · exact hdir'.out
    · intro hx
      have hpd : p = d := eq_of_beq hx
      have := hnew'.out
      rw [hpd, hdir'.out] at this
      cases this
  rw [e8, show aP (some B) = some ⟨B, 0, none⟩ from rfl]
  have ht8 := Lib.hid (ht7'.out.below b8)
  have hz8 := Lib.hid (row_below hz7.out b8 (by omega))
  have b8' := Lib.hid b8
  have z8 : w7.heap.size ≤ w8.heap.size := b8.size
  obtain ⟨xB, hxB, hxB2⟩ := lookE_in hdir'.out
  have hBL := Lib.hid (show ∃ x, x ∈ insL L k7 ⟨p.toArray⟩ w5.heap.size ∧ x.2 = B from ⟨xB, insL_old _ _ _ hxB, hxB2⟩)
  have bC : Below w8.heap.size w8 (w8.alloc (.cells #[.pointer (some ⟨w5.heap.size, 0, none⟩), .pointer (some ⟨B, 0, none⟩)] 94)) := (Below.refl _ _).alloc (Nat.le_refl _) _
  have ht9 := Lib.hid (ht8.out.below bC)
  have hz9 := Lib.hid (row_below hz8.out bC (by omega))
  have bC' := Lib.hid bC
  have hst := Lib.hid (stamp_any (base := base) w8.heap.size 2 [w5.heap.size, B] _ ht9.out (by rw [insL_len]; omega) hm (fun x hx => by
      rcases insL_mem hx with rfl | hx
      · show base ≤ w5.heap.size; omega
      · exact hx'.out x hx) (insL_fresh (fun x hx => by have := hxl.out x hx; omega) (by omega) |> fun h x hx => Ne.symm (h x hx)) (by omega) (heap_alloc_new w8 _) (by show 2 ≤ 10; decide) (fun C hC => by
      rcases List.mem_cons.1 hC with rfl | hC
      · exact ⟨_, insL_has _ _ _ _, rfl⟩
      · rw [List.mem_singleton.1 hC]; exact hBL.out))
  clear e8 b8 ht8 hz8 ht9 bC hBL hxB hxB2
  go_wp2_with fail
  refine hst.out.mono ?_
  rintro e w10 ⟨rfl, ht10, b10, f10⟩
  have ht10' := Lib.hid ht10
  have b10' := Lib.hid b10
  have f10' := Lib.hid f10
  have z10 : w8.heap.size + 1 ≤ w10.heap.size := by have := b10.size; simpa using this
  have hz10 := Lib.hid (show IsF w10 w.heap.size 0 0 0 from (f10 w.heap.size (by omega) (insL_fresh (fun x hx => by have := hxl.out x hx; omega) (by omega))).trans hz9.out)
  clear b10 f10 ht10 hst hz9
  go_wp2_with (refine store_flt rfl rfl _ _ rfl _ 0 0 0 0 0 0 rfl rfl hz10.out ?_; intro w11 h11 g11 z11)
  have hfr : ∀ j, j < w.heap.size → j ≠ m → (∀ x, x ∈ L → x.2 ≠ j) → w10.heap[j]? = w.heap[j]? := fun j hj hjm hjx => by
    rw [f10'.out j hjm (insL_fresh hjx (by omega)), bC'.out.block j (by omega), b8'.out.block j (by omega), f7'.out j (by omega) hjm, bb6.out.block j hj]
  have hbl : Below base w w10 := (bb6.out.mono hbs).trans (b7'.out.trans ((b8'.out.mono (by omega)).trans ((bC'.out.mono (by omega)).trans b10'.out)))
  refine ret_flt rfl rfl rfl h11 ?_
  rw [hPo.out]
  have bD : Below w.heap.size w10 w11 := (Below.refl w.heap.size w10).grown g11 (by omega) (fun j hj => by cases hj; exact Nat.le_refl _)
  refine ⟨w5.heap.size, k7, rfl, by omega, hbl.grown g11 (by omega) (fun j hj => by cases hj; exact hbs), fun j hj hjm hjx => (bD.block j hj).trans (hfr j hj hjm hjx), ?_⟩
  exact ht10'.out.other g11 hz10.out
set_option maxHeartbeats 4000000 in
set_option maxRecDepth 100000 in
theorem rwrite_new {base m : Nat} {L : DRow} {D : Nat → Option DN} (s : ByteArray) (p d : List UInt8) (data : ByteArray) (pd : Option Addr) (cd : Nat) {B : Nat} (w : World) (h : IsDt w m L D) (hm : base ≤ m) (hx : ∀ x, x ∈ L → base ≤ x.2) (hbs : base ≤ w.heap.size) (hL : 0 < L.length) (hlen : L.length < 200) (hS : HasB w pd data) (hnil : pd = none → cd = 0) (hcap : data.size ≤ cd) (hdz : data.size ≤ 65536)
    (hP : placeD L D s.data.toList = .inr (p, d)) (hpl : p.length ≤ 1000) (hnew : lookE L p = none) (hdir : lookE L d = some B) : Calls Tryz.prog 25 #[.pointer (some ⟨m, 0, none⟩), .string s, .slice pd data.size cd, .bool false] w (NewR w base m L D ⟨p.toArray⟩ ⟨false, data.size⟩) := by
  have hz := Lib.hid (zF w)
  have ht := Lib.hid h
  have hP' := Lib.hid hP
  have hnew' := Lib.hid hnew
  have hdir' := Lib.hid hdir
  have hx' := Lib.hid hx
  have hml := h.lt
  have hxl := Lib.hid (show ∀ x, x ∈ L → x.2 < w.heap.size from fun x hx => by obtain ⟨nx, -, hnx⟩ := h.nds x hx; exact hnx.lt)
  have hS' := Lib.hid hS
  clear h hP hnew hdir hx hS
  obtain ⟨Post, hPost⟩ : ∃ Post : Ending → World → Prop, Post = NewR w base m L D ⟨p.toArray⟩ ⟨false, data.size⟩ := ⟨_, rfl⟩
  rw [← hPost]
  have hPo := Lib.hid hPost
  clear hPost
  go_enter Tryz.func25, Tryz.ntmps25
  go_wp2_with fail
  refine (rplace_any s _ (ht.out.below ((Below.refl _ _).alloc (Nat.le_refl _) _))).mono ?_
  rw [hP'.out]
  rintro e w1 ⟨b1, rfl⟩
  have hz1 := Lib.hid (row_below hz.out b1 (by simp))
  have bb1 := Lib.hid (((Below.refl w.heap.size w).alloc (Nat.le_refl _) (.cells #[.int .i64 0, .int .i64 0, .int .i64 0] 28)).trans (b1.mono (by simp)))
  have z1 : w.heap.size + 1 ≤ w1.heap.size := by have := b1.size; simpa using this
  have hq := Lib.hid (zF w1)
  clear b1
  go_wp2_with (refine store_flt rfl rfl _ _ rfl _ 0 0 0 0 0 0 rfl rfl hq.out ?_; intro w2 h2 g2 z2; have q1 : w2.cell? ⟨w1.heap.size, 0, none⟩ = some (.int .i64 0) := row_cell h2 rfl)
  have hz2 := Lib.hid (row_grown (row_alloc hz1.out _) g2 (by intro e; injection e with e; omega))
  have bb2 := Lib.hid ((bb1.out.alloc (by omega) (.cells #[.int .i64 0, .int .i64 0, .int .i64 0] 28)).grown g2 (by simp; omega) (fun j hj => by cases hj; omega))
  have z2' : w.heap.size + 1 ≤ w2.heap.size := by rw [z2]; simp; omega
  have ht2 := Lib.hid (ht.out.below bb2.out)
  clear h2 g2 z2 q1 hq hz1 bb1
  refine (rat_any ⟨p.toArray⟩ _ ht2.out).mono ?_
  rintro e w3 ⟨rfl, b3⟩
  have e3 : lookE L (⟨p.toArray⟩ : ByteArray).data.toList = none := hnew'.out
  rw [e3, show aP none = none from rfl]
  have hz3 := Lib.hid (row_below hz2.out b3 (by omega))
  have bb3 := Lib.hid (bb2.out.trans (b3.mono (by omega)))
  have z3 : w.heap.size + 1 ≤ w3.heap.size := by have := b3.size; omega
  have ht3 := Lib.hid (ht2.out.below b3)
  clear b3 e3 ht2 hz2 bb2
  have hS3 := Lib.hid (hS'.out.below bb3.out (Nat.le_refl _))
  have hdI : ¬ (65536 : Int) < (data.size : Int) := by omega
  go_wp2_with (at_builtin; refine append_bytes rfl _ _ rfl w3.heap.size _ [] rfl (World.ownsRow_nil w3 _ _ _) pd data cd _ rfl rfl hS3.out hnil hcap (by simp; omega) (Nat.le_refl _) ?_; intro v4 w4 hv4 g4; obtain ⟨sl4, cap4, e4, -⟩ := hv4.shape; rw [List.nil_append, List.length_map, show data.data.toList.length = data.size by simp] at e4; subst e4)
  have b4 : Below w3.heap.size w3 w4 := (Below.refl _ _).grown g4 (Nat.le_refl _) (fun j hj => by cases hj)
  have ht4 := Lib.hid (ht3.out.below b4)
  have hz4 := Lib.hid (row_below hz3.out b4 (by omega))
  have bb4 := Lib.hid (bb3.out.trans (b4.mono (by omega)))
  have z4 : w.heap.size + 1 ≤ w4.heap.size := by have := b4.size; omega
  clear b4 ht3 hz3 bb3 hv4 g4 hS3
  refine (nodes_any _ ht4.out).mono ?_
  rintro e w5 ⟨kk, hkk, rfl, b5⟩
  have hkI : ¬ (200 : Int) ≤ (kk : Int) := by omega
  have hz5 := Lib.hid (row_below hz4.out b5 (by omega))
  have bb5 := Lib.hid (bb4.out.trans (b5.mono (by omega)))
  have z5 : w.heap.size + 1 ≤ w5.heap.size := by have := b5.size; omega
  have ht5 := Lib.hid (ht4.out.below b5)
  clear b5 ht4 hz4 bb4 hkk
  have bA : Below w5.heap.size w5 (w5.alloc (.cells #[.bool false, .slice none 0 0, .int .i64 0] 96)) := (Below.refl _ _).alloc (Nat.le_refl _) _
  have hn6 := Lib.hid (show IsDn (w5.alloc (.cells #[.bool false, .slice none 0 0, .int .i64 0] 96)) w5.heap.size ⟨false, 0⟩ from ⟨none, 0, 0, heap_alloc_new w5 _⟩)
  have ht6 := Lib.hid (ht5.out.fresh (n := w5.heap.size) (nd := ⟨false, 0⟩) bA (Nat.le_refl _))
  have hz6 := Lib.hid (row_below hz5.out bA (by omega))
  have bb6 := Lib.hid (bb5.out.trans (bA.mono (by omega)))
  have z6 : (w5.alloc (.cells #[.bool false, .slice none 0 0, .int .i64 0] 96)).heap.size = w5.heap.size + 1 := by simp
  clear bA
  go_wp2_with fail
  have hadd := radd_any (base := base) (⟨p.toArray⟩ : ByteArray) w5.heap.size _ ht6.out hm (by rw [z6]; omega) (setD_at _ _ _) hn6.out (by show p.toArray.size ≤ 1000; simpa using hpl) hlen
  clear hn6
  generalize w5.alloc (.cells #[.bool false, .slice none 0 0, .int .i64 0] 96) = w6 at ht6 hz6 bb6 z6 hadd ⊢
  refine hadd.mono ?_
  clear hadd
  rintro e w7 ⟨rfl, b7, f7, k7, ht7⟩
  have ht7' := Lib.hid ht7
  have b7' := Lib.hid b7
  have f7' := Lib.hid f7
  have z7 : w5.heap.size + 1 ≤ w7.heap.size := by have := b7.size; omega
  have hz7 := Lib.hid (show IsF w7 w.heap.size 0 0 0 from (f7 w.heap.size (by omega) (by omega)).trans hz6.out)
  clear b7 f7 ht7 hz6
  go_wp2_with fail
  refine (rat_any ⟨d.toArray⟩ _ ht7'.out).mono ?_
  rintro e w8 ⟨rfl, b8⟩
  have e8 : lookE (insL L k7 ⟨p.toArray⟩ w5.heap.size) (⟨d.toArray⟩ : ByteArray).data.toList = some B := by
    rw [lookE_ins (by exact hnew'.out)]
    rw [if_neg]
    · exact hdir'.out
    · intro hx
      have hpd : p = d := eq_of_beq hx
      have := hnew'.out
      rw [hpd, hdir'.out] at this
      cases this
  rw [e8, show aP (some B) = some ⟨B, 0, none⟩ from rfl]
  have ht8 := Lib.hid (ht7'.out.below b8)
  have hz8 := Lib.hid (row_below hz7.out b8 (by omega))
  have b8' := Lib.hid b8
  have z8 : w7.heap.size ≤ w8.heap.size := b8.size
  obtain ⟨xB, hxB, hxB2⟩ := lookE_in hdir'.out
  have hBL := Lib.hid (show ∃ x, x ∈ insL L k7 ⟨p.toArray⟩ w5.heap.size ∧ x.2 = B from ⟨xB, insL_old _ _ _ hxB, hxB2⟩)
  have bC : Below w8.heap.size w8 (w8.alloc (.cells #[.pointer (some ⟨w5.heap.size, 0, none⟩), .pointer (some ⟨B, 0, none⟩)] 94)) := (Below.refl _ _).alloc (Nat.le_refl _) _
  have ht9 := Lib.hid (ht8.out.below bC)
  have hz9 := Lib.hid (row_below hz8.out bC (by omega))
  have bC' := Lib.hid bC
  have hst := Lib.hid (stamp_any (base := base) w8.heap.size 2 [w5.heap.size, B] _ ht9.out (by rw [insL_len]; omega) hm (fun x hx => by
      rcases insL_mem hx with rfl | hx
      · show base ≤ w5.heap.size; omega
      · exact hx'.out x hx) (insL_fresh (fun x hx => by have := hxl.out x hx; omega) (by omega) |> fun h x hx => Ne.symm (h x hx)) (by omega) (heap_alloc_new w8 _) (by show 2 ≤ 10; decide) (fun C hC => by
      rcases List.mem_cons.1 hC with rfl | hC
      · exact ⟨_, insL_has _ _ _ _, rfl⟩
      · rw [List.mem_singleton.1 hC]; exact hBL.out))
  clear e8 b8 ht8 hz8 ht9 bC hBL hxB hxB2
  go_wp2_with fail
  refine hst.out.mono ?_
  rintro e w10 ⟨rfl, ht10, b10, f10⟩
  have ht10' := Lib.hid ht10
  have b10' := Lib.hid b10
  have f10' := Lib.hid f10
  have z10 : w8.heap.size + 1 ≤ w10.heap.size := by have := b10.size; simpa using this
  have hz10 := Lib.hid (show IsF w10 w.heap.size 0 0 0 from (f10 w.heap.size (by omega) (insL_fresh (fun x hx => by have := hxl.out x hx; omega) (by omega))).trans hz9.out)
  clear b10 f10 ht10 hst hz9
  obtain ⟨ndn, hDn, hdn⟩ := ht10'.out.nds (⟨p.toArray⟩, w5.heap.size) (insL_has _ _ _ _)
  have hDn2 : setD D w5.heap.size ⟨false, 0⟩ w5.heap.size = some ndn := hDn
  rw [setD_at] at hDn2
  cases hDn2
  have hdn' := Lib.hid hdn
  obtain ⟨slz, capz, tiz, hnz⟩ := hdn
  have cn : w10.cell? ⟨w5.heap.size, 1, none⟩ = some (.slice slz 0 capz) := row_cell hnz rfl
  have fn1 := row_free hnz 1
  have hz11 := Lib.hid (show IsF (w10.setCell ⟨w5.heap.size, 1, none⟩ (.slice sl4 data.size cap4)) w.heap.size 0 0 0 from row_set_other hz10.out (by omega) _ _)
  clear hnz hDn
  go_wp2_with (refine store_flt rfl rfl _ _ rfl _ 0 0 0 0 0 0 rfl rfl hz11.out ?_; intro w11 h11 g11 z11)
  have hfr : ∀ j, j < w.heap.size → j ≠ m → (∀ x, x ∈ L → x.2 ≠ j) → w10.heap[j]? = w.heap[j]? := fun j hj hjm hjx => by
    rw [f10'.out j hjm (insL_fresh hjx (by omega)), bC'.out.block j (by omega), b8'.out.block j (by omega), f7'.out j (by omega) hjm, bb6.out.block j hj]
  have hbl : Below base w w10 := (bb6.out.mono hbs).trans (b7'.out.trans ((b8'.out.mono (by omega)).trans ((bC'.out.mono (by omega)).trans b10'.out)))
  refine ret_flt rfl rfl rfl h11 ?_
  rw [hPo.out]
  have hz10s : w.heap.size ≤ (w10.setCell ⟨w5.heap.size, 1, none⟩ (.slice sl4 data.size cap4)).heap.size := by simp; omega
  have bD : Below w.heap.size (w10.setCell ⟨w5.heap.size, 1, none⟩ (.slice sl4 data.size cap4)) w11 := (Below.refl w.heap.size _).grown g11 hz10s (fun j hj => by cases hj; exact Nat.le_refl _)
  refine ⟨w5.heap.size, k7, rfl, by omega, (hbl.setCell (p := ⟨w5.heap.size, 1, none⟩) (by show base ≤ w5.heap.size; omega) _).grown g11 (by omega) (fun j hj => by cases hj; exact hbs), fun j hj hjm hjx => (bD.block j hj).trans ((Below.heap_setCell _ _ _ _ (by show j ≠ w5.heap.size; omega)).trans (hfr j hj hjm hjx)), ?_⟩
  refine IsDt.other ?_ g11 hz11.out
  refine (ht10'.out.set_node (by rw [insL_len]; omega) hdn'.out 1 _ (dn_data hdn'.out sl4 data.size cap4)).congr fun x _ => ?_
  unfold setD
  by_cases e : x.2 = w5.heap.size
  · rw [if_pos e, if_pos e]
  · rw [if_neg e, if_neg e, if_neg e]
end Go.Proofs.YtfnaooplpofgiaaGreatDoor
