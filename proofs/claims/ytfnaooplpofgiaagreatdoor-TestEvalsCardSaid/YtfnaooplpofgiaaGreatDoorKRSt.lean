/- The document's Stat. Conditions: the tree lies in memory. -/
import Derived.Test.YtfnaooplpofgiaaGreatDoorKRKid
import Derived.Test.YtfnaooplpofgiaaGreatDoorKUn
import Derived.Deep.RegionHeld3
import Derived.StillTailTactics
import Derived.BigQuiet
import Derived.WalkMore
import Derived.OwnWalk
import Derived.Handy
import Derived.Outline
namespace Go.Proofs.YtfnaooplpofgiaaGreatDoor
open Go Go.RowKit SN

theorem ret_stf {fn : Func} {p q : Tmp} {R : Ending → World → Prop} {a : Act} {w : World} {B C : Nat} {k z l t c i g : Int} (h : fn.results = #[.cell p 117, .cell q 28]) (hd : a.defers = []) (hp : a.tmps.getD p undef = .pointer (some ⟨B, 0, none⟩))
    (hq : a.tmps.getD q undef = .pointer (some ⟨C, 0, none⟩)) (hS : IsSt w B k z l t) (hF : IsF w C c i g) (hR : R (.returned (.tuple #[.agg (stC k z l t), fv c i g])) w) : bodyPost Tryz.prog fn R .ret a w := by
  have hp' : a.tmps[p]?.getD undef = .pointer (some ⟨B, 0, none⟩) := by simpa using hp
  have hq' : a.tmps[q]?.getD undef = .pointer (some ⟨C, 0, none⟩) := by simpa using hq
  refine bodyPost_ret (v := .tuple #[.agg (stC k z l t), fv c i g]) ?_ hd hR
  have hl := run_loadVar_row (P := Tryz.prog) w B 117 117 (stC k z l t) (0, 0) _ hS Tryz.underlying117 (by rfl) (by rw [sizeSt]; rfl)
  have hl2 := run_loadVar_row (P := Tryz.prog) w C 28 28 (fc c i g) (0, 0) _ hF Tryz.underlying28 (by rfl) (by rw [size3]; rfl)
  simp [results, h, hp', hq', asAddr, hl, hl2, fv, fc]
theorem st_all {w : World} {B : Nat} {k z l t : Int} (h : IsSt w B k z l t) : (w.cell? ⟨B, 0, none⟩ = some (.int .i64 k) ∧ w.cell? ⟨B, 1, none⟩ = some (.int .i64 z) ∧ w.cell? ⟨B, 2, none⟩ = some (.int .i64 l) ∧ w.cell? ⟨B, 3, none⟩ = some (.int .i64 t)) ∧ w.frozen? ⟨B, 0, none⟩ = false ∧ w.frozen? ⟨B, 1, none⟩ = false ∧ w.frozen? ⟨B, 2, none⟩ = false ∧ w.frozen? ⟨B, 3, none⟩ = false :=
  ⟨⟨row_cell h rfl, row_cell h rfl, row_cell h rfl, row_cell h rfl⟩, row_free h 0, row_free h 1, row_free h 2, row_free h 3⟩
theorem flt_all {w : World} {B : Nat} {c p l : Int} (h : IsF w B c p l) : (w.cell? ⟨B, 0, none⟩ = some (.int .i64 c) ∧ w.cell? ⟨B, 1, none⟩ = some (.int .i64 p) ∧ w.cell? ⟨B, 2, none⟩ = some (.int .i64 l)) ∧ w.frozen? ⟨B, 0, none⟩ = false ∧ w.frozen? ⟨B, 1, none⟩ = false ∧ w.frozen? ⟨B, 2, none⟩ = false :=
  ⟨⟨row_cell h rfl, row_cell h rfl, row_cell h rfl⟩, row_free h 0, row_free h 1, row_free h 2⟩
def set7 (w : World) (B C : Nat) (k z l t c p g : Int) : World :=
  (((((((w.setCell ⟨B, 0, none⟩ (.int .i64 k)).setCell ⟨B, 1, none⟩ (.int .i64 z)).setCell ⟨B, 2, none⟩ (.int .i64 l)).setCell ⟨B, 3, none⟩ (.int .i64 t)).setCell ⟨C, 0, none⟩ (.int .i64 c)).setCell ⟨C, 1, none⟩ (.int .i64 p)).setCell ⟨C, 2, none⟩ (.int .i64 g)).drew
theorem two_set {w : World} {B C : Nat} {k0 z0 l0 t0 c0 p0 g0 : Int} (h : IsSt w B k0 z0 l0 t0) (hF : IsF w C c0 p0 g0) (hne : B ≠ C) (k z l t c p g : Int) : IsSt (set7 w B C k z l t c p g) B k z l t ∧ IsF (set7 w B C k z l t c p g) C c p g := by
  constructor
  · refine row_drew (row_set_other (row_set_other (row_set_other ?_ hne _ _) hne _ _) hne _ _)
    rw [row_set (row_set (row_set (row_set h _ _) _ _) _ _) _ _]
    simp [stC]
  · refine row_drew ?_
    have h4 : IsF ((((w.setCell ⟨B, 0, none⟩ (.int .i64 k)).setCell ⟨B, 1, none⟩ (.int .i64 z)).setCell ⟨B, 2, none⟩ (.int .i64 l)).setCell ⟨B, 3, none⟩ (.int .i64 t)) C c0 p0 g0 := row_set_other (row_set_other (row_set_other (row_set_other hF (Ne.symm hne) _ _) (Ne.symm hne) _ _) (Ne.symm hne) _ _) (Ne.symm hne) _ _
    rw [row_set (row_set (row_set h4 _ _) _ _) _ _]
    simp [fc]
def set7n (w : World) (B C : Nat) (k z l t c p g : Int) : World :=
  ((((((w.setCell ⟨B, 0, none⟩ (.int .i64 k)).setCell ⟨B, 1, none⟩ (.int .i64 z)).setCell ⟨B, 2, none⟩ (.int .i64 l)).setCell ⟨B, 3, none⟩ (.int .i64 t)).setCell ⟨C, 0, none⟩ (.int .i64 c)).setCell ⟨C, 1, none⟩ (.int .i64 p)).setCell ⟨C, 2, none⟩ (.int .i64 g)
theorem two_setn {w : World} {B C : Nat} {k0 z0 l0 t0 c0 p0 g0 : Int} (h : IsSt w B k0 z0 l0 t0) (hF : IsF w C c0 p0 g0) (hne : B ≠ C) (k z l t c p g : Int) : IsSt (set7n w B C k z l t c p g) B k z l t ∧ IsF (set7n w B C k z l t c p g) C c p g := by
  constructor
  · refine row_set_other (row_set_other (row_set_other ?_ hne _ _) hne _ _) hne _ _
    rw [row_set (row_set (row_set (row_set h _ _) _ _) _ _) _ _]
    simp [stC]
  · have h4 : IsF ((((w.setCell ⟨B, 0, none⟩ (.int .i64 k)).setCell ⟨B, 1, none⟩ (.int .i64 z)).setCell ⟨B, 2, none⟩ (.int .i64 l)).setCell ⟨B, 3, none⟩ (.int .i64 t)) C c0 p0 g0 := row_set_other (row_set_other (row_set_other (row_set_other hF (Ne.symm hne) _ _) (Ne.symm hne) _ _) (Ne.symm hne) _ _) (Ne.symm hne) _ _
    refine (row_set (row_set (row_set h4 _ _) _ _) _ _).trans ?_
    simp [fc]
theorem two_belown {a w : World} {M B C : Nat} (h : Below M a w) (hB : M ≤ B) (hC : M ≤ C) (k z l t c p g : Int) : Below M a (set7n w B C k z l t c p g) :=
  ((((((h.setCell hB _).setCell hB _).setCell hB _).setCell hB _).setCell hC _).setCell hC _).setCell hC _
theorem two_below {a w : World} {M B C : Nat} (h : Below M a w) (hB : M ≤ B) (hC : M ≤ C) (k z l t c p g : Int) : Below M a (set7 w B C k z l t c p g) :=
  (((((((h.setCell hB _).setCell hB _).setCell hB _).setCell hB _).setCell hC _).setCell hC _).setCell hC _).drew
set_option maxHeartbeats 1000000 in
set_option maxRecDepth 100000 in
theorem rstat_err {m : Nat} {L : DRow} {D : Nat → Option DN} (s : ByteArray) (c : Nat) (hc0 : 0 < c) (w : World) (h : IsDt w m L D) (hP : placeD L D s.data.toList = .inl c) : Calls Tryz.prog 56 #[.pointer (some ⟨m, 0, none⟩), .string s] w (RStatR none w) := by
  have ht := Lib.hid h
  have hP' := Lib.hid hP
  have hc : ¬ (c : Int) = 0 := by omega
  clear h hP
  have bA := Lib.hid ((((Below.refl w.heap.size w).alloc (Nat.le_refl _) (.cells #[.int .i64 0, .int .i64 0, .int .i64 0, .int .i64 0] 117)).alloc (by simp) (.cells #[.int .i64 0, .int .i64 0, .int .i64 0] 28)))
  have hs0 := Lib.hid (row_alloc (zSt w) (.cells #[.int .i64 0, .int .i64 0, .int .i64 0] 28))
  have hf0 := Lib.hid (zF (w.alloc (.cells #[.int .i64 0, .int .i64 0, .int .i64 0, .int .i64 0] 117)))
  rw [World.size_alloc] at hf0
  go_enter Tryz.func56, Tryz.ntmps56
  go_wp2_with fail
  refine (rplace_any s _ (ht.out.below bA.out)).mono ?_
  rw [hP'.out]
  rintro e w1 ⟨b1, rfl⟩
  have hs1 := Lib.hid (row_below hs0.out b1 (by simp; omega))
  have hf1 := Lib.hid (row_below hf0.out b1 (by simp))
  have bB := Lib.hid (bA.out.trans (b1.mono (by simp; omega)))
  have z1 : w.heap.size + 2 ≤ w1.heap.size := by have := b1.size; simpa using this
  have hq := Lib.hid (zF w1)
  clear b1
  go_wp2_with (refine store_flt rfl rfl _ _ rfl _ c 0 11 0 0 0 rfl rfl hq.out ?_; intro w2 h2 g2 z2; have q1 : w2.cell? ⟨w1.heap.size, 0, none⟩ = some (.int .i64 c) := row_cell h2 rfl)
  have n0 : w.heap.size < w1.heap.size := by omega
  have hs2 := Lib.hid (row_drew (row_grown (row_alloc hs1.out _) g2 (by intro e; injection e with e; omega)))
  have hf2 := Lib.hid (row_drew (row_grown (row_alloc hf1.out _) g2 (by intro e; injection e with e; omega)))
  have b3 := Lib.hid ((bB.out.alloc (by omega) (.cells #[.int .i64 0, .int .i64 0, .int .i64 0] 28)).grown g2 (by simp; omega) (fun j hj => by cases hj; omega))
  have f0 : w2.cell? ⟨w1.heap.size, 0, none⟩ = some (.int .i64 c) := row_cell h2 rfl
  have f1 : w2.cell? ⟨w1.heap.size, 1, none⟩ = some (.int .i64 0) := row_cell h2 rfl
  have f2 : w2.cell? ⟨w1.heap.size, 2, none⟩ = some (.int .i64 11) := row_cell h2 rfl
  clear h2 g2 z2
  obtain ⟨⟨x0, x1, x2, x3⟩, xf0, xf1, xf2, xf3⟩ := st_all (show IsSt w2 w.heap.size 0 0 0 0 from hs2.out)
  obtain ⟨⟨y0, y1, y2⟩, yf0, yf1, yf2⟩ := flt_all (show IsF w2 (w.heap.size + 1) 0 0 0 from hf2.out)
  have b4 : Below w.heap.size w w2 := b3.out
  go_region
  clear x0 x1 x2 x3 xf0 xf1 xf2 xf3 y0 y1 y2 yf0 yf1 yf2 f0 f1 f2
  obtain ⟨hS9, hF9⟩ := two_set (show IsSt w2 w.heap.size 0 0 0 0 from hs2.out) (show IsF w2 (w.heap.size + 1) 0 0 0 from hf2.out) (by omega) 0 0 0 0 (c : Int) 0 11
  have b9 := two_below (B := w.heap.size) (C := w.heap.size + 1) (show Below w.heap.size w w2 from b4) (Nat.le_refl _) (by omega) 0 0 0 0 (c : Int) 0 11
  have hS9' := Lib.hid hS9
  have hF9' := Lib.hid hF9
  have b9' := Lib.hid b9
  clear hS9 hF9 b9 b4
  go_wp2_with fail
  exact ret_stf rfl rfl rfl rfl hS9'.out hF9'.out ⟨b9'.out, _, _, _, rfl⟩
theorem IsDt.drew {w : World} {m : Nat} {L : DRow} {D : Nat → Option DN} (h : IsDt w m L D) : IsDt w.drew m L D := h.below (Below.refl _ _).drew
/-- What the document's Stat tells of a node: its kind; of a file how many bytes, of a directory that there is something in it. -/
def RStD (v : Option DN) (w0 : World) (e : Ending) (w' : World) : Prop := ∃ n, (match v with | none => n = none | some nd => ∃ k, n = some (nd.dir, k) ∧ (nd.dir = false → k = nd.len) ∧ (nd.dir = true → 1 ≤ k)) ∧ RStatR n w0 e w'
theorem RStD.no {w0 w' : World} {e : Ending} (h : RStatR none w0 e w') : RStD none w0 e w' := ⟨none, rfl, h⟩
theorem RStD.file {w0 w' : World} {e : Ending} {nd : DN} (hd : nd.dir = false) (h : RStatR (some (false, nd.len)) w0 e w') : RStD (some nd) w0 e w' := ⟨_, ⟨nd.len, by rw [hd], fun _ => rfl, fun h => by rw [hd] at h; cases h⟩, h⟩
theorem RStD.folder {w0 w' : World} {e : Ending} {nd : DN} {k : Nat} (hd : nd.dir = true) (hk : 1 ≤ k) (h : RStatR (some (true, k)) w0 e w') : RStD (some nd) w0 e w' := ⟨_, ⟨k, by rw [hd], fun h => (by rw [hd] at h; cases h), fun _ => hk⟩, h⟩
set_option maxHeartbeats 4000000 in
set_option maxRecDepth 100000 in
theorem rstat_ok {m : Nat} {L : DRow} {D : Nat → Option DN} (s : ByteArray) (p d : List UInt8) (w : World) (h : IsDt w m L D) (hpl : p.length ≤ 2000000) (hP : placeD L D s.data.toList = .inr (p, d))
    (hkid : ∀ B nd, lookE L p = some B → D B = some nd → nd.dir = true → hasKid L p = true) :
    Calls Tryz.prog 56 #[.pointer (some ⟨m, 0, none⟩), .string s] w (RStD ((lookE L p).bind D) w) := by
  obtain ⟨V, hV⟩ : ∃ V, V = (lookE L p).bind D := ⟨_, rfl⟩
  rw [← hV]
  have hV' := Lib.hid hV
  clear hV
  have ht := Lib.hid h
  have hP' := Lib.hid hP
  have hk := Lib.hid hkid
  have hlt := Lib.hid (show ∀ B, lookE L p = some B → B < w.heap.size from fun B hB => by obtain ⟨nd, -, hn⟩ := h.node hB; exact hn.lt)
  clear h hP hkid
  have bA := Lib.hid ((((Below.refl w.heap.size w).alloc (Nat.le_refl _) (.cells #[.int .i64 0, .int .i64 0, .int .i64 0, .int .i64 0] 117)).alloc (by simp) (.cells #[.int .i64 0, .int .i64 0, .int .i64 0] 28)))
  have hs0 := Lib.hid (row_alloc (zSt w) (.cells #[.int .i64 0, .int .i64 0, .int .i64 0] 28))
  have hf0 := Lib.hid (zF (w.alloc (.cells #[.int .i64 0, .int .i64 0, .int .i64 0, .int .i64 0] 117)))
  rw [World.size_alloc] at hf0
  go_enter Tryz.func56, Tryz.ntmps56
  go_wp2_with fail
  refine (rplace_any s _ (ht.out.below bA.out)).mono ?_
  rw [hP'.out]
  rintro e w1 ⟨b1, rfl⟩
  have hs1 := Lib.hid (row_below hs0.out b1 (by simp; omega))
  have hf1 := Lib.hid (row_below hf0.out b1 (by simp))
  have bB := Lib.hid (bA.out.trans (b1.mono (by simp; omega)))
  have z1 : w.heap.size + 2 ≤ w1.heap.size := by have := b1.size; simpa using this
  have hq := Lib.hid (zF w1)
  clear b1
  go_wp2_with (refine store_flt rfl rfl _ _ rfl _ 0 0 0 0 0 0 rfl rfl hq.out ?_; intro w2 h2 g2 z2; have q1 : w2.cell? ⟨w1.heap.size, 0, none⟩ = some (.int .i64 0) := row_cell h2 rfl)
  have n0 : w.heap.size < w1.heap.size := by omega
  have hs2 := Lib.hid (row_grown (row_alloc hs1.out _) g2 (by intro e; injection e with e; omega))
  have hf2 := Lib.hid (row_grown (row_alloc hf1.out _) g2 (by intro e; injection e with e; omega))
  have b3 := Lib.hid ((bB.out.alloc (by omega) (.cells #[.int .i64 0, .int .i64 0, .int .i64 0] 28)).grown g2 (by simp; omega) (fun j hj => by cases hj; omega))
  have hq2 := Lib.hid h2
  have z3 : w1.heap.size + 1 ≤ w2.heap.size := by rw [z2]; simp
  have ht2 := Lib.hid (ht.out.below b3.out)
  clear h2 g2 z2 q1 ht bB bA hs0 hf0 hs1 hf1 hq
  refine (rat_any ⟨p.toArray⟩ _ ht2.out).mono ?_
  rintro e w3 ⟨rfl, b4⟩
  have hs3 := Lib.hid (row_below hs2.out b4 (by omega))
  have hf3 := Lib.hid (row_below hf2.out b4 (by omega))
  have hq3 := Lib.hid (row_below hq2.out b4 (by omega))
  have b5 := Lib.hid (b3.out.trans (b4.mono (by omega)))
  have z4 := b4.size
  have ht3 := Lib.hid (ht2.out.below b4)
  clear b4 b3 ht2 hs2 hf2 hq2
  cases hlk : lookE L p with
  | none =>
    rw [show aP none = none from rfl]
    have hVn := Lib.hid (show V = none by rw [hV'.out, hlk]; rfl)
    go_wp2_with fail
    refine (rfault_any 16 _).mono ?_
    rintro e w4 ⟨rfl, b6⟩
    have hs4 := row_below hs3.out b6 (by omega)
    have hf4 := row_below hf3.out b6 (by omega)
    have b7 := b5.out.trans (b6.mono (by omega))
    have z6 := b6.size
    clear b6
    go_wp2_with (first | (refine store_st rfl rfl _ _ rfl _ 0 0 0 0 0 0 0 0 rfl rfl hs4 ?_; intro w5 h5 g5 z5; have hf5 := row_grown hf4 g5 (by intro e; injection e with e; omega); have b8 := b7.grown g5 (by omega) (fun k hk => by cases hk; exact Nat.le_refl _)) | (refine store_flt rfl rfl _ _ rfl _ 16 0 11 0 0 0 rfl rfl hf5 ?_; intro w6 h6 g6 z6; have h7 := row_grown h5 g6 (by intro e; injection e with e; omega)))
    exact ret_stf rfl rfl rfl rfl h7 h6 (by rw [hVn.out]; exact RStD.no ⟨b8.grown g6 (by omega) (fun k hk => by cases hk; omega), _, _, _, rfl⟩)
  | some B =>
    rw [show aP (some B) = some ⟨B, 0, none⟩ from rfl]
    obtain ⟨nd, hD, sl, cap, ti, hn⟩ := ht3.out.node hlk
    have c0 : w3.cell? ⟨B, 0, none⟩ = some (.bool nd.dir) := row_cell hn rfl
    have c1 : w3.cell? ⟨B, 1, none⟩ = some (.slice sl nd.len cap) := row_cell hn rfl
    have c2 : w3.cell? ⟨B, 2, none⟩ = some (.int .i64 ti) := row_cell hn rfl
    have hn' := Lib.hid hn
    have hBn := Lib.hid (show IsDn w3 B nd from ⟨sl, cap, ti, hn⟩)
    have f0 : w3.cell? ⟨w1.heap.size, 0, none⟩ = some (.int .i64 0) := row_cell hq3.out rfl
    have f1 : w3.cell? ⟨w1.heap.size, 1, none⟩ = some (.int .i64 0) := row_cell hq3.out rfl
    have f2 : w3.cell? ⟨w1.heap.size, 2, none⟩ = some (.int .i64 0) := row_cell hq3.out rfl
    obtain ⟨⟨x0, x1, x2, x3⟩, xf0, xf1, xf2, xf3⟩ := st_all hs3.out
    obtain ⟨⟨y0, y1, y2⟩, yf0, yf1, yf2⟩ := flt_all hf3.out
    have hBl := hlt.out B hlk
    have m1 : ¬ w1.heap.size = w.heap.size := by omega
    have m2 : ¬ w1.heap.size = w.heap.size + 1 := by omega
    have m3 : ¬ B = w.heap.size := by omega
    have m4 : ¬ B = w.heap.size + 1 := by omega
    have m5 : ¬ w.heap.size = w1.heap.size := by omega
    have m6 : ¬ w.heap.size + 1 = w1.heap.size := by omega
    have m7 : ¬ w.heap.size = B := by omega
    have m8 : ¬ w.heap.size + 1 = B := by omega
    clear hn
    have hVn := Lib.hid (show V = some nd by rw [hV'.out, hlk]; exact hD)
    cases hdd : nd.dir with
    | false =>
      rw [hdd] at c0
      clear hk hlk hD
      go_wp2_with fail
      go_region_held3 (fun w' => w'.cell? ⟨w1.heap.size, 0, none⟩ = some (.int .i64 0) ∧ w'.cell? ⟨w1.heap.size, 1, none⟩ = some (.int .i64 0) ∧ w'.cell? ⟨w1.heap.size, 2, none⟩ = some (.int .i64 0) ∧ w'.cell? ⟨B, 2, none⟩ = some (.int .i64 ti) ∧ w'.cell? ⟨B, 1, none⟩ = some (.slice sl nd.len cap)) (go_keep)
        ((go_at_call 71; refine (links_any B nd _ (by first | exact ht3.out | exact ht3.out.drew) (by first | exact hBn.out | exact hBn.out.below (Below.refl _ _).drew)).mono ?_; rintro e w9 ⟨b9, n, rfl⟩; have b9' : Below w3.heap.size w3 w9 := ⟨b9.os, b9.tape, b9.output, b9.size, b9.block⟩; have hs9 := row_below hs3.out b9' (by omega); have hf9 := row_below hf3.out b9' (by omega); have hq9 := row_below hq3.out b9' (by omega); obtain ⟨⟨u0, u1, u2, u3⟩, uf0, uf1, uf2, uf3⟩ := st_all hs9; obtain ⟨⟨v0, v1, v2⟩, vf0, vf1, vf2⟩ := flt_all hf9; have k0 : w9.cell? ⟨w1.heap.size, 0, none⟩ = some (.int .i64 0) := row_cell hq9 rfl; have k1 : w9.cell? ⟨w1.heap.size, 1, none⟩ = some (.int .i64 0) := row_cell hq9 rfl; have k2 : w9.cell? ⟨w1.heap.size, 2, none⟩ = some (.int .i64 0) := row_cell hq9 rfl; have k4 : w9.cell? ⟨B, 1, none⟩ = some (.slice sl nd.len cap) := row_cell (row_below hn'.out b9' hBn.out.lt) rfl; have k3 : w9.cell? ⟨B, 2, none⟩ = some (.int .i64 ti) := row_cell (row_below hn'.out b9' hBn.out.lt) rfl; have hs9' := Lib.hid hs9; have hf9' := Lib.hid hf9; have b10 := Lib.hid b9'; clear hs9 hf9 hq9 b9 b9'))
      obtain ⟨hS9, hF9⟩ := two_setn hs9'.out hf9'.out (by omega) 1 (nd.len : Nat) n ti 0 0 0
      have bZ := two_belown (B := w.heap.size) (C := w.heap.size + 1) (b5.out.trans (b10.out.mono (by omega))) (Nat.le_refl _) (by omega) 1 (nd.len : Nat) n ti 0 0 0
      have hS9' := Lib.hid hS9
      have hF9' := Lib.hid hF9
      have bZ' := Lib.hid bZ
      clear hS9 hF9 bZ x0 x1 x2 x3 xf0 xf1 xf2 xf3 y0 y1 y2 yf0 yf1 yf2 f0 f1 f2 u0 u1 u2 u3 uf0 uf1 uf2 uf3 v0 v1 v2 vf0 vf1 vf2 k0 k1 k2 k3 k4 c0 c1 c2
      go_wp2_with fail
      refine ret_stf rfl rfl rfl rfl hS9'.out hF9'.out ?_
      rw [hVn.out]
      exact RStD.file hdd ⟨bZ'.out, _, _, rfl⟩
    | true =>
      rw [hdd] at c0
      have hkk := Lib.hid (hk.out B nd hlk hD hdd)
      clear hk hlk hD
      go_wp2_with fail
      go_region_held3 (fun w' => w'.cell? ⟨w1.heap.size, 0, none⟩ = some (.int .i64 0) ∧ w'.cell? ⟨w1.heap.size, 1, none⟩ = some (.int .i64 0) ∧ w'.cell? ⟨w1.heap.size, 2, none⟩ = some (.int .i64 0) ∧ w'.cell? ⟨B, 2, none⟩ = some (.int .i64 ti)) (go_keep)
        ((go_at_call 70; refine (kids_any p hpl _ (by first | exact ht3.out | exact ht3.out.drew)).mono ?_; rintro e w9 ⟨b9, p', n, c', rfl, hn1, hn2⟩; have b9' : Below w3.heap.size w3 w9 := ⟨b9.os, b9.tape, b9.output, b9.size, b9.block⟩; have hs9 := row_below hs3.out b9' (by omega); have hf9 := row_below hf3.out b9' (by omega); have hq9 := row_below hq3.out b9' (by omega); obtain ⟨⟨u0, u1, u2, u3⟩, uf0, uf1, uf2, uf3⟩ := st_all hs9; obtain ⟨⟨v0, v1, v2⟩, vf0, vf1, vf2⟩ := flt_all hf9; have k0 : w9.cell? ⟨w1.heap.size, 0, none⟩ = some (.int .i64 0) := row_cell hq9 rfl; have k1 : w9.cell? ⟨w1.heap.size, 1, none⟩ = some (.int .i64 0) := row_cell hq9 rfl; have k2 : w9.cell? ⟨w1.heap.size, 2, none⟩ = some (.int .i64 0) := row_cell hq9 rfl; have k3 : w9.cell? ⟨B, 2, none⟩ = some (.int .i64 ti) := row_cell (row_below hn'.out b9' hBn.out.lt) rfl; have hn2' := Lib.hid hn2; have hs9' := Lib.hid hs9; have hf9' := Lib.hid hf9; have b10 := Lib.hid b9'; clear hn2 hs9 hf9 hq9 b9 b9'))
      obtain ⟨hS9, hF9⟩ := two_setn hs9'.out hf9'.out (by omega) 2 (n : Nat) 1 ti 0 0 0
      have bZ := two_belown (B := w.heap.size) (C := w.heap.size + 1) (b5.out.trans (b10.out.mono (by omega))) (Nat.le_refl _) (by omega) 2 (n : Nat) 1 ti 0 0 0
      have hS9' := Lib.hid hS9
      have hF9' := Lib.hid hF9
      have bZ' := Lib.hid bZ
      clear hS9 hF9 bZ x0 x1 x2 x3 xf0 xf1 xf2 xf3 y0 y1 y2 yf0 yf1 yf2 f0 f1 f2 u0 u1 u2 u3 uf0 uf1 uf2 uf3 v0 v1 v2 vf0 vf1 vf2 k0 k1 k2 k3 c0 c1 c2
      go_wp2_with fail
      refine ret_stf rfl rfl rfl rfl hS9'.out hF9'.out ?_
      rw [hVn.out]
      exact RStD.folder hdd (hn2'.out hkk.out) ⟨bZ'.out, _, _, rfl⟩
theorem joinD_len (l : List (List UInt8)) (h : ∀ t ∈ l, t.length ≤ 1000) : (joinD l).length ≤ l.length * 1001 := by
  induction l with
  | nil => exact Nat.le_refl _
  | cons a l ih =>
    have h1 := ih (fun t ht => h t (List.mem_cons_of_mem _ ht))
    have h2 := h a (List.mem_cons_self ..)
    have e : joinD (a :: l) = 47 :: a ++ joinD l := rfl
    rw [e, List.length_append, List.length_cons, List.length_cons]
    omega
/-- What the document's Stat finds at a path. -/
def statD (L : DRow) (D : Nat → Option DN) (p : List UInt8) : Option DN := match placeD L D p with | .inl _ => none | .inr (q, _) => (lookE L q).bind D
theorem rstat_any {m : Nat} {L : DRow} {D : Nat → Option DN} (s : ByteArray) (w : World) (h : IsDt w m L D) (hkid : ∀ p B nd, lookE L p = some B → D B = some nd → nd.dir = true → hasKid L p = true) :
    Calls Tryz.prog 56 #[.pointer (some ⟨m, 0, none⟩), .string s] w (RStD (statD L D s.data.toList) w) := by
  unfold statD
  cases hP : placeD L D s.data.toList with
  | inl c =>
    have hc : 0 < c := by
      unfold placeD at hP
      split at hP
      · cases hP; decide
      · split at hP
        · cases hP
        · cases hP; decide
    exact (rstat_err s c hc w h hP).mono fun e w' hh => RStD.no hh
  | inr q =>
    obtain ⟨p, d⟩ := q
    refine rstat_ok s p d w h ?_ hP (hkid p)
    unfold placeD at hP
    split at hP
    · cases hP
    · next F hF =>
      split at hP
      · cases hP
        have h1 := joinD_len F (cleanP_part hF)
        have h2 := cleanP_len hF
        omega
      · cases hP
end Go.Proofs.YtfnaooplpofgiaaGreatDoor
