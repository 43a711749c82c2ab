/- The document's tree in memory; its fault, Join, At. Conditions: the tree lies in memory. -/
import Derived.Test.YtfnaooplpofgiaaGreatDoorKRCln
import Derived.Test.YtfnaooplpofgiaaGreatDoorKRef
import Derived.WalkMore
import Derived.OwnWalk
import Derived.Handy
import Derived.Outline
namespace Go.Proofs.YtfnaooplpofgiaaGreatDoor
open Go Go.RowKit SN

/-- A node of the document's tree: a directory or not; how many bytes. -/
structure DN where
  dir : Bool
  len : Nat
abbrev DRow := List (ByteArray × Nat)
def entL (x : ByteArray × Nat) : List Value := [.string x.1, .pointer (some ⟨x.2, 0, none⟩)]
def dnC (n : DN) (sl : Option Addr) (cap : Nat) (tick : Int) : Array Value := #[.bool n.dir, .slice sl n.len cap, .int .i64 tick]
def IsDn (w : World) (B : Nat) (n : DN) : Prop := ∃ sl cap tick, w.heap[B]? = some (.cells (dnC n sl cap tick) 96 (0, 0))
def dtC (g len cap : Nat) (now : Int) (gr : Bool) : Array Value := #[.slice (some ⟨g, 0, none⟩) len cap, .int .i64 now, .bool gr]
structure IsDt (w : World) (m : Nat) (L : DRow) (D : Nat → Option DN) : Prop where
  row : ∃ g cap now gr, w.heap[m]? = some (.cells (dtC g L.length cap now gr) 101 (0, 0)) ∧ L.length ≤ cap ∧ g < w.heap.size ∧ ∀ i x, L[i]? = some x → w.rangeAt g (i * 2) (entL x)
  nds : ∀ x, x ∈ L → ∃ nd, D x.2 = some nd ∧ IsDn w x.2 nd
  few : L.length ≤ 1000
  short : ∀ x, x ∈ L → x.1.size ≤ 1000
theorem rangeAt_below {w w' : World} {g o : Nat} {cs : List Value} {M : Nat} (h : w.rangeAt g o cs) (hb : Below M w w') (hg : g < M) : w'.rangeAt g o cs := fun j v hv => (hb.cell (p := ⟨g, o + j, none⟩) hg).trans (h j v hv)
theorem IsDn.lt {w : World} {B : Nat} {n : DN} (h : IsDn w B n) : B < w.heap.size := by obtain ⟨_, _, _, h⟩ := h; exact row_lt h
theorem IsDn.below {w w' : World} {B : Nat} {n : DN} (h : IsDn w B n) (hb : Below w.heap.size w w') : IsDn w' B n := by
  have hl := h.lt
  obtain ⟨sl, cap, ti, h1⟩ := h
  exact ⟨sl, cap, ti, by rw [hb.block B hl]; exact h1⟩
theorem IsDt.below {w w' : World} {m : Nat} {L : DRow} {D : Nat → Option DN} (h : IsDt w m L D) (hb : Below w.heap.size w w') : IsDt w' m L D := by
  obtain ⟨⟨g, cap, now, gr, h1, h2, h3, h4⟩, h5, h6, h7⟩ := h
  refine ⟨⟨g, cap, now, gr, by rw [hb.block m (row_lt h1)]; exact h1, h2, Nat.lt_of_lt_of_le h3 hb.size, fun i x hx => rangeAt_below (h4 i x hx) hb h3⟩, fun x hx => ?_, h6, h7⟩
  obtain ⟨nd, hD, hn⟩ := h5 x hx
  exact ⟨nd, hD, hn.below hb⟩
theorem rfault_any (c : Int) (w : World) : Calls Tryz.prog 48 #[.int .i64 c] w fun e w' => e = .returned (fv c 0 11) ∧ Below w.heap.size w w' := by
  have hz := Lib.hid (zF w)
  go_enter Tryz.func48, Tryz.ntmps48
  go_wp2_with fail
  refine (rF_any c 0 11 _).mono ?_
  rintro e w1 ⟨rfl, b1⟩
  have h1 := row_below hz.out b1 (by simp)
  have b2 := Lib.hid (((Below.refl w.heap.size w).alloc (Nat.le_refl _) (.cells #[.int .i64 0, .int .i64 0, .int .i64 0] 28)).trans (b1.mono (by simp)))
  have z1 := b1.size
  rw [World.size_alloc] at z1
  clear b1
  go_wp2_with (refine store_flt rfl rfl _ _ rfl _ c 0 11 0 0 0 rfl rfl h1 ?_; intro w2 h2 g2 z2)
  exact ret_flt rfl rfl rfl h2 ⟨rfl, b2.out.grown g2 (by omega) (fun k hk => by cases hk; exact Nat.le_refl _)⟩
/-! Join -/
def joinD (l : List (List UInt8)) : List UInt8 := l.flatMap fun p => 47 :: p
theorem joinD_snoc (l : List (List UInt8)) (p : List UInt8) : joinD (l ++ [p]) = joinD l ++ 47 :: p := by simp [joinD]
theorem ba_append2 (a b : List UInt8) : (⟨a.toArray⟩ ++ ⟨b.toArray⟩ : ByteArray) = ⟨(a ++ b).toArray⟩ := by
  apply ByteArray.ext
  simp
theorem run_cat2 (a b : List UInt8) (h : a.length + b.length ≤ 9223372036854775807) (W : World) : (binOp .add 9 (.string ⟨a.toArray⟩) (.string ⟨b.toArray⟩)).run Tryz.prog W = .ok (.string ⟨(a ++ b).toArray⟩) W := by
  rw [← ba_append2]
  have hu := Tryz.underlying9
  have hs : ¬ 9223372036854775807 < a.length + b.length := by omega
  go_simp
theorem catGuard2 (x y : Operand) (s t : ByteArray) (w : World) : (eqGuard .add 9 x y (.string s) (.string t)).run Tryz.prog w = .ok () w := by kernel_rfl
section
variable {ops : Array Oper} {Q : Exit → Act → World → Prop} {a : Act} {w : World} {rest : List Oper} {o : Oper}
theorem cat_arm2 (hw : Region.wanted o (yielded ops a.tmps) = true) (x y : Operand) (ho : o.op = .binOp .add 9 x y 9) (s t : List UInt8) (hx : a.eval x = .string ⟨s.toArray⟩) (hy : a.eval y = .string ⟨t.toArray⟩) (h : s.length + t.length ≤ 9223372036854775807)
    (hk : wpList Tryz.prog ops Q rest (a.put o.dst (.string ⟨(s ++ t).toArray⟩)) w) : wpList Tryz.prog ops Q (o :: rest) a w :=
  wpList_step fun K hK => by
    rw [if_pos hw]
    unfold Oper.wp execOp
    simp only [ho, hx, hy, Sem.run_bind, catGuard2, run_cat2 s t h, Result.andThen_ok]
    exact hK _ _ hk
end
set_option maxHeartbeats 1000000 in
set_option maxRecDepth 100000 in
theorem join_any (sl : Value) (l : List ByteArray) (w : World) (h : IsOps w sl l) (hl : l.length ≤ 1000) (hs : ∀ s ∈ l, s.size ≤ 1000) :
    Calls Tryz.prog 64 #[sl] w fun e w' => e = .returned (.string ⟨(joinD (l.map (·.data.toList))).toArray⟩) ∧ w' = w := by
  obtain ⟨p, c, rfl, hc, hR⟩ := h
  have hR' := Lib.hid hR
  have hs' := Lib.hid hs
  clear hR hs
  obtain ⟨F, hF⟩ : ∃ F, F = joinD (l.map (·.data.toList)) := ⟨_, rfl⟩
  rw [← hF]
  have hF' := Lib.hid hF
  clear hF
  go_enter Tryz.func64, Tryz.ntmps64
  go_wp2_with fail
  go_loopw [3, 8] (fun v i wr => ∃ (j : Nat) (o : List UInt8), j ≤ l.length ∧ i = .int .i64 j ∧ wr = w ∧ v = .string ⟨o.toArray⟩ ∧ Hid (o = joinD ((l.take j).map (·.data.toList))) ∧ o.length ≤ j * 1001) (fun _ i _ => l.length - (intOf i).toNat)
  case atStart => exact ⟨0, [], Nat.zero_le _, rfl, rfl, rfl, Lib.hid rfl, by simp⟩
  case round =>
    obtain ⟨j, o, hj, rfl, rfl, rfl, ho, hol⟩ := hrel
    by_cases hjj : j < l.length
    · have hjI : (j : Int) < (l.length : Int) := by omega
      rcases hR'.out with rfl | ⟨b, rfl, hb, hRow⟩
      · simp at hjj
      have hld := hRow j l[j] (List.getElem?_eq_getElem hjj)
      have hsz := hs'.out l[j] (List.getElem_mem hjj)
      have hnx := Lib.hid (show o ++ 47 :: (l[j]).data.toList = joinD ((l.take (j + 1)).map (·.data.toList)) by
        rw [List.take_succ_eq_append_getElem hjj, List.map_append, List.map_singleton, joinD_snoc, ← ho.out])
      generalize l[j] = s at hld hsz hnx
      have hsl : s.data.toList.length = s.size := by simp
      rw [← bytes_id s] at hld
      generalize s.data.toList = u at hld hnx hsl
      rw [Nat.zero_add] at hld
      clear hRow
      go_wp2_with (first | (refine cat_arm2 rfl _ _ rfl [47] u rfl rfl (by simp only [List.length_cons, List.length_nil]; omega) ?_) | (refine cat_arm2 rfl _ _ rfl o ([47] ++ u) rfl rfl (by simp only [List.length_append, List.length_cons, List.length_nil]; omega) ?_))
      case roundEnd =>
        refine ⟨⟨j + 1, _, by omega, rfl, trivial, rfl, Lib.hid hnx.out, by simp; omega⟩, ?_⟩
        simp [intOf]; omega
    · have hje : j = l.length := by omega
      subst hje
      have hjI : ¬ ((l.length : Nat) : Int) < (l.length : Int) := by omega
      have hoo : F = o := by have := ho.out; rw [List.take_length, ← hF'.out] at this; exact this.symm
      subst hoo
      go_wp2_with fail
      go_ret
      exact ⟨rfl, rfl⟩
/-! At -/
theorem zEnt (w : World) : (w.alloc (.cells #[.string ⟨#[]⟩, .pointer none] 98)).heap[w.heap.size]? = some (.cells #[.string ⟨#[]⟩, .pointer none] 98 (0, 0)) := heap_alloc_new w _
theorem sizeEnt : (Tryz.prog.info? 98).map (·.size) = some 2 := by kernel_rfl
section
variable {ops : Array Oper} {Q : Exit → Act → World → Prop} {a : Act} {w : World} {rest : List Oper} {o : Oper}
theorem store_ent (hgd : o.guard = none) (hd : o.dst = none) (x y : Operand) (ho : o.op = .store 98 x y) (B : Nat) (u v u0 v0 : Value) (hx : a.eval x = .pointer (some ⟨B, 0, none⟩)) (hy : a.eval y = .agg #[u, v]) (h : w.heap[B]? = some (.cells #[u0, v0] 98 (0, 0)))
    (hu : u.oneCell' = true) (hv : v.oneCell' = true)
    (hk : ∀ w', w'.heap[B]? = some (.cells #[u, v] 98 (0, 0)) → w.grownBy w' (some B) → w'.heap.size = w.heap.size → wpList Tryz.prog ops Q rest a w') : wpList Tryz.prog ops Q (o :: rest) a w := by
  have hp : a.put o.dst undef = a := by rw [hd]; rfl
  refine wpList_store_row hgd 98 x y ho B #[u, v] hx hy 98 #[u0, v0] h (by rw [sizeEnt]; rfl) rfl (by simp [hu, hv]) (by rw [hp]; exact hk _ (setRow_heap w B _ _ _ _ h) ⟨rfl, rfl, rfl, by simp, fun k _ hk => setRow_other w B k _ (fun e => hk (by rw [e]))⟩ (by simp))
theorem load_ent (hgd : o.guard = none) (x : Operand) (ho : o.op = .load 98 x) (g i : Nat) (e : ByteArray × Nat) (hx : a.eval x = .pointer (some ⟨g, i * 2, none⟩)) (h : w.rangeAt g (i * 2) (entL e))
    (hk : wpList Tryz.prog ops Q rest (a.put o.dst (.agg #[.string e.1, .pointer (some ⟨e.2, 0, none⟩)])) w) : wpList Tryz.prog ops Q (o :: rest) a w :=
  wpList_load_mid hgd 98 x ho g (i * 2) hx (entL e) _ h Tryz.underlying98 rfl (by rw [sizeEnt]; rfl) hk
end
theorem lookE_take {L : DRow} {s : List UInt8} {j : Nat} (hj : j < L.length) (h : lookE (L.take j) s = none) (hs : ((L[j]).1.data.toList == s) = false) : lookE (L.take (j + 1)) s = none := by
  unfold lookE at h ⊢
  rw [List.take_succ_eq_append_getElem hj, List.find?_append]
  simp only [Option.map_eq_none_iff, Option.or_eq_none_iff] at h ⊢
  refine ⟨h, ?_⟩
  rw [List.find?_cons_of_neg (by rw [hs]; decide)]
  rfl
theorem lookE_at {L : DRow} {s : List UInt8} {j : Nat} (hj : j < L.length) (h : lookE (L.take j) s = none) (hs : ((L[j]).1.data.toList == s) = true) : lookE L s = some (L[j]).2 := by
  unfold lookE at h ⊢
  rw [Option.map_eq_none_iff] at h
  have e : L = L.take j ++ L[j] :: L.drop (j + 1) := by
    rw [← List.drop_eq_getElem_cons hj, List.take_append_drop]
  have : List.find? (fun x => x.1.data.toList == s) L = some L[j] := by
    generalize hx : L[j] = x at *
    rw [e, List.find?_append, h, Option.none_or, List.find?_cons_of_pos (by exact hs)]
  rw [this]
  rfl
set_option maxHeartbeats 1000000 in
set_option maxRecDepth 100000 in
theorem rat_any {m : Nat} {L : DRow} {D : Nat → Option DN} (s : ByteArray) (w : World) (h : IsDt w m L D) :
    Calls Tryz.prog 47 #[.pointer (some ⟨m, 0, none⟩), .string s] w fun e w' => e = .returned (.pointer (aP (lookE L s.data.toList))) ∧ Below w.heap.size w w' := by
  obtain ⟨⟨g, cap, now, gr, h1, hcap, h3, h4⟩, -, h6, -⟩ := h
  have c1 : w.cell? ⟨m, 0, none⟩ = some (.slice (some ⟨g, 0, none⟩) L.length cap) := row_cell h1 rfl
  have h4' := Lib.hid h4
  obtain ⟨F, hF⟩ : ∃ F, F = lookE L s.data.toList := ⟨_, rfl⟩
  rw [← hF]
  have hF' := Lib.hid hF
  clear h1 h4 hF
  go_enter Tryz.func47, Tryz.ntmps47
  go_wp2_with fail
  go_loopw [12] (fun i wr => ∃ (j : Nat), j ≤ L.length ∧ i = .int .i64 j ∧ Hid (Below w.heap.size w wr) ∧ w.heap.size ≤ wr.heap.size ∧ Hid (lookE (L.take j) s.data.toList = none)) (fun i _ => L.length - (intOf i).toNat)
  case atStart => exact ⟨0, Nat.zero_le _, rfl, Lib.hid (Below.refl _ _), Nat.le_refl _, Lib.hid rfl⟩
  case round =>
    obtain ⟨j, hj, rfl, hb, hz, hn⟩ := hrel
    by_cases hjj : j < L.length
    · have hjI : (j : Int) < (L.length : Int) := by omega
      have hra := Lib.hid (rangeAt_below (h4'.out j L[j] (List.getElem?_eq_getElem hjj)) hb.out h3)
      have hze := Lib.hid (zEnt wr)
      by_cases he : ((L[j]).1.data.toList == s.data.toList) = true
      · have hr := lookE_at hjj hn.out he
        have hq : (L[j]).1 = s := by have := bytes_eq he; rw [bytes_id] at this; exact this
        have hr' := Lib.hid (hF'.out.trans hr)
        generalize L[j] = x at hra hq hr'
        subst hq
        clear he hn hr
        go_wp2_with (first | (refine load_ent rfl _ rfl g j x rfl hra.out ?_) | (refine store_ent rfl rfl _ _ rfl wr.heap.size _ _ _ _ rfl rfl hze.out rfl rfl ?_; intro w2 h2 g2 z2; have q1 : w2.cell? ⟨wr.heap.size, 0, none⟩ = some (.string x.1) := row_cell h2 rfl; have q2 : w2.cell? ⟨wr.heap.size, 1, none⟩ = some (.pointer (some ⟨x.2, 0, none⟩)) := row_cell h2 rfl))
        go_ret
        exact ⟨by rw [hr'.out]; rfl, (hb.out.alloc hz _).grown g2 (by simp; omega) (fun k hk => by cases hk; exact hz)⟩
      · have hnx := Lib.hid (lookE_take hjj hn.out (by simpa using he))
        have hq : ((L[j]).1.toList == s.toList) = false := by rw [Lib.toList_data, Lib.toList_data]; simpa using he
        generalize L[j] = x at hra hq
        clear he hn
        go_wp2_with (first | (refine load_ent rfl _ rfl g j x rfl hra.out ?_) | (refine store_ent rfl rfl _ _ rfl wr.heap.size _ _ _ _ rfl rfl hze.out rfl rfl ?_; intro w2 h2 g2 z2; have q1 : w2.cell? ⟨wr.heap.size, 0, none⟩ = some (.string x.1) := row_cell h2 rfl; have q2 : w2.cell? ⟨wr.heap.size, 1, none⟩ = some (.pointer (some ⟨x.2, 0, none⟩)) := row_cell h2 rfl))
        case roundEnd =>
          refine ⟨⟨j + 1, by omega, rfl, Lib.hid ((hb.out.alloc hz _).grown g2 (by simp; omega) (fun k hk => by cases hk; exact hz)), by simp at z2; omega, hnx⟩, ?_⟩
          simp [intOf]; omega
    · have hje : j = L.length := by omega
      subst hje
      have hjI : ¬ ((L.length : Nat) : Int) < (L.length : Int) := by omega
      have hoo : F = none := by have := hn.out; rw [List.take_length] at this; exact hF'.out.trans this
      subst hoo
      go_wp2_with fail
      go_ret
      exact ⟨rfl, hb.out⟩
end Go.Proofs.YtfnaooplpofgiaaGreatDoor
