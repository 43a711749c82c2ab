/- A tree of files in memory; (*tree.Tree).find. Conditions: the tree lies in memory, and the errors' variables. -/
import Derived.Test.YtfnaooplpofgiaaGreatDoorKCln
import Derived.Test.YtfnaooplpofgiaaGreatDoorTreP
import Derived.Test.YtfnaooplpofgiaaGreatDoorKStat
import Derived.MapKept
import Derived.StillTailTactics
import Derived.WalkMore
import Derived.OwnWalk
import Derived.Handy
import Derived.Outline
namespace Go.Proofs.YtfnaooplpofgiaaGreatDoor
open Go Go.RowKit SN

def nodeC (nd : Nd) (sl : Option Addr) (cap : Nat) (links tick : Int) : Array Value := #[.bool nd.dir, .slice sl nd.len cap, .map (if nd.dir then some nd.mp else none), .int .i64 links, .int .i64 tick]
def entV (x : ByteArray × Nat) : Value × Value := (.string x.1, .pointer (some ⟨x.2, 0, none⟩))
/-- A map's block holds the entries. -/
def IsMp (w : World) (m : Nat) (es : List (ByteArray × Nat)) : Prop := ∃ l ck, w.heap[m]? = some (.map l ck) ∧ l.toList.map (fun e => (e.key, e.val)) = es.map entV
/-- A node lies in a block, its map in another. -/
def IsNd (w : World) (B : Nat) (nd : Nd) : Prop := (∃ sl cap links tick, w.heap[B]? = some (.cells (nodeC nd sl cap links tick) 91 (0, 0))) ∧ (nd.dir = true → IsMp w nd.mp nd.ents)
structure IsTr (w : World) (t r : Nat) (T : Nat → Option Nd) : Prop where
  top : ∃ ck cnt, w.heap[t]? = some (.cells #[.pointer (some ⟨r, 0, none⟩), .int .i64 ck, .int .i64 cnt] 93 (0, 0))
  nds : ∀ B nd, T B = some nd → IsNd w B nd
  root : ∃ nd, T r = some nd
  kids : ∀ B nd x, T B = some nd → x ∈ nd.ents → ∃ kd, T x.2 = some kd
theorem IsMp.lt {w : World} {m : Nat} {es : List (ByteArray × Nat)} (h : IsMp w m es) : m < w.heap.size := by
  obtain ⟨l, ck, h, -⟩ := h
  exact row_lt h
theorem IsNd.lt {w : World} {B : Nat} {nd : Nd} (h : IsNd w B nd) : B < w.heap.size := by
  obtain ⟨⟨_, _, _, _, h⟩, -⟩ := h
  exact row_lt h
theorem IsMp.below {w w' : World} {m : Nat} {es : List (ByteArray × Nat)} (h : IsMp w m es) (hb : Below w.heap.size w w') : IsMp w' m es := by
  have hl := h.lt
  obtain ⟨l, ck, h1, h2⟩ := h
  exact ⟨l, ck, by rw [hb.block m hl]; exact h1, h2⟩
theorem IsNd.below {w w' : World} {B : Nat} {nd : Nd} (h : IsNd w B nd) (hb : Below w.heap.size w w') : IsNd w' B nd := by
  have hl := h.lt
  obtain ⟨⟨sl, cap, li, ti, h1⟩, h2⟩ := h
  exact ⟨⟨sl, cap, li, ti, by rw [hb.block B hl]; exact h1⟩, fun hd => (h2 hd).below hb⟩
theorem IsTr.below {w w' : World} {t r : Nat} {T : Nat → Option Nd} (h : IsTr w t r T) (hb : Below w.heap.size w w') : IsTr w' t r T := by
  obtain ⟨⟨ck, cnt, h1⟩, h2, h3, h4⟩ := h
  exact ⟨⟨ck, cnt, by rw [hb.block t (row_lt h1)]; exact h1⟩, fun B nd hB => (h2 B nd hB).below hb, h3, h4⟩
theorem beq_bytes (a b : ByteArray) : (a == b) = (b.data.toList == a.data.toList) := by
  show (a.data == b.data) = _
  by_cases h : a.data = b.data
  · rw [h]; simp
  · have h2 : ¬ b.data.toList = a.data.toList := fun e => h (Array.toList_inj.1 e.symm)
    rw [show (a.data == b.data) = false by simpa using h, show (b.data.toList == a.data.toList) = false by simpa using h2]
theorem findNow_ents (s : ByteArray) : ∀ (l : List MapEntry) (es : List (ByteArray × Nat)) (i : Nat), l.map (fun e => (e.key, e.val)) = es.map entV →
    ∃ j, Instr.findNow .string (.string s) l i = some ((lookE es s.data.toList).map fun c => (j, .pointer (some ⟨c, 0, none⟩)))
  | [], [], i, _ => ⟨0, rfl⟩
  | e :: l, x :: es, i, h => by
    simp only [List.map_cons, List.cons.injEq] at h
    obtain ⟨h1, h2⟩ := h
    obtain ⟨k1, k2⟩ := Prod.mk.inj h1
    obtain ⟨j, hj⟩ := findNow_ents s l es (i + 1) h2
    have hs : Instr.sameNow .string (.string s) e.key = some (x.1.data.toList == s.data.toList) := by rw [k1]; show some (s == x.1) = _; rw [beq_bytes]
    unfold Instr.findNow
    rw [hs]
    cases hx : (x.1.data.toList == s.data.toList) with
    | true =>
      refine ⟨i, ?_⟩
      show some (some (i, e.val)) = _
      unfold lookE
      rw [List.find?_cons_of_pos (by exact hx), k2]
      rfl
    | false =>
      refine ⟨j, ?_⟩
      show Instr.findNow .string (.string s) l (i + 1) = _
      unfold lookE at hj ⊢
      rw [List.find?_cons_of_neg (by rw [hx]; decide), hj]
  | [], _ :: _, _, h => by cases h
  | _ :: _, [], _, h => by cases h
def aP (c : Option Nat) : Option Addr := c.map fun B => ⟨B, 0, none⟩
theorem run_look {w : World} {m : Nat} {es : List (ByteArray × Nat)} (h : IsMp w m es) (s : ByteArray) :
    (Instr.lookup 89 (.map (some m)) (.string s) false).run Tryz.prog w = .ok (.pointer (aP (lookE es s.data.toList))) w := by
  obtain ⟨l, ck, hb, he⟩ := h
  obtain ⟨j, hj⟩ := findNow_ents s l.toList es 0 he
  have hc : (Instr.checkKey l.isEmpty 10000 9 (.string s)).run Tryz.prog w = .ok () w := MapKept.run_checkKey (k := .string s) Tryz.underlying9 (by simp [MapKept.IsKey]) l.isEmpty 9999
  cases hx : lookE es s.data.toList with
  | none =>
    rw [hx] at hj
    simp [Instr.lookup, run_underlying Tryz.underlying89, MapKept.run_getObj_map hb, hc, MapKept.run_findKey Tryz.underlying9 hj, Result.andThen, aP]
  | some c =>
    rw [hx] at hj
    simp [Instr.lookup, run_underlying Tryz.underlying89, MapKept.run_getObj_map hb, hc, MapKept.run_findKey Tryz.underlying9 hj, Result.andThen, aP]
/-- What find gives back. -/
def FindR (E : Nat → Addr) (w0 : World) (r : Nat ⊕ (Option Nat × List UInt8 × Option Nat)) (e : Ending) (w' : World) : Prop := Below w0.heap.size w0 w' ∧ match r with
  | .inl c => ∃ v, e = .returned (.tuple #[.agg (spC none ⟨#[]⟩ none), v]) ∧ IsErr w' E v c 0 11
  | .inr (a, nm, n) => e = .returned (.tuple #[.agg (spC (aP a) ⟨nm.toArray⟩ (aP n)), .nilIface])
theorem load_sp {ops : Array Oper} {Q : Exit → Act → World → Prop} {a : Act} {w : World} {rest : List Oper} {o : Oper} (hgd : o.guard = none) (x : Operand) (ho : o.op = .load 103 x) (B : Nat) (hx : a.eval x = .pointer (some ⟨B, 0, none⟩)) (p q : Option Addr) (s : ByteArray)
    (h : IsSp w B p s q) (hk : wpList Tryz.prog ops Q rest (a.put o.dst (.agg (spC p s q))) w) : wpList Tryz.prog ops Q (o :: rest) a w :=
  wpList_load_row hgd 103 x ho B hx 103 (spC p s q) (0, 0) _ h Tryz.underlying103 (by rfl) (by rw [sizeSp]; rfl) hk
theorem zSp (w : World) : IsSp (w.alloc (.cells #[.pointer none, .string ⟨#[]⟩, .pointer none] 103)) w.heap.size none ⟨#[]⟩ none := heap_alloc_new w _
set_option maxHeartbeats 1000000 in
set_option maxRecDepth 100000 in
theorem find_name {N : Nat} {E : Nat → Addr} (t : Nat) (s : ByteArray) (w : World) (hE : Errs N E w) (hN : N ≤ w.heap.size) (hC : Calls Tryz.prog 62 #[.string s] (w.alloc (.cells #[.pointer none, .string ⟨#[]⟩, .pointer none] 103)) (ClnR (w.alloc (.cells #[.pointer none, .string ⟨#[]⟩, .pointer none] 103)) none)) :
    Calls Tryz.prog 43 #[.pointer (some ⟨t, 0, none⟩), .string s] w (FindR E w (.inl 15)) := by
  have hC' := Lib.hid hC
  have hE' := Lib.hid hE
  have hz := Lib.hid (zSp w)
  clear hC hE
  go_enter Tryz.func43, Tryz.ntmps43
  go_wp2_with fail
  refine hC'.out.mono ?_
  rintro e w1 ⟨b1, rfl⟩
  have bb1 := Lib.hid (((Below.refl w.heap.size w).alloc (Nat.le_refl _) (.cells #[.pointer none, .string ⟨#[]⟩, .pointer none] 103)).trans (b1.mono (by simp)))
  have hr1 := Lib.hid (row_below hz.out b1 (by simp))
  have z1 := b1.size
  rw [World.size_alloc] at z1
  clear b1
  go_wp2_with fail
  refine (tfail_any _ (hE'.out.below bb1.out hN) 15 (by decide) (by decide)).mono ?_
  rintro e w2 ⟨v, rfl, hv, b2⟩
  have hr2 := row_below hr1.out b2 (by omega)
  have bb2 := Lib.hid (bb1.out.trans (b2.mono (by omega)))
  have z2 := b2.size
  obtain ⟨S, P, rfl, hv1, hv2⟩ := hv
  have hv := Lib.hid (show IsErr w2 E (.iface 53 (.pointer (some ⟨S, 0, none⟩))) 15 0 11 from ⟨S, P, rfl, hv1, hv2⟩)
  clear b2 hv1 hv2
  go_wp2_with (refine store_sp rfl rfl _ _ rfl _ none none none none ⟨#[]⟩ ⟨#[]⟩ rfl rfl hr2 ?_; intro w3 h3 g3 z3)
  refine ret_sp rfl rfl rfl rfl h3 ⟨bb2.out.grown g3 (by omega) (fun k hk => by cases hk; exact Nat.le_refl _), _, rfl, ?_⟩
  exact hv.out.keepT hr2 (by decide) (by decide) fun k hk hne => g3.block k hk (fun e => hne (by injection e))
theorem bytes_id (s : ByteArray) : (⟨s.data.toList.toArray⟩ : ByteArray) = s := by
  apply ByteArray.ext
  simp
set_option maxHeartbeats 4000000 in
set_option maxRecDepth 100000 in
theorem find_core {N : Nat} {E : Nat → Addr} {t r : Nat} {T : Nat → Option Nd} (s : ByteArray) (w : World) (hE : Errs N E w) (hN : N ≤ w.heap.size) (hTr : IsTr w t r T) (L : List (List UInt8)) (hLb : L.length ≤ 1000)
    (hC : Calls Tryz.prog 62 #[.string s] (w.alloc (.cells #[.pointer none, .string ⟨#[]⟩, .pointer none] 103)) (ClnR (w.alloc (.cells #[.pointer none, .string ⟨#[]⟩, .pointer none] 103)) (some L))) :
    Calls Tryz.prog 43 #[.pointer (some ⟨t, 0, none⟩), .string s] w (FindR E w (match walkT T none [] (some r) L with | none => .inl 16 | some x => .inr x)) := by
  have hC' := Lib.hid hC
  have hE' := Lib.hid hE
  have hTr' := Lib.hid hTr
  have hz := Lib.hid (zSp w)
  clear hC hE hTr
  obtain ⟨R, hR⟩ : ∃ R, R = (match walkT T none [] (some r) L with | none => Sum.inl 16 | some x => Sum.inr x) := ⟨_, rfl⟩
  rw [← hR]
  have hR' := Lib.hid hR
  clear hR
  obtain ⟨Post, hPost⟩ : ∃ Post : Ending → World → Prop, Post = FindR E w R := ⟨_, rfl⟩
  rw [← hPost]
  have hP := Lib.hid hPost
  clear hPost
  go_enter Tryz.func43, Tryz.ntmps43
  go_wp2_with fail
  refine hC'.out.mono ?_
  rintro e w1 ⟨b1, v, l, rfl, hl, p, c, rfl, hlc, hops⟩
  have bb1 := Lib.hid (((Below.refl w.heap.size w).alloc (Nat.le_refl _) (.cells #[.pointer none, .string ⟨#[]⟩, .pointer none] 103)).trans (b1.mono (by simp)))
  have hr1 := Lib.hid (row_below hz.out b1 (by simp))
  have z1 := b1.size
  rw [World.size_alloc] at z1
  obtain ⟨ck, cnt, htop⟩ := (hTr'.out.below bb1.out).top
  have ctop : w1.cell? ⟨t, 0, none⟩ = some (.pointer (some ⟨r, 0, none⟩)) := row_cell htop rfl
  clear b1 htop
  have hq := Lib.hid (zSp w1)
  go_wp2_with (refine store_sp rfl rfl _ _ rfl _ none (some ⟨r, 0, none⟩) none none ⟨#[]⟩ ⟨#[]⟩ rfl rfl hq.out ?_; intro w2 h2 g2 z2)
  have bS : Below w1.heap.size w1 w2 := ((Below.refl w1.heap.size w1).alloc (Nat.le_refl _) _).grown g2 (by simp) (fun j hj => by cases hj; exact Nat.le_refl _)
  have bS' := Lib.hid bS
  have h2' := Lib.hid h2
  have zS : w1.heap.size < w2.heap.size := by rw [z2]; simp
  have hroot := hTr'.out.root
  clear ctop hq h2 g2 z2 bS
  have hlL : L.length = l.length := by rw [← hl]; simp
  have hlb : l.length ≤ 1000 := by omega
  go_loopw [31] (fun i wr => ∃ (j : Nat) (a : Option Nat) (nm : ByteArray) (n : Option Nat), j ≤ l.length ∧ i = .int .i64 j ∧ Hid (IsSp wr w1.heap.size (aP a) nm (aP n)) ∧ Hid (Below w1.heap.size w1 wr) ∧ w1.heap.size < wr.heap.size ∧ Hid (walkT T none [] (some r) L = walkT T a nm.data.toList n (L.drop j)) ∧ Hid (∀ B, n = some B → ∃ nd, T B = some nd)) (fun i _ => l.length - (intOf i).toNat)
  case atStart => exact ⟨0, none, ⟨#[]⟩, some r, Nat.zero_le _, rfl, h2', bS', zS, Lib.hid rfl, Lib.hid fun B hB => by cases hB; exact hroot⟩
  case round =>
    clear h2' bS' zS
    obtain ⟨j, a, nm, n, hj, rfl, hsp, hbs, hsz, hwk, hin⟩ := hrel
    have hbb := Lib.hid (bb1.out.trans (hbs.out.mono (by omega)))
    have hr4 := Lib.hid (row_below hr1.out hbs.out (by omega))
    by_cases hjj : j < l.length
    · rcases hops with h0 | ⟨b, rfl, hb, hRw⟩
      · rw [h0] at hjj; cases hjj
      have hld := (hRw.below hbs.out hb) j l[j] (List.getElem?_eq_getElem hjj)
      rw [Nat.zero_add] at hld
      have hdrop : L.drop j = l[j].data.toList :: L.drop (j + 1) := by
        rw [List.drop_eq_getElem_cons (by omega)]
        congr 1
        simp [← hl]
      have hjI : (j : Int) < (l.length : Int) := by omega
      generalize l[j] = sj at hld hdrop
      have hdrop' := Lib.hid hdrop
      have q2 : wr.cell? ⟨w1.heap.size, 2, none⟩ = some (.pointer (aP n)) := row_cell hsp.out rfl
      clear hdrop hRw
      rcases n with _ | B
      · have hRn := Lib.hid (show R = .inl 16 by rw [hR'.out, hwk.out, hdrop'.out]; rfl)
        have q2' : wr.cell? ⟨w1.heap.size, 2, none⟩ = some (.pointer none) := q2
        clear q2
        go_wp2_with fail
        refine (tfail_any _ (hE'.out.below hbb.out hN) 16 (by decide) (by decide)).mono ?_
        rintro e w3 ⟨v, rfl, hv, b3⟩
        have hr5 := row_below hr4.out b3 (by omega)
        have bb3 := Lib.hid (hbb.out.trans (b3.mono (by omega)))
        have z3 := b3.size
        obtain ⟨S, P, rfl, hv1, hv2⟩ := hv
        have hv := Lib.hid (show IsErr w3 E (.iface 53 (.pointer (some ⟨S, 0, none⟩))) 16 0 11 from ⟨S, P, rfl, hv1, hv2⟩)
        clear b3 hv1 hv2
        go_wp2_with (refine store_sp rfl rfl _ _ rfl _ none none none none ⟨#[]⟩ ⟨#[]⟩ rfl rfl hr5 ?_; intro w4 h4 g4 z4)
        refine ret_sp rfl rfl rfl rfl h4 ?_
        rw [hP.out, hRn.out]
        refine ⟨bb3.out.grown g4 (by omega) (fun k hk => by cases hk; exact Nat.le_refl _), _, rfl, ?_⟩
        exact hv.out.keepT hr5 (by decide) (by decide) fun k hk hne => g4.block k hk (fun e => hne (by injection e))
      · obtain ⟨nd, hnd⟩ := hin.out B rfl
        have hnd' := Lib.hid hnd
        obtain ⟨⟨sl, cap, li, ti, hB⟩, hmp⟩ := (hTr'.out.below hbb.out).nds B nd hnd
        have q2' : wr.cell? ⟨w1.heap.size, 2, none⟩ = some (.pointer (some ⟨B, 0, none⟩)) := q2
        have d0 : wr.cell? ⟨B, 0, none⟩ = some (.bool nd.dir) := row_cell hB rfl
        cases hd : nd.dir with
        | false =>
          have hRn := Lib.hid (show R = .inl 16 by rw [hR'.out, hwk.out, hdrop'.out, walk_file hnd'.out hd])
          rw [hd] at d0
          clear q2 hB hmp hnd
          go_wp2_with fail
          refine (tfail_any _ (hE'.out.below hbb.out hN) 16 (by decide) (by decide)).mono ?_
          rintro e w3 ⟨v, rfl, hv, b3⟩
          have hr5 := row_below hr4.out b3 (by omega)
          have bb3 := Lib.hid (hbb.out.trans (b3.mono (by omega)))
          have z3 := b3.size
          obtain ⟨S, P, rfl, hv1, hv2⟩ := hv
          have hv := Lib.hid (show IsErr w3 E (.iface 53 (.pointer (some ⟨S, 0, none⟩))) 16 0 11 from ⟨S, P, rfl, hv1, hv2⟩)
          clear b3 hv1 hv2
          go_wp2_with (refine store_sp rfl rfl _ _ rfl _ none none none none ⟨#[]⟩ ⟨#[]⟩ rfl rfl hr5 ?_; intro w4 h4 g4 z4)
          refine ret_sp rfl rfl rfl rfl h4 ?_
          rw [hP.out, hRn.out]
          refine ⟨bb3.out.grown g4 (by omega) (fun k hk => by cases hk; exact Nat.le_refl _), _, rfl, ?_⟩
          exact hv.out.keepT hr5 (by decide) (by decide) fun k hk hne => g4.block k hk (fun e => hne (by injection e))
        | true =>
          have hmp2 := hmp hd
          have hstep := Lib.hid (show walkT T a nm.data.toList (some B) (L.drop j) = walkT T (some B) sj.data.toList (lookE nd.ents sj.data.toList) (L.drop (j + 1)) by rw [hdrop'.out, walk_dir hnd'.out hd])
          have hkid : ∀ C, lookE nd.ents sj.data.toList = some C → ∃ kd, T C = some kd := fun C hC => by
            unfold lookE at hC
            cases hf : nd.ents.find? (fun x => x.1.data.toList == sj.data.toList) with
            | none => rw [hf] at hC; cases hC
            | some x => rw [hf] at hC; cases hC; exact hTr'.out.kids B nd x hnd'.out (List.mem_of_find?_eq_some hf)
          have hkid' := Lib.hid hkid
          rw [hd] at d0
          have hlk : (Instr.lookup 89 (.map (some nd.mp)) (.string sj) false).run Tryz.prog wr.drew = .ok (.pointer (aP (lookE nd.ents sj.data.toList))) wr.drew := run_look (w := wr.drew) hmp2 sj
          have d2 : wr.drew.cell? ⟨B, 2, none⟩ = some (.map (some nd.mp)) := row_cell hB (by unfold nodeC; rw [hd]; rfl)
          have q3 : wr.drew.cell? ⟨w1.heap.size, 2, none⟩ = some (.pointer (some ⟨B, 0, none⟩)) := q2
          generalize lookE nd.ents sj.data.toList = lk at hlk hstep hkid'
          clear q2 hB hmp hmp2 hnd hkid
          go_wp2_with fail
          go_still_tail 11, (by kernel_rfl)
          change wpList _ _ _ _ _ wr.drew
          have k1 := Lib.hid (row_drew hsp.out)
          have k2 := Lib.hid (below_drewN hbs.out 1)
          have k3 : w1.heap.size < wr.drew.heap.size := hsz
          change Hid (Below w1.heap.size w1 wr.drew) at k2
          generalize wr.drew = W5 at k1 k2 k3
          go_wp2_with (refine store_sp rfl rfl _ _ rfl _ (some ⟨B, 0, none⟩) (aP lk) (aP a) (aP (some B)) sj nm rfl rfl k1.out ?_; intro w6 h6 g6 z6)
          case roundEnd =>
            refine ⟨⟨j + 1, some B, sj, lk, by omega, rfl, Lib.hid h6, Lib.hid (k2.out.grown g6 (by omega) (fun k hk => by cases hk; exact Nat.le_refl _)), by omega, Lib.hid (by rw [hwk.out, hstep.out]), Lib.hid hkid'.out⟩, ?_⟩
            simp [intOf]; omega
    · have hje : j = l.length := by omega
      subst hje
      have hjI : ¬ ((l.length : Nat) : Int) < (l.length : Int) := by omega
      have hRn := Lib.hid (show R = .inr (a, nm.data.toList, n) by rw [hR'.out, hwk.out, List.drop_eq_nil_of_le (by omega)]; rfl)
      clear hwk hR' hin hops hC'
      go_wp2_with (first | (refine load_sp rfl _ rfl _ rfl _ _ _ hsp.out ?_) | (refine store_sp rfl rfl _ _ rfl _ (aP a) (aP n) none none nm ⟨#[]⟩ rfl rfl hr4.out ?_; intro w6 h6 g6 z6))
      refine ret_sp rfl rfl rfl rfl h6 ?_
      rw [hP.out, hRn.out]
      refine ⟨hbb.out.grown g6 (by omega) (fun k hk => by cases hk; exact Nat.le_refl _), ?_⟩
      show _ = Ending.returned (.tuple #[.agg (spC (aP a) ⟨nm.data.toList.toArray⟩ (aP n)), .nilIface])
      rw [bytes_id]
      rfl
theorem spl_len : ∀ l : List UInt8, (spl l).length ≤ l.length + 1
  | [] => Nat.le_refl _
  | b :: l => by
    have ih := spl_len l
    by_cases hb : b = 47
    · rw [spl, if_pos hb]; simp; omega
    · obtain ⟨h, t, e⟩ := spl_ne l
      rw [spl_cons hb l h t e]
      rw [e] at ih
      simp at ih ⊢
      omega
theorem cstep_len (out : List (List UInt8)) (s : List UInt8) : (cstep out s).length ≤ out.length + 1 := by
  unfold cstep
  split
  · omega
  · split
    · rw [List.length_dropLast]; omega
    · simp
theorem cfold_len : ∀ (l out : List (List UInt8)), (l.foldl cstep out).length ≤ out.length + l.length
  | [], out => Nat.le_refl _
  | s :: l, out => by
    have h1 := cfold_len l (cstep out s)
    have h2 := cstep_len out s
    show (l.foldl cstep (cstep out s)).length ≤ out.length + (l.length + 1)
    omega
theorem cleanP_len {p : List UInt8} {L : List (List UInt8)} (h : cleanP p = some L) : L.length ≤ 1000 := by
  unfold cleanP at h
  split at h
  · cases h
  · next hn =>
    split at h
    · cases h
      have h1 := cfold_len (spl p) []
      have h2 := spl_len p
      have h3 : ¬ 256 < p.length := fun h => hn (.inr (.inl h))
      unfold cleanL
      simp at h1
      omega
    · cases h
/-- (*tree.Tree).find at every path. -/
theorem find_any {N : Nat} {E : Nat → Addr} {t r : Nat} {T : Nat → Option Nd} (s : ByteArray) (w : World) (hE : Errs N E w) (hM : MaxL N w) (hN : N ≤ w.heap.size) (hTr : IsTr w t r T) :
    Calls Tryz.prog 43 #[.pointer (some ⟨t, 0, none⟩), .string s] w (FindR E w (findP T r s.data.toList)) := by
  have hC := clean_any (N := N) s (w.alloc (.cells #[.pointer none, .string ⟨#[]⟩, .pointer none] 103)) (hM.below ((Below.refl _ _).alloc (Nat.le_refl _) _) hN)
  unfold findP
  cases hL : cleanP s.data.toList with
  | none => rw [hL] at hC; exact find_name t s w hE hN hC
  | some L => rw [hL] at hC; exact find_core s w hE hN hTr L (cleanP_len hL) hC
end Go.Proofs.YtfnaooplpofgiaaGreatDoor
