/- The document's names in a directory, and the links of a node: what test asks of them (is there a name at all?). Conditions: the tree lies in memory. -/
import Derived.Test.YtfnaooplpofgiaaGreatDoorKRPl
import Derived.Deep.RegionLawGrows
import Derived.StillTailTactics
import Derived.BigQuiet
import Derived.LaidEqlPtr
import Derived.WalkMore
import Derived.OwnWalk
import Derived.Handy
import Derived.Outline
namespace Go.Proofs.YtfnaooplpofgiaaGreatDoor
open Go Go.RowKit SN

theorem step_append_ownT {ops : Array Oper} {o : Oper} {a : Act} {w : World} {K : Act → World → Prop} {Q : Exit → Act → World → Prop} {E : Prop}
    (hg : o.guard = none) (s x : Operand) (t : TypeId) (hop : o.op = Op.call { callee := Callee.builtin Builtin.append, args := #[s, x], argTypes := #[t, t] })
    (base : Nat) (e : TypeId) (i : TypeInfo) (z : Value) (size bytes : Nat) (ht : Tryz.prog.underlying t = some (.slice e)) (hi : Tryz.prog.info? e = some i) (hz : i.zero = some z)
    (hsize : i.size = size) (hby : i.bytes = bytes) (hzs : z.cells.size = size) (hsz : 0 < size)
    (v : Value) (n : Nat) (xs : List Value) (hs : a.eval s = v) (hown : w.ownsRow base e size v n xs)
    (ad : Addr) (m c : Nat) (news : List Value) (hx : a.eval x = .slice (some ad) m c) (hl : news.length = m * size) (hnews : ∀ j u, news[j]? = some u → w.cell? (ad.add j) = some u) (h1 : ∀ u ∈ news, u.oneCell' = true)
    (h63 : n + m ≤ maxLen) (hbytes : (n + m) * bytes ≤ 140737488355328) (hbase : base ≤ w.heap.size)
    (hK : ∀ v' w', w'.ownsRow base e size v' (n + m) (xs ++ news) → w.grownBy w' v.ownBlock → K (a.put o.dst v') w') :
    if Region.wanted o (yielded ops a.tmps) = true then Oper.wp Tryz.prog o a w K Q else E := by
  have hw : Region.wanted o (yielded ops a.tmps) = true := by simp [Region.wanted, hg]
  rw [if_pos hw]
  obtain ⟨v', w', hrun, r1, r2, -⟩ := run_append_own (P := Tryz.prog) w base t o.type e i z size bytes ht hi hz hsize hby hzs hsz v n xs hown ad m c news hl hnews h1 h63 hbytes hbase
  unfold Oper.wp
  simp [execOp, hop, resolve, invoke, builtin, hs, hx, hrun, Result.andThen]
  exact hK v' w' r1 r2
def PutR (w0 : World) (base : Nat) (n : Nat) (e : Ending) (w' : World) : Prop := Below w0.heap.size w0 w' ∧ ∃ v L, e = .returned v ∧ OwnS w' base v L ∧ 1 ≤ L.length ∧ L.length ≤ n + 1
set_option maxHeartbeats 1000000 in
set_option maxRecDepth 100000 in
theorem put_nil (s : ByteArray) (base : Nat) (w : World) (hb : base ≤ w.heap.size) : Calls Tryz.prog 86 #[.slice none 0 0, .string s] w (PutR w base 0) := by
  obtain ⟨i0, hi0, hz0, hz1, hz2⟩ := info_parts info_str
  go_enter Tryz.func86, Tryz.ntmps86
  go_wp2_with fail
  refine wp_loop_rounds 1 ?_
  rw [rounds_succ]
  go_wp2_with fail
  go_region_law (refine step_append_grows rfl (.tmp 36) (.tmp 42) 22 rfl 9 i0 (.string ByteArray.empty) 1 16 Tryz.underlying22 hi0 hz0 hz1 hz2 rfl (by decide) none 0 0 [] (by simp [Act.eval]) (fun _ => ⟨rfl, rfl⟩) rfl (fun _ h => by cases h) ⟨w.heap.size, 0, none⟩ 1 1 [.string s] (by simp [Act.eval]) rfl (one_new _ _ _) (by simp [Value.oneCell']) (by decide) (by simp [maxLen]) (by simp) ?_; intro v' w3 hown hg)
  have hb3 := Lib.hid (((Below.refl w.heap.size w).drew.alloc (Nat.le_refl _) (.cells #[.string s] 9)).grown hg (by simp) (fun j hj => by cases hj))
  have hO := Lib.hid (show OwnS w3 base v' [s] by
    refine ⟨hown.1, ?_⟩
    rcases hown.2 with h2 | ⟨g, cap, cur, hv, hg, r⟩
    · exact .inl h2
    · exact .inr ⟨g, cap, cur, hv, Nat.le_trans (by simp; omega) hg, r⟩)
  clear hown hg
  go_wp2_with fail
  go_ret
  exact ⟨hb3.out, _, _, rfl, hO.out, by simp, by simp⟩
theorem sv_len (L : List ByteArray) : (sV L).length = L.length := by simp [sV]
theorem sv_cells {w : World} {g : Nat} {L : List ByteArray} (h : RowAt w g 0 L) : ∀ j u, (sV L)[j]? = some u → w.cell? ⟨g, j, none⟩ = some u := by
  intro j u hj
  unfold sV at hj
  rw [List.getElem?_map, Option.map_eq_some_iff] at hj
  obtain ⟨x, hx, rfl⟩ := hj
  have := h j x hx
  rwa [Nat.zero_add] at this
theorem sv_one (L : List ByteArray) (k : Nat) : ∀ u ∈ (sV L).drop k, u.oneCell' = true := by
  intro u hu
  have := List.mem_of_mem_drop hu
  unfold sV at this
  obtain ⟨x, -, rfl⟩ := List.mem_map.1 this
  rfl
theorem sv_one2 (s : ByteArray) (L : List ByteArray) (k : Nat) : ∀ u ∈ [Value.string s] ++ (sV L).drop k, u.oneCell' = true := by
  intro u hu
  rw [List.mem_append, List.mem_singleton] at hu
  rcases hu with rfl | hu
  · rfl
  · exact sv_one L k u hu
theorem sv_tail {w : World} {g : Nat} {xs : List Value} {x : Value} {t : TypeId} (h : ∀ j u, xs[j]? = some u → w.cell? ⟨g, j, none⟩ = some u) (hg : g < w.heap.size) (k : Nat) : ∀ j u, (xs.drop k)[j]? = some u → (w.drew.alloc (.cells #[x] t)).cell? ((⟨g, k, none⟩ : Addr).add j) = some u := by
  intro j u hj
  rw [List.getElem?_drop] at hj
  have := h _ _ hj
  rw [Addr.add_mid, World.cell?_alloc_lt w.drew _ ⟨g, k + j, none⟩ hg]
  exact this
theorem sv_keep {w w1 : World} {g : Nat} {xs : List Value} {x : Value} {t : TypeId} (h : ∀ j u, xs[j]? = some u → w.cell? ⟨g, j, none⟩ = some u) (h1 : (w.drew.alloc (.cells #[x] t)).grownBy w1 (some w.heap.size)) (hg : g < w.heap.size) (k : Nat) : ∀ j u, (xs.take k)[j]? = some u → w1.cell? ((⟨g, 0, none⟩ : Addr).add j) = some u := by
  intro j u hj
  rw [List.getElem?_take] at hj
  split at hj
  · have h2 := h _ _ hj
    rw [Addr.add_mid, Nat.zero_add]
    refine h1.cell ?_ (fun e => by injection e with e; simp at e; omega)
    rw [World.cell?_alloc_lt w.drew _ ⟨g, j, none⟩ hg]
    exact h2
  · cases hj
theorem sv_none (L : List ByteArray) {w : World} {a : Addr} : ∀ j u, ((sV L).drop L.length)[j]? = some u → w.cell? (a.add j) = some u := by
  intro j u hj
  rw [List.drop_eq_nil_of_le (by rw [sv_len]; exact Nat.le_refl _)] at hj
  cases hj
theorem own_any {w : World} {base n size : Nat} {e : TypeId} {v : Value} {xs : List Value} (h : w.ownsRow base e size v n xs) : ∃ a c, v = .slice a n c := by
  rcases h.2 with ⟨rfl, h0⟩ | ⟨g, cap, cur, rfl, -⟩
  · exact ⟨none, 0, by rw [h0]⟩
  · exact ⟨some ⟨g, 0, none⟩, cap, rfl⟩
theorem own_grown2 {w w2 : World} {x : Obj} {base n size : Nat} {e : TypeId} {v : Value} {xs : List Value} (h : w.ownsRow base e size v n xs) (hg : (w.alloc x).grownBy w2 (some w.heap.size)) : w2.ownsRow base e size v n xs := by
  refine ⟨h.1, ?_⟩
  rcases h.2 with h2 | ⟨g, cap, cur, hv, hb, hh, r⟩
  · exact .inl h2
  · have hl := row_lt hh
    refine .inr ⟨g, cap, cur, hv, hb, ?_, r⟩
    rw [hg.block g (by simp; omega) (fun e => by injection e; omega), heap_alloc_old w _ hl]
    exact hh
theorem own_mono {w : World} {base b' n size : Nat} {e : TypeId} {v : Value} {xs : List Value} (h : w.ownsRow base e size v n xs) (hb : b' ≤ base) : w.ownsRow b' e size v n xs := by
  refine ⟨h.1, ?_⟩
  rcases h.2 with h2 | ⟨g, cap, cur, hv, hg, r⟩
  · exact .inl h2
  · exact .inr ⟨g, cap, cur, hv, Nat.le_trans hb hg, r⟩
theorem put_len {L : List ByteArray} {k : Nat} (s : ByteArray) (h : k ≤ L.length) : (L.take k ++ s :: L.drop k).length = k + (1 + (L.length - k)) := by
  rw [List.length_append, List.length_take, List.length_cons, List.length_drop]; omega
theorem put_sv (L : List ByteArray) (k : Nat) (s : ByteArray) : sV (L.take k ++ s :: L.drop k) = (sV L).take k ++ ([.string s] ++ (sV L).drop k) := by
  simp [sV, List.map_take, List.map_drop]
theorem own_some {w : World} {base n size : Nat} {e : TypeId} {v : Value} {xs : List Value} (h : w.ownsRow base e size v n xs) (hn : 0 < n) : ∃ g c, v = .slice (some ⟨g, 0, none⟩) n c := by
  rcases h.2 with ⟨-, h0⟩ | ⟨g, cap, cur, rfl, -⟩
  · omega
  · exact ⟨g, cap, rfl⟩
set_option maxHeartbeats 1000000 in
set_option maxRecDepth 100000 in
theorem put_row (s : ByteArray) (base g n cap : Nat) (L : List ByteArray) (w : World) (hb : base ≤ w.heap.size) (h : OwnS w base (.slice (some ⟨g, 0, none⟩) n cap) L) (hn : n ≤ 1000) : Calls Tryz.prog 86 #[.slice (some ⟨g, 0, none⟩) n cap, .string s] w (PutR w base n) := by
  obtain ⟨i0, hi0, hz0, hz1, hz2⟩ := info_parts info_str
  rcases h.shape with ⟨e, -⟩ | ⟨g', cp, e, hg, hgl, hlc, hcm, hRw⟩
  · cases e
  injection e with e1 e2 e3
  cases e1
  subst e2 e3
  have hR := Lib.hid hRw
  have hO := Lib.hid h
  clear hRw h
  go_enter Tryz.func86, Tryz.ntmps86
  go_wp2_with fail
  go_loopw [5] (fun i wr => ∃ (k : Nat), k ≤ L.length ∧ i = .int .i64 k ∧ wr = w) (fun i _ => L.length - (intOf i).toNat)
  case atStart => exact ⟨0, Nat.zero_le _, rfl, rfl⟩
  case round =>
    obtain ⟨k, hk, rfl, rfl⟩ := hrel
    by_cases hkk : k < L.length
    · have hkI : (k : Int) < (L.length : Int) := by omega
      have hld := hR.out k L[k] (List.getElem?_eq_getElem hkk)
      rw [Nat.zero_add] at hld
      generalize L[k] = u at hld
      go_wp2_with fail
      case roundEnd =>
        refine ⟨⟨k + 1, by omega, rfl, trivial⟩, ?_⟩
        simp [intOf]; omega
      · go_ret
        exact ⟨Below.refl _ _, _, L, rfl, hO.out, by omega, by omega⟩
      · clear hkI
        have hlow := Lib.hid (sv_cells hR.out)
        have hlen' : (sV L).length = L.length := sv_len L
        have hnew := Lib.hid (show ∀ j u, [Value.string s][j]? = some u → ((wr.drew.alloc (.cells #[.string s] 9))).cell? ((⟨wr.heap.size, 0, none⟩ : Addr).add j) = some u from one_new _ _ _)
        have hlit := Lib.hid (World.ownsRow_lit (base := wr.heap.size) (e := 9) (size := 1) wr.drew #[.string s] 1 (Nat.le_refl _) (by simp [maxLen]) rfl)
        have hkc0 : (0 : Int) ≤ (k : Int) ∧ (k : Int) ≤ (cap : Int) := ⟨by omega, by omega⟩
        have hkl0 : (k : Int) ≤ (L.length : Int) := by omega
        have hkl : k ≤ L.length := by omega
        go_region_law (first | (refine step_append_grows rfl (.tmp 36) (.tmp 42) 22 rfl 9 i0 (.string ByteArray.empty) 1 16 Tryz.underlying22 hi0 hz0 hz1 hz2 rfl (by decide) (some ⟨g, 0, none⟩) (k) (k) ((sV L).take (k)) (by simp [Act.eval]) (fun h => by cases h) (by rw [List.length_take, hlen', Nat.mul_one]; omega) (fun b hb j u hj => by cases hb; exact hr1.out j u hj) ⟨g1, 0, none⟩ (1 + (L.length - k)) c1 ([.string s] ++ (sV L).drop (k)) (by simp [Act.eval]) (by rw [List.length_append, List.length_drop, sv_len]; show 1 + _ = _; omega) (hown1.cells rfl) (sv_one2 s L (k)) (by omega) (by unfold maxLen; omega) (by omega) ?_; intro v2 w2 hown2 hg2) | (refine step_append_ownT rfl (.tmp 38) (.tmp 41) 22 rfl wr.heap.size 9 i0 (.string ByteArray.empty) 1 16 Tryz.underlying22 hi0 hz0 hz1 hz2 rfl (by decide) (.slice (some ⟨wr.heap.size, 0, none⟩) 1 1) 1 [.string s] (by simp [Act.eval]) hlit.out ⟨g, k, none⟩ (L.length - k) (cap - k) ((sV L).drop (k)) (by simp [Act.eval] <;> omega) (by rw [List.length_drop, hlen', Nat.mul_one]) (sv_tail hlow.out hgl (k)) (sv_one _ _) (by unfold maxLen; omega) (by omega) (by simp) ?_; intro v1 w1 hown1 hg1; have hr1 := Lib.hid (sv_keep hlow.out hg1 hgl (k)); have b1 := Lib.hid (((Below.refl wr.heap.size wr).drew.alloc (Nat.le_refl _) (.cells #[.string s] 9)).grown hg1 (by simp) (fun j hj => by cases hj; exact Nat.le_refl _)); have z1 : wr.heap.size ≤ w1.heap.size := b1.out.size; obtain ⟨g1, c1, rfl⟩ := own_some hown1 (by omega); clear hg1))
        have hO2 : OwnS w2 base v2 (L.take (k) ++ s :: L.drop (k)) := by
          have h2 := own_mono hown2 (show base ≤ w1.heap.size by omega)
          unfold OwnS
          rw [put_len s hkl, put_sv]
          exact h2
        have hO2' := Lib.hid hO2
        have b2 := Lib.hid (b1.out.grown hg2 z1 (fun j hj => by cases hj))
        clear hown2 hg2 hO2 hown1 hlow hnew hlit hr1
        go_wp2_with fail
        go_ret
        exact ⟨b2.out, _, _, rfl, hO2'.out, by rw [put_len s hkl]; omega, by rw [put_len s hkl]; omega⟩
    · have hke : k = L.length := by omega
      subst hke
      have hkI : ¬ ((L.length : Nat) : Int) < (L.length : Int) := by omega
      by_cases hcl : cap = L.length
      · subst hcl
        go_wp2_with fail
        clear hkI
        have hlow := Lib.hid (sv_cells hR.out)
        have hlen' : (sV L).length = L.length := sv_len L
        have hnew := Lib.hid (show ∀ j u, [Value.string s][j]? = some u → ((wr.drew.alloc (.cells #[.string s] 9))).cell? ((⟨wr.heap.size, 0, none⟩ : Addr).add j) = some u from one_new _ _ _)
        have hlit := Lib.hid (World.ownsRow_lit (base := wr.heap.size) (e := 9) (size := 1) wr.drew #[.string s] 1 (Nat.le_refl _) (by simp [maxLen]) rfl)
        have hkc0 : (0 : Int) ≤ (L.length : Int) ∧ (L.length : Int) ≤ (L.length : Int) := ⟨by omega, by omega⟩
        have hkl0 : (L.length : Int) ≤ (L.length : Int) := by omega
        have hkl : L.length ≤ L.length := by omega
        go_region_law (first | (refine step_append_grows rfl (.tmp 36) (.tmp 42) 22 rfl 9 i0 (.string ByteArray.empty) 1 16 Tryz.underlying22 hi0 hz0 hz1 hz2 rfl (by decide) (some ⟨g, 0, none⟩) (L.length) (L.length) ((sV L).take (L.length)) (by simp [Act.eval]) (fun h => by cases h) (by rw [List.length_take, hlen', Nat.mul_one]; omega) (fun b hb j u hj => by cases hb; exact hr1.out j u hj) ⟨g1, 0, none⟩ (1 + (L.length - L.length)) c1 ([.string s] ++ (sV L).drop (L.length)) (by simp [Act.eval]) (by rw [List.length_append, List.length_drop, sv_len]; show 1 + _ = _; omega) (hown1.cells rfl) (sv_one2 s L (L.length)) (by omega) (by unfold maxLen; omega) (by omega) ?_; intro v2 w2 hown2 hg2) | (refine step_append_ownT rfl (.tmp 38) (.tmp 41) 22 rfl wr.heap.size 9 i0 (.string ByteArray.empty) 1 16 Tryz.underlying22 hi0 hz0 hz1 hz2 rfl (by decide) (.slice (some ⟨wr.heap.size, 0, none⟩) 1 1) 1 [.string s] (by simp [Act.eval]) hlit.out ⟨g, 0, none⟩ (L.length - L.length) (L.length - L.length) ((sV L).drop (L.length)) (by simp [Act.eval] <;> omega) (by rw [List.length_drop, hlen', Nat.mul_one]) (sv_none L) (sv_one _ _) (by unfold maxLen; omega) (by omega) (by simp) ?_; intro v1 w1 hown1 hg1; have hr1 := Lib.hid (sv_keep hlow.out hg1 hgl (L.length)); have b1 := Lib.hid (((Below.refl wr.heap.size wr).drew.alloc (Nat.le_refl _) (.cells #[.string s] 9)).grown hg1 (by simp) (fun j hj => by cases hj; exact Nat.le_refl _)); have z1 : wr.heap.size ≤ w1.heap.size := b1.out.size; obtain ⟨g1, c1, rfl⟩ := own_some hown1 (by omega); clear hg1))
        have hO2 : OwnS w2 base v2 (L.take (L.length) ++ s :: L.drop (L.length)) := by
          have h2 := own_mono hown2 (show base ≤ w1.heap.size by omega)
          unfold OwnS
          rw [put_len s hkl, put_sv]
          exact h2
        have hO2' := Lib.hid hO2
        have b2 := Lib.hid (b1.out.grown hg2 z1 (fun j hj => by cases hj))
        clear hown2 hg2 hO2 hown1 hlow hnew hlit hr1
        go_wp2_with fail
        go_ret
        exact ⟨b2.out, _, _, rfl, hO2'.out, by rw [put_len s hkl]; omega, by rw [put_len s hkl]; omega⟩
      · go_wp2_with fail
        clear hkI
        have hlow := Lib.hid (sv_cells hR.out)
        have hlen' : (sV L).length = L.length := sv_len L
        have hnew := Lib.hid (show ∀ j u, [Value.string s][j]? = some u → ((wr.drew.alloc (.cells #[.string s] 9))).cell? ((⟨wr.heap.size, 0, none⟩ : Addr).add j) = some u from one_new _ _ _)
        have hlit := Lib.hid (World.ownsRow_lit (base := wr.heap.size) (e := 9) (size := 1) wr.drew #[.string s] 1 (Nat.le_refl _) (by simp [maxLen]) rfl)
        have hkc0 : (0 : Int) ≤ (L.length : Int) ∧ (L.length : Int) ≤ (cap : Int) := ⟨by omega, by omega⟩
        have hkl0 : (L.length : Int) ≤ (L.length : Int) := by omega
        have hkl : L.length ≤ L.length := by omega
        go_region_law (first | (refine step_append_grows rfl (.tmp 36) (.tmp 42) 22 rfl 9 i0 (.string ByteArray.empty) 1 16 Tryz.underlying22 hi0 hz0 hz1 hz2 rfl (by decide) (some ⟨g, 0, none⟩) (L.length) (L.length) ((sV L).take (L.length)) (by simp [Act.eval]) (fun h => by cases h) (by rw [List.length_take, hlen', Nat.mul_one]; omega) (fun b hb j u hj => by cases hb; exact hr1.out j u hj) ⟨g1, 0, none⟩ (1 + (L.length - L.length)) c1 ([.string s] ++ (sV L).drop (L.length)) (by simp [Act.eval]) (by rw [List.length_append, List.length_drop, sv_len]; show 1 + _ = _; omega) (hown1.cells rfl) (sv_one2 s L (L.length)) (by omega) (by unfold maxLen; omega) (by omega) ?_; intro v2 w2 hown2 hg2) | (refine step_append_ownT rfl (.tmp 38) (.tmp 41) 22 rfl wr.heap.size 9 i0 (.string ByteArray.empty) 1 16 Tryz.underlying22 hi0 hz0 hz1 hz2 rfl (by decide) (.slice (some ⟨wr.heap.size, 0, none⟩) 1 1) 1 [.string s] (by simp [Act.eval]) hlit.out ⟨g, L.length, none⟩ (L.length - L.length) (cap - L.length) ((sV L).drop (L.length)) (by simp [Act.eval] <;> omega) (by rw [List.length_drop, hlen', Nat.mul_one]) (sv_tail hlow.out hgl (L.length)) (sv_one _ _) (by unfold maxLen; omega) (by omega) (by simp) ?_; intro v1 w1 hown1 hg1; have hr1 := Lib.hid (sv_keep hlow.out hg1 hgl (L.length)); have b1 := Lib.hid (((Below.refl wr.heap.size wr).drew.alloc (Nat.le_refl _) (.cells #[.string s] 9)).grown hg1 (by simp) (fun j hj => by cases hj; exact Nat.le_refl _)); have z1 : wr.heap.size ≤ w1.heap.size := b1.out.size; obtain ⟨g1, c1, rfl⟩ := own_some hown1 (by omega); clear hg1))
        have hO2 : OwnS w2 base v2 (L.take (L.length) ++ s :: L.drop (L.length)) := by
          have h2 := own_mono hown2 (show base ≤ w1.heap.size by omega)
          unfold OwnS
          rw [put_len s hkl, put_sv]
          exact h2
        have hO2' := Lib.hid hO2
        have b2 := Lib.hid (b1.out.grown hg2 z1 (fun j hj => by cases hj))
        clear hown2 hg2 hO2 hown1 hlow hnew hlit hr1
        go_wp2_with fail
        go_ret
        exact ⟨b2.out, _, _, rfl, hO2'.out, by rw [put_len s hkl]; omega, by rw [put_len s hkl]; omega⟩
/-- Is q a name in the directory p? -/
def isKid (p q : List UInt8) : Bool := decide (p.length + 1 < q.length) && (q.take (p.length + 1) == p ++ [47]) && !((q.drop (p.length + 1)).any (· == 47))
theorem eq_node {w : World} {B C : Nat} {n k : DN} (hB : IsDn w B n) (hC : IsDn w C k) : (binOp .eql 94 (.pointer (some ⟨B, 0, none⟩)) (.pointer (some ⟨C, 0, none⟩))).run Tryz.prog w = .ok (.bool (decide (B = C))) w := by
  obtain ⟨sl, cap, ti, h1⟩ := hB
  obtain ⟨sl2, cap2, ti2, h2⟩ := hC
  have hp := Tryz.underlying94
  have hi : (Tryz.prog.info? 96).map (fun i => decide (i.size ≠ 0)) = some true := by kernel_rfl
  obtain ⟨j, hj, hj2⟩ := Option.map_eq_some_iff.1 hi
  have hj3 : j.size ≠ 0 := of_decide_eq_true hj2
  by_cases e : B = C
  · subst e
    rw [decide_eq_true rfl]
    exact run_eql_ptr_same w _ hp hj
  · rw [decide_eq_false e]
    exact run_eql_ptr_other w hp hj hj3 (fun h => e (by injection h)) h1 h2
set_option maxHeartbeats 1000000 in
set_option maxRecDepth 100000 in
theorem links_any {m : Nat} {L : DRow} {D : Nat → Option DN} (B : Nat) (nB : DN) (w : World) (h : IsDt w m L D) (hB : IsDn w B nB) :
    Calls Tryz.prog 71 #[.pointer (some ⟨m, 0, none⟩), .pointer (some ⟨B, 0, none⟩)] w fun e w' => Below w.heap.size w w' ∧ ∃ k : Int, e = .returned (.int .i64 k) := by
  obtain ⟨⟨g, cap, now, gr, h1, hcap, h3, h4⟩, h5, h6, -⟩ := h
  have c1 : w.cell? ⟨m, 0, none⟩ = some (.slice (some ⟨g, 0, none⟩) L.length cap) := row_cell h1 rfl
  have h4' := Lib.hid h4
  have h5' := Lib.hid h5
  have hB' := Lib.hid hB
  clear h1 h4 h5 hB
  go_enter Tryz.func71, Tryz.ntmps71
  go_wp2_with fail
  go_loopw [5, 13] (fun v i wr => ∃ (j : Nat) (k : Nat), j ≤ L.length ∧ k ≤ j ∧ v = .int .i64 k ∧ i = .int .i64 j ∧ Hid (Below w.heap.size w wr) ∧ w.heap.size ≤ wr.heap.size) (fun _ i _ => L.length - (intOf i).toNat)
  case atStart => exact ⟨0, 0, Nat.zero_le _, Nat.le_refl _, rfl, rfl, Lib.hid (Below.refl _ _), Nat.le_refl _⟩
  case round =>
    obtain ⟨j, k, hj, hkj, rfl, rfl, hb, hz⟩ := hrel
    by_cases hjj : j < L.length
    · have hjI : (j : Int) < (L.length : Int) := by omega
      have hra := Lib.hid (rangeAt_below (h4'.out j L[j] (List.getElem?_eq_getElem hjj)) hb.out h3)
      have hze := Lib.hid (zEnt wr)
      have hnd := Lib.hid (h5'.out L[j] (List.getElem_mem hjj))
      generalize L[j] = x at hra hnd
      obtain ⟨nx, -, hnx⟩ := hnd.out
      have heq := Lib.hid (show ∀ w2, (wr.alloc (.cells #[.string ⟨#[]⟩, .pointer none] 98)).grownBy w2 (some wr.heap.size) → (binOp .eql 94 (.pointer (some ⟨x.2, 0, none⟩)) (.pointer (some ⟨B, 0, none⟩))).run Tryz.prog w2 = .ok (.bool (decide (x.2 = B))) w2 from fun w2 g2 => by
        have hb2 : Below w.heap.size w w2 := ((hb.out.alloc hz _).grown g2 (by simp; omega) (fun k hk => by cases hk; exact hz))
        exact eq_node (hnx.below hb2) (hB'.out.below hb2))
      clear hnx hnd
      by_cases he : x.2 = B
      · rw [decide_eq_true he] at heq
        subst he
        go_wp2_with (first | (refine load_ent rfl _ rfl g j x rfl hra.out ?_) | (refine store_ent rfl rfl _ _ rfl wr.heap.size _ _ _ _ rfl rfl hze.out rfl rfl ?_; intro w2 h2 g2 z2; have q1 : w2.cell? ⟨wr.heap.size, 0, none⟩ = some (.string x.1) := row_cell h2 rfl; have q2 : w2.cell? ⟨wr.heap.size, 1, none⟩ = some (.pointer (some ⟨x.2, 0, none⟩)) := row_cell h2 rfl; have q3 := heq.out w2 g2))
        case roundEnd =>
          refine ⟨⟨j + 1, k + 1, by omega, by omega, rfl, rfl, Lib.hid ((hb.out.alloc hz _).grown g2 (by simp; omega) (fun k hk => by cases hk; exact hz)), by simp at z2; omega⟩, ?_⟩
          simp [intOf]; omega
      · rw [decide_eq_false he] at heq
        go_wp2_with (first | (refine load_ent rfl _ rfl g j x rfl hra.out ?_) | (refine store_ent rfl rfl _ _ rfl wr.heap.size _ _ _ _ rfl rfl hze.out rfl rfl ?_; intro w2 h2 g2 z2; have q1 : w2.cell? ⟨wr.heap.size, 0, none⟩ = some (.string x.1) := row_cell h2 rfl; have q2 : w2.cell? ⟨wr.heap.size, 1, none⟩ = some (.pointer (some ⟨x.2, 0, none⟩)) := row_cell h2 rfl; have q3 := heq.out w2 g2))
        case roundEnd =>
          refine ⟨⟨j + 1, k, by omega, by omega, rfl, rfl, Lib.hid ((hb.out.alloc hz _).grown g2 (by simp; omega) (fun k hk => by cases hk; exact hz)), by simp at z2; omega⟩, ?_⟩
          simp [intOf]; omega
    · have hjI : ¬ (j : Int) < (L.length : Int) := by omega
      go_wp2_with fail
      go_ret
      exact ⟨hb.out, _, rfl⟩
section
variable {ops : Array Oper} {Q : Exit → Act → World → Prop} {a : Act} {w : World} {rest : List Oper}
theorem load_entL {d : Option Tmp} {t : TypeId} {p : String} {af : Array Edge} {x : Operand} (g i : Nat) (e : ByteArray × Nat) (hx : a.eval x = .pointer (some ⟨g, i * 2, none⟩)) (h : w.rangeAt g (i * 2) (entL e))
    (hk : wpList Tryz.prog ops Q rest (a.put d (.agg #[.string e.1, .pointer (some ⟨e.2, 0, none⟩)])) w) : wpList Tryz.prog ops Q ({ dst := d, op := .load 98 x, type := t, pos := p, after := af, guard := none } :: rest) a w :=
  load_ent rfl x rfl g i e hx h hk
theorem store_entL {t : TypeId} {p : String} {af : Array Edge} {x y : Operand} (B : Nat) (u v u0 v0 : Value) (hx : a.eval x = .pointer (some ⟨B, 0, none⟩)) (hy : a.eval y = .agg #[u, v]) (h : w.heap[B]? = some (.cells #[u0, v0] 98 (0, 0)))
    (hu : u.oneCell' = true) (hv : v.oneCell' = true)
    (hk : ∀ w', w'.heap[B]? = some (.cells #[u, v] 98 (0, 0)) → w.grownBy w' (some B) → w'.heap.size = w.heap.size → wpList Tryz.prog ops Q rest a w') : wpList Tryz.prog ops Q ({ dst := none, op := .store 98 x y, type := t, pos := p, after := af, guard := none } :: rest) a w :=
  store_ent rfl rfl x y rfl B u v u0 v0 hx hy h hu hv hk
theorem cat_armL {d : Option Tmp} {t : TypeId} {p : String} {af : Array Edge} {gd : Option (Nat × Bool)} {x y : Operand} (s u : List UInt8) (hw : Region.wanted ({ dst := d, op := .binOp .add 9 x y 9, type := t, pos := p, after := af, guard := gd } : Oper) (yielded ops a.tmps) = true) (hx : a.eval x = .string ⟨s.toArray⟩) (hy : a.eval y = .string ⟨u.toArray⟩) (h : s.length + u.length ≤ 9223372036854775807)
    (hk : wpList Tryz.prog ops Q rest (a.put d (.string ⟨(s ++ u).toArray⟩)) w) : wpList Tryz.prog ops Q ({ dst := d, op := .binOp .add 9 x y 9, type := t, pos := p, after := af, guard := gd } :: rest) a w :=
  cat_arm2 hw x y rfl s u hx hy h hk
end
theorem kid_eq (S : List UInt8) (q : ByteArray) : ((q.extract 0 (S.length + 1)).toList == (({ data := S.toArray } : ByteArray) ++ { data := #[47] }).toList) = (q.data.toList.take (S.length + 1) == S ++ [47]) := by
  rw [Lib.toList_data, Lib.toList_data, ext_list, List.drop_zero, Nat.sub_zero, ba_append2]
theorem kid_not (S : List UInt8) (q : ByteArray) (h : ((q.extract 0 (S.length + 1)).toList == (({ data := S.toArray } : ByteArray) ++ { data := #[47] }).toList) = false) : isKid S q.data.toList = false := by
  rw [kid_eq] at h
  unfold isKid
  rw [h, Bool.and_false, Bool.false_and]
theorem kid_is (S : List UInt8) (q : ByteArray) (h1 : S.length + 1 < q.size) (h : ((q.extract 0 (S.length + 1)).toList == (({ data := S.toArray } : ByteArray) ++ { data := #[47] }).toList) = true) : isKid S q.data.toList = !((q.extract (S.length + 1) q.size).data.toList.any (· == 47)) := by
  rw [kid_eq] at h
  have hl : q.data.toList.length = q.size := by simp
  unfold isKid
  rw [h, ext_list, List.take_of_length_le (by rw [List.length_drop]; omega), decide_eq_true (by omega)]
  rfl
theorem any_succ (t : ByteArray) (k : Nat) (hk : k < t.size) : (t.data.toList.take (k + 1)).any (· == 47) = ((t.data.toList.take k).any (· == 47) || t[k] == 47) := by
  have hl : t.data.toList.length = t.size := by simp
  rw [List.take_succ_eq_append_getElem (by omega), List.any_append]
  simp
  rfl
def hasKid (L : DRow) (p : List UInt8) : Bool := L.any fun x => isKid p x.1.data.toList
theorem kid_more {p : List UInt8} (L : DRow) (j : Nat) (hj : j < L.length) (x : ByteArray × Nat) (hx : L[j] = x) (P : Prop) (h1 : hasKid (L.take j) p = true → P) (h2 : isKid p x.1.data.toList = true → P) : hasKid (L.take (j + 1)) p = true → P := by
  intro h
  unfold hasKid at h h1
  rw [List.take_succ_eq_append_getElem hj, List.any_append, hx, Bool.or_eq_true] at h
  rcases h with h | h
  · exact h1 h
  · exact h2 (by simpa using h)
set_option maxHeartbeats 4000000 in
set_option maxRecDepth 100000 in
theorem kids_any {m : Nat} {L : DRow} {D : Nat → Option DN} (S : List UInt8) (hS : S.length ≤ 2000000) (w : World) (h : IsDt w m L D) :
    Calls Tryz.prog 70 #[.pointer (some ⟨m, 0, none⟩), .string ⟨S.toArray⟩] w fun e w' => Below w.heap.size w w' ∧ ∃ p n c, e = .returned (.slice p n c) ∧ n ≤ 1000 ∧ (hasKid L S = true → 1 ≤ n) := by
  obtain ⟨⟨g, cap, now, gr, h1, hcap, h3, h4⟩, -, h6, h7⟩ := h
  have c1 : w.cell? ⟨m, 0, none⟩ = some (.slice (some ⟨g, 0, none⟩) L.length cap) := row_cell h1 rfl
  have h4' := Lib.hid h4
  have h7' := Lib.hid h7
  clear h1 h4 h7
  have hSw : IntKind.i64.wrap ((S.length : Int) + 1) = (S.length : Int) + 1 := IntWalk.i64_in _ (by omega)
  go_enter Tryz.func70, Tryz.ntmps70
  go_wp2_with fail
  go_loopw [5, 16] (fun v i wr => ∃ (j : Nat) (l : List ByteArray) (u : Value), j ≤ L.length ∧ l.length ≤ j ∧ u = v ∧ i = .int .i64 j ∧ Hid (OwnS wr w.heap.size v l) ∧ Hid (Below w.heap.size w wr) ∧ w.heap.size ≤ wr.heap.size ∧ Hid (hasKid (L.take j) S = true → 1 ≤ l.length)) (fun _ i _ => L.length - (intOf i).toNat)
  case atStart => exact ⟨0, [], _, Nat.zero_le _, Nat.le_refl _, rfl, rfl, Lib.hid (OwnS.nil _ _), Lib.hid (Below.refl _ _), Nat.le_refl _, Lib.hid (fun h => by cases h)⟩
  case round =>
    obtain ⟨j, l, v, hj, hl, rfl, rfl, hown, hb, hz, hk⟩ := hrel
    by_cases hjj : j < L.length
    · have hjI : (j : Int) < (L.length : Int) := by omega
      have hra := Lib.hid (rangeAt_below (h4'.out j L[j] (List.getElem?_eq_getElem hjj)) hb.out h3)
      have hze := Lib.hid (zEnt wr)
      have hxs := h7'.out L[j] (List.getElem_mem hjj)
      have hkm := Lib.hid (kid_more (p := S) L j hjj _ rfl)
      generalize L[j] = x at hra hxs hkm
      have hsl : x.1.data.toList.length = x.1.size := by simp
      by_cases a1 : S.length + 1 < x.1.size
      · have a1I : (S.length : Int) + 1 < (x.1.size : Int) := by omega
        have e0 : (0 : Int) ≤ (S.length : Int) + 1 ∧ (S.length : Int) + 1 ≤ (x.1.size : Int) := ⟨by omega, by omega⟩
        have e1 : ((S.length : Int) + 1).toNat = S.length + 1 := by omega
        by_cases a2 : ((x.1.extract 0 (S.length + 1)).toList == (({ data := S.toArray } : ByteArray) ++ { data := #[47] }).toList) = true
        · have ht : (x.1.extract (S.length + 1) x.1.size).size = x.1.size - (S.length + 1) := by rw [ByteArray.size_extract]; omega
          have hki := Lib.hid (kid_is S x.1 a1 a2)
          have hO1 := Lib.hid (show OwnS (wr.alloc (.cells #[.string x.1, .pointer (some ⟨x.2, 0, none⟩)] 98)) w.heap.size v l from World.ownsRow.alloc hown.out _)
          have hb1 := Lib.hid (hb.out.alloc hz (.cells #[.string x.1, .pointer (some ⟨x.2, 0, none⟩)] 98))
          have hz1 : w.heap.size ≤ (wr.alloc (.cells #[.string x.1, .pointer (some ⟨x.2, 0, none⟩)] 98)).heap.size := by simp; omega
          go_wp2_with (first | ((with_reducible refine load_entL g j x ?_ hra.out ?_); · rfl) | ((with_reducible refine cat_armL S [47] ?_ ?_ ?_ (by simp only [List.length_cons, List.length_nil]; omega) ?_); · rfl; · rfl; · rfl))
          rw [← ht]
          generalize (x.1.extract (S.length + 1) x.1.size) = t at ht hki ⊢
          generalize (wr.alloc (.cells #[.string x.1, .pointer (some ⟨x.2, 0, none⟩)] 98)) = W0 at hO1 hb1 hz1 ⊢
          have htl : t.size ≤ 1000 := by omega
          clear ht a1 a1I a2 e0 e1 hsl hxs hra hze hown hb
          go_loopw [9, 10, 46] (fun b i10 i wr2 => ∃ (k : Nat) (d : Bool), k ≤ t.size ∧ i = .int .i64 k ∧ wr2 = W0 ∧ b = .bool d ∧ Hid (d = (t.data.toList.take k).any (· == 47))) (fun _ _ i _ => t.size - (intOf i).toNat)
          case atStart => exact ⟨0, false, Nat.zero_le _, rfl, rfl, rfl, Lib.hid rfl⟩
          case round =>
            obtain ⟨k, d, hkt, rfl, rfl, rfl, hd⟩ := hrel
            by_cases hkk : k < t.size
            · have hkI : (k : Int) < (t.size : Int) := by omega
              have hany := Lib.hid (any_succ t k hkk)
              cases d with
              | true =>
                have hnx := Lib.hid (show true = (t.data.toList.take (k + 1)).any (· == 47) by rw [hany.out, ← hd.out]; rfl)
                go_wp2_with fail
                case roundEnd =>
                  refine ⟨⟨k + 1, true, by omega, rfl, trivial, rfl, hnx⟩, ?_⟩
                  simp [intOf]; omega
              | false =>
                by_cases c : t[k].toNat = 47
                · have cI : (t[k].toNat : Int) = 47 := by omega
                  have hnx := Lib.hid (show true = (t.data.toList.take (k + 1)).any (· == 47) by rw [hany.out, ← hd.out, show t[k] = 47 from UInt8.toNat_inj.1 c]; rfl)
                  go_wp2_with fail
                  case roundEnd =>
                    refine ⟨⟨k + 1, true, by omega, rfl, trivial, rfl, hnx⟩, ?_⟩
                    simp [intOf]; omega
                · have cI : ¬ (t[k].toNat : Int) = 47 := by omega
                  have cB : ((t[k].toNat : Int) == 47) = false := by simpa using cI
                  have hnx := Lib.hid (show false = (t.data.toList.take (k + 1)).any (· == 47) by rw [hany.out, ← hd.out, Bool.false_or]; exact (beq_eq_false_iff_ne.2 (fun e => c (by rw [e]; rfl))).symm)
                  go_wp2_with fail
                  case roundEnd =>
                    refine ⟨⟨k + 1, false, by omega, rfl, trivial, rfl, hnx⟩, ?_⟩
                    simp [intOf]; omega
            · have hke : k = t.size := by omega
              subst hke
              have hkI : ¬ ((t.size : Nat) : Int) < (t.size : Int) := by omega
              have hdd : d = t.data.toList.any (· == 47) := by
                have := hd.out
                rwa [List.take_of_length_le (by simp)] at this
              cases d with
              | true =>
                have hnx := Lib.hid (hkm.out _ hk.out (fun e => by rw [hki.out, ← hdd] at e; cases e))
                clear hkm hdd
                go_wp2_with fail
                case roundEnd =>
                  refine ⟨⟨j + 1, l, _, by omega, by omega, rfl, rfl, hO1, hb1, hz1, hnx⟩, ?_⟩
                  simp [intOf]; omega
              | false =>
                clear hdd hki hd
                rcases hO1.out.shape with ⟨rfl, rfl⟩ | ⟨g', cp, rfl, hg', hgl, hlc, hcm, hRw⟩
                · go_wp2_with fail
                  refine (put_nil t w.heap.size _ hz1).mono ?_
                  rintro e w3 ⟨b3, v', l', rfl, hO3, hl1, hl2⟩
                  have hnx := Lib.hid (hkm.out (1 ≤ l'.length) (fun _ => hl1) (fun _ => hl1))
                  have hO3' := Lib.hid hO3
                  have hb3 := Lib.hid (hb1.out.trans (b3.mono hz1))
                  have hz3 : w.heap.size ≤ w3.heap.size := Nat.le_trans hz1 b3.size
                  clear hkm hO3 b3
                  go_wp2_with fail
                  case roundEnd =>
                    refine ⟨⟨j + 1, l', _, by omega, by simp at hl2; omega, rfl, rfl, hO3', hb3, hz3, hnx⟩, ?_⟩
                    simp [intOf]; omega
                · clear hRw
                  go_wp2_with fail
                  refine (put_row t w.heap.size g' l.length cp l _ hz1 hO1.out (by omega)).mono ?_
                  rintro e w3 ⟨b3, v', l', rfl, hO3, hl1, hl2⟩
                  have hnx := Lib.hid (hkm.out (1 ≤ l'.length) (fun _ => hl1) (fun _ => hl1))
                  have hO3' := Lib.hid hO3
                  have hb3 := Lib.hid (hb1.out.trans (b3.mono hz1))
                  have hz3 : w.heap.size ≤ w3.heap.size := Nat.le_trans hz1 b3.size
                  clear hkm hO3 b3
                  go_wp2_with fail
                  case roundEnd =>
                    refine ⟨⟨j + 1, l', _, by omega, by omega, rfl, rfl, hO3', hb3, hz3, hnx⟩, ?_⟩
                    simp [intOf]; omega
        · have a2f : ((x.1.extract 0 (S.length + 1)).toList == (({ data := S.toArray } : ByteArray) ++ { data := #[47] }).toList) = false := by simpa using a2
          have hno := kid_not S x.1 a2f
          have hnx := Lib.hid (hkm.out _ hk.out (fun e => by rw [hno] at e; cases e))
          clear hkm a2 hno
          go_wp2_with (first | ((with_reducible refine load_entL g j x ?_ hra.out ?_); · rfl) | ((with_reducible refine cat_armL S [47] ?_ ?_ ?_ (by simp only [List.length_cons, List.length_nil]; omega) ?_); · rfl; · rfl; · rfl))
          case roundEnd =>
            refine ⟨⟨j + 1, l, _, by omega, by omega, rfl, rfl, Lib.hid (World.ownsRow.alloc hown.out _), Lib.hid (hb.out.alloc hz _), by simp; omega, hnx⟩, ?_⟩
            simp [intOf]; omega
      · have a1I : ¬ (S.length : Int) + 1 < (x.1.size : Int) := by omega
        have hno : isKid S x.1.data.toList = false := by unfold isKid; rw [hsl, decide_eq_false a1]; rfl
        have hnx := Lib.hid (hkm.out _ hk.out (fun e => by rw [hno] at e; cases e))
        clear hno hkm
        go_wp2_with (first | ((with_reducible refine load_entL g j x ?_ hra.out ?_); · rfl))
        case roundEnd =>
          refine ⟨⟨j + 1, l, _, by omega, by omega, rfl, rfl, Lib.hid (World.ownsRow.alloc hown.out _), Lib.hid (hb.out.alloc hz _), by simp; omega, hnx⟩, ?_⟩
          simp [intOf]; omega
    · have hje : j = L.length := by omega
      subst hje
      have hjI : ¬ ((L.length : Nat) : Int) < (L.length : Int) := by omega
      have hkk := hk.out
      rw [List.take_length] at hkk
      have hkk' := Lib.hid hkk
      clear hkk
      obtain ⟨p, c, rfl⟩ := own_any hown.out
      go_wp2_with fail
      go_ret
      exact ⟨hb.out, _, _, ⟨_, rfl⟩, by omega, hkk'.out⟩
end Go.Proofs.YtfnaooplpofgiaaGreatDoor
