/- Walks over package set: Bytes: the members, rising, in a new slice. -/
import Derived.Test.YteeopjgfiojoiaaDoorSetW2
namespace Go.Proofs.YteeopjgfiojoiaaDoor
open Go Go.RowKit SN

/-- The values of a list of bytes. -/
def bv (l : List Nat) : List Value := l.map fun (b : Nat) => Value.int .u8 (b : Int)
def OwnsB (w : World) (base : Nat) (v : Value) (l : List Nat) : Prop := w.ownsRow base 5 1 v l.length (bv l)
theorem bv_snoc (l : List Nat) (b : Nat) : bv (l ++ [b]) = bv l ++ [.int .u8 b] := by simp [bv]
theorem OwnsB.snoc {w : World} {base : Nat} {v : Value} {l : List Nat} {b : Nat} (h : w.ownsRow base 5 1 v (l.length + 1) (bv l ++ [.int .u8 b])) : OwnsB w base v (l ++ [b]) := by
  unfold OwnsB; rw [bv_snoc, List.length_append]; exact h
theorem info_u8 : (Tryd.prog.info? 5).map (fun i => (i.zero, i.size, i.bytes)) = some (some (.int .u8 0), 1, 1) := by kernel_rfl
def memTo (S k : Nat) : List Nat := (List.range k).filter S.testBit
theorem memTo_yes (S k : Nat) (h : S.testBit k = true) : memTo S (k + 1) = memTo S k ++ [k] := by
  unfold memTo; rw [List.range_succ, List.filter_append]; simp [h]
theorem memTo_no (S k : Nat) (h : S.testBit k = false) : memTo S (k + 1) = memTo S k := by
  unfold memTo; rw [List.range_succ, List.filter_append]; simp [h]
theorem memTo_le (S k : Nat) : (memTo S k).length ≤ k := by
  unfold memTo
  have := List.length_filter_le S.testBit (List.range k)
  simpa using this
theorem one_new (w : World) (v : Value) (t : TypeId) : ∀ (j : Nat) u, [v][j]? = some u → (w.alloc (.cells #[v] t)).cell? ((⟨w.heap.size, 0, none⟩ : Addr).add j) = some u := by
  intro j u hj
  match j, hj with
  | 0, hj => simp at hj; subst hj; simp [Addr.add]
theorem OwnsB.keptB {w w' : World} {base N : Nat} {v : Value} {l : List Nat} (h : OwnsB w base v l) (hb : Below N w w') (hN : w.heap.size ≤ N) : OwnsB w' base v l := by
  refine ⟨h.1, ?_⟩
  rcases h.2 with h2 | ⟨g, cap, cur, hv, hg, hh, r⟩
  · exact .inl h2
  · exact .inr ⟨g, cap, cur, hv, hg, by rw [hb.block g (by have := lt_of_block hh; omega)]; exact hh, r⟩
theorem OwnsB.nil (w : World) (base : Nat) : OwnsB w base (.slice none 0 0) [] := World.ownsRow_nil _ _ _ _
set_option maxHeartbeats 1000000 in
set_option maxRecDepth 100000 in
theorem Bytes_any (S : Nat) (w : World) :
    Calls Tryd.prog 34 #[sv S] w fun e w' => ∃ v, e = .returned v ∧ OwnsB w' (w.heap.size + 1) v (mem S) ∧ Below w.heap.size w w' := by
  obtain ⟨i0, hi, hz0, hz1, hz2⟩ := info_parts info_u8
  show Calls Tryd.prog 34 #[.agg #[.int .u64 (word S 0), .int .u64 (word S 1), .int .u64 (word S 2), .int .u64 (word S 3)]] w _
  go_enter Tryd.func34, Tryd.ntmps34
  go_wp2_with fail
  go_loopw [3, 5] (fun v i wr => ∃ k : Nat, k ≤ 256 ∧ i = .int .i64 k ∧ OwnsB wr (w.heap.size + 1) v (memTo S k) ∧ IsSet 24 wr w.heap.size S ∧ Below w.heap.size w wr) (fun _ i _ => 256 - (intOf i).toNat)
  case atStart => exact ⟨0, Nat.zero_le _, rfl, OwnsB.nil _ _, IsSet.new' _ _ _ _ rfl, (Below.refl _ _).alloc (Nat.le_refl _) _⟩
  case round =>
    obtain ⟨k, hk, rfl, hown, hR, hb⟩ := hrel
    by_cases hlt : k < 256
    · obtain ⟨⟨c0, c1, c2, c3⟩, ⟨f0, f1, f2, f3⟩, hl⟩ := hR.all
      have hR' := Lib.hid hR
      have hb' := Lib.hid hb
      have hown' := Lib.hid hown
      clear hR hb hown
      go_wp2_with fail
      refine (Has_any S k hlt _).mono ?_
      rintro e w1 ⟨rfl, hb1⟩
      have hown1 : OwnsB w1 (w.heap.size + 1) u3 (memTo S k) := hown'.out.keptB hb1 (by omega)
      have hz1' := hb1.size
      cases hbit : S.testBit k with
      | true =>
        have hbit' := Lib.hid hbit
        clear hbit
        go_wp2_with (at_builtin; refine wpList_append_own _ rfl _ _ 36 rfl (w.heap.size + 1) 5 i0 (.int .u8 0) 1 1 Tryd.underlying36 hi hz0 hz1 hz2 rfl (by decide) _ _ _ rfl (hown1.alloc _) ⟨w1.heap.size, 0, none⟩ 1 1 [.int .u8 k] rfl rfl ?c1 ?c2 ?c3 ?c4 ?c5 ?_)
        case c1 => exact one_new _ _ _
        case c2 => intro u hu; simp at hu; subst hu; rfl
        case c3 => have := memTo_le S k; unfold maxLen; omega
        case c4 => have := memTo_le S k; omega
        case c5 => simp; omega
        intro v' w2 hown2 hg2 _
        go_wp2
        go_roundw
        case rel =>
          have hlow := hown1.lt
          refine ⟨k + 1, by omega, by go_num, ?_, ?_, ?_⟩
          · rw [memTo_yes S k hbit'.out]; exact OwnsB.snoc hown2
          · exact ((hR'.out.below hb1 (by omega)).alloc _).grown hg2 (fun h => by have := hlow _ h.symm; omega)
          · exact ((hb'.out.trans (hb1.mono (by omega))).alloc (by omega) _).grown hg2 (by simp; omega) (fun j hj => by have := hlow _ hj; omega)
        case measure => simp [intOf]; omega
      | false =>
        have hbit' := Lib.hid hbit
        clear hbit
        go_wp2
        go_roundw
        case rel => exact ⟨k + 1, by omega, by go_num, by rw [memTo_no S k hbit'.out]; exact hown1, hR'.out.below hb1 (by omega), hb'.out.trans (hb1.mono (by omega))⟩
        case measure => simp [intOf]; omega
    · have : k = 256 := by omega
      subst this
      have hb' := Lib.hid hb
      have hown' := Lib.hid hown
      clear hb hown
      go_wp2
      go_ret
      exact ⟨_, rfl, hown'.out, hb'.out⟩
end Go.Proofs.YteeopjgfiojoiaaDoor
