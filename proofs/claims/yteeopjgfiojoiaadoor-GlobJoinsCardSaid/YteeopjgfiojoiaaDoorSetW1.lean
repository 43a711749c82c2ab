/- Walks over package set: put, Has, Of, Range, Not, Union, Len: what each computes, for every set. -/
import Derived.Test.YteeopjgfiojoiaaDoorBase
import Derived.Test.YteeopjgfiojoiaaDoorSetCnt
import Derived.Test.YteeopjgfiojoiaaDoorChecked
import Derived.BigQuiet
import Derived.Deep.QuietTactic
import Derived.Deep.RegionWith
import Derived.Outline
namespace Go.Proofs.YteeopjgfiojoiaaDoor
open Go Go.RowKit SN

theorem put_core (S b k B : Nat) (hk0 : 64 * k ≤ b) (hk1 : b < 64 * k + 64) (hk : k < 4) (w : World) (h0 : w.cell? ⟨B, k, none⟩ = some (.int .u64 (word S k))) (f0 : w.frozen? ⟨B, k, none⟩ = false) :
    Calls Tryd.prog 51 #[.pointer (some ⟨B, 0, none⟩), .int .u8 b] w fun e w' => e = .returned (.tuple #[]) ∧
      w' = (w.setCell ⟨B, k, none⟩ (.int .u64 (bits .or .u64 (word S k) (IntKind.u64.wrap ((2 : Int) ^ (b % 64)))))).drew := by
  have hb : (b : Int) < 256 := by omega
  have hd : (b : Int) / 64 = k := by omega
  have hq : b / 64 = k := by omega
  go_enter Tryd.func51, Tryd.ntmps51
  go_region
  all_goals go_end0
  all_goals exact ⟨rfl, rfl⟩
/-- put: the byte is in the set that lies there; nothing else turns. -/
theorem put_any (S b B : Nat) (hb : b < 256) (w : World) (h : IsSet 24 w B S) :
    Calls Tryd.prog 51 #[.pointer (some ⟨B, 0, none⟩), .int .u8 b] w fun e w' => e = .returned (.tuple #[]) ∧ IsSet 24 w' B (add S b) ∧ w.grownBy w' (some B) ∧ w'.heap.size = w.heap.size := by
  refine (put_core S b (b / 64) B (by omega) (by omega) (by omega) w (h.cell _ (by omega)) (h.free _)).mono ?_
  rintro e w' ⟨rfl, rfl⟩
  rw [bits_add]
  refine ⟨rfl, ?_, ⟨rfl, rfl, rfl, by simp, fun k _ hne => ?_⟩, by simp⟩
  · refine IsSet.of_words (row_drew (row_set h _ _)) (sc_set _ (by omega) fun j _ hj => word_add_other _ _ _ (Ne.symm hj))
  · show (w.setCell _ _).heap[k]? = _
    exact Below.heap_setCell _ _ _ _ (fun e => hne (by rw [e]))

theorem size24 : (Tryd.prog.info? 24).map (·.size) = some 4 := by kernel_rfl
theorem ret_set {fn : Func} {p : Tmp} {R : Ending → World → Prop} {a : Act} {w : World} {B S : Nat} (h : fn.results = #[.cell p 24]) (hd : a.defers = []) (hp : a.tmps.getD p undef = .pointer (some ⟨B, 0, none⟩))
    (hS : IsSet 24 w B S) (hR : R (.returned (sv S)) w) : bodyPost Tryd.prog fn R .ret a w :=
  bodyPost_ret (results_cell_row h a.tmps w B 24 (sc S) (0, 0) _ hp hS Tryd.underlying24 (by rfl) size24) hd hR

def ofL (l : List UInt8) : Nat := l.foldl (fun S c => add S c.toNat) 0
theorem ofL_snoc (l : List UInt8) (c : UInt8) : ofL (l ++ [c]) = add (ofL l) c.toNat := by unfold ofL; rw [List.foldl_append]; rfl
theorem take_snoc (s : ByteArray) (k : Nat) (h : k < s.size) : s.data.toList.take (k + 1) = s.data.toList.take k ++ [s[k]] := by
  rw [List.take_succ_eq_append_getElem (by simpa using h)]; rfl
set_option maxHeartbeats 400000 in
/-- Of: the set of a text's bytes. -/
theorem Of_any (s : ByteArray) (w : World) (hs : s.size ≤ maxLen) :
    Calls Tryd.prog 22 #[.string s] w fun e w' => e = .returned (sv (ofL s.data.toList)) ∧ Below w.heap.size w w' := by
  unfold maxLen at hs
  go_enter Tryd.func22, Tryd.ntmps22
  go_wp2_with fail
  go_loopw [7] (fun i wr => ∃ k : Nat, k ≤ s.size ∧ i = .int .i64 k ∧ IsSet 24 wr (w.heap.size + 1) (ofL (s.data.toList.take k)) ∧ IsSet 24 wr w.heap.size 0 ∧ Below w.heap.size w wr) (fun i _ => s.size - (intOf i).toNat)
  case atStart =>
    refine ⟨0, Nat.zero_le _, rfl, ?_, (IsSet.zero _ w).alloc _, ((Below.refl _ _).alloc (Nat.le_refl _) _).alloc (by simp) _⟩
    have h := IsSet.zero 24 (w.alloc (.cells #[.int .u64 0, .int .u64 0, .int .u64 0, .int .u64 0] 24))
    rw [World.size_alloc] at h
    exact h
  case round =>
    obtain ⟨k, hk, rfl, hS, hR, hb⟩ := hrel
    by_cases hlt : k < s.size
    · have hts := Lib.hid (take_snoc s k hlt)
      have hS' := Lib.hid hS
      have hR' := Lib.hid hR
      have hb' := Lib.hid hb
      clear hS hR hb
      have hc : (s[k].toNat : Int) < 256 := by have := s[k].toNat_lt; omega
      go_wp2_with (go_at_call 51; refine (put_any _ _ _ s[k].toNat_lt _ hS'.out).mono ?_; rintro e w' ⟨rfl, h1, h2, h3⟩)
      go_roundw
      case rel =>
        refine ⟨k + 1, by omega, by go_num, ?_, hR'.out.grown h2 (by simp), hb'.out.grown h2 (by have := hR'.out.lt; omega) (by intro k hk; cases hk; omega)⟩
        rw [hts.out, ofL_snoc]; exact h1
      case measure => simp [intOf]; omega
    · obtain ⟨⟨c0, c1, c2, c3⟩, ⟨f0, f1, f2, f3⟩, hl⟩ := hS.all
      obtain ⟨⟨d0, d1, d2, d3⟩, ⟨g0, g1, g2, g3⟩, hm⟩ := hR.all
      have hS' := Lib.hid hS
      have hR' := Lib.hid hR
      have hb' := Lib.hid hb
      clear hS hR hb
      go_wp2
      refine ret_set rfl rfl rfl (hR'.out.store4 _) ⟨by rw [List.take_of_length_le (by simp; omega)], ?_⟩
      exact (((hb'.out.setCell (by simp) _).setCell (by simp) _).setCell (by simp) _).setCell (by simp) _
theorem quo_cast (b k : Nat) (hb : b / 64 = k) : (b : Int) / 64 = (k : Int) := by omega
set_option maxHeartbeats 400000 in
theorem Has_k (S b k : Nat) (hb : b / 64 = k) (hk : k < 4) (w : World) :
    Calls Tryd.prog 30 #[sv S, .int .u8 b] w fun e w' => e = .returned (.bool (bits .and .u64 ((word S k : Nat) / 2 ^ (b % 64) : Int) 1 == 1)) ∧ Below w.heap.size w w' := by
  have hb0 : (b : Int) < 256 := by omega
  have hkk : k = 0 ∨ k = 1 ∨ k = 2 ∨ k = 3 := by omega
  have hd := quo_cast b k hb
  unfold sv
  rcases hkk with rfl | rfl | rfl | rfl
  all_goals
    go_enter Tryd.func30, Tryd.ntmps30
    go_wp2
    go_ret
    exact ⟨rfl, (Below.refl _ _).alloc (Nat.le_refl _) _⟩
theorem bit_test (S b : Nat) : (bits .and .u64 ((word S (b / 64) : Nat) / 2 ^ (b % 64) : Int) 1 == 1) = S.testBit b := by
  have h := testBit_word S (b / 64) (b % 64)
  have e : 64 * (b / 64) + b % 64 = b := by omega
  rw [e] at h
  simp only [show b % 64 < 64 from Nat.mod_lt _ (by decide), decide_true, Bool.true_and] at h
  rw [← h, Nat.testBit_eq_decide_div_mod_eq]
  have hw := word_lt' S (b / 64)
  have e2 : ((word S (b / 64) : Nat) / 2 ^ (b % 64) : Int) = ((word S (b / 64) / 2 ^ (b % 64) : Nat) : Int) := by simp
  have hlt : word S (b / 64) / 2 ^ (b % 64) < 18446744073709551616 := Nat.lt_of_le_of_lt (Nat.div_le_self _ _) hw
  rw [e2, show (1 : Int) = ((1 : Nat) : Int) from rfl, bits_and_u64_nat _ _ hlt (by decide), Nat.and_one_is_mod]
  rw [Bool.eq_iff_iff]
  simp
  omega
/-- Has: is the byte in it? -/
theorem Has_any (S b : Nat) (hb : b < 256) (w : World) :
    Calls Tryd.prog 30 #[sv S, .int .u8 b] w fun e w' => e = .returned (.bool (S.testBit b)) ∧ Below w.heap.size w w' := by
  rw [← bit_test]; exact Has_k S b _ rfl (by omega) w
theorem IsSet.new' (ty : TypeId) (w : World) (S n : Nat) (h : n = w.heap.size) : IsSet ty (w.alloc (.cells #[.int .u64 (word S 0), .int .u64 (word S 1), .int .u64 (word S 2), .int .u64 (word S 3)] ty)) n S := by subst h; exact IsSet.new ty w S
theorem bits_not (S k : Nat) (hk : k < 4) : bits .xor .u64 IntKind.u64.max (word S k) = (word (cmpl S) k : Nat) := by
  rw [show IntKind.u64.max = ((18446744073709551615 : Nat) : Int) by decide, bits_xor_u64_nat _ _ (by decide) (word_lt' _ _), word_cmpl S k hk]
theorem bits_union (S T k : Nat) : bits .or .u64 (word S k) (word T k) = (word (S ||| T) k : Nat) := by
  rw [bits_or_u64_nat _ _ (word_lt' _ _) (word_lt' _ _), word_or]
set_option maxHeartbeats 400000 in
theorem Not_any (S : Nat) (w : World) :
    Calls Tryd.prog 25 #[sv S] w fun e w' => e = .returned (sv (cmpl S)) ∧ Below w.heap.size w w' := by
  have h0 := bits_not S 0 (by decide)
  have h1 := bits_not S 1 (by decide)
  have h2 := bits_not S 2 (by decide)
  have h3 := bits_not S 3 (by decide)
  show Calls Tryd.prog 25 #[.agg #[.int .u64 (word S 0), .int .u64 (word S 1), .int .u64 (word S 2), .int .u64 (word S 3)]] w _
  go_enter Tryd.func25, Tryd.ntmps25
  go_wp2
  refine wp_loop_rounds 5 ?_
  iterate 5 (rw [rounds_succ]; go_wp2)
  refine ret_set rfl rfl rfl (IsSet.new' _ _ _ _ (by simp)) ⟨rfl, ?_⟩
  exact ((Below.refl _ _).alloc (Nat.le_refl _) _).alloc (by simp) _
def unionL (Ss : List Nat) : Nat := Ss.foldl (· ||| ·) 0
theorem unionL_snoc (Ss : List Nat) (k : Nat) (h : k < Ss.length) : unionL (Ss.take (k + 1)) = unionL (Ss.take k) ||| Ss.getD k 0 := by
  unfold unionL
  rw [List.take_succ_eq_append_getElem h, List.foldl_append]
  simp [List.getD_eq_getElem?_getD, List.getElem?_eq_getElem h]
set_option maxHeartbeats 1000000 in
theorem Union_any (Ss : List Nat) (p : Option Addr) (cap : Nat) (w : World) (hn : Ss.length < 9223372036854775807)
    (hL : ∀ i, i < Ss.length → ∃ B, p = some ⟨B, 0, none⟩ ∧ B < w.heap.size ∧ ∀ k, k < 4 → w.cell? ⟨B, i * 4 + k, none⟩ = some (.int .u64 (word (Ss.getD i 0) k))) :
    Calls Tryd.prog 27 #[.slice p Ss.length cap] w fun e w' => e = .returned (sv (unionL Ss)) ∧ Below w.heap.size w w' := by
  go_enter Tryd.func27, Tryd.ntmps27
  go_wp2_with fail
  go_loopw [9] (fun i wr => ∃ k : Nat, k ≤ Ss.length ∧ i = .int .i64 k ∧ IsSet 24 wr (w.heap.size + 1) (unionL (Ss.take k)) ∧ IsSet 24 wr w.heap.size 0 ∧ Below w.heap.size w wr) (fun i _ => Ss.length - (intOf i).toNat)
  case atStart => 
    refine ⟨0, Nat.zero_le _, rfl, ?_, (IsSet.zero _ w).alloc _, ((Below.refl _ _).alloc (Nat.le_refl _) _).alloc (by simp) _⟩
    have h := IsSet.zero 24 (w.alloc (.cells #[.int .u64 0, .int .u64 0, .int .u64 0, .int .u64 0] 24))
    rw [World.size_alloc] at h
    exact h
  case round =>
    obtain ⟨k, hk, rfl, hS, hR, hb⟩ := hrel
    by_cases hlt : k < Ss.length
    · obtain ⟨B, hp, hB, hcell⟩ := hL k hlt
      have hn := unionL_snoc Ss k hlt
      generalize unionL (Ss.take k) = A at hS hn
      generalize Ss.getD k 0 = T at hcell hn
      obtain ⟨⟨c0, c1, c2, c3⟩, ⟨f0, f1, f2, f3⟩, hl⟩ := hS.all
      have e0 : wr.cell? ⟨B, k * 4, none⟩ = _ := (hb.cell (p := ⟨B, k * 4, none⟩) hB).trans (hcell 0 (by decide))
      have e1 := (hb.cell (p := ⟨B, k * 4 + 1, none⟩) hB).trans (hcell 1 (by decide))
      have e2 := (hb.cell (p := ⟨B, k * 4 + 2, none⟩) hB).trans (hcell 2 (by decide))
      have e3 := (hb.cell (p := ⟨B, k * 4 + 3, none⟩) hB).trans (hcell 3 (by decide))
      have h0 := bits_union A T 0
      have h1 := bits_union A T 1
      have h2 := bits_union A T 2
      have h3 := bits_union A T 3
      subst hp
      have hS' := Lib.hid hS
      have hR' := Lib.hid hR
      have hb' := Lib.hid hb
      have hn' := Lib.hid hn
      clear hS hR hb hL hcell hn
      go_wp2_with fail
      refine wp_loop_rounds 5 ?_
      iterate 4 (rw [rounds_succ]; go_wp2; go_region; go_wp2)
      rw [rounds_succ]; go_wp2
      go_roundw
      case rel =>
        refine ⟨k + 1, by omega, by go_num, ?_, ?_, ?_⟩
        · rw [hn'.out]
          exact ((hS'.out.store4 _).alloc _)
        · exact ((((hR'.out.set_other (by simp) _ _).set_other (by simp) _ _).set_other (by simp) _ _).set_other (by simp) _ _).alloc _
        · exact (((((hb'.out.setCell (by simp) _).setCell (by simp) _).setCell (by simp) _).setCell (by simp) _).alloc (by simp; omega) _).drew.drew.drew.drew
      case measure => simp [intOf]; omega
    · obtain ⟨⟨c0, c1, c2, c3⟩, ⟨f0, f1, f2, f3⟩, hl⟩ := hS.all
      obtain ⟨⟨d0, d1, d2, d3⟩, ⟨g0, g1, g2, g3⟩, hm⟩ := hR.all
      have hS' := Lib.hid hS
      have hR' := Lib.hid hR
      have hb' := Lib.hid hb
      clear hS hR hb hL
      go_wp2
      refine ret_set rfl rfl rfl (hR'.out.store4 _) ⟨by rw [List.take_of_length_le (by omega)], ?_⟩
      exact (((hb'.out.setCell (by simp) _).setCell (by simp) _).setCell (by simp) _).setCell (by simp) _
end Go.Proofs.YteeopjgfiojoiaaDoor
