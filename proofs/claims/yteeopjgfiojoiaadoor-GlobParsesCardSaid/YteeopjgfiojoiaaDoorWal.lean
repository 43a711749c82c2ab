/- Walks over package set and rules for sets in variables; the reader's question; Bytes. Each contract states its own conditions. -/
import Derived.Test.YteeopjgfiojoiaaDoorBas
import Derived.Test.YteeopjgfiojoiaaDoorChecked
import Derived.BigQuiet
import Derived.Deep.QuietTactic
import Derived.Deep.RegionWith
import Derived.Outline
import Derived.ChangeKeysEq
import Derived.Deep.RegionHeld3
import Derived.Deep.DeepFit
import Derived.Laws.StructEq
import Derived.Lib.SlBytesRow
import Derived.Laws.IdiomStrings
import Derived.Shelf.Bytes.SlSmallAll
namespace Go.Proofs.YteeopjgfiojoiaaDoor
open Go Go.RowKit SN

theorem put_core (S b k B : Nat) (hk0 : 64 * k ≤ b) (hk1 : b < 64 * k + 64) (hk : k < 4) (w : World) (h0 : w.cell? ⟨B, k, none⟩ = some (.int .u64 (word S k))) (f0 : w.frozen? ⟨B, k, none⟩ = false) :
    Calls Tryd.prog 51 #[.pointer (some ⟨B, 0, none⟩), .int .u8 b] w fun e w' => e = .returned (.tuple #[]) ∧
      w' = (w.setCell ⟨B, k, none⟩ (.int .u64 (bits .or .u64 (word S k) (IntKind.u64.wrap ((2 : Int) ^ (b % 64)))))).drew := by
  have hb : (b : Int) < 256 := by omega
  have hd : (b : Int) / 64 = k := by omega
  have hq : b / 64 = k := by omega
  go_enter Tryd.func51, Tryd.ntmps51
  go_region
  all_goals go_end0
  all_goals exact ⟨rfl, rfl⟩
/-- put: the byte is in the set that lies there; nothing else turns. -/
theorem put_any (S b B : Nat) (hb : b < 256) (w : World) (h : IsSet 24 w B S) :
    Calls Tryd.prog 51 #[.pointer (some ⟨B, 0, none⟩), .int .u8 b] w fun e w' => e = .returned (.tuple #[]) ∧ IsSet 24 w' B (add S b) ∧ w.grownBy w' (some B) ∧ w'.heap.size = w.heap.size := by
  refine (put_core S b (b / 64) B (by omega) (by omega) (by omega) w (h.cell _ (by omega)) (h.free _)).mono ?_
  rintro e w' ⟨rfl, rfl⟩
  rw [bits_add]
  refine ⟨rfl, ?_, ⟨rfl, rfl, rfl, by simp, fun k _ hne => ?_⟩, by simp⟩
  · refine IsSet.of_words (row_drew (row_set h _ _)) (sc_set _ (by omega) fun j _ hj => word_add_other _ _ _ (Ne.symm hj))
  · show (w.setCell _ _).heap[k]? = _
    exact Below.heap_setCell _ _ _ _ (fun e => hne (by rw [e]))

theorem size24 : (Tryd.prog.info? 24).map (·.size) = some 4 := by kernel_rfl
theorem ret_set {fn : Func} {p : Tmp} {R : Ending → World → Prop} {a : Act} {w : World} {B S : Nat} (h : fn.results = #[.cell p 24]) (hd : a.defers = []) (hp : a.tmps.getD p undef = .pointer (some ⟨B, 0, none⟩))
    (hS : IsSet 24 w B S) (hR : R (.returned (sv S)) w) : bodyPost Tryd.prog fn R .ret a w :=
  bodyPost_ret (results_cell_row h a.tmps w B 24 (sc S) (0, 0) _ hp hS Tryd.underlying24 (by rfl) size24) hd hR

def ofL (l : List UInt8) : Nat := l.foldl (fun S c => add S c.toNat) 0
theorem ofL_snoc (l : List UInt8) (c : UInt8) : ofL (l ++ [c]) = add (ofL l) c.toNat := by unfold ofL; rw [List.foldl_append]; rfl
theorem take_snoc (s : ByteArray) (k : Nat) (h : k < s.size) : s.data.toList.take (k + 1) = s.data.toList.take k ++ [s[k]] := by
  rw [List.take_succ_eq_append_getElem (by simpa using h)]; rfl
set_option maxHeartbeats 400000 in
/-- Of: the set of a text's bytes. -/
theorem Of_any (s : ByteArray) (w : World) (hs : s.size ≤ maxLen) :
    Calls Tryd.prog 22 #[.string s] w fun e w' => e = .returned (sv (ofL s.data.toList)) ∧ Below w.heap.size w w' := by
  unfold maxLen at hs
  go_enter Tryd.func22, Tryd.ntmps22
  go_wp2_with fail
  go_loopw [7] (fun i wr => ∃ k : Nat, k ≤ s.size ∧ i = .int .i64 k ∧ IsSet 24 wr (w.heap.size + 1) (ofL (s.data.toList.take k)) ∧ IsSet 24 wr w.heap.size 0 ∧ Below w.heap.size w wr) (fun i _ => s.size - (intOf i).toNat)
  case atStart =>
    refine ⟨0, Nat.zero_le _, rfl, ?_, (IsSet.zero _ w).alloc _, ((Below.refl _ _).alloc (Nat.le_refl _) _).alloc (by simp) _⟩
    have h := IsSet.zero 24 (w.alloc (.cells #[.int .u64 0, .int .u64 0, .int .u64 0, .int .u64 0] 24))
    rw [World.size_alloc] at h
    exact h
  case round =>
    obtain ⟨k, hk, rfl, hS, hR, hb⟩ := hrel
    by_cases hlt : k < s.size
    · have hts := Lib.hid (take_snoc s k hlt)
      have hS' := Lib.hid hS
      have hR' := Lib.hid hR
      have hb' := Lib.hid hb
      clear hS hR hb
      have hc : (s[k].toNat : Int) < 256 := by have := s[k].toNat_lt; omega
      go_wp2_with (go_at_call 51; refine (put_any _ _ _ s[k].toNat_lt _ hS'.out).mono ?_; rintro e w' ⟨rfl, h1, h2, h3⟩)
      go_roundw
      case rel =>
        refine ⟨k + 1, by omega, by go_num, ?_, hR'.out.grown h2 (by simp), hb'.out.grown h2 (by have := hR'.out.lt; omega) (by intro k hk; cases hk; omega)⟩
        rw [hts.out, ofL_snoc]; exact h1
      case measure => simp [intOf]; omega
    · obtain ⟨⟨c0, c1, c2, c3⟩, ⟨f0, f1, f2, f3⟩, hl⟩ := hS.all
      obtain ⟨⟨d0, d1, d2, d3⟩, ⟨g0, g1, g2, g3⟩, hm⟩ := hR.all
      have hS' := Lib.hid hS
      have hR' := Lib.hid hR
      have hb' := Lib.hid hb
      clear hS hR hb
      go_wp2
      refine ret_set rfl rfl rfl (hR'.out.store4 _) ⟨by rw [List.take_of_length_le (by simp; omega)], ?_⟩
      exact (((hb'.out.setCell (by simp) _).setCell (by simp) _).setCell (by simp) _).setCell (by simp) _
theorem quo_cast (b k : Nat) (hb : b / 64 = k) : (b : Int) / 64 = (k : Int) := by omega
set_option maxHeartbeats 400000 in
theorem Has_k (S b k : Nat) (hb : b / 64 = k) (hk : k < 4) (w : World) :
    Calls Tryd.prog 30 #[sv S, .int .u8 b] w fun e w' => e = .returned (.bool (bits .and .u64 ((word S k : Nat) / 2 ^ (b % 64) : Int) 1 == 1)) ∧ Below w.heap.size w w' := by
  have hb0 : (b : Int) < 256 := by omega
  have hkk : k = 0 ∨ k = 1 ∨ k = 2 ∨ k = 3 := by omega
  have hd := quo_cast b k hb
  unfold sv
  rcases hkk with rfl | rfl | rfl | rfl
  all_goals
    go_enter Tryd.func30, Tryd.ntmps30
    go_wp2
    go_ret
    exact ⟨rfl, (Below.refl _ _).alloc (Nat.le_refl _) _⟩
theorem bit_test (S b : Nat) : (bits .and .u64 ((word S (b / 64) : Nat) / 2 ^ (b % 64) : Int) 1 == 1) = S.testBit b := by
  have h := testBit_word S (b / 64) (b % 64)
  have e : 64 * (b / 64) + b % 64 = b := by omega
  rw [e] at h
  simp only [show b % 64 < 64 from Nat.mod_lt _ (by decide), decide_true, Bool.true_and] at h
  rw [← h, Nat.testBit_eq_decide_div_mod_eq]
  have hw := word_lt' S (b / 64)
  have e2 : ((word S (b / 64) : Nat) / 2 ^ (b % 64) : Int) = ((word S (b / 64) / 2 ^ (b % 64) : Nat) : Int) := by simp
  have hlt : word S (b / 64) / 2 ^ (b % 64) < 18446744073709551616 := Nat.lt_of_le_of_lt (Nat.div_le_self _ _) hw
  rw [e2, show (1 : Int) = ((1 : Nat) : Int) from rfl, bits_and_u64_nat _ _ hlt (by decide), Nat.and_one_is_mod]
  rw [Bool.eq_iff_iff]
  simp
  omega
/-- Has: is the byte in it? -/
theorem Has_any (S b : Nat) (hb : b < 256) (w : World) :
    Calls Tryd.prog 30 #[sv S, .int .u8 b] w fun e w' => e = .returned (.bool (S.testBit b)) ∧ Below w.heap.size w w' := by
  rw [← bit_test]; exact Has_k S b _ rfl (by omega) w
theorem IsSet.new' (ty : TypeId) (w : World) (S n : Nat) (h : n = w.heap.size) : IsSet ty (w.alloc (.cells #[.int .u64 (word S 0), .int .u64 (word S 1), .int .u64 (word S 2), .int .u64 (word S 3)] ty)) n S := by subst h; exact IsSet.new ty w S
theorem bits_not (S k : Nat) (hk : k < 4) : bits .xor .u64 IntKind.u64.max (word S k) = (word (cmpl S) k : Nat) := by
  rw [show IntKind.u64.max = ((18446744073709551615 : Nat) : Int) by decide, bits_xor_u64_nat _ _ (by decide) (word_lt' _ _), word_cmpl S k hk]
theorem bits_union (S T k : Nat) : bits .or .u64 (word S k) (word T k) = (word (S ||| T) k : Nat) := by
  rw [bits_or_u64_nat _ _ (word_lt' _ _) (word_lt' _ _), word_or]
set_option maxHeartbeats 400000 in
theorem Not_any (S : Nat) (w : World) :
    Calls Tryd.prog 25 #[sv S] w fun e w' => e = .returned (sv (cmpl S)) ∧ Below w.heap.size w w' := by
  have h0 := bits_not S 0 (by decide)
  have h1 := bits_not S 1 (by decide)
  have h2 := bits_not S 2 (by decide)
  have h3 := bits_not S 3 (by decide)
  show Calls Tryd.prog 25 #[.agg #[.int .u64 (word S 0), .int .u64 (word S 1), .int .u64 (word S 2), .int .u64 (word S 3)]] w _
  go_enter Tryd.func25, Tryd.ntmps25
  go_wp2
  refine wp_loop_rounds 5 ?_
  iterate 5 (rw [rounds_succ]; go_wp2)
  refine ret_set rfl rfl rfl (IsSet.new' _ _ _ _ (by simp)) ⟨rfl, ?_⟩
  exact ((Below.refl _ _).alloc (Nat.le_refl _) _).alloc (by simp) _
def unionL (Ss : List Nat) : Nat := Ss.foldl (· ||| ·) 0
theorem unionL_snoc (Ss : List Nat) (k : Nat) (h : k < Ss.length) : unionL (Ss.take (k + 1)) = unionL (Ss.take k) ||| Ss.getD k 0 := by
  unfold unionL
  rw [List.take_succ_eq_append_getElem h, List.foldl_append]
  simp [List.getD_eq_getElem?_getD, List.getElem?_eq_getElem h]
set_option maxHeartbeats 1000000 in
theorem Union_any (Ss : List Nat) (p : Option Addr) (cap : Nat) (w : World) (hn : Ss.length < 9223372036854775807)
    (hL : ∀ i, i < Ss.length → ∃ B, p = some ⟨B, 0, none⟩ ∧ B < w.heap.size ∧ ∀ k, k < 4 → w.cell? ⟨B, i * 4 + k, none⟩ = some (.int .u64 (word (Ss.getD i 0) k))) :
    Calls Tryd.prog 27 #[.slice p Ss.length cap] w fun e w' => e = .returned (sv (unionL Ss)) ∧ Below w.heap.size w w' := by
  go_enter Tryd.func27, Tryd.ntmps27
  go_wp2_with fail
  go_loopw [9] (fun i wr => ∃ k : Nat, k ≤ Ss.length ∧ i = .int .i64 k ∧ IsSet 24 wr (w.heap.size + 1) (unionL (Ss.take k)) ∧ IsSet 24 wr w.heap.size 0 ∧ Below w.heap.size w wr) (fun i _ => Ss.length - (intOf i).toNat)
  case atStart => 
    refine ⟨0, Nat.zero_le _, rfl, ?_, (IsSet.zero _ w).alloc _, ((Below.refl _ _).alloc (Nat.le_refl _) _).alloc (by simp) _⟩
    have h := IsSet.zero 24 (w.alloc (.cells #[.int .u64 0, .int .u64 0, .int .u64 0, .int .u64 0] 24))
    rw [World.size_alloc] at h
    exact h
  case round =>
    obtain ⟨k, hk, rfl, hS, hR, hb⟩ := hrel
    by_cases hlt : k < Ss.length
    · obtain ⟨B, hp, hB, hcell⟩ := hL k hlt
      have hn := unionL_snoc Ss k hlt
      generalize unionL (Ss.take k) = A at hS hn
      generalize Ss.getD k 0 = T at hcell hn
      obtain ⟨⟨c0, c1, c2, c3⟩, ⟨f0, f1, f2, f3⟩, hl⟩ := hS.all
      have e0 : wr.cell? ⟨B, k * 4, none⟩ = _ := (hb.cell (p := ⟨B, k * 4, none⟩) hB).trans (hcell 0 (by decide))
      have e1 := (hb.cell (p := ⟨B, k * 4 + 1, none⟩) hB).trans (hcell 1 (by decide))
      have e2 := (hb.cell (p := ⟨B, k * 4 + 2, none⟩) hB).trans (hcell 2 (by decide))
      have e3 := (hb.cell (p := ⟨B, k * 4 + 3, none⟩) hB).trans (hcell 3 (by decide))
      have h0 := bits_union A T 0
      have h1 := bits_union A T 1
      have h2 := bits_union A T 2
      have h3 := bits_union A T 3
      subst hp
      have hS' := Lib.hid hS
      have hR' := Lib.hid hR
      have hb' := Lib.hid hb
      have hn' := Lib.hid hn
      clear hS hR hb hL hcell hn
      go_wp2_with fail
      refine wp_loop_rounds 5 ?_
      iterate 4 (rw [rounds_succ]; go_wp2; go_region; go_wp2)
      rw [rounds_succ]; go_wp2
      go_roundw
      case rel =>
        refine ⟨k + 1, by omega, by go_num, ?_, ?_, ?_⟩
        · rw [hn'.out]
          exact ((hS'.out.store4 _).alloc _)
        · exact ((((hR'.out.set_other (by simp) _ _).set_other (by simp) _ _).set_other (by simp) _ _).set_other (by simp) _ _).alloc _
        · exact (((((hb'.out.setCell (by simp) _).setCell (by simp) _).setCell (by simp) _).setCell (by simp) _).alloc (by simp; omega) _).drew.drew.drew.drew
      case measure => simp [intOf]; omega
    · obtain ⟨⟨c0, c1, c2, c3⟩, ⟨f0, f1, f2, f3⟩, hl⟩ := hS.all
      obtain ⟨⟨d0, d1, d2, d3⟩, ⟨g0, g1, g2, g3⟩, hm⟩ := hR.all
      have hS' := Lib.hid hS
      have hR' := Lib.hid hR
      have hb' := Lib.hid hb
      clear hS hR hb hL
      go_wp2
      refine ret_set rfl rfl rfl (hR'.out.store4 _) ⟨by rw [List.take_of_length_le (by omega)], ?_⟩
      exact (((hb'.out.setCell (by simp) _).setCell (by simp) _).setCell (by simp) _).setCell (by simp) _
end Go.Proofs.YteeopjgfiojoiaaDoor
namespace Go.Proofs.YteeopjgfiojoiaaDoor
open Go Go.RowKit SN

theorem oc1 (x : Nat) (hx : x < 18446744073709551616) : IntKind.u64.wrap (bits .and .u64 ((x : Int) / 2) 6148914691236517205 + bits .and .u64 (x : Int) 6148914691236517205) = (s1 8 x : Nat) := by
  have e : ((x : Int) / 2) = ((x / 2 : Nat) : Int) := by simp
  rw [e, show (6148914691236517205 : Int) = ((6148914691236517205 : Nat) : Int) from rfl, bits_and_u64_nat _ _ (by omega) (by decide), bits_and_u64_nat _ _ hx (by decide), IntKind.wrap_u64]
  have h := s1_lt x
  have e2 : s1 8 x = (x / 2 &&& 6148914691236517205) + (x &&& 6148914691236517205) := rfl
  omega
theorem oc2 (x : Nat) (hx : x < 18446744073709551616) : IntKind.u64.wrap (bits .and .u64 ((x : Int) / 4) 3689348814741910323 + bits .and .u64 (x : Int) 3689348814741910323) = (s2 8 x : Nat) := by
  have e : ((x : Int) / 4) = ((x / 4 : Nat) : Int) := by simp
  rw [e, show (3689348814741910323 : Int) = ((3689348814741910323 : Nat) : Int) from rfl, bits_and_u64_nat _ _ (by omega) (by decide), bits_and_u64_nat _ _ hx (by decide), IntKind.wrap_u64]
  have h := s2_lt x
  have e2 : s2 8 x = (x / 4 &&& 3689348814741910323) + (x &&& 3689348814741910323) := rfl
  omega
theorem oc3 (x : Nat) (hx : x < 7378697629483820647) : bits .and .u64 (IntKind.u64.wrap ((x : Int) / 16 + (x : Int))) 1085102592571150095 = (s3 8 x : Nat) := by
  have e : ((x : Int) / 16 + (x : Int)) = ((x / 16 + x : Nat) : Int) := by simp
  rw [e, IntKind.wrap_u64, show (((x / 16 + x : Nat) : Int) % 18446744073709551616) = ((x / 16 + x : Nat) : Int) by omega, show (1085102592571150095 : Int) = ((1085102592571150095 : Nat) : Int) from rfl, bits_and_u64_nat _ _ (by omega) (by decide)]
  rfl
set_option maxHeartbeats 400000 in
theorem OnesCount_core (x y1 y2 y3 : Nat) (w : World) (h1 : IntKind.u64.wrap (bits .and .u64 ((x : Int) / 2) 6148914691236517205 + bits .and .u64 (x : Int) 6148914691236517205) = (y1 : Nat))
    (h2 : IntKind.u64.wrap (bits .and .u64 ((y1 : Int) / 4) 3689348814741910323 + bits .and .u64 (y1 : Int) 3689348814741910323) = (y2 : Nat))
    (h3 : bits .and .u64 (IntKind.u64.wrap ((y2 : Int) / 16 + (y2 : Int))) 1085102592571150095 = (y3 : Nat))
    (hb : y3 < 1085102592571150096) :
    Calls Tryd.prog 52 #[.int .u64 x] w fun e w' => e = .returned (.int .i64 (fold3 y3 : Nat)) ∧ w = w' := by
  go_enter Tryd.func52, Tryd.ntmps52
  go_wp2
  go_ret
  refine ⟨ret_int ?_, rfl⟩
  show bits .and .i64 ((y3 : Int) + (y3 : Int) / 256 + ((y3 : Int) + (y3 : Int) / 256) / 65536 + ((y3 : Int) + (y3 : Int) / 256 + ((y3 : Int) + (y3 : Int) / 256) / 65536) / 4294967296) 127 = _
  rw [i64_and127]
  unfold fold3
  omega
/-- OnesCount64: how many bits. -/
theorem OnesCount_any (x : Nat) (w : World) (hx : x < 18446744073709551616) :
    Calls Tryd.prog 52 #[.int .u64 x] w fun e w' => e = .returned (.int .i64 (cntW x : Nat)) ∧ w = w' := by
  rw [← count64 x hx]
  exact OnesCount_core x _ _ _ w (oc1 x hx) (oc2 _ (s1_lt x)) (oc3 _ (s2_lt _)) (s3_lt _)
theorem cntW_lt (x : Nat) : (cntW x : Int) ≤ 64 := by have := cntW_le x; omega
theorem idx (x0 x1 x2 x3 : Value) (w : World) :
    (Instr.index 24 (.agg #[x0, x1, x2, x3]) (.int .i64 0)).run Tryd.prog w = .ok x0 w ∧ (Instr.index 24 (.agg #[x0, x1, x2, x3]) (.int .i64 1)).run Tryd.prog w = .ok x1 w ∧
    (Instr.index 24 (.agg #[x0, x1, x2, x3]) (.int .i64 2)).run Tryd.prog w = .ok x2 w ∧ (Instr.index 24 (.agg #[x0, x1, x2, x3]) (.int .i64 3)).run Tryd.prog w = .ok x3 w :=
  ⟨by kernel_rfl, by kernel_rfl, by kernel_rfl, by kernel_rfl⟩
set_option maxRecDepth 100000 in
set_option maxHeartbeats 400000 in
theorem Len_any (S : Nat) (w : World) :
    Calls Tryd.prog 32 #[sv S] w fun e w' => e = .returned (.int .i64 (cnt S : Nat)) ∧ Below w.heap.size w w' := by
  have b0 := cntW_lt (word S 0)
  have b1 := cntW_lt (word S 1)
  have b2 := cntW_lt (word S 2)
  have b3 := cntW_lt (word S 3)
  have i0 := fun w => (idx (.int .u64 (word S 0)) (.int .u64 (word S 1)) (.int .u64 (word S 2)) (.int .u64 (word S 3)) w).1
  have i1 := fun w => (idx (.int .u64 (word S 0)) (.int .u64 (word S 1)) (.int .u64 (word S 2)) (.int .u64 (word S 3)) w).2.1
  have i2 := fun w => (idx (.int .u64 (word S 0)) (.int .u64 (word S 1)) (.int .u64 (word S 2)) (.int .u64 (word S 3)) w).2.2.1
  have i3 := fun w => (idx (.int .u64 (word S 0)) (.int .u64 (word S 1)) (.int .u64 (word S 2)) (.int .u64 (word S 3)) w).2.2.2
  show Calls Tryd.prog 32 #[.agg #[.int .u64 (word S 0), .int .u64 (word S 1), .int .u64 (word S 2), .int .u64 (word S 3)]] w _
  go_enter Tryd.func32, Tryd.ntmps32
  go_wp2_with fail
  refine wp_loop_rounds 5 ?_
  iterate 4 (rw [rounds_succ]; go_wp2_with fail; refine (OnesCount_any _ _ (word_lt' _ _)).mono ?_; rintro e w' ⟨rfl, rfl⟩; go_wp2_with fail)
  rw [rounds_succ]; go_wp2_with fail
  go_ret
  exact ⟨ret_int (by rw [cnt_words]; simp), (Below.refl _ _).alloc (Nat.le_refl _) _⟩
def rng (lo hi : Nat) : Nat := ofP fun b => decide (lo ≤ b) && decide (b ≤ hi)
def rngTo (lo k : Nat) : Nat := ofP fun b => decide (lo ≤ b) && decide (b < k)
theorem rngTo_zero (lo k : Nat) (h : k ≤ lo) : rngTo lo k = 0 := set_ext (ok_ofP _) ok_zero fun b hb => by
  unfold rngTo; rw [testBit_ofP _ _ hb]; simp; omega
theorem rngTo_succ (lo k : Nat) (h : lo ≤ k) (hk : k < 256) : rngTo lo (k + 1) = add (rngTo lo k) k := set_ext (ok_ofP _) (ok_add (ok_ofP _) hk) fun b hb => by
  rw [testBit_add]; unfold rngTo; rw [testBit_ofP _ _ hb, testBit_ofP _ _ hb, Bool.eq_iff_iff]; simp; omega
theorem rngTo_end (lo hi k : Nat) (h : k = hi + 1 ∨ (hi < lo ∧ k = lo)) : rngTo lo k = rng lo hi := set_ext (ok_ofP _) (ok_ofP _) fun b hb => by
  unfold rngTo rng; rw [testBit_ofP _ _ hb, testBit_ofP _ _ hb, Bool.eq_iff_iff]; simp; omega
set_option maxHeartbeats 400000 in
theorem Range_any (lo hi : Nat) (hlo : lo < 256) (hhi : hi < 256) (w : World) :
    Calls Tryd.prog 23 #[.int .u8 lo, .int .u8 hi] w fun e w' => e = .returned (sv (rng lo hi)) ∧ Below w.heap.size w w' := by
  go_enter Tryd.func23, Tryd.ntmps23
  go_wp2_with fail
  go_loopw [6] (fun i wr => ∃ k : Nat, lo ≤ k ∧ (k ≤ hi + 1 ∨ k = lo) ∧ i = .int .i64 k ∧ IsSet 24 wr (w.heap.size + 1) (rngTo lo k) ∧ IsSet 24 wr w.heap.size 0 ∧ Below w.heap.size w wr) (fun i _ => hi + 1 - (intOf i).toNat)
  case atStart =>
    refine ⟨lo, Nat.le_refl _, .inr rfl, rfl, ?_, (IsSet.zero _ w).alloc _, ((Below.refl _ _).alloc (Nat.le_refl _) _).alloc (by simp) _⟩
    rw [rngTo_zero lo lo (Nat.le_refl _)]
    exact IsSet.zero2 _ w
  case round =>
    obtain ⟨k, hk0, hk1, rfl, hS, hR, hb⟩ := hrel
    by_cases hlt : k ≤ hi
    · have hts := Lib.hid (rngTo_succ lo k hk0 (by omega))
      have hS' := Lib.hid hS
      have hR' := Lib.hid hR
      have hb' := Lib.hid hb
      clear hS hR hb hk1
      have hc : (k : Int) < 256 := by omega
      go_wp2_with (go_at_call 51; refine (put_any _ _ _ (by omega) _ hS'.out).mono ?_; rintro e w' ⟨rfl, h1, h2, h3⟩)
      go_roundw
      case rel =>
        refine ⟨k + 1, by omega, by omega, by go_num, ?_, hR'.out.grown h2 (by simp), hb'.out.grown h2 (by have := hR'.out.lt; omega) (by intro k hk; cases hk; omega)⟩
        rw [hts.out]; exact h1
      case measure => simp [intOf]; omega
    · obtain ⟨⟨c0, c1, c2, c3⟩, ⟨f0, f1, f2, f3⟩, hl⟩ := hS.all
      obtain ⟨⟨d0, d1, d2, d3⟩, ⟨g0, g1, g2, g3⟩, hm⟩ := hR.all
      have hS' := Lib.hid hS
      have hR' := Lib.hid hR
      have hb' := Lib.hid hb
      have hk' := Lib.hid hk1
      clear hS hR hb hk1
      go_wp2
      refine ret_set rfl rfl rfl (hR'.out.store4 _) ⟨by rw [rngTo_end lo hi k (by have := hk'.out; omega)], ?_⟩
      exact (((hb'.out.setCell (by simp) _).setCell (by simp) _).setCell (by simp) _).setCell (by simp) _
end Go.Proofs.YteeopjgfiojoiaaDoor
namespace Go.Proofs.YteeopjgfiojoiaaDoor
open Go Go.RowKit SN

theorem info_u64' : ∃ i, Tryd.prog.info? 22 = some i := by
  have h : (Tryd.prog.info? 22).isSome = true := by kernel_rfl
  exact Option.isSome_iff_exists.1 h
theorem cells_u64 : Tryd.prog.cellsOf 22 = 1 := by kernel_rfl
theorem eq_u64 (d : Nat) (a b : Int) (w : World) : (Op.equalIn (d + 1) 22 (.int .u64 a) (.int .u64 b)).run Tryd.prog w = .ok (a == b) w := by
  simp [Op.equalIn, run_underlying Tryd.underlying22]
theorem parts4 (x0 x1 x2 x3 : Int) (w : World) :
    (part 22 #[.int .u64 x0, .int .u64 x1, .int .u64 x2, .int .u64 x3] (0 * 1)).run Tryd.prog w = .ok (.int .u64 x0) w ∧ (part 22 #[.int .u64 x0, .int .u64 x1, .int .u64 x2, .int .u64 x3] (1 * 1)).run Tryd.prog w = .ok (.int .u64 x1) w ∧
    (part 22 #[.int .u64 x0, .int .u64 x1, .int .u64 x2, .int .u64 x3] (2 * 1)).run Tryd.prog w = .ok (.int .u64 x2) w ∧ (part 22 #[.int .u64 x0, .int .u64 x1, .int .u64 x2, .int .u64 x3] (3 * 1)).run Tryd.prog w = .ok (.int .u64 x3) w :=
  ⟨by kernel_rfl, by kernel_rfl, by kernel_rfl, by kernel_rfl⟩
theorem run_eql_words (a0 a1 a2 a3 b0 b1 b2 b3 : Int) (w : World) :
    (binOp .eql 24 (.agg #[.int .u64 a0, .int .u64 a1, .int .u64 a2, .int .u64 a3]) (.agg #[.int .u64 b0, .int .u64 b1, .int .u64 b2, .int .u64 b3])).run Tryd.prog w = .ok (.bool ((a0 == b0) && (a1 == b1) && (a2 == b2) && (a3 == b3))) w := by
  obtain ⟨i, hi⟩ := info_u64'
  obtain ⟨p0, p1, p2, p3⟩ := parts4 a0 a1 a2 a3 w
  obtain ⟨q0, q1, q2, q3⟩ := parts4 b0 b1 b2 b3 w
  rw [run_eql_struct, run_equalIn_array w 9999 _ _ Tryd.underlying24 hi, cells_u64]
  rw [show List.range 4 = [0, 1, 2, 3] from rfl]
  have e0 : (Op.equalIn 9999 22 (.int .u64 a0) (.int .u64 b0)).run Tryd.prog w = .ok (a0 == b0) w := eq_u64 9998 a0 b0 w
  have e1 : (Op.equalIn 9999 22 (.int .u64 a1) (.int .u64 b1)).run Tryd.prog w = .ok (a1 == b1) w := eq_u64 9998 a1 b1 w
  have e2 : (Op.equalIn 9999 22 (.int .u64 a2) (.int .u64 b2)).run Tryd.prog w = .ok (a2 == b2) w := eq_u64 9998 a2 b2 w
  have e3 : (Op.equalIn 9999 22 (.int .u64 a3) (.int .u64 b3)).run Tryd.prog w = .ok (a3 == b3) w := eq_u64 9998 a3 b3 w
  simp only [Op.eqItems, Sem.run_bind, Sem.run_ite, p0, p1, p2, p3, q0, q1, q2, q3, Result.andThen_ok, e0, e1, e2, e3]
  cases (a0 == b0) <;> cases (a1 == b1) <;> cases (a2 == b2) <;> cases (a3 == b3) <;> simp
theorem eq_words (A B : Nat) (hA : Ok A) (hB : Ok B) : (((word A 0 : Int) == (word B 0 : Int)) && ((word A 1 : Int) == (word B 1 : Int)) && ((word A 2 : Int) == (word B 2 : Int)) && ((word A 3 : Int) == (word B 3 : Int))) = decide (A = B) := by
  rw [Bool.eq_iff_iff]
  simp only [Bool.and_eq_true, beq_iff_eq, decide_eq_true_eq]
  constructor
  · rintro ⟨⟨⟨h0, h1⟩, h2⟩, h3⟩
    refine word_ext hA hB fun k hk => ?_
    have : k = 0 ∨ k = 1 ∨ k = 2 ∨ k = 3 := by omega
    rcases this with rfl | rfl | rfl | rfl <;> omega
  · rintro rfl
    simp
theorem run_eql_set (A B : Nat) (hA : Ok A) (hB : Ok B) (w : World) : (binOp .eql 24 (sv A) (sv B)).run Tryd.prog w = .ok (.bool (decide (A = B))) w := by
  have h := run_eql_words (word A 0) (word A 1) (word A 2) (word A 3) (word B 0) (word B 1) (word B 2) (word B 3) w
  have e : (((word A 0 : Int) == (word B 0 : Int)) && ((word A 1 : Int) == (word B 1 : Int)) && ((word A 2 : Int) == (word B 2 : Int)) && ((word A 3 : Int) == (word B 3 : Int))) = decide (A = B) := eq_words A B hA hB
  rw [e] at h
  exact h
end Go.Proofs.YteeopjgfiojoiaaDoor
namespace Go.Proofs.YteeopjgfiojoiaaDoor
open Go Go.RowKit SN

section
variable {ops : Array Oper} {Q : Exit → Act → World → Prop} {a : Act} {w : World} {rest : List Oper} {o : Oper}
theorem load_set (hgd : o.guard = none) (x : Operand) (ho : o.op = .load 24 x) (B : Nat) (hx : a.eval x = .pointer (some ⟨B, 0, none⟩)) 
    (h : ∃ S, IsSet 24 w B S ∧ wpList Tryd.prog ops Q rest (a.put o.dst (sv S)) w) : wpList Tryd.prog ops Q (o :: rest) a w := by
  obtain ⟨S, h, hk⟩ := h
  exact wpList_load_row hgd 24 x ho B hx 24 (sc S) (0, 0) _ h Tryd.underlying24 (by rfl) (by rw [size24]; rfl) hk
theorem store_set (hgd : o.guard = none) (hd : o.dst = none) (x y : Operand) (ho : o.op = .store 24 x y) (B S : Nat) (hx : a.eval x = .pointer (some ⟨B, 0, none⟩)) (hy : a.eval y = sv S) (h : ∃ T, IsSet 24 w B T)
    (hk : ∀ w', IsSet 24 w' B S → w.grownBy w' (some B) → w.heap.size ≤ w'.heap.size ∧ w'.heap.size ≤ w.heap.size → wpList Tryd.prog ops Q rest a w') : wpList Tryd.prog ops Q (o :: rest) a w := by
  obtain ⟨T, h⟩ := h
  have hp : a.put o.dst undef = a := by rw [hd]; rfl
  refine wpList_store_row hgd 24 x y ho B (sc S) hx hy 24 (sc T) h (by rw [size24]; rfl) rfl (by simp [sc, Value.oneCell']) (by rw [hp]; exact hk _ (setRow_heap w B _ _ _ _ h) ⟨rfl, rfl, rfl, by simp, fun k _ hk => setRow_other w B k _ (fun e => hk (by rw [e]))⟩ (by simp))
end

section
variable {ty : TypeId} {w w' : World} {B S N : Nat}
theorem IsSet.zero' (ty : TypeId) (w : World) (n : Nat) (h : n = w.heap.size) : IsSet ty (w.alloc (.cells #[.int .u64 0, .int .u64 0, .int .u64 0, .int .u64 0] ty)) n 0 := by subst h; exact IsSet.zero ty w
theorem IsSet.viaG {row : Option Nat} (hg : w.grownBy w' row) (h : IsSet ty w B S) (hB : some B ≠ row) : IsSet ty w' B S := h.grown hg hB
theorem IsSet.viaB (hb : Below N w w') (h : IsSet ty w B S) (hB : B < N) : IsSet ty w' B S := h.below hb hB
theorem IsSet.sv (w : World) (n S : Nat) (h : n = w.heap.size) : IsSet ty (w.alloc (.cells (sc S) ty)) n S := by subst h; exact IsSet.new ty w S
theorem Below.viaG {a : World} {row : Option Nat} (hg : w.grownBy w' row) (h : Below N a w) (hN : N ≤ w.heap.size) (hB : ∀ k, row = some k → N ≤ k) : Below N a w' := h.grown hg hN hB
theorem Below.viaG1 {a : World} {B : Nat} (hg : w.grownBy w' (some B)) (h : Below N a w) (hN : N ≤ w.heap.size) (hB : N ≤ B) : Below N a w' := h.grown hg hN (fun k hk => by cases hk; exact hB)
theorem Below.viaB {a : World} {M : Nat} (hb : Below M w w') (h : Below N a w) (hN : N ≤ M) : Below N a w' := h.trans (hb.mono hN)
end

theorem ret_set2 {fn : Func} {p q : Tmp} {R : Ending → World → Prop} {a : Act} {w : World} {B S : Nat} {v : Value} (h : fn.results = #[.cell p 24, .tmp q]) (hd : a.defers = []) (hp : a.tmps.getD p undef = .pointer (some ⟨B, 0, none⟩))
    (hq : a.tmps.getD q undef = v) (hS : IsSet 24 w B S) (hR : R (.returned (.tuple #[sv S, v])) w) : bodyPost Tryd.prog fn R .ret a w := by
  have hp' : a.tmps[p]?.getD undef = .pointer (some ⟨B, 0, none⟩) := by simpa using hp
  have hq' : a.tmps[q]?.getD undef = v := by simpa using hq
  refine bodyPost_ret (v := .tuple #[sv S, v]) ?_ hd hR
  have hl := run_loadVar_row (P := Tryd.prog) w B 24 24 (sc S) (0, 0) _ hS Tryd.underlying24 (by rfl) (by rw [size24]; rfl)
  simp [results, h, hp', hq', asAddr, hl]
  rfl
def scs2 (A B : Nat) : Array Value := #[.int .u64 (word A 0), .int .u64 (word A 1), .int .u64 (word A 2), .int .u64 (word A 3), .int .u64 (word B 0), .int .u64 (word B 1), .int .u64 (word B 2), .int .u64 (word B 3)]
theorem run_build2 (A B : Nat) (w : World) : (Instr.buildSlice 79 2 #[(0, sv A), (1, sv B)]).run Tryd.prog w = .ok (.slice (some ⟨w.heap.size, 0, none⟩) 2 2) (w.alloc (.cells (scs2 A B) 24)) := by kernel_rfl
def scs3 (A B C : Nat) : Array Value := #[.int .u64 (word A 0), .int .u64 (word A 1), .int .u64 (word A 2), .int .u64 (word A 3), .int .u64 (word B 0), .int .u64 (word B 1), .int .u64 (word B 2), .int .u64 (word B 3), .int .u64 (word C 0), .int .u64 (word C 1), .int .u64 (word C 2), .int .u64 (word C 3)]
theorem run_build3 (A B C : Nat) (w : World) : (Instr.buildSlice 79 3 #[(0, sv A), (1, sv B), (2, sv C)]).run Tryd.prog w = .ok (.slice (some ⟨w.heap.size, 0, none⟩) 3 3) (w.alloc (.cells (scs3 A B C) 24)) := by kernel_rfl
def scs4 (A B C D : Nat) : Array Value := #[.int .u64 (word A 0), .int .u64 (word A 1), .int .u64 (word A 2), .int .u64 (word A 3), .int .u64 (word B 0), .int .u64 (word B 1), .int .u64 (word B 2), .int .u64 (word B 3), .int .u64 (word C 0), .int .u64 (word C 1), .int .u64 (word C 2), .int .u64 (word C 3), .int .u64 (word D 0), .int .u64 (word D 1), .int .u64 (word D 2), .int .u64 (word D 3)]
theorem run_build4 (A B C D : Nat) (w : World) : (Instr.buildSlice 79 4 #[(0, sv A), (1, sv B), (2, sv C), (3, sv D)]).run Tryd.prog w = .ok (.slice (some ⟨w.heap.size, 0, none⟩) 4 4) (w.alloc (.cells (scs4 A B C D) 24)) := by kernel_rfl
section
variable {ops : Array Oper} {Q : Exit → Act → World → Prop} {a : Act} {w : World} {rest : List Oper} {o : Oper}
theorem build_sets2 (hgd : o.guard = none) (x y : Operand) (ho : o.op = .buildSlice 79 2 #[(0, x), (1, y)]) (A B : Nat) (hx : a.eval x = sv A) (hy : a.eval y = sv B)
    (hk : wpList Tryd.prog ops Q rest (a.put o.dst (.slice (some ⟨w.heap.size, 0, none⟩) 2 2)) (w.alloc (.cells (scs2 A B) 24))) : wpList Tryd.prog ops Q (o :: rest) a w :=
  wpList_plain hgd fun K hK => by
    unfold Oper.wp execOp
    simp only [ho, List.map_toArray, List.map_cons, List.map_nil, hx, hy, Sem.run_bind, run_build2, Result.andThen_ok]
    exact hK _ _ hk
theorem build_sets3 (hgd : o.guard = none) (x y z : Operand) (ho : o.op = .buildSlice 79 3 #[(0, x), (1, y), (2, z)]) (A B C : Nat) (hx : a.eval x = sv A) (hy : a.eval y = sv B) (hz : a.eval z = sv C)
    (hk : wpList Tryd.prog ops Q rest (a.put o.dst (.slice (some ⟨w.heap.size, 0, none⟩) 3 3)) (w.alloc (.cells (scs3 A B C) 24))) : wpList Tryd.prog ops Q (o :: rest) a w :=
  wpList_plain hgd fun K hK => by
    unfold Oper.wp execOp
    simp only [ho, List.map_toArray, List.map_cons, List.map_nil, hx, hy, hz, Sem.run_bind, run_build3, Result.andThen_ok]
    exact hK _ _ hk
theorem build_sets4 (hgd : o.guard = none) (x y z u : Operand) (ho : o.op = .buildSlice 79 4 #[(0, x), (1, y), (2, z), (3, u)]) (A B C D : Nat) (hx : a.eval x = sv A) (hy : a.eval y = sv B) (hz : a.eval z = sv C) (hu : a.eval u = sv D)
    (hk : wpList Tryd.prog ops Q rest (a.put o.dst (.slice (some ⟨w.heap.size, 0, none⟩) 4 4)) (w.alloc (.cells (scs4 A B C D) 24))) : wpList Tryd.prog ops Q (o :: rest) a w :=
  wpList_plain hgd fun K hK => by
    unfold Oper.wp execOp
    simp only [ho, List.map_toArray, List.map_cons, List.map_nil, hx, hy, hz, hu, Sem.run_bind, run_build4, Result.andThen_ok]
    exact hK _ _ hk
end
theorem union2 (A B n : Nat) (W : World) (h : n = W.heap.size) :
    Calls Tryd.prog 27 #[.slice (some ⟨n, 0, none⟩) 2 2] (W.alloc (.cells (scs2 A B) 24)) fun e w' => e = .returned (sv (unionL [A, B])) ∧ Below (W.heap.size + 1) (W.alloc (.cells (scs2 A B) 24)) w' := by
  subst h
  have hh := heap_alloc_new W (.cells (scs2 A B) 24)
  have hr := Union_any [A, B] (some ⟨W.heap.size, 0, none⟩) 2 (W.alloc (.cells (scs2 A B) 24)) (by simp) fun i hi => ⟨W.heap.size, rfl, row_lt hh, fun k hk => row_cell hh ?_⟩
  · rw [World.size_alloc] at hr
    exact hr
  · have hi' : i = 0 ∨ i = 1 := by simp at hi; omega
    have hk' : k = 0 ∨ k = 1 ∨ k = 2 ∨ k = 3 := by omega
    rcases hi' with rfl | rfl <;> rcases hk' with rfl | rfl | rfl | rfl <;> rfl
theorem union3 (A B C n : Nat) (W : World) (h : n = W.heap.size) :
    Calls Tryd.prog 27 #[.slice (some ⟨n, 0, none⟩) 3 3] (W.alloc (.cells (scs3 A B C) 24)) fun e w' => e = .returned (sv (unionL [A, B, C])) ∧ Below (W.heap.size + 1) (W.alloc (.cells (scs3 A B C) 24)) w' := by
  subst h
  have hh := heap_alloc_new W (.cells (scs3 A B C) 24)
  have hr := Union_any [A, B, C] (some ⟨W.heap.size, 0, none⟩) 3 (W.alloc (.cells (scs3 A B C) 24)) (by simp) fun i hi => ⟨W.heap.size, rfl, row_lt hh, fun k hk => row_cell hh ?_⟩
  · rw [World.size_alloc] at hr
    exact hr
  · have hi' : i = 0 ∨ i = 1 ∨ i = 2 := by simp at hi; omega
    have hk' : k = 0 ∨ k = 1 ∨ k = 2 ∨ k = 3 := by omega
    rcases hi' with rfl | rfl | rfl <;> rcases hk' with rfl | rfl | rfl | rfl <;> rfl
theorem union4 (A B C D n : Nat) (W : World) (h : n = W.heap.size) :
    Calls Tryd.prog 27 #[.slice (some ⟨n, 0, none⟩) 4 4] (W.alloc (.cells (scs4 A B C D) 24)) fun e w' => e = .returned (sv (unionL [A, B, C, D])) ∧ Below (W.heap.size + 1) (W.alloc (.cells (scs4 A B C D) 24)) w' := by
  subst h
  have hh := heap_alloc_new W (.cells (scs4 A B C D) 24)
  have hr := Union_any [A, B, C, D] (some ⟨W.heap.size, 0, none⟩) 4 (W.alloc (.cells (scs4 A B C D) 24)) (by simp) fun i hi => ⟨W.heap.size, rfl, row_lt hh, fun k hk => row_cell hh ?_⟩
  · rw [World.size_alloc] at hr
    exact hr
  · have hi' : i = 0 ∨ i = 1 ∨ i = 2 ∨ i = 3 := by simp at hi; omega
    have hk' : k = 0 ∨ k = 1 ∨ k = 2 ∨ k = 3 := by omega
    rcases hi' with rfl | rfl | rfl | rfl <;> rcases hk' with rfl | rfl | rfl | rfl <;> rfl
end Go.Proofs.YteeopjgfiojoiaaDoor
namespace Go.Proofs.YteeopjgfiojoiaaDoor
open Go Go.RowKit SN

theorem keepB {N : Nat} {W w1 : World} {a : Addr} {v : Value} (hb : Below N W w1) (h : W.cell? a = some v) (hN : W.heap.size ≤ N) : w1.cell? a = some v :=
  (hb.cell (Nat.lt_of_lt_of_le (World.block_lt_of_cell? W a h) hN)).trans h
theorem keep4 {N : Nat} {W w1 : World} {a0 a1 a2 a3 : Addr} {v0 v1 v2 v3 : Value} (hb : Below N W w1) (hN : W.heap.size ≤ N) (h : W.cell? a0 = some v0 ∧ W.cell? a1 = some v1 ∧ W.cell? a2 = some v2 ∧ W.cell? a3 = some v3) :
    w1.cell? a0 = some v0 ∧ w1.cell? a1 = some v1 ∧ w1.cell? a2 = some v2 ∧ w1.cell? a3 = some v3 := ⟨keepB hb (h.1) hN, keepB hb (h.2.1) hN, keepB hb (h.2.2.1) hN, keepB hb (h.2.2.2) hN⟩
theorem keep8 {N : Nat} {W w1 : World} {a0 a1 a2 a3 a4 a5 a6 a7 : Addr} {v0 v1 v2 v3 v4 v5 v6 v7 : Value} (hb : Below N W w1) (hN : W.heap.size ≤ N) (h : W.cell? a0 = some v0 ∧ W.cell? a1 = some v1 ∧ W.cell? a2 = some v2 ∧ W.cell? a3 = some v3 ∧ W.cell? a4 = some v4 ∧ W.cell? a5 = some v5 ∧ W.cell? a6 = some v6 ∧ W.cell? a7 = some v7) :
    w1.cell? a0 = some v0 ∧ w1.cell? a1 = some v1 ∧ w1.cell? a2 = some v2 ∧ w1.cell? a3 = some v3 ∧ w1.cell? a4 = some v4 ∧ w1.cell? a5 = some v5 ∧ w1.cell? a6 = some v6 ∧ w1.cell? a7 = some v7 := ⟨keepB hb (h.1) hN, keepB hb (h.2.1) hN, keepB hb (h.2.2.1) hN, keepB hb (h.2.2.2.1) hN, keepB hb (h.2.2.2.2.1) hN, keepB hb (h.2.2.2.2.2.1) hN, keepB hb (h.2.2.2.2.2.2.1) hN, keepB hb (h.2.2.2.2.2.2.2) hN⟩
theorem keep12 {N : Nat} {W w1 : World} {a0 a1 a2 a3 a4 a5 a6 a7 a8 a9 a10 a11 : Addr} {v0 v1 v2 v3 v4 v5 v6 v7 v8 v9 v10 v11 : Value} (hb : Below N W w1) (hN : W.heap.size ≤ N) (h : W.cell? a0 = some v0 ∧ W.cell? a1 = some v1 ∧ W.cell? a2 = some v2 ∧ W.cell? a3 = some v3 ∧ W.cell? a4 = some v4 ∧ W.cell? a5 = some v5 ∧ W.cell? a6 = some v6 ∧ W.cell? a7 = some v7 ∧ W.cell? a8 = some v8 ∧ W.cell? a9 = some v9 ∧ W.cell? a10 = some v10 ∧ W.cell? a11 = some v11) :
    w1.cell? a0 = some v0 ∧ w1.cell? a1 = some v1 ∧ w1.cell? a2 = some v2 ∧ w1.cell? a3 = some v3 ∧ w1.cell? a4 = some v4 ∧ w1.cell? a5 = some v5 ∧ w1.cell? a6 = some v6 ∧ w1.cell? a7 = some v7 ∧ w1.cell? a8 = some v8 ∧ w1.cell? a9 = some v9 ∧ w1.cell? a10 = some v10 ∧ w1.cell? a11 = some v11 := ⟨keepB hb (h.1) hN, keepB hb (h.2.1) hN, keepB hb (h.2.2.1) hN, keepB hb (h.2.2.2.1) hN, keepB hb (h.2.2.2.2.1) hN, keepB hb (h.2.2.2.2.2.1) hN, keepB hb (h.2.2.2.2.2.2.1) hN, keepB hb (h.2.2.2.2.2.2.2.1) hN, keepB hb (h.2.2.2.2.2.2.2.2.1) hN, keepB hb (h.2.2.2.2.2.2.2.2.2.1) hN, keepB hb (h.2.2.2.2.2.2.2.2.2.2.1) hN, keepB hb (h.2.2.2.2.2.2.2.2.2.2.2) hN⟩
theorem keep16 {N : Nat} {W w1 : World} {a0 a1 a2 a3 a4 a5 a6 a7 a8 a9 a10 a11 a12 a13 a14 a15 : Addr} {v0 v1 v2 v3 v4 v5 v6 v7 v8 v9 v10 v11 v12 v13 v14 v15 : Value} (hb : Below N W w1) (hN : W.heap.size ≤ N) (h : W.cell? a0 = some v0 ∧ W.cell? a1 = some v1 ∧ W.cell? a2 = some v2 ∧ W.cell? a3 = some v3 ∧ W.cell? a4 = some v4 ∧ W.cell? a5 = some v5 ∧ W.cell? a6 = some v6 ∧ W.cell? a7 = some v7 ∧ W.cell? a8 = some v8 ∧ W.cell? a9 = some v9 ∧ W.cell? a10 = some v10 ∧ W.cell? a11 = some v11 ∧ W.cell? a12 = some v12 ∧ W.cell? a13 = some v13 ∧ W.cell? a14 = some v14 ∧ W.cell? a15 = some v15) :
    w1.cell? a0 = some v0 ∧ w1.cell? a1 = some v1 ∧ w1.cell? a2 = some v2 ∧ w1.cell? a3 = some v3 ∧ w1.cell? a4 = some v4 ∧ w1.cell? a5 = some v5 ∧ w1.cell? a6 = some v6 ∧ w1.cell? a7 = some v7 ∧ w1.cell? a8 = some v8 ∧ w1.cell? a9 = some v9 ∧ w1.cell? a10 = some v10 ∧ w1.cell? a11 = some v11 ∧ w1.cell? a12 = some v12 ∧ w1.cell? a13 = some v13 ∧ w1.cell? a14 = some v14 ∧ w1.cell? a15 = some v15 := ⟨keepB hb (h.1) hN, keepB hb (h.2.1) hN, keepB hb (h.2.2.1) hN, keepB hb (h.2.2.2.1) hN, keepB hb (h.2.2.2.2.1) hN, keepB hb (h.2.2.2.2.2.1) hN, keepB hb (h.2.2.2.2.2.2.1) hN, keepB hb (h.2.2.2.2.2.2.2.1) hN, keepB hb (h.2.2.2.2.2.2.2.2.1) hN, keepB hb (h.2.2.2.2.2.2.2.2.2.1) hN, keepB hb (h.2.2.2.2.2.2.2.2.2.2.1) hN, keepB hb (h.2.2.2.2.2.2.2.2.2.2.2.1) hN, keepB hb (h.2.2.2.2.2.2.2.2.2.2.2.2.1) hN, keepB hb (h.2.2.2.2.2.2.2.2.2.2.2.2.2.1) hN, keepB hb (h.2.2.2.2.2.2.2.2.2.2.2.2.2.2.1) hN, keepB hb (h.2.2.2.2.2.2.2.2.2.2.2.2.2.2.2) hN⟩
/-- Contracts with the set's value written out, for statements that draw their order. -/
theorem Of_any' (s : ByteArray) (w : World) (hs : s.size ≤ maxLen) :
    Calls Tryd.prog 22 #[.string s] w fun e w' => e = .returned (.agg #[.int .u64 (word (ofL s.data.toList) 0), .int .u64 (word (ofL s.data.toList) 1), .int .u64 (word (ofL s.data.toList) 2), .int .u64 (word (ofL s.data.toList) 3)]) ∧ Below w.heap.size w w' := Of_any s w hs
theorem Range_any' (lo hi : Nat) (hlo : lo < 256) (hhi : hi < 256) (w : World) :
    Calls Tryd.prog 23 #[.int .u8 lo, .int .u8 hi] w fun e w' => e = .returned (.agg #[.int .u64 (word (rng lo hi) 0), .int .u64 (word (rng lo hi) 1), .int .u64 (word (rng lo hi) 2), .int .u64 (word (rng lo hi) 3)]) ∧ Below w.heap.size w w' := Range_any lo hi hlo hhi w
theorem Not_any' (S : Nat) (w : World) :
    Calls Tryd.prog 25 #[.agg #[.int .u64 (word (S) 0), .int .u64 (word (S) 1), .int .u64 (word (S) 2), .int .u64 (word (S) 3)]] w fun e w' => e = .returned (.agg #[.int .u64 (word (cmpl S) 0), .int .u64 (word (cmpl S) 1), .int .u64 (word (cmpl S) 2), .int .u64 (word (cmpl S) 3)]) ∧ Below w.heap.size w w' := Not_any S w
theorem union2' (A B n : Nat) (W : World) (h : n = W.heap.size) :
    Calls Tryd.prog 27 #[.slice (some ⟨n, 0, none⟩) 2 2] (W.alloc (.cells #[.int .u64 (word A 0), .int .u64 (word A 1), .int .u64 (word A 2), .int .u64 (word A 3), .int .u64 (word B 0), .int .u64 (word B 1), .int .u64 (word B 2), .int .u64 (word B 3)] 24)) fun e w' => e = .returned (.agg #[.int .u64 (word (unionL [A, B]) 0), .int .u64 (word (unionL [A, B]) 1), .int .u64 (word (unionL [A, B]) 2), .int .u64 (word (unionL [A, B]) 3)]) ∧ Below (W.heap.size + 1) (W.alloc (.cells #[.int .u64 (word A 0), .int .u64 (word A 1), .int .u64 (word A 2), .int .u64 (word A 3), .int .u64 (word B 0), .int .u64 (word B 1), .int .u64 (word B 2), .int .u64 (word B 3)] 24)) w' := union2 A B n W h
theorem union3' (A B C n : Nat) (W : World) (h : n = W.heap.size) :
    Calls Tryd.prog 27 #[.slice (some ⟨n, 0, none⟩) 3 3] (W.alloc (.cells #[.int .u64 (word A 0), .int .u64 (word A 1), .int .u64 (word A 2), .int .u64 (word A 3), .int .u64 (word B 0), .int .u64 (word B 1), .int .u64 (word B 2), .int .u64 (word B 3), .int .u64 (word C 0), .int .u64 (word C 1), .int .u64 (word C 2), .int .u64 (word C 3)] 24)) fun e w' => e = .returned (.agg #[.int .u64 (word (unionL [A, B, C]) 0), .int .u64 (word (unionL [A, B, C]) 1), .int .u64 (word (unionL [A, B, C]) 2), .int .u64 (word (unionL [A, B, C]) 3)]) ∧ Below (W.heap.size + 1) (W.alloc (.cells #[.int .u64 (word A 0), .int .u64 (word A 1), .int .u64 (word A 2), .int .u64 (word A 3), .int .u64 (word B 0), .int .u64 (word B 1), .int .u64 (word B 2), .int .u64 (word B 3), .int .u64 (word C 0), .int .u64 (word C 1), .int .u64 (word C 2), .int .u64 (word C 3)] 24)) w' := union3 A B C n W h
theorem union4' (A B C D n : Nat) (W : World) (h : n = W.heap.size) :
    Calls Tryd.prog 27 #[.slice (some ⟨n, 0, none⟩) 4 4] (W.alloc (.cells #[.int .u64 (word A 0), .int .u64 (word A 1), .int .u64 (word A 2), .int .u64 (word A 3), .int .u64 (word B 0), .int .u64 (word B 1), .int .u64 (word B 2), .int .u64 (word B 3), .int .u64 (word C 0), .int .u64 (word C 1), .int .u64 (word C 2), .int .u64 (word C 3), .int .u64 (word D 0), .int .u64 (word D 1), .int .u64 (word D 2), .int .u64 (word D 3)] 24)) fun e w' => e = .returned (.agg #[.int .u64 (word (unionL [A, B, C, D]) 0), .int .u64 (word (unionL [A, B, C, D]) 1), .int .u64 (word (unionL [A, B, C, D]) 2), .int .u64 (word (unionL [A, B, C, D]) 3)]) ∧ Below (W.heap.size + 1) (W.alloc (.cells #[.int .u64 (word A 0), .int .u64 (word A 1), .int .u64 (word A 2), .int .u64 (word A 3), .int .u64 (word B 0), .int .u64 (word B 1), .int .u64 (word B 2), .int .u64 (word B 3), .int .u64 (word C 0), .int .u64 (word C 1), .int .u64 (word C 2), .int .u64 (word C 3), .int .u64 (word D 0), .int .u64 (word D 1), .int .u64 (word D 2), .int .u64 (word D 3)] 24)) w' := union4 A B C D n W h
theorem union2z' (A n : Nat) (W : World) (h : n = W.heap.size) :
    Calls Tryd.prog 27 #[.slice (some ⟨n, 0, none⟩) 2 2] (W.alloc (.cells #[.int .u64 0, .int .u64 0, .int .u64 0, .int .u64 0, .int .u64 (word A 0), .int .u64 (word A 1), .int .u64 (word A 2), .int .u64 (word A 3)] 24)) fun e w' => e = .returned (.agg #[.int .u64 (word (unionL [0, A]) 0), .int .u64 (word (unionL [0, A]) 1), .int .u64 (word (unionL [0, A]) 2), .int .u64 (word (unionL [0, A]) 3)]) ∧ Below (W.heap.size + 1) (W.alloc (.cells #[.int .u64 0, .int .u64 0, .int .u64 0, .int .u64 0, .int .u64 (word A 0), .int .u64 (word A 1), .int .u64 (word A 2), .int .u64 (word A 3)] 24)) w' := by
  have h1 := union2' 0 A n W h
  simp only [word_zero] at h1
  exact h1
end Go.Proofs.YteeopjgfiojoiaaDoor
namespace Go.Proofs.YteeopjgfiojoiaaDoor
open Go Go.RowKit SN

theorem eqGuard_set (op : BinOp) (x y : Operand) (A B : Nat) (w : World) : (eqGuard op 24 x y (sv A) (sv B)).run Tryd.prog w = .ok () w := run_eqGuard_agg w op _ x y _ _ (by kernel_rfl)
theorem neq_of_eql (xs ys : Array Value) (v : Bool) (w : World) (h : (binOp .eql 24 (.agg xs) (.agg ys)).run Tryd.prog w = .ok (.bool v) w) : (binOp .neq 24 (.agg xs) (.agg ys)).run Tryd.prog w = .ok (.bool (!v)) w := by
  rw [run_eql_struct] at h
  rw [run_neq_struct]
  cases he : (Op.equalIn 10000 24 (.agg xs) (.agg ys)).run Tryd.prog w with
  | ok b w' =>
    rw [he] at h
    simp only [Result.andThen_ok, Result.ok.injEq, Value.bool.injEq] at h ⊢
    obtain ⟨rfl, rfl⟩ := h
    exact ⟨rfl, rfl⟩
  | _ => rw [he] at h; cases h
theorem run_neq_set (A B : Nat) (hA : Ok A) (hB : Ok B) (w : World) : (binOp .neq 24 (sv A) (sv B)).run Tryd.prog w = .ok (.bool (!decide (A = B))) w := neq_of_eql _ _ _ w (run_eql_set A B hA hB w)
section
variable {ops : Array Oper} {Q : Exit → Act → World → Prop} {a : Act} {w : World} {rest : List Oper} {o : Oper}
theorem wpList_wanted (hw : Region.wanted o (yielded ops a.tmps) = true)
    (h : ∀ K : Act → World → Prop, (∀ a w, wpList Tryd.prog ops Q rest a w → K a w) → o.wp Tryd.prog a w K Q) : wpList Tryd.prog ops Q (o :: rest) a w :=
  wpList_step fun K hK => by rw [if_pos hw]; exact h K hK
theorem eq_setsg (hw : Region.wanted o (yielded ops a.tmps) = true) (x y : Operand) (ho : o.op = .binOp .eql 24 x y 24) (A B : Nat) (hx : a.eval x = sv A) (hy : a.eval y = sv B) (v : Bool) (h : (binOp .eql 24 (sv A) (sv B)).run Tryd.prog w = .ok (.bool v) w)
    (hk : wpList Tryd.prog ops Q rest (a.put o.dst (.bool v)) w) : wpList Tryd.prog ops Q (o :: rest) a w :=
  wpList_wanted hw fun K hK => by
    unfold Oper.wp execOp
    simp only [ho, hx, hy, Sem.run_bind, eqGuard_set, h, Result.andThen_ok]
    exact hK _ _ hk
theorem neq_setsg (hw : Region.wanted o (yielded ops a.tmps) = true) (x y : Operand) (ho : o.op = .binOp .neq 24 x y 24) (A B : Nat) (hx : a.eval x = sv A) (hy : a.eval y = sv B) (v : Bool) (h : (binOp .neq 24 (sv A) (sv B)).run Tryd.prog w = .ok (.bool v) w)
    (hk : wpList Tryd.prog ops Q rest (a.put o.dst (.bool v)) w) : wpList Tryd.prog ops Q (o :: rest) a w :=
  wpList_wanted hw fun K hK => by
    unfold Oper.wp execOp
    simp only [ho, hx, hy, Sem.run_bind, eqGuard_set, h, Result.andThen_ok]
    exact hK _ _ hk
theorem build_sets2g (hw : Region.wanted o (yielded ops a.tmps) = true) (x y : Operand) (ho : o.op = .buildSlice 79 2 #[(0, x), (1, y)]) (A B : Nat) (hx : a.eval x = sv A) (hy : a.eval y = sv B)
    (hk : wpList Tryd.prog ops Q rest (a.put o.dst (.slice (some ⟨w.heap.size, 0, none⟩) 2 2)) (w.alloc (.cells (scs2 A B) 24))) : wpList Tryd.prog ops Q (o :: rest) a w :=
  wpList_wanted hw fun K hK => by
    unfold Oper.wp execOp
    simp only [ho, List.map_toArray, List.map_cons, List.map_nil, hx, hy, Sem.run_bind, run_build2, Result.andThen_ok]
    exact hK _ _ hk
theorem load_setg (hw : Region.wanted o (yielded ops a.tmps) = true) (x : Operand) (ho : o.op = .load 24 x) (B : Nat) (hx : a.eval x = .pointer (some ⟨B, 0, none⟩)) 
    (h : ∃ S, IsSet 24 w B S ∧ wpList Tryd.prog ops Q rest (a.put o.dst (sv S)) w) : wpList Tryd.prog ops Q (o :: rest) a w := by
  obtain ⟨S, h, hk⟩ := h
  exact wpList_wanted hw fun K hK => wp_load_row 24 x ho B hx 24 (sc S) (0, 0) _ h Tryd.underlying24 (by rfl) (by rw [size24]; rfl) (hK _ _ hk)
end
end Go.Proofs.YteeopjgfiojoiaaDoor
namespace Go.Proofs.YteeopjgfiojoiaaDoor
open Go Go.RowKit SN

/-- A byte slice whose bytes are those of s. -/
def HasB (w : World) (p : Option Addr) (s : ByteArray) : Prop := s.size = 0 ∨ ∃ b o, p = some ⟨b, o, none⟩ ∧ Lib.Bytes w b o s ∧ b < w.heap.size
/-- The reader lies in block B. -/
def IsR (w : World) (B : Nat) (p : Option Addr) (n cap at' : Nat) (lang : Int) : Prop := w.heap[B]? = some (.cells #[.slice p n cap, .int .i64 at', .int .i64 lang] 91 (0, 0))
def isB (s : ByteArray) (i : Nat) (c : Int) : Bool := (s.data.toList[i]?).any fun b => (b.toNat : Int) == c
set_option maxHeartbeats 1000000 in
set_option maxRecDepth 100000 in
theorem is_any (B : Nat) (p : Option Addr) (cap at' : Nat) (lang : Int) (s : ByteArray) (k : Int) (c : Int) (w : World) (hR : IsR w B p s.size cap at' lang) (hS : HasB w p s) (hk0 : 0 ≤ k) (hk : k ≤ 1) (hat : at' < 2 ^ 61) (hs : s.size < 2 ^ 61) :
    Calls Tryd.prog 72 #[.pointer (some ⟨B, 0, none⟩), .int .i64 k, .int .u8 c] w fun e w' => e = .returned (.bool (isB s (at' + k.toNat) c)) ∧ ∃ q, w' = w.drewN q := by
  have c0 : w.cell? ⟨B, 0, none⟩ = some (.slice p s.size cap) := row_cell hR rfl
  have c1 : w.cell? ⟨B, 1, none⟩ = some (.int .i64 at') := row_cell hR rfl
  have c2 : w.cell? ⟨B, 2, none⟩ = some (.int .i64 lang) := row_cell hR rfl
  clear hR
  have hw : (at' : Int) + k = ((at' + k.toNat : Nat) : Int) := by omega
  generalize at' + k.toNat = m at *
  by_cases h : m < s.size
  · have hd : decide ((m : Int) < (s.size : Int)) = true := by simp; omega
    obtain h0 | ⟨b, o, rfl, hb, -⟩ := hS
    · omega
    have hcell := hb m h
    have hix : (s.data.toList[m]?).any (fun b => (b.toNat : Int) == c) = (((s[m]).toNat : Int) == c) := by
      have : s.data.toList[m]? = some s[m] := by simp [ByteArray.getElem_eq_getElem_data]
      rw [this]; rfl
    unfold isB
    rw [hix]
    go_enter Tryd.func72, Tryd.ntmps72
    go_wp2_with fail
    go_quiet (fail)
    go_wp2_with fail
    go_ret
    exact ⟨rfl, _, rfl⟩
  · have hd : decide ((m : Int) < (s.size : Int)) = false := by simp; omega
    have hix : (s.data.toList[m]?).any (fun b => (b.toNat : Int) == c) = false := by
      have : s.data.toList[m]? = none := by simp; omega
      rw [this]; rfl
    unfold isB
    rw [hix]
    go_enter Tryd.func72, Tryd.ntmps72
    go_wp2_with fail
    go_quiet (fail)
    go_wp2_with fail
    go_ret
    exact ⟨rfl, _, rfl⟩
theorem is_val (B : Nat) (p : Option Addr) (cap at' : Nat) (lang : Int) (s : ByteArray) (k : Int) (c : Int) (v : Bool) (w : World) (hR : IsR w B p s.size cap at' lang) (hS : HasB w p s) (hk0 : 0 ≤ k) (hk : k ≤ 1) (hat : at' < 2 ^ 61) (hs : s.size < 2 ^ 61) (hv : isB s (at' + k.toNat) c = v) :
    Calls Tryd.prog 72 #[.pointer (some ⟨B, 0, none⟩), .int .i64 k, .int .u8 c] w fun e w' => e = .returned (.bool v) ∧ ∃ q, w' = w.drewN q := by
  subst hv
  exact is_any B p cap at' lang s k c w hR hS hk0 hk hat hs
theorem IsR.drewN {w : World} {B : Nat} {p : Option Addr} {n cap at' : Nat} {lang : Int} (h : IsR w B p n cap at' lang) (q : Nat) : IsR (w.drewN q) B p n cap at' lang := h
theorem HasB.drewN {w : World} {p : Option Addr} {s : ByteArray} (h : HasB w p s) (q : Nat) : HasB (w.drewN q) p s := by
  rcases h with h | ⟨b, o, hp, hb, hl⟩
  · exact .inl h
  · exact .inr ⟨b, o, hp, hb.drewN q, hl⟩
theorem IsR.keep {w w' : World} {B : Nat} {p : Option Addr} {n cap at' : Nat} {lang : Int} (h : IsR w B p n cap at' lang) (hb : w'.heap[B]? = w.heap[B]?) : IsR w' B p n cap at' lang := by unfold IsR; rw [hb]; exact h
theorem HasB.keep {w w' : World} {p : Option Addr} {s : ByteArray} (h : HasB w p s) (hb : ∀ b o, p = some ⟨b, o, none⟩ → b < w.heap.size → w'.heap[b]? = w.heap[b]?) (hz : w.heap.size ≤ w'.heap.size) : HasB w' p s := by
  rcases h with h | ⟨b, o, hp, hc, hl⟩
  · exact .inl h
  · exact .inr ⟨b, o, hp, fun i hi => by rw [World.cell?_of_block (w := w) (by exact hb b o hp hl)]; exact hc i hi, by omega⟩
end Go.Proofs.YteeopjgfiojoiaaDoor
namespace Go.Proofs.YteeopjgfiojoiaaDoor
open Go Go.RowKit SN

/-- The values of a list of bytes. -/
def bv (l : List Nat) : List Value := l.map fun (b : Nat) => Value.int .u8 (b : Int)
def OwnsB (w : World) (base : Nat) (v : Value) (l : List Nat) : Prop := w.ownsRow base 5 1 v l.length (bv l)
theorem bv_snoc (l : List Nat) (b : Nat) : bv (l ++ [b]) = bv l ++ [.int .u8 b] := by simp [bv]
theorem OwnsB.snoc {w : World} {base : Nat} {v : Value} {l : List Nat} {b : Nat} (h : w.ownsRow base 5 1 v (l.length + 1) (bv l ++ [.int .u8 b])) : OwnsB w base v (l ++ [b]) := by
  unfold OwnsB; rw [bv_snoc, List.length_append]; exact h
theorem info_u8 : (Tryd.prog.info? 5).map (fun i => (i.zero, i.size, i.bytes)) = some (some (.int .u8 0), 1, 1) := by kernel_rfl
def memTo (S k : Nat) : List Nat := (List.range k).filter S.testBit
theorem memTo_yes (S k : Nat) (h : S.testBit k = true) : memTo S (k + 1) = memTo S k ++ [k] := by
  unfold memTo; rw [List.range_succ, List.filter_append]; simp [h]
theorem memTo_no (S k : Nat) (h : S.testBit k = false) : memTo S (k + 1) = memTo S k := by
  unfold memTo; rw [List.range_succ, List.filter_append]; simp [h]
theorem memTo_le (S k : Nat) : (memTo S k).length ≤ k := by
  unfold memTo
  have := List.length_filter_le S.testBit (List.range k)
  simpa using this
theorem one_new (w : World) (v : Value) (t : TypeId) : ∀ (j : Nat) u, [v][j]? = some u → (w.alloc (.cells #[v] t)).cell? ((⟨w.heap.size, 0, none⟩ : Addr).add j) = some u := by
  intro j u hj
  match j, hj with
  | 0, hj => simp at hj; subst hj; simp [Addr.add]
theorem OwnsB.keptB {w w' : World} {base N : Nat} {v : Value} {l : List Nat} (h : OwnsB w base v l) (hb : Below N w w') (hN : w.heap.size ≤ N) : OwnsB w' base v l := by
  refine ⟨h.1, ?_⟩
  rcases h.2 with h2 | ⟨g, cap, cur, hv, hg, hh, r⟩
  · exact .inl h2
  · exact .inr ⟨g, cap, cur, hv, hg, by rw [hb.block g (by have := lt_of_block hh; omega)]; exact hh, r⟩
theorem OwnsB.nil (w : World) (base : Nat) : OwnsB w base (.slice none 0 0) [] := World.ownsRow_nil _ _ _ _
set_option maxHeartbeats 1000000 in
set_option maxRecDepth 100000 in
theorem Bytes_any (S : Nat) (w : World) :
    Calls Tryd.prog 34 #[sv S] w fun e w' => ∃ v, e = .returned v ∧ OwnsB w' (w.heap.size + 1) v (mem S) ∧ Below w.heap.size w w' := by
  obtain ⟨i0, hi, hz0, hz1, hz2⟩ := info_parts info_u8
  show Calls Tryd.prog 34 #[.agg #[.int .u64 (word S 0), .int .u64 (word S 1), .int .u64 (word S 2), .int .u64 (word S 3)]] w _
  go_enter Tryd.func34, Tryd.ntmps34
  go_wp2_with fail
  go_loopw [3, 5] (fun v i wr => ∃ k : Nat, k ≤ 256 ∧ i = .int .i64 k ∧ OwnsB wr (w.heap.size + 1) v (memTo S k) ∧ IsSet 24 wr w.heap.size S ∧ Below w.heap.size w wr) (fun _ i _ => 256 - (intOf i).toNat)
  case atStart => exact ⟨0, Nat.zero_le _, rfl, OwnsB.nil _ _, IsSet.new' _ _ _ _ rfl, (Below.refl _ _).alloc (Nat.le_refl _) _⟩
  case round =>
    obtain ⟨k, hk, rfl, hown, hR, hb⟩ := hrel
    by_cases hlt : k < 256
    · obtain ⟨⟨c0, c1, c2, c3⟩, ⟨f0, f1, f2, f3⟩, hl⟩ := hR.all
      have hR' := Lib.hid hR
      have hb' := Lib.hid hb
      have hown' := Lib.hid hown
      clear hR hb hown
      go_wp2_with fail
      refine (Has_any S k hlt _).mono ?_
      rintro e w1 ⟨rfl, hb1⟩
      have hown1 : OwnsB w1 (w.heap.size + 1) u3 (memTo S k) := hown'.out.keptB hb1 (by omega)
      have hz1' := hb1.size
      cases hbit : S.testBit k with
      | true =>
        have hbit' := Lib.hid hbit
        clear hbit
        go_wp2_with (at_builtin; refine wpList_append_own _ rfl _ _ 36 rfl (w.heap.size + 1) 5 i0 (.int .u8 0) 1 1 Tryd.underlying36 hi hz0 hz1 hz2 rfl (by decide) _ _ _ rfl (hown1.alloc _) ⟨w1.heap.size, 0, none⟩ 1 1 [.int .u8 k] rfl rfl ?c1 ?c2 ?c3 ?c4 ?c5 ?_)
        case c1 => exact one_new _ _ _
        case c2 => intro u hu; simp at hu; subst hu; rfl
        case c3 => have := memTo_le S k; unfold maxLen; omega
        case c4 => have := memTo_le S k; omega
        case c5 => simp; omega
        intro v' w2 hown2 hg2 _
        go_wp2
        go_roundw
        case rel =>
          have hlow := hown1.lt
          refine ⟨k + 1, by omega, by go_num, ?_, ?_, ?_⟩
          · rw [memTo_yes S k hbit'.out]; exact OwnsB.snoc hown2
          · exact ((hR'.out.below hb1 (by omega)).alloc _).grown hg2 (fun h => by have := hlow _ h.symm; omega)
          · exact ((hb'.out.trans (hb1.mono (by omega))).alloc (by omega) _).grown hg2 (by simp; omega) (fun j hj => by have := hlow _ hj; omega)
        case measure => simp [intOf]; omega
      | false =>
        have hbit' := Lib.hid hbit
        clear hbit
        go_wp2
        go_roundw
        case rel => exact ⟨k + 1, by omega, by go_num, by rw [memTo_no S k hbit'.out]; exact hown1, hR'.out.below hb1 (by omega), hb'.out.trans (hb1.mono (by omega))⟩
        case measure => simp [intOf]; omega
    · have : k = 256 := by omega
      subst this
      have hb' := Lib.hid hb
      have hown' := Lib.hid hown
      clear hb hown
      go_wp2
      go_ret
      exact ⟨_, rfl, hown'.out, hb'.out⟩
end Go.Proofs.YteeopjgfiojoiaaDoor
namespace Go.Proofs.YteeopjgfiojoiaaDoor
open Go Go.RowKit SN

/-- The bytes of a list of numbers. -/
def toB (l : List Nat) : ByteArray := ⟨(l.map fun n => n.toUInt8).toArray⟩
theorem toB_size (l : List Nat) : (toB l).size = l.length := by show (l.map _).toArray.size = _; simp
theorem toB_list (l : List Nat) : (toB l).data.toList = l.map fun n => n.toUInt8 := by simp [toB]
theorem toB_get (l : List Nat) (hl : ∀ b ∈ l, b < 256) (i : Nat) (hi : i < (toB l).size) : (((toB l)[i]).toNat : Int) = ((l[i]'(by rw [← toB_size]; exact hi) : Nat) : Int) := by
  have hi' : i < l.length := by rw [← toB_size]; exact hi
  have h1 : (toB l)[i] = (l[i]).toUInt8 := by
    show (toB l).data[i] = _
    simp [toB]
  rw [h1]
  have := hl l[i] (List.getElem_mem hi')
  simp
  omega
/-- An own row of bytes reads as a text. -/
theorem OwnsB.hasB {w : World} {base : Nat} {v : Value} {l : List Nat} (h : OwnsB w base v l) (hl : ∀ b ∈ l, b < 256) : ∃ p cap, v = .slice p (toB l).size cap ∧ (toB l).size ≤ cap ∧ HasB w p (toB l) ∧ (∀ b o, p = some ⟨b, o, none⟩ → base ≤ b) := by
  rw [toB_size]
  rcases h.2 with ⟨rfl, h0⟩ | ⟨g, cap, cur, rfl, hg, hh, hnc, hcs⟩
  · have : l.length = 0 := h0
    exact ⟨none, 0, by rw [this], by omega, .inl (by rw [toB_size]; exact this), fun _ _ e => by cases e⟩
  · refine ⟨some ⟨g, 0, none⟩, cap, rfl, hnc, .inr ⟨g, 0, rfl, fun i hi => ?_, lt_of_block hh⟩, fun b o e => by cases e; exact hg⟩
    have hi' : i < l.length := by rw [← toB_size]; exact hi
    have hc := h.cells (g := g) rfl i (.int .u8 (l[i] : Nat)) (by simp [bv, hi'])
    rw [toB_get l hl i hi]
    have e : (⟨g, 0, none⟩ : Addr).add i = ⟨g, 0 + i, none⟩ := by unfold Addr.add; split <;> simp_all
    rw [← e]
    exact hc
theorem conv_any (p : Option Addr) (cap : Nat) (s : ByteArray) (w : World) (h : HasB w p s) : (convert 36 9 (.slice p s.size cap)).run Tryd.prog w = .ok (.string s) w := by
  rcases h with h | ⟨b, o, rfl, hc, -⟩
  · have hs : s = ByteArray.empty := by
      cases s with
      | mk d =>
        have : d = #[] := Array.size_eq_zero_iff.1 h
        subst this; rfl
    subst hs
    exact run_convert_bytes_zero w 36 5 Tryd.underlying36 Tryd.underlying5 p cap 9 Tryd.underlying9
  · have h := run_convert_bytes_back (P := Tryd.prog) w 36 9 5 ⟨b, o, none⟩ cap s.data.toList Tryd.underlying36 Tryd.underlying5 Tryd.underlying9 (fun j hj => by
      have hj' : j < s.size := by simpa using hj
      have h := hc j hj'
      have e : (⟨b, o, none⟩ : Addr).add j = ⟨b, o + j, none⟩ := by unfold Addr.add; split <;> simp_all
      rw [e, h]
      simp [ByteArray.getElem_eq_getElem_data])
    simpa using h
theorem HasB.below {w w' : World} {p : Option Addr} {s : ByteArray} {M : Nat} (h : HasB w p s) (hb : Below M w w') (hM : w.heap.size ≤ M) : HasB w' p s := h.keep (fun b _ _ hlt => hb.block b (by omega)) hb.size
/-- Two slices of bytes, as texts: the same or not. -/
theorem r1Bytes_any (p q : Option Addr) (c d : Nat) (s t : ByteArray) (w : World) (hp : HasB w p s) (hq : HasB w q t) :
    Calls Tryd.prog 33 #[.slice p s.size c, .slice q t.size d] w fun e w' => e = .returned (.bool (s.toList == t.toList)) ∧ w = w' := by
  have h1 := conv_any p c s w hp
  have h2 := conv_any q d t w hq
  clear hp hq
  go_enter Tryd.func33, Tryd.ntmps33
  go_wp2_with fail
  go_ret
  exact ⟨rfl, rfl⟩
end Go.Proofs.YteeopjgfiojoiaaDoor
