/- A set's text: as a plain law; strings.Builder's contracts; set.hex, set.Text; pidginref1.Hex, pidginref5.Text; two texts joined. Their conditions stand with each. -/
import Derived.Test.YteeopjgfiojoiaaDoorWal
import Derived.Handy
import Derived.Outline
import Derived.Shelf.Strings.Builder1
import Derived.Test.YteeopjgfiojoiaaDoorShelf
import Derived.Test.YteeopjgfiojoiaaDoorChecked
import Derived.Test.YteeopjgfiojoiaaDoorWRanges
import Derived.Lib.ConvBytes
import Derived.Deep.RegionLawGrows
import Derived.Test.YteeopjgfiojoiaaDoorSetR
import Derived.Test.YteeopjgfiojoiaaDoorItA
import Derived.IntWalk
namespace Go.Proofs.YteeopjgfiojoiaaDoor
open Go Go.RowKit SN

/-- A digit to the base 16. -/
def digB : ByteArray := ⟨#[48, 49, 50, 51, 52, 53, 54, 55, 56, 57, 97, 98, 99, 100, 101, 102]⟩
def dig (n : Nat) : UInt8 := digB.data.toList.getD n 0
theorem dig_get (n : Nat) (h : n < digB.size) : digB[n] = dig n := by
  have hl : n < digB.data.toList.length := h
  unfold dig
  rw [List.getD_eq_getElem?_getD, List.getElem?_eq_getElem hl]
  rfl
set_option maxHeartbeats 1000000 in
set_option maxRecDepth 100000 in
theorem Base_any (n : Nat) (hn : n < 16) (w : World) :
    Calls Tryd.prog 71 #[.int .u64 n, .int .i64 16, .bool false] w fun e w' => e = .returned (.string ⟨#[dig n]⟩) ∧ Below w.heap.size w w' := by
  have hr : (n : Int) % 16 = n := by omega
  have hq : (n : Int) / 16 = 0 := by omega
  have hcv : ∀ (W : World) (x : UInt8), W.cell? ⟨w.heap.size, 63, none⟩ = some (.int .u8 x.toNat) → w.heap.size < W.heap.size → (convert 36 9 (.slice (some ⟨w.heap.size, 63, none⟩) 1 1)).run Tryd.prog W = .ok (.string ⟨#[x]⟩) W := fun W x hc hl => by
    refine conv_any (some ⟨w.heap.size, 63, none⟩) 1 ⟨#[x]⟩ W (.inr ⟨w.heap.size, 63, rfl, ?_, hl⟩)
    intro i hi
    have hi0 : i = 0 := by have : i < 1 := hi; omega
    subst hi0
    exact hc
  go_enter Tryd.func71, Tryd.ntmps71
  go_wp2_with fail
  generalize hW : World.alloc _ _ = W
  go_loopw [0, 9] (fun n0 i wr => n0 = .int .u64 n ∧ i = .int .i64 64 ∧ wr = W) (fun _ _ _ => 0)
  case atStart => exact ⟨rfl, rfl, rfl⟩
  case round =>
    obtain ⟨rfl, rfl, rfl⟩ := hrel
    subst hW
    go_wp2_with fail
    rw [hcv _ (digB[n]'(by show n < 16; omega)) (row_cell (heap_alloc_new w _) (by rfl)) (by simp)]
    go_wp2_with fail
    go_ret
    exact ⟨by rw [dig_get]; rfl, (Below.refl _ _).alloc (Nat.le_refl _) _⟩
/-- A byte to the base 16. -/
def hexB (b : Nat) : ByteArray := ⟨#[dig (b / 16), dig (b % 16)]⟩
set_option maxHeartbeats 1000000 in
set_option maxRecDepth 100000 in
theorem Hex_any (b : Nat) (hb : b < 256) (w : World) :
    Calls Tryd.prog 56 #[.int .u8 b] w fun e w' => e = .returned (.string (hexB b)) ∧ Below w.heap.size w w' := by
  have h1 : b / 16 < 16 := by omega
  have h2 : b % 16 < 16 := by omega
  have hd : (b : Int) / 16 = (b / 16 : Nat) := by omega
  have hbi : (b : Int) < 256 := by omega
  have ha : bits .and .u8 (b : Int) 15 = (b % 16 : Nat) := by
    have : ∀ b : Fin 256, bits .and .u8 ((b.val : Nat) : Int) 15 = ((b.val % 16 : Nat) : Int) := by decide +kernel
    exact this ⟨b, hb⟩
  have hsh : ∀ W : World, (binOp .shr 5 (.int .u8 b) (.int .u64 4)).run Tryd.prog W = .ok (.int .u8 (b / 16 : Nat)) W := fun W => by
    have hs := shift_shr_u8 (yk := .u64) (x := (b : Int)) (y := 4) (by decide) (by decide)
    rw [binOp_shr, hs]
    show Result.ok (Value.int .u8 ((b : Int) / 2 ^ 4)) W = _
    rw [show ((2 : Int) ^ 4) = 16 by decide, hd]
  unfold hexB
  generalize hq1 : b / 16 = q at *
  generalize hq2 : b % 16 = r at *
  have hqi : (q : Int) < 16 := by omega
  have hri : (r : Int) < 16 := by omega
  go_enter Tryd.func56, Tryd.ntmps56
  go_wp2_with fail
  refine (Base_any q h1 _).mono ?_
  rintro e wX ⟨rfl, bX⟩
  have zX := bX.size
  go_wp2_with fail
  refine (Base_any r h2 _).mono ?_
  rintro e wY ⟨rfl, bY⟩
  go_wp2_with fail
  go_ret
  exact ⟨rfl, bX.trans (bY.mono zX)⟩
end Go.Proofs.YteeopjgfiojoiaaDoor
namespace Go.Proofs.YteeopjgfiojoiaaDoor
open Go Go.RowKit SN

/-- A byte to the base 16; a run; the runs behind one another. -/
def hx (b : Nat) : List UInt8 := [dig (b / 16), dig (b % 16)]
theorem hexB_list (b : Nat) : (hexB b).data.toList = hx b := rfl
def emit (f c : Nat) : List UInt8 := hx f ++ (if f < c then 45 :: hx c else [])
def runT (f c : Nat) : List Nat → List UInt8
  | [] => emit f c
  | y :: t => if y = c + 1 then runT f y t else emit f c ++ 44 :: runT y y t
def tl0 : List Nat → List UInt8
  | [] => []
  | y :: t => runT y y t
def tl1 : List Nat → List UInt8
  | [] => []
  | y :: t => 44 :: runT y y t
/-- What is still to be written behind o. -/
def tlx (o : List UInt8) (l : List Nat) : List UInt8 := if o = [] then tl0 l else tl1 l
def inner (S : Nat) : List UInt8 := tl0 (mem S)
def txt (S : Nat) : List UInt8 := 91 :: (inner S ++ [93])

theorem emit_len (f c : Nat) : (emit f c).length ≤ 5 := by
  unfold emit hx
  split <;> simp
theorem emit_ne (f c : Nat) (r : List UInt8) : emit f c ++ r ≠ [] := by
  unfold emit hx; simp
theorem runT_len : ∀ (l : List Nat) (f c : Nat), (runT f c l).length ≤ 6 * l.length + 5
  | [], f, c => by simpa [runT] using emit_len f c
  | y :: t, f, c => by
    unfold runT
    have h1 := emit_len f c
    split
    · have := runT_len t f y; simp; omega
    · have := runT_len t y y; simp; omega
theorem tl0_len (l : List Nat) : (tl0 l).length ≤ 6 * l.length := by
  cases l with
  | nil => simp [tl0]
  | cons y t => have := runT_len t y y; simp [tl0]; omega
theorem mem_len (S : Nat) : (mem S).length ≤ 256 := by
  have := List.length_filter_le S.testBit (List.range 256)
  simpa [mem] using this
theorem inner_len (S : Nat) : (inner S).length ≤ 1536 := by
  have h1 := tl0_len (mem S); have h2 := mem_len S
  unfold inner; omega

/-- The members from k on. -/
def memFrom (S k : Nat) : List Nat := (List.range' k (256 - k)).filter S.testBit
theorem memFrom_0 (S : Nat) : memFrom S 0 = mem S := by simp [memFrom, mem, List.range_eq_range']
theorem memFrom_end (S : Nat) : memFrom S 256 = [] := by simp [memFrom]
theorem memFrom_succ (S k : Nat) (h : k < 256) : memFrom S k = if S.testBit k then k :: memFrom S (k + 1) else memFrom S (k + 1) := by
  unfold memFrom
  have e : 256 - k = (256 - (k + 1)) + 1 := by omega
  rw [e, List.range'_succ, List.filter_cons]
theorem memFrom_yes (S k : Nat) (h : k < 256) (hb : S.testBit k = true) : memFrom S k = k :: memFrom S (k + 1) := by rw [memFrom_succ S k h, if_pos hb]
theorem memFrom_no (S k : Nat) (h : k < 256) (hb : S.testBit k = false) : memFrom S k = memFrom S (k + 1) := by rw [memFrom_succ S k h]; simp [hb]
theorem memFrom_ge (S k x : Nat) (h : x ∈ memFrom S k) : k ≤ x := by
  unfold memFrom at h
  have := (List.mem_filter.1 h).1
  rw [List.mem_range'_1] at this
  exact this.1
/-- A run goes on. -/
theorem run_go (S f b : Nat) (h : b + 1 < 256) (hb : S.testBit (b + 1) = true) : runT f b (memFrom S (b + 1)) = runT f (b + 1) (memFrom S (b + 1 + 1)) := by
  rw [memFrom_yes S (b + 1) h hb]
  show (if b + 1 = b + 1 then _ else _) = _
  rw [if_pos rfl]
theorem runT_stop (f b : Nat) (l : List Nat) (h : ∀ x ∈ l, b + 1 < x) : runT f b l = emit f b ++ tl1 l := by
  cases l with
  | nil => simp [runT, tl1]
  | cons y t =>
    have := h y (by simp)
    show (if y = b + 1 then _ else _) = _
    rw [if_neg (by omega)]
    rfl
/-- A run ends. -/
theorem run_end (S f b : Nat) (h : b < 256) (hb : b = 255 ∨ S.testBit (b + 1) = false) : runT f b (memFrom S (b + 1)) = emit f b ++ tl1 (memFrom S (b + 1)) := by
  refine runT_stop f b _ fun x hx => ?_
  rcases hb with rfl | hb
  · rw [memFrom_end] at hx; cases hx
  · by_cases h2 : b + 1 < 256
    · rw [memFrom_no S (b + 1) h2 hb] at hx
      have := memFrom_ge S _ _ hx
      omega
    · have : b = 255 := by omega
      subst this
      rw [memFrom_end] at hx; cases hx
/-- The text so far and what is still to come. -/
def TxtAt (S : Nat) (o : List UInt8) (b : Nat) : Prop := inner S = o ++ tlx o (memFrom S b)
def TxtRun (S : Nat) (o : List UInt8) (f b : Nat) : Prop := inner S = o ++ (if o = [] then [] else [44]) ++ runT f b (memFrom S (b + 1))
theorem txt_start (S : Nat) : TxtAt S [] 0 := by
  unfold TxtAt tlx inner; rw [memFrom_0]; simp
theorem txt_skip (S b : Nat) (o : List UInt8) (hb : b < 256) (h : TxtAt S o b) (hn : S.testBit b = false) : TxtAt S o (b + 1) := by
  unfold TxtAt at *; rw [← memFrom_no S b hb hn]; exact h
theorem txt_open (S b : Nat) (o : List UInt8) (hb : b < 256) (h : TxtAt S o b) (hn : S.testBit b = true) : TxtRun S o b b := by
  unfold TxtAt tlx at h; unfold TxtRun
  rw [h, memFrom_yes S b hb hn]
  by_cases ho : o = []
  · simp [ho, tl0]
  · simp [ho, tl1]
theorem txt_on (S f b : Nat) (o : List UInt8) (hb : b + 1 < 256) (h : TxtRun S o f b) (hn : S.testBit (b + 1) = true) : TxtRun S o f (b + 1) := by
  unfold TxtRun at *; rw [h, run_go S f b hb hn]
theorem txt_close (S f b : Nat) (o : List UInt8) (hb : b < 256) (h : TxtRun S o f b) (hn : b = 255 ∨ S.testBit (b + 1) = false) : TxtAt S (o ++ (if o = [] then [] else [44]) ++ emit f b) (b + 1) := by
  have hne : ¬ (o ++ (if o = [] then [] else [44]) ++ emit f b = []) := by simp [emit, hx]
  unfold TxtRun at h; unfold TxtAt tlx
  rw [h, run_end S f b hb hn, if_neg hne]
  simp
theorem txt_end (S : Nat) (o : List UInt8) (h : TxtAt S o 256) : o = inner S := by
  unfold TxtAt tlx at h
  rw [memFrom_end] at h
  rw [h]; split <;> simp [tl0, tl1]
theorem txt_len {S b : Nat} {o : List UInt8} (h : TxtAt S o b) : o.length ≤ 1536 := by
  have h1 := inner_len S
  have h2 := congrArg List.length h
  simp at h2; omega
theorem txtRun_len {S f b : Nat} {o : List UInt8} (h : TxtRun S o f b) : o.length ≤ 1536 := by
  have h1 := inner_len S
  have h2 := congrArg List.length h
  simp at h2; omega
theorem txt_zero : txt 0 = [91, 93] := by decide
/-- The same over the list of members, by places. -/
def LAt (S : Nat) (o : List UInt8) (i : Nat) : Prop := inner S = o ++ (if i = 0 then tl0 (mem S) else tl1 ((mem S).drop i))
def LRun (S : Nat) (o : List UInt8) (i k : Nat) : Prop := inner S = o ++ (if i = 0 then [] else [44]) ++ runT ((mem S).getD i 0) ((mem S).getD k 0) ((mem S).drop (k + 1))
theorem drop_get (l : List Nat) (i : Nat) (h : i < l.length) : l.drop i = l.getD i 0 :: l.drop (i + 1) := by
  rw [List.drop_eq_getElem_cons h, List.getD_eq_getElem?_getD, List.getElem?_eq_getElem h]; rfl
theorem l_start (S : Nat) : LAt S [] 0 := by simp [LAt, inner]
theorem l_open (S i : Nat) (o : List UInt8) (hi : i < (mem S).length) (h : LAt S o i) : LRun S o i i := by
  unfold LAt at h; unfold LRun
  rw [h]
  by_cases h0 : i = 0
  · subst h0
    have e := drop_get (mem S) 0 hi
    rw [List.drop_zero] at e
    rw [if_pos rfl, if_pos rfl]
    conv => lhs; rw [e]
    simp [tl0]
  · rw [if_neg h0, if_neg h0, drop_get _ _ hi]
    simp [tl1]
theorem l_on (S i k : Nat) (o : List UInt8) (hk : k + 1 < (mem S).length) (h : LRun S o i k) (he : (mem S).getD (k + 1) 0 = (mem S).getD k 0 + 1) : LRun S o i (k + 1) := by
  unfold LRun at *
  rw [h, drop_get _ _ hk, he]
  show _ ++ (if _ = _ then _ else _) = _
  rw [if_pos rfl]
theorem mem_sorted (S : Nat) : (mem S).Pairwise (· < ·) := List.Pairwise.filter _ (List.pairwise_lt_range (n := 256))
theorem memS_lt (S b : Nat) (h : b ∈ mem S) : b < 256 := by
  have := (List.mem_filter.1 h).1
  simpa using this
theorem getD_mem (l : List Nat) (i : Nat) (h : i < l.length) : l.getD i 0 ∈ l := by
  rw [List.getD_eq_getElem?_getD, List.getElem?_eq_getElem h]; exact List.getElem_mem h
theorem mem_getD_lt (S i : Nat) : (mem S).getD i 0 < 256 := by
  by_cases h : i < (mem S).length
  · exact memS_lt S _ (getD_mem _ _ h)
  · simp [List.getD_eq_getElem?_getD, List.getElem?_eq_none (Nat.le_of_not_lt h)]
theorem mem_rise (S i k : Nat) (hik : i < k) (hk : k < (mem S).length) : (mem S).getD i 0 < (mem S).getD k 0 := by
  have h := List.pairwise_iff_getElem.1 (mem_sorted S) i k (by omega) hk hik
  simpa [List.getD_eq_getElem?_getD, List.getElem?_eq_getElem, hk, (by omega : i < (mem S).length)] using h
theorem l_close (S i k : Nat) (o : List UInt8) (hk : k < (mem S).length) (h : LRun S o i k) (he : k + 1 = (mem S).length ∨ (mem S).getD (k + 1) 0 ≠ (mem S).getD k 0 + 1) :
    LAt S (o ++ (if i = 0 then [] else [44]) ++ emit ((mem S).getD i 0) ((mem S).getD k 0)) (k + 1) := by
  unfold LRun at h; unfold LAt
  rw [h, if_neg (by omega : ¬ k + 1 = 0), runT_stop]
  · simp
  · intro x hx
    obtain ⟨j, hj, rfl⟩ := List.getElem_of_mem hx
    rw [List.length_drop] at hj
    rw [List.getElem_drop]
    have e : ∀ m, (hm : m < (mem S).length) → (mem S)[m] = (mem S).getD m 0 := fun m hm => by simp [List.getD_eq_getElem?_getD, List.getElem?_eq_getElem hm]
    rw [e _ (by omega)]
    have h1 := mem_rise S k (k + 1) (by omega) (by omega)
    by_cases hj0 : j = 0
    · subst hj0; simp only [Nat.add_zero]; omega
    · have h2 := mem_rise S (k + 1) (k + 1 + j) (by omega) (by omega)
      omega
theorem l_end (S : Nat) (o : List UInt8) (h : LAt S o (mem S).length) : o = inner S := by
  unfold LAt at h
  rw [h]
  split
  next h0 => 
    have : mem S = [] := List.eq_nil_of_length_eq_zero h0
    simp [this, tl0]
  next => simp [tl1]
theorem l_len {S i : Nat} {o : List UInt8} (h : LAt S o i) : o.length ≤ 1536 := by
  have h1 := inner_len S
  have h2 := congrArg List.length h
  simp at h2; omega
theorem lRun_len {S i k : Nat} {o : List UInt8} (h : LRun S o i k) : o.length ≤ 1536 := by
  have h1 := inner_len S
  have h2 := congrArg List.length h
  simp at h2; omega
end Go.Proofs.YteeopjgfiojoiaaDoor
namespace Go.Proofs.YteeopjgfiojoiaaDoor
open Go Go.RowKit Go.Shelf
def bld_ren : Go.Shelf.Ren := ⟨fun | 166 => 55 | 167 => 54 | 240 => 70 | 276 => 82 | n => n, fun | 0 => 0 | 3 => 3 | 4 => 4 | 5 => 5 | 9 => 9 | 20 => 20 | 37 => 36 | 70 => 81 | 72 => 83 | 75 => 46 | 164 => 126 | 80 => 59 | 127 => 117 | n => n, fun | n => n⟩
theorem bld166 : Go.Proofs.Lays.n166 Tryd.prog bld_ren := {
  mixed := by kernel_rfl
  f166 := Tryd.func55.trans (congrArg some (by kernel_rfl))
  f240 := Tryd.func70.trans (congrArg some (by kernel_rfl))
  f276 := Tryd.func82.trans (congrArg some (by kernel_rfl))
  t0 := Tryd.underlying0
  a0 := Tryd.isAgg0
  z0 := Tryd.sizeOf0
  v0 := Tryd.zeroValue0
  t3 := Tryd.underlying3
  a3 := Tryd.isAgg3
  z3 := Tryd.sizeOf3
  v3 := Tryd.zeroValue3
  t4 := Tryd.underlying4
  a4 := Tryd.isAgg4
  z4 := Tryd.sizeOf4
  v4 := Tryd.zeroValue4
  t9 := Tryd.underlying9
  a9 := Tryd.isAgg9
  z9 := Tryd.sizeOf9
  v9 := Tryd.zeroValue9
  t20 := Tryd.underlying20
  a20 := Tryd.isAgg20
  z20 := Tryd.sizeOf20
  v20 := Tryd.zeroValue20
  t37 := Tryd.underlying36
  a37 := Tryd.isAgg36
  z37 := Tryd.sizeOf36
  v37 := Tryd.zeroValue36
  t70 := Tryd.underlying81
  a70 := Tryd.isAgg81
  z70 := Tryd.sizeOf81
  v70 := Tryd.zeroValue81
  t72 := Tryd.underlying83
  a72 := Tryd.isAgg83
  z72 := Tryd.sizeOf83
  v72 := Tryd.zeroValue83
  t75 := Tryd.underlying46
  a75 := Tryd.isAgg46
  z75 := Tryd.sizeOf46
  v75 := Tryd.zeroValue46
  t164 := Tryd.underlying126
  a164 := Tryd.isAgg126
  z164 := Tryd.sizeOf126
  v164 := Tryd.zeroValue126 }
theorem bld167 : Go.Proofs.Lays.n167 Tryd.prog bld_ren := {
  mixed := by kernel_rfl
  f167 := Tryd.func54.trans (congrArg some (by kernel_rfl))
  f240 := Tryd.func70.trans (congrArg some (by kernel_rfl))
  f276 := Tryd.func82.trans (congrArg some (by kernel_rfl))
  t0 := Tryd.underlying0
  a0 := Tryd.isAgg0
  z0 := Tryd.sizeOf0
  v0 := Tryd.zeroValue0
  t4 := Tryd.underlying4
  a4 := Tryd.isAgg4
  z4 := Tryd.sizeOf4
  v4 := Tryd.zeroValue4
  t5 := Tryd.underlying5
  a5 := Tryd.isAgg5
  z5 := Tryd.sizeOf5
  v5 := Tryd.zeroValue5
  t9 := Tryd.underlying9
  a9 := Tryd.isAgg9
  z9 := Tryd.sizeOf9
  v9 := Tryd.zeroValue9
  t20 := Tryd.underlying20
  a20 := Tryd.isAgg20
  z20 := Tryd.sizeOf20
  v20 := Tryd.zeroValue20
  t37 := Tryd.underlying36
  a37 := Tryd.isAgg36
  z37 := Tryd.sizeOf36
  v37 := Tryd.zeroValue36
  t70 := Tryd.underlying81
  a70 := Tryd.isAgg81
  z70 := Tryd.sizeOf81
  v70 := Tryd.zeroValue81
  t72 := Tryd.underlying83
  a72 := Tryd.isAgg83
  z72 := Tryd.sizeOf83
  v72 := Tryd.zeroValue83
  t75 := Tryd.underlying46
  a75 := Tryd.isAgg46
  z75 := Tryd.sizeOf46
  v75 := Tryd.zeroValue46
  t164 := Tryd.underlying126
  a164 := Tryd.isAgg126
  z164 := Tryd.sizeOf126
  v164 := Tryd.zeroValue126 }
theorem bldX : Builder.Extra Tryd.prog bld_ren := {
  sizeBuilder := by kernel_rfl
  liesBuilder := by kernel_rfl
  t5 := Tryd.underlying5
  a5 := Tryd.isAgg5
  z5 := Tryd.sizeOf5
  v5 := Tryd.zeroValue5
  infoByte := by kernel_rfl
  cellsByte := by kernel_rfl
  sizeByte := by kernel_rfl
  neB5 := by decide }
/-- A Builder of the call's own. -/
abbrev IsB (B b : Nat) (l : List UInt8) (w : World) : Prop := Lib.IsBuilder 83 5 B b (Lib.byteCells l) w
theorem byteCells_append (a b : List UInt8) : Lib.byteCells (a ++ b) = Lib.byteCells a ++ Lib.byteCells b := by simp [Lib.byteCells]
theorem byteCells_len (a : List UInt8) : (Lib.byteCells a).length = a.length := by simp [Lib.byteCells]
theorem WriteByte_any (B b : Nat) (l : List UInt8) (c : UInt8) (w : World) (h : IsB B b l w) (hl : l.length + 1 ≤ 140737488355328) (hB : B ≤ w.heap.size) :
    Calls Tryd.prog 54 #[.pointer (some ⟨b, 0, none⟩), .int .u8 c.toNat] w fun e w' => e = .returned .nilIface ∧ IsB B b (l ++ [c]) w' ∧ Below B w w' := by
  refine (Any.Builder_WriteByte bld167 bldX B b _ (c.toNat : Int) w h (by rw [byteCells_len]; exact hl) hB).mono ?_
  rintro e w' ⟨rfl, h', hb⟩
  exact ⟨rfl, by unfold IsB; rw [byteCells_append]; exact Or.inr h', hb⟩
theorem WriteString_any (B b : Nat) (l : List UInt8) (s : ByteArray) (w : World) (h : IsB B b l w) (hl : l.length + s.size ≤ 140737488355328) (hB : B ≤ w.heap.size) :
    Calls Tryd.prog 55 #[.pointer (some ⟨b, 0, none⟩), .string s] w fun e w' => e = .returned (.tuple #[.int .i64 s.size, .nilIface]) ∧ IsB B b (l ++ s.data.toList) w' ∧ Below B w w' := by
  refine (Any.Builder_WriteString bld166 bldX B b _ s w h (by rw [byteCells_len]; exact hl) hB).mono ?_
  rintro e w' ⟨rfl, h', hb⟩
  exact ⟨rfl, by unfold IsB; rw [byteCells_append]; exact Or.inr h', hb⟩
theorem BLen_any (B b : Nat) (l : List UInt8) (w : World) (h : IsB B b l w) :
    Calls Tryd.prog 53 #[.pointer (some ⟨b, 0, none⟩)] w fun e w' => e = .returned (.int .i64 l.length) ∧ w = w' := by
  have h1 := Tryd.Builder_Len B b _ w h
  rw [byteCells_len] at h1
  exact h1.mono fun e w' ⟨he, hw⟩ => ⟨he, hw.symm⟩
theorem BText_any (B b : Nat) (l : List UInt8) (w : World) (h : IsB B b l w) (hB : B ≤ w.heap.size) :
    Calls Tryd.prog 57 #[.pointer (some ⟨b, 0, none⟩)] w fun e w' => e = .returned (.string ⟨l.toArray⟩) ∧ Below B w w' := Tryd.Builder_String_any B b l w h hB
theorem IsB.fresh (w : World) : IsB w.heap.size w.heap.size [] (w.alloc (.cells #[.pointer none, .slice none 0 0] 83)) := Lib.fresh_isBuilder _ _ w
theorem IsB.below {B b M : Nat} {l : List UInt8} {w w' : World} (h : IsB B b l w) (hb : Below M w w') (hM : w.heap.size ≤ M) : IsB B b l w' := by
  have key : ∀ p, Lib.BuilderAt 83 5 B b p (Lib.byteCells l) w → Lib.BuilderAt 83 5 B b p (Lib.byteCells l) w' := fun p hp => by
    have hlt := hp.lt
    obtain ⟨h1, v, h2, h3, h4⟩ := hp
    refine ⟨h1, v, by rw [hb.block b (by omega)]; exact h2, ⟨h3.1, ?_⟩, h4⟩
    rcases h3.2 with h5 | ⟨g, cap, cur, hv, hg, hh, r⟩
    · exact .inl h5
    · exact .inr ⟨g, cap, cur, hv, hg, by rw [hb.block g (by have := lt_of_block hh; omega)]; exact hh, r⟩
  exact h.elim (fun h => .inl (key _ h)) (fun h => .inr (key _ h))
end Go.Proofs.YteeopjgfiojoiaaDoor
namespace Go.Proofs.YteeopjgfiojoiaaDoor
open Go Go.RowKit SN

theorem ba_append (a b : List UInt8) : (⟨a.toArray⟩ ++ ⟨b.toArray⟩ : ByteArray) = ⟨(a ++ b).toArray⟩ := by
  apply ByteArray.ext
  simp
theorem run_cat (a b : List UInt8) (h : a.length + b.length ≤ 9223372036854775807) (W : World) : (binOp .add 9 (.string ⟨a.toArray⟩) (.string ⟨b.toArray⟩)).run Tryd.prog W = .ok (.string ⟨(a ++ b).toArray⟩) W := by
  rw [← ba_append]
  have hu := Tryd.underlying9
  have hs : ¬ 9223372036854775807 < a.length + b.length := by omega
  go_simp
theorem catGuard (x y : Operand) (s t : ByteArray) (w : World) : (eqGuard .add 9 x y (.string s) (.string t)).run Tryd.prog w = .ok () w := by kernel_rfl
section
variable {ops : Array Oper} {Q : Exit → Act → World → Prop} {a : Act} {w : World} {rest : List Oper} {o : Oper}
theorem cat_arm (hw : Region.wanted o (yielded ops a.tmps) = true) (x y : Operand) (ho : o.op = .binOp .add 9 x y 9) (s t : List UInt8) (hx : a.eval x = .string ⟨s.toArray⟩) (hy : a.eval y = .string ⟨t.toArray⟩) (h : s.length + t.length ≤ 9223372036854775807)
    (hk : wpList Tryd.prog ops Q rest (a.put o.dst (.string ⟨(s ++ t).toArray⟩)) w) : wpList Tryd.prog ops Q (o :: rest) a w :=
  wpList_wanted hw fun K hK => by
    unfold Oper.wp execOp
    simp only [ho, hx, hy, Sem.run_bind, catGuard, run_cat s t h, Result.andThen_ok]
    exact hK _ _ hk
end
end Go.Proofs.YteeopjgfiojoiaaDoor
namespace Go.Proofs.YteeopjgfiojoiaaDoor
open Go Go.RowKit SN

theorem dash_size (n : Nat) : (⟨#[45]⟩ ++ hexB n : ByteArray).size = 3 := rfl
theorem dash_list (n : Nat) : (⟨#[45]⟩ ++ hexB n : ByteArray).data.toList = 45 :: hx n := rfl
theorem emit_yes (o : List UInt8) (k j : Nat) (h : k < j) : o ++ emit k j = o ++ (hexB k).data.toList ++ (45 :: hx j) := by unfold emit; rw [if_pos h, hexB_list]; simp
theorem emit_no (o : List UInt8) (k j : Nat) (h : ¬ k < j) : o ++ emit k j = o ++ (hexB k).data.toList := by unfold emit; rw [if_neg h, hexB_list]; simp
theorem dash_room (o : List UInt8) (k j : Nat) (h : o.length ≤ 1537) : (o ++ (hexB k).data.toList).length + ((⟨#[45]⟩ : ByteArray) ++ hexB j).size ≤ 140737488355328 := by
  have h1 : (hx k).length = 2 := rfl
  rw [dash_size, List.length_append, hexB_list, h1]; omega
theorem txt_join (S : Nat) : (⟨#[91]⟩ ++ ⟨(inner S).toArray⟩ ++ ⟨#[93]⟩ : ByteArray) = ⟨(txt S).toArray⟩ := by
  have h1 := ba_append [91] (inner S)
  have h2 := ba_append ([91] ++ inner S) [93]
  rw [← h1] at h2
  exact h2.trans (by simp [txt])
set_option maxHeartbeats 4000000 in
set_option maxRecDepth 100000 in
theorem Text_pos (S : Nat) (oS : Ok S) (h0 : S ≠ 0) (w : World) : Calls Tryd.prog 35 #[sv S] w fun e w' => e = .returned (.string ⟨(txt S).toArray⟩) ∧ Below w.heap.size w w' := by
  show Calls Tryd.prog 35 #[.agg #[.int .u64 (word S 0), .int .u64 (word S 1), .int .u64 (word S 2), .int .u64 (word S 3)]] w _
  have hb : (Instr.build 24 #[]).run Tryd.prog = fun w => .ok (sv 0) w := by funext w; kernel_rfl
  have he : ∀ W, (binOp .eql 24 (sv S) (sv 0)).run Tryd.prog W = .ok (.bool false) W := fun W => by rw [run_eql_set S 0 oS ok_zero W, decide_eq_false h0]
  have he' := Lib.hid he
  clear he h0
  go_enter Tryd.func35, Tryd.ntmps35
  go_wp2_with (first | (refine load_set rfl _ rfl _ rfl ⟨S, IsSet.new' _ _ _ _ rfl, ?_⟩) | (refine eq_setsg rfl _ _ rfl S 0 rfl rfl false (he'.out _) ?_))
  have iB := IsB.fresh (w.alloc (.cells #[.int .u64 (word S 0), .int .u64 (word S 1), .int .u64 (word S 2), .int .u64 (word S 3)] 24))
  rw [World.size_alloc] at iB
  have iB' := Lib.hid iB
  clear iB hb he'
  go_loopw [4] (fun i wr => ∃ (k : Nat) (o : List UInt8), k ≤ 256 ∧ i = .int .i64 k ∧ w.heap.size + 1 < wr.heap.size ∧ TxtAt S o k ∧ IsB (w.heap.size + 1) (w.heap.size + 1) o wr ∧ IsSet 24 wr w.heap.size S ∧ Below w.heap.size w wr) (fun i _ => 256 - (intOf i).toNat)
  case atStart => exact ⟨0, [], Nat.zero_le _, rfl, by simp, txt_start S, iB'.out, (IsSet.new' _ _ _ _ rfl).alloc _, ((Below.refl _ _).alloc (Nat.le_refl _) _).alloc (by simp) _⟩
  case round =>
    clear iB'
    obtain ⟨k, o, hk, rfl, hz, hT, hB, hR, hbl⟩ := hrel
    have hT' := Lib.hid hT
    have hB' := Lib.hid hB
    have hbl' := Lib.hid hbl
    have hR' := Lib.hid hR
    clear hT hB hbl
    by_cases hlt : k < 256
    · cases hbit : S.testBit k with
      | false =>
        have hbit' := Lib.hid hbit
        have hh := Lib.hid (show ∀ W, Calls Tryd.prog 30 #[sv S, .int .u8 k] W fun e w' => e = .returned (.bool false) ∧ Below W.heap.size W w' from fun W => by rw [← hbit]; exact Has_any S k hlt W)
        clear hbit
        go_wp2_with (first | (refine load_set rfl _ rfl _ rfl ⟨S, hR, ?_⟩) | (go_at_call 30; refine (hh.out _).mono ?_; rintro e w1 ⟨rfl, b1⟩; have z1 := b1.size))
        have q1 := hB'.out.below b1 (Nat.le_refl _)
        have q2 := hR'.out.below b1 (by omega)
        have q3 := hbl'.out.trans (b1.mono (by omega))
        have q1' := Lib.hid q1
        have q2' := Lib.hid q2
        have q3' := Lib.hid q3
        clear q1 q2 q3 b1
        go_roundw
        case rel => exact ⟨k + 1, o, by omega, by go_num, by omega, txt_skip S k o hlt hT'.out hbit'.out, q1'.out, q2'.out, q3'.out⟩
        case measure => simp [intOf]; omega
      | true =>
        have hbit' := Lib.hid hbit
        have hh := Lib.hid (show ∀ W, Calls Tryd.prog 30 #[sv S, .int .u8 k] W fun e w' => e = .returned (.bool true) ∧ Below W.heap.size W w' from fun W => by rw [← hbit]; exact Has_any S k hlt W)
        clear hbit
        go_wp2_with (first | (refine load_set rfl _ rfl _ rfl ⟨S, hR, ?_⟩) | (go_at_call 30; refine (hh.out _).mono ?_; rintro e w1 ⟨rfl, b1⟩; have z1 := b1.size))
        have q1 := hB'.out.below b1 (Nat.le_refl _)
        have q2 := hR'.out.below b1 (by omega)
        have q3 := hbl'.out.trans (b1.mono (by omega))
        have qT := txt_open S k o hlt hT'.out hbit'.out
        have q1' := Lib.hid q1
        have q2' := Lib.hid q2
        have q3' := Lib.hid q3
        have qT' := Lib.hid qT
        have hz1 : w.heap.size + 1 < w1.heap.size := by omega
        clear q1 q2 q3 qT b1 hB' hR' hR hbl' hT' hh hbit' z1 hz
        go_loopw [4] (fun i wi => ∃ (j : Nat), k ≤ j ∧ j < 256 ∧ i = .int .i64 j ∧ w.heap.size + 1 < wi.heap.size ∧ TxtRun S o k j ∧ IsB (w.heap.size + 1) (w.heap.size + 1) o wi ∧ IsSet 24 wi w.heap.size S ∧ Below w.heap.size w wi) (fun i _ => 256 - (intOf i).toNat)
        case atStart => exact ⟨k, Nat.le_refl _, hlt, rfl, hz1, qT'.out, q1'.out, q2'.out, q3'.out⟩
        case round =>
          clear q1' q2' q3' qT' hz1
          obtain ⟨j, hkj, hj, rfl, hz, hT, hB, hR, hbl⟩ := hrel
          have hT' := Lib.hid hT
          have hB' := Lib.hid hB
          have hbl' := Lib.hid hbl
          have hR' := Lib.hid hR
          clear hT hB hbl
          by_cases hgo : j < 255 ∧ S.testBit (j + 1) = true
          · obtain ⟨hj5, hbit⟩ := hgo
            have hbit' := Lib.hid hbit
            have hh := Lib.hid (show ∀ W, Calls Tryd.prog 30 #[sv S, .int .u8 ((j : Int) + 1)] W fun e w' => e = .returned (.bool true) ∧ Below W.heap.size W w' from fun W => by rw [← hbit]; exact Has_any S (j + 1) (by omega) W)
            obtain ⟨⟨c0, c1, c2, c3⟩, -, -⟩ := hR.all
            clear hbit hR
            go_wp2_with (first | (go_at_call 30; refine (hh.out _).mono ?_; rintro e w1 ⟨rfl, b1⟩; have z1 := b1.size))
            have q1 := hB'.out.below b1 (Nat.le_refl _)
            have q2 := hR'.out.below b1 (by omega)
            have q3 := hbl'.out.trans (b1.mono (by omega))
            have q1' := Lib.hid q1
            have q2' := Lib.hid q2
            have q3' := Lib.hid q3
            clear q1 q2 q3 b1
            go_roundw
            case rel => exact ⟨j + 1, by omega, by omega, by go_num, by omega, txt_on S k j o (by omega) hT'.out hbit'.out, q1'.out, q2'.out, q3'.out⟩
            case measure => simp [intOf]; omega
          · have hend : j = 255 ∨ S.testBit (j + 1) = false := by
              by_cases h5 : j = 255
              · exact .inl h5
              · right
                cases hb : S.testBit (j + 1) with
                | false => rfl
                | true => exact absurd ⟨by omega, hb⟩ hgo
            have hcl := Lib.hid (txt_close S k j o hj hT'.out hend)
            have hlen := txtRun_len hT'.out
            have hx2 : ∀ n, (hexB n).size = 2 := fun _ => rfl
            clear hgo
            by_cases h5 : j = 255
            case' pos =>
              have hj5 : ¬ j < 255 := by omega
              clear hend hR h5
              go_wp2_with fail
              obtain ⟨w1, rfl⟩ : ∃ x : World, x = wr := ⟨_, rfl⟩
              have q1' := hB'
              have q2' := hR'
              have q3' := hbl'
            case' neg =>
              have hbit := hend.resolve_left h5
              have hh := Lib.hid (show ∀ W, Calls Tryd.prog 30 #[sv S, .int .u8 ((j : Int) + 1)] W fun e w' => e = .returned (.bool false) ∧ Below W.heap.size W w' from fun W => by rw [← hbit]; exact Has_any S (j + 1) (by omega) W)
              obtain ⟨⟨c0, c1, c2, c3⟩, -, -⟩ := hR.all
              clear hbit hend hR
              have hj5 : j < 255 := by omega
              go_wp2_with (go_at_call 30; refine (hh.out _).mono ?_; rintro e w1 ⟨rfl, b1⟩; have z1 := b1.size)
              have q1 := hB'.out.below b1 (Nat.le_refl _)
              have q2 := hR'.out.below b1 (by omega)
              have q3 := hbl'.out.trans (b1.mono (by omega))
              have q1' := Lib.hid q1
              have q2' := Lib.hid q2
              have q3' := Lib.hid q3
              clear q1 q2 q3 b1 c0 c1 c2 c3 hh
            all_goals
              clear hB' hR' hbl' hT'
              have hz1 : w.heap.size + 1 < w1.heap.size := by omega
              refine (BLen_any _ _ o _ q1'.out).mono ?_
              rintro e w2 ⟨rfl, rfl⟩
              by_cases ho : o = []
              case' pos =>
                subst ho
                go_wp2_with fail
                obtain ⟨w3, rfl⟩ : ∃ x : World, x = w1 := ⟨_, rfl⟩
                have r1' := q1'
                have r2' := q2'
                have r3' := q3'
                have r0 : TxtAt S ([] ++ emit k j) (j + 1) := hcl.out
                have r0' := Lib.hid r0
                have r1l : ([] : List UInt8).length ≤ 1537 := by simp
                obtain ⟨o2, ho2⟩ : ∃ x : List UInt8, x = [] := ⟨_, rfl⟩
                rw [← ho2] at r1' r0' r1l
                clear r0 ho2
              case' neg =>
                have hpos : 0 < o.length := List.length_pos_iff.2 ho
                have hposI : (0 : Int) < (o.length : Int) := by omega
                have r0 := hcl.out
                rw [if_neg ho] at r0
                have r0' := Lib.hid r0
                clear r0 ho
                go_wp2_with fail
                refine (WriteByte_any _ _ o 44 _ q1'.out (by omega) (by omega)).mono ?_
                rintro e w3 ⟨rfl, h3, b3⟩
                have z3 := b3.size
                have r2 := q2'.out.below b3 (by omega)
                have r3 := q3'.out.trans (b3.mono (by omega))
                have r1' := Lib.hid h3
                have r2' := Lib.hid r2
                have r3' := Lib.hid r3
                have r1l : (o ++ [44]).length ≤ 1537 := by simp; omega
                clear h3 r2 r3 b3
                go_wp2_with fail
                obtain ⟨o2, ho2⟩ : ∃ x : List UInt8, x = o ++ [44] := ⟨_, rfl⟩
                rw [← ho2] at r1' r0' r1l
                clear ho2
            all_goals
              have hz3 : w.heap.size + 1 < w3.heap.size := by omega
              clear q1' q2' q3' hcl hlen
              refine (Hex_any k (by omega) _).mono ?_
              rintro e w4 ⟨rfl, b4⟩
              have z4 := b4.size
              have r1 := r1'.out.below b4 (Nat.le_refl _)
              have r2 := r2'.out.below b4 (by omega)
              have r3 := r3'.out.trans (b4.mono (by omega))
              have s1' := Lib.hid r1
              have s2' := Lib.hid r2
              have s3' := Lib.hid r3
              clear r1 r2 r3 b4 r1' r2' r3'
              go_wp2_with fail
              refine (WriteString_any _ _ o2 (hexB k) _ s1'.out (by rw [hx2]; omega) (by omega)).mono ?_
              rintro e w5 ⟨rfl, h5, b5⟩
              have z5 := b5.size
              have r2 := s2'.out.below b5 (by omega)
              have r3 := s3'.out.trans (b5.mono (by omega))
              have s1' := Lib.hid h5
              have s2' := Lib.hid r2
              have s3' := Lib.hid r3
              clear r2 r3 b5 h5
              by_cases hkj2 : k < j
              case' pos =>
                go_wp2_with fail
                refine (Hex_any j hj _).mono ?_
                rintro e w6 ⟨rfl, b6⟩
                have z6 := b6.size
                have r1 := s1'.out.below b6 (Nat.le_refl _)
                have r2 := s2'.out.below b6 (by omega)
                have r3 := s3'.out.trans (b6.mono (by omega))
                have t1' := Lib.hid r1
                have t2' := Lib.hid r2
                have t3' := Lib.hid r3
                clear r1 r2 r3 b6 s1' s2' s3'
                go_wp2_with fail
                refine (WriteString_any _ _ (o2 ++ (hexB k).data.toList) ((⟨#[45]⟩ : ByteArray) ++ hexB j) _ t1'.out (dash_room o2 k j r1l) (by omega)).mono ?_
                rintro e w7 ⟨rfl, h7, b7⟩
                have z7 := b7.size
                have r2 := t2'.out.below b7 (by omega)
                have r3 := t3'.out.trans (b7.mono (by omega))
                have t1' := Lib.hid h7
                have t2' := Lib.hid r2
                have t3' := Lib.hid r3
                clear r2 r3 b7 h7
                go_wp2_with fail
                go_roundw
                case rel => exact ⟨j + 1, o2 ++ (hexB k).data.toList ++ (⟨#[45]⟩ ++ hexB j : ByteArray).data.toList, by omega, by go_num, by omega, by rw [dash_list, ← emit_yes o2 k j hkj2]; exact r0'.out, t1'.out, t2'.out, t3'.out⟩
                case measure => simp [intOf]; omega
              case' neg =>
                go_wp2_with fail
                go_roundw
                case rel => exact ⟨j + 1, o2 ++ (hexB k).data.toList, by omega, by go_num, by omega, by rw [← emit_no o2 k j hkj2]; exact r0'.out, s1'.out, s2'.out, s3'.out⟩
                case measure => simp [intOf]; omega
    · have hke : k = 256 := by omega
      subst hke
      have hio := txt_end S o hT'.out
      subst hio
      clear hR hlt hk
      go_wp2_with fail
      refine (BText_any _ _ _ _ hB'.out (by omega)).mono ?_
      rintro e w2 ⟨rfl, b2⟩
      have q3 := hbl'.out.trans (b2.mono (by omega))
      have q3' := Lib.hid q3
      clear q3 b2
      have hi := inner_len S
      have hn1 : ¬ 9223372036854775807 < 1 + (inner S).length := by omega
      have hn2 : ¬ 9223372036854775807 < 1 + (inner S).length + 1 := by omega
      go_wp2_with fail
      go_ret
      exact ⟨congrArg (fun s => Ending.returned (Value.string s)) (txt_join S), q3'.out⟩
/-- set.Text: every set's text. -/
theorem Text_any (S : Nat) (oS : Ok S) (w : World) : Calls Tryd.prog 35 #[sv S] w fun e w' => e = .returned (.string ⟨(txt S).toArray⟩) ∧ Below w.heap.size w w' := by
  by_cases h : S = 0
  · subst h
    rw [txt_zero]
    exact Text_zero w
  · exact Text_pos S oS h w
end Go.Proofs.YteeopjgfiojoiaaDoor
namespace Go.Proofs.YteeopjgfiojoiaaDoor
open Go Go.RowKit SN

theorem bytesWorld_below (w : World) (e : TypeId) (s : ByteArray) : Below w.heap.size w (Lib.bytesWorld w e s) :=
  ⟨rfl, rfl, rfl, by rw [Lib.bytesWorld_size]; omega, fun k hk => Lib.bytesWorld_at_old w e s k hk⟩
theorem hex_and (b : Nat) (hb : b < 256) : bits .and .u8 (b : Int) 15 = (b % 16 : Nat) := by
  have : ∀ b : Fin 256, bits .and .u8 ((b.val : Nat) : Int) 15 = ((b.val % 16 : Nat) : Int) := by decide +kernel
  exact this ⟨b, hb⟩
theorem two_new (w : World) (u v : Value) (t : TypeId) : ∀ (j : Nat) x, [u, v][j]? = some x → (w.alloc (.cells #[u, v] t)).cell? ((⟨w.heap.size, 0, none⟩ : Addr).add j) = some x := by
  intro j x hj
  match j, hj with
  | 0, hj => simp at hj; subst hj; simp [Addr.add]
  | 1, hj => simp at hj; subst hj; simp [Addr.add]
set_option maxHeartbeats 2000000 in
set_option maxRecDepth 100000 in
theorem r1Hex_one (b : Nat) (hb : b < 256) (w : World) :
    Calls Tryd.prog 58 #[.string (toB [b])] w fun e w' => e = .returned (.string (hexB b)) ∧ Below w.heap.size w w' := by
  obtain ⟨i0, hi, hz0, hz1, hz2⟩ := info_parts info_u8
  have h1 : b / 16 < 16 := by omega
  have h2 : b % 16 < 16 := by omega
  have hd : (b : Int) / 16 = (b / 16 : Nat) := by omega
  have ha := hex_and b hb
  have hs1 : (toB [b]).size = 1 := rfl
  have hcv := Lib.run_convert_string_bytes (P := Tryd.prog) w 9 36 5 (toB [b]) Tryd.underlying9 Tryd.underlying36 Tryd.underlying5
  have hsh : ∀ W : World, (binOp .shr 5 (.int .u8 b) (.int .u64 4)).run Tryd.prog W = .ok (.int .u8 (b / 16 : Nat)) W := fun W => by
    have hs := shift_shr_u8 (yk := .u64) (x := (b : Int)) (y := 4) (by decide) (by decide)
    rw [binOp_shr, hs]
    show Result.ok (Value.int .u8 ((b : Int) / 2 ^ 4)) W = _
    rw [show ((2 : Int) ^ 4) = 16 by decide, hd]
  have hc := Lib.bytesWorld_cell w 5 (toB [b]) 0 (by rw [hs1]; decide)
  have hbl := bytesWorld_below w 5 (toB [b])
  have hbz := Lib.bytesWorld_size w 5 (toB [b])
  rw [hs1] at hcv
  have hcc : (((toB [b]).data.toList.getD 0 0).toNat : Int) = b := by simp [toB]; omega
  rw [hcc] at hc
  generalize Lib.bytesWorld w 5 (toB [b]) = W at hcv hc hbl hbz
  generalize grownCap w 1 0 5 = gc at hcv
  unfold hexB
  generalize hq1 : b / 16 = q at *
  generalize hq2 : b % 16 = r at *
  have hqi : (q : Int) < 16 := by omega
  have hri : (r : Int) < 16 := by omega
  have hbi : (b : Int) < 256 := by omega
  have hbl' := Lib.hid hbl
  have hbz' := Lib.hid hbz
  have hd0 := dig_get q h1
  have hd1 := dig_get r h2
  have hd0' := Lib.hid hd0
  have hd1' := Lib.hid hd1
  clear hbl hbz hcc hq1 hq2 hd0 hd1 hs1
  go_enter Tryd.func58, Tryd.ntmps58
  go_wp2_with fail
  refine wp_loop_rounds 2 ?_
  rw [rounds_succ]
  go_wp2_with fail
  have hd2 : ({ data := #[48, 49, 50, 51, 52, 53, 54, 55, 56, 57, 97, 98, 99, 100, 101, 102] } : ByteArray)[q] = dig q := hd0'.out
  have hd3 : ({ data := #[48, 49, 50, 51, 52, 53, 54, 55, 56, 57, 97, 98, 99, 100, 101, 102] } : ByteArray)[r] = dig r := hd1'.out
  go_region_law (refine step_append_grows rfl (.tmp 13) (.tmp 20) 36 rfl 5 i0 (.int .u8 0) 1 1 Tryd.underlying36 hi hz0 hz1 hz2 rfl (by decide) none 0 0 [] (by simp [Act.eval]) (fun _ => ⟨rfl, rfl⟩) rfl (fun _ h => by cases h) ⟨W.heap.size, 0, none⟩ 2 2 [.int .u8 (dig q).toNat, .int .u8 (dig r).toNat] (by simp [Act.eval]) rfl (two_new _ _ _ _) (by intro u hu; simp at hu; rcases hu with rfl | rfl <;> rfl) (by decide) (by simp [maxLen]) (by simp) ?_; intro v' w3 hown hg)
  all_goals
    have hbl2 := below_drewN hbl'.out 1
    change Below _ _ W.drew at hbl2
    have hzW := hbz'.out
    have hown' : OwnsB w3 (w.heap.size + 1) v' [(dig q).toNat, (dig r).toNat] := OwnsB.le (base := W.heap.size + 1) (show w3.ownsRow (W.heap.size + 1) 5 1 v' 2 [.int .u8 (dig q).toNat, .int .u8 (dig r).toNat] from by simpa using hown) (by omega)
    have hB3 := (hbl2.alloc (o := .cells #[.int .u8 (dig q).toNat, .int .u8 (dig r).toNat] 5) (by show _ ≤ W.heap.size; omega)).grown hg (by simp; omega) (fun j hj => by cases hj)
    obtain ⟨p, cap, rfl, -, hB, -⟩ := hown'.hasB (fun x hx => by simp at hx; rcases hx with rfl | rfl <;> exact UInt8.toNat_lt _)
    have hcv3 := conv_any p cap (toB [(dig q).toNat, (dig r).toNat]) w3 hB
    have e2 : toB [(dig q).toNat, (dig r).toNat] = ⟨#[dig q, dig r]⟩ := by simp [toB]
    rw [e2] at hcv3
    have e3 : (toB [(dig q).toNat, (dig r).toNat]).size = 2 := rfl
    have e4 : (⟨#[dig q, dig r]⟩ : ByteArray).size = 2 := rfl
    rw [e4] at hcv3
    rw [e3]
    have hB3' := Lib.hid hB3
    clear hB3 hown hown' hg hB e2 e3 e4 hd2 hd3 hzW hbl2
    go_wp2_with fail
    rw [rounds_succ]
    go_wp2_with fail
    go_ret
    exact ⟨rfl, hB3'.out⟩
end Go.Proofs.YteeopjgfiojoiaaDoor
namespace Go.Proofs.YteeopjgfiojoiaaDoor
open Go Go.RowKit SN

theorem hx_len (n : Nat) : (hx n).length = 2 := rfl
theorem r1Hex_two (b : Nat) (hb : b < 256) (w : World) :
    Calls Tryd.prog 58 #[.string (toB [b])] w fun e w' => e = .returned (.string ⟨(hx b).toArray⟩) ∧ Below w.heap.size w w' := r1Hex_one b hb w
theorem emit_lo (a b : Nat) (h : ¬ a < b) : emit a b = hx a := by unfold emit; rw [if_neg h]; simp
theorem emit_hi (a b : Nat) (h : a < b) : emit a b = hx a ++ ([45] ++ hx b) := by unfold emit; rw [if_pos h]; rfl
theorem mcell {w : World} {b o : Nat} {l : List Nat} (hl : ∀ x ∈ l, x < 256) (h : HasB w (some ⟨b, o, none⟩) (toB l)) (k : Nat) (hk : k < l.length) : w.cell? ⟨b, o + k, none⟩ = some (.int .u8 ((l.getD k 0 : Nat) : Int)) := by
  obtain ⟨b', o', e, hc, -⟩ := hasB_at h (i := k) (by rw [toB_size]; exact hk)
  cases e
  rw [toB_get l hl k (by rw [toB_size]; exact hk)] at hc
  rw [hc, List.getD_eq_getElem?_getD, List.getElem?_eq_getElem hk]; rfl
theorem win_run (b o cap m n : Nat) (hm : m < n) (hcap : n ≤ cap) (W : World) : (Instr.slice 36 (.slice (some ⟨b, o, none⟩) n cap) (some (.int .i64 (m : Int))) (some (.int .i64 ((m : Int) + 1))) none).run Tryd.prog W = .ok (.slice (some ⟨b, o + m, none⟩) 1 (cap - m)) W := by
  have h := Lib.run_slice_window (P := Tryd.prog) W 36 5 Tryd.underlying36 (fun _ => by kernel_rfl) b o n cap m (m + 1) (by omega) (by omega)
  rw [show m + 1 - m = 1 by omega] at h
  simpa using h
theorem win_conv (b o cap m x : Nat) (hx : x < 256) (W : World) (hc : W.cell? ⟨b, o + m, none⟩ = some (.int .u8 (x : Int))) : (convert 36 9 (.slice (some ⟨b, o + m, none⟩) 1 (cap - m))).run Tryd.prog W = .ok (.string (toB [x])) W :=
  run_convert_bytes_back (P := Tryd.prog) W 36 9 5 ⟨b, o + m, none⟩ (cap - m) [x.toUInt8] Tryd.underlying36 Tryd.underlying5 Tryd.underlying9 (by
      intro j hj
      have : j = 0 := by simp at hj; omega
      subst this
      have e : ((x.toUInt8).toNat : Int) = x := by simp; omega
      have e2 : (⟨b, o + m, none⟩ : Addr).add 0 = ⟨b, o + m, none⟩ := rfl
      rw [e2, hc]
      simp; omega)
theorem lt_room (o : List UInt8) (h : o.length ≤ 1600) (s : ByteArray) (hs : s.size ≤ 10) : (⟨(91 :: o).toArray⟩ ++ s : ByteArray).size ≤ 9223372036854775807 := by
  have e : (⟨(91 :: o).toArray⟩ : ByteArray).size = o.length + 1 := rfl
  rw [ByteArray.size_append, e]; omega
set_option maxHeartbeats 4000000 in
set_option maxRecDepth 100000 in
theorem r5Text_any (S : Nat) (w : World) : Calls Tryd.prog 36 #[sv S] w fun e w' => e = .returned (.string ⟨(txt S).toArray⟩) ∧ Below w.heap.size w w' := by
  show Calls Tryd.prog 36 #[.agg #[.int .u64 (word S 0), .int .u64 (word S 1), .int .u64 (word S 2), .int .u64 (word S 3)]] w _
  have hlt : ∀ b ∈ mem S, b < 256 := fun b hb => mem_lt hb
  have hlt' := Lib.hid hlt
  have hn := mem_len S
  clear hlt
  go_enter Tryd.func36, Tryd.ntmps36
  go_wp2_with (first | (refine load_set rfl _ rfl _ rfl ⟨S, IsSet.new' _ _ _ _ rfl, ?_⟩) | (go_at_call 29; refine (r5Bytes_any S _).mono ?_; rintro e wY ⟨v, rfl, hv, bY⟩; obtain ⟨p, cap, rfl, hcap, hB, -⟩ := hv.hasB' (fun _ h => mem_lt h); have zY := bY.size; simp only [World.size_alloc] at zY; have hB' := Lib.hid hB; clear hv hB))
  have q3 := ((Below.refl w.heap.size w).alloc (Nat.le_refl _) (.cells #[.int .u64 (word S 0), .int .u64 (word S 1), .int .u64 (word S 2), .int .u64 (word S 3)] 24)).trans (bY.mono (by simp))
  have q3' := Lib.hid q3
  clear q3 bY
  go_loopw [4, 5] (fun t i wr => ∃ (k : Nat) (o : List UInt8), k ≤ (mem S).length ∧ i = .int .i64 k ∧ t = .string ⟨(91 :: o).toArray⟩ ∧ LAt S o k ∧ HasB wr p (toB (mem S)) ∧ w.heap.size ≤ wr.heap.size ∧ Below w.heap.size w wr) (fun _ i _ => (mem S).length - (intOf i).toNat)
  case atStart => exact ⟨0, [], Nat.zero_le _, rfl, rfl, l_start S, hB'.out, by omega, q3'.out⟩
  case round =>
    clear hB' q3'
    obtain ⟨k, o, hk, rfl, rfl, hL, hB, hz, hbl⟩ := hrel
    have hL' := Lib.hid hL
    have hB' := Lib.hid hB
    have hbl' := Lib.hid hbl
    have hol := l_len hL
    clear hL hB hbl
    by_cases hlt : k < (mem S).length
    · obtain ⟨b, ob, rfl, -, -⟩ := hasB_at hB'.out (i := k) (by rw [toB_size]; exact hlt)
      have hR' := Lib.hid (l_open S k o hlt hL'.out)
      clear hL'
      go_wp2_with fail
      go_loopw [6] (fun i wi => ∃ (j : Nat), k ≤ j ∧ j < (mem S).length ∧ i = .int .i64 j ∧ LRun S o k j ∧ HasB wi (some ⟨b, ob, none⟩) (toB (mem S)) ∧ w.heap.size ≤ wi.heap.size ∧ Below w.heap.size w wi) (fun i _ => (mem S).length - (intOf i).toNat)
      case atStart => exact ⟨k, Nat.le_refl _, hlt, rfl, hR'.out, hB'.out, hz, hbl'.out⟩
      case round =>
        clear hB' hbl' hR' hz
        obtain ⟨j, hkj, hj, rfl, hR, hB, hz, hbl⟩ := hrel
        have hR' := Lib.hid hR
        have hB' := Lib.hid hB
        have hbl' := Lib.hid hbl
        have hol2 := lRun_len hR
        have hmj := mem_getD_lt S j
        have hcj := mcell hlt'.out hB j hj
        generalize hgj : (mem S).getD j 0 = mj at hmj hcj
        have hgj' := Lib.hid hgj
        clear hR hB hbl hgj
        by_cases hgo : j + 1 < (mem S).length
        · have hcj1 := mcell hlt'.out hB'.out (j + 1) hgo
          have hmj1 := mem_getD_lt S (j + 1)
          have hrise := mem_rise S j (j + 1) (by omega) hgo
          rw [hgj'.out] at hrise
          generalize hgj1 : (mem S).getD (j + 1) 0 = mj1 at hmj1 hcj1 hrise
          have hgj1' := Lib.hid hgj1
          clear hgj1
          have hw1 : IntKind.u8.wrap ((mj : Int) + 1) = (mj : Int) + 1 := by rw [IntKind.wrap_u8]; omega
          have hw2 : IntKind.i64.wrap ((j : Int) + 1) = (j : Int) + 1 := IntWalk.i64_in _ (by omega)
          have hw3 : ((j : Int) + 1).toNat = j + 1 := by omega
          have hw4 : (0 : Int) ≤ (j : Int) + 1 := by omega
          have hd1 : decide ((j : Int) + 1 < ((mem S).length : Int)) = true := by simp; omega
          by_cases heq : mj1 = mj + 1
          · have he1 : ((mj1 : Int) == (mj : Int) + 1) = true := by simp; omega
            go_wp2_with fail
            go_quiet (fail)
            go_wp2_with fail
            clear hw1 hw2 hw3 hw4 hd1 he1
            go_roundw
            case rel => exact ⟨j + 1, by omega, hgo, by go_num, l_on S k j o hgo hR'.out (by rw [hgj1'.out, hgj'.out, heq]), hB'.out.drewN _, hz, below_drewN hbl'.out _⟩
            case measure => simp [intOf]; omega
          · have he1 : ((mj1 : Int) == (mj : Int) + 1) = false := by simp; omega
            have hcl := l_close S k j o hj hR'.out (.inr (by rw [hgj1'.out, hgj'.out]; exact heq))
            have hcl' := Lib.hid hcl
            clear hcl
            have hmk := mem_getD_lt S k
            have hck := mcell hlt'.out hB'.out k hlt
            generalize hgk : (mem S).getD k 0 = mk at hmk hck
            have hs1 := win_run b ob cap k (mem S).length hlt hcap
            have hs2 := win_run b ob cap j (mem S).length hj hcap
            have hv1 : ∀ n, (convert 36 9 (.slice (some ⟨b, ob + k, none⟩) 1 (cap - k))).run Tryd.prog (wr.drewN n) = .ok (.string (toB [mk])) (wr.drewN n) := fun n => win_conv b ob cap k mk hmk _ hck
            have hgk' := Lib.hid hgk
            clear hgk hck
            rw [hgk'.out, hgj'.out] at hcl'
            have hm1 := Lib.hid (show k < j → mk < mj from fun h => by rw [← hgk'.out, ← hgj'.out]; exact mem_rise S k j h hj)
            have hm2 := Lib.hid (show ¬ k < j → ¬ mk < mj from fun h => by
              have e : k = j := by omega
              subst e
              have e2 := hgk'.out.symm.trans hgj'.out
              omega)
            by_cases hk1 : 0 < k
            case' pos =>
              have hcl2 := hcl'.out
              rw [if_neg (by omega : ¬ k = 0)] at hcl2
            case' neg =>
              have hcl2 := hcl'.out
              rw [if_pos (by omega : k = 0), List.append_nil] at hcl2
            all_goals
              have hcl2' := Lib.hid hcl2
              clear hcl2
              go_wp2_with fail
              go_quiet (fail)
              go_wp2_with (refine cat_arm rfl _ _ rfl _ _ rfl rfl (by simp only [List.length_cons, List.length_nil]; omega) ?_)
              refine (r1Hex_two mk hmk _).mono ?_
              rintro e w1 ⟨rfl, b1⟩
              have r1 := (hB'.out.drewN nq).below b1 (Nat.le_refl _)
              have r2 := (below_drewN hbl'.out nq).trans (b1.mono hz)
              have z1 : w.heap.size ≤ w1.heap.size := Nat.le_trans hz b1.size
              have hv2 := win_conv b ob cap j mj hmj w1 (by rw [← hgj'.out]; exact mcell hlt'.out r1 j hj)
              have r1' := Lib.hid r1
              have r2' := Lib.hid r2
              clear r1 r2 b1
              by_cases hkj2 : k < j
              case' neg =>
                go_wp2_with (refine cat_arm rfl _ _ rfl _ _ rfl rfl (by simp only [List.length_append, List.length_cons, List.length_nil, hx_len]; omega) ?_)
                go_roundw
                case rel => exact ⟨j + 1, _, by omega, by go_num, rfl, by have h := hcl2'.out; rw [emit_lo _ _ (hm2.out hkj2)] at h; simpa using h, r1'.out, z1, r2'.out⟩
                case measure => simp [intOf]; omega
              case' pos =>
                go_wp2_with (refine cat_arm rfl _ _ rfl _ _ rfl rfl (by simp only [List.length_append, List.length_cons, List.length_nil, hx_len]; omega) ?_)
                refine (r1Hex_two mj hmj _).mono ?_
                rintro e w2 ⟨rfl, b2⟩
                have t1 := r1'.out.below b2 (Nat.le_refl _)
                have t2 := r2'.out.trans (b2.mono z1)
                have z2 : w.heap.size ≤ w2.heap.size := Nat.le_trans z1 b2.size
                have t1' := Lib.hid t1
                have t2' := Lib.hid t2
                clear t1 t2 b2 hv1 hv2 hs1 hs2
                go_wp2_with (refine cat_arm rfl _ _ rfl _ _ rfl rfl (by simp only [List.length_append, List.length_cons, List.length_nil, hx_len]; omega) ?_)
                go_roundw
                case rel => exact ⟨j + 1, _, by omega, by go_num, rfl, by have h := hcl2'.out; rw [emit_hi _ _ (hm1.out hkj2)] at h; simpa using h, t1'.out, z2, t2'.out⟩
                case measure => simp [intOf]; omega
        · have hw2 : IntKind.i64.wrap ((j : Int) + 1) = (j : Int) + 1 := IntWalk.i64_in _ (by omega)
          have hd1 : decide ((j : Int) + 1 < ((mem S).length : Int)) = false := by simp; omega
          have hcl := l_close S k j o hj hR'.out (.inl (by omega))
          have hcl' := Lib.hid hcl
          clear hcl
          have hmk := mem_getD_lt S k
          have hck := mcell hlt'.out hB'.out k hlt
          generalize hgk : (mem S).getD k 0 = mk at hmk hck
          have hs1 := win_run b ob cap k (mem S).length hlt hcap
          have hs2 := win_run b ob cap j (mem S).length hj hcap
          have hv1 : ∀ n, (convert 36 9 (.slice (some ⟨b, ob + k, none⟩) 1 (cap - k))).run Tryd.prog (wr.drewN n) = .ok (.string (toB [mk])) (wr.drewN n) := fun n => win_conv b ob cap k mk hmk _ hck
          have hgk' := Lib.hid hgk
          clear hgk hck
          rw [hgk'.out, hgj'.out] at hcl'
          have hm1 := Lib.hid (show k < j → mk < mj from fun h => by rw [← hgk'.out, ← hgj'.out]; exact mem_rise S k j h hj)
          have hm2 := Lib.hid (show ¬ k < j → ¬ mk < mj from fun h => by
            have e : k = j := by omega
            subst e
            have e2 := hgk'.out.symm.trans hgj'.out
            omega)
          by_cases hk1 : 0 < k
          case' pos =>
            have hcl2 := hcl'.out
            rw [if_neg (by omega : ¬ k = 0)] at hcl2
          case' neg =>
            have hcl2 := hcl'.out
            rw [if_pos (by omega : k = 0), List.append_nil] at hcl2
          all_goals
            have hcl2' := Lib.hid hcl2
            clear hcl2
            go_wp2_with fail
            go_quiet (fail)
            go_wp2_with (refine cat_arm rfl _ _ rfl _ _ rfl rfl (by simp only [List.length_cons, List.length_nil]; omega) ?_)
            refine (r1Hex_two mk hmk _).mono ?_
            rintro e w1 ⟨rfl, b1⟩
            have r1 := (hB'.out.drewN nq).below b1 (Nat.le_refl _)
            have r2 := (below_drewN hbl'.out nq).trans (b1.mono hz)
            have z1 : w.heap.size ≤ w1.heap.size := Nat.le_trans hz b1.size
            have hv2 := win_conv b ob cap j mj hmj w1 (by rw [← hgj'.out]; exact mcell hlt'.out r1 j hj)
            have r1' := Lib.hid r1
            have r2' := Lib.hid r2
            clear r1 r2 b1
            by_cases hkj2 : k < j
            case' neg =>
              go_wp2_with (refine cat_arm rfl _ _ rfl _ _ rfl rfl (by simp only [List.length_append, List.length_cons, List.length_nil, hx_len]; omega) ?_)
              go_roundw
              case rel => exact ⟨j + 1, _, by omega, by go_num, rfl, by have h := hcl2'.out; rw [emit_lo _ _ (hm2.out hkj2)] at h; simpa using h, r1'.out, z1, r2'.out⟩
              case measure => simp [intOf]; omega
            case' pos =>
              go_wp2_with (refine cat_arm rfl _ _ rfl _ _ rfl rfl (by simp only [List.length_append, List.length_cons, List.length_nil, hx_len]; omega) ?_)
              refine (r1Hex_two mj hmj _).mono ?_
              rintro e w2 ⟨rfl, b2⟩
              have t1 := r1'.out.below b2 (Nat.le_refl _)
              have t2 := r2'.out.trans (b2.mono z1)
              have z2 : w.heap.size ≤ w2.heap.size := Nat.le_trans z1 b2.size
              have t1' := Lib.hid t1
              have t2' := Lib.hid t2
              clear t1 t2 b2 hv1 hv2 hs1 hs2
              go_wp2_with (refine cat_arm rfl _ _ rfl _ _ rfl rfl (by simp only [List.length_append, List.length_cons, List.length_nil, hx_len]; omega) ?_)
              go_roundw
              case rel => exact ⟨j + 1, _, by omega, by go_num, rfl, by have h := hcl2'.out; rw [emit_hi _ _ (hm1.out hkj2)] at h; simpa using h, t1'.out, z2, t2'.out⟩
              case measure => simp [intOf]; omega
    · have hke : k = (mem S).length := by omega
      subst hke
      have hio := l_end S o hL'.out
      subst hio
      clear hlt hk
      go_wp2_with (refine cat_arm rfl _ _ rfl _ _ rfl rfl (by simp only [List.length_cons, List.length_nil]; omega) ?_)
      go_ret
      exact ⟨rfl, hbl'.out⟩
end Go.Proofs.YteeopjgfiojoiaaDoor
