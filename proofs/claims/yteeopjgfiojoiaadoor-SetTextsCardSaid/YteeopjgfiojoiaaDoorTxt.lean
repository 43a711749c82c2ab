/- A set's text as a plain law: the runs of its rising members, each to the base 16. No program in sight, no conditions. -/
import Derived.Test.YteeopjgfiojoiaaDoorHexB
namespace Go.Proofs.YteeopjgfiojoiaaDoor
open Go Go.RowKit SN

/-- A byte to the base 16; a run; the runs behind one another. -/
def hx (b : Nat) : List UInt8 := [dig (b / 16), dig (b % 16)]
theorem hexB_list (b : Nat) : (hexB b).data.toList = hx b := rfl
def emit (f c : Nat) : List UInt8 := hx f ++ (if f < c then 45 :: hx c else [])
def runT (f c : Nat) : List Nat → List UInt8
  | [] => emit f c
  | y :: t => if y = c + 1 then runT f y t else emit f c ++ 44 :: runT y y t
def tl0 : List Nat → List UInt8
  | [] => []
  | y :: t => runT y y t
def tl1 : List Nat → List UInt8
  | [] => []
  | y :: t => 44 :: runT y y t
/-- What is still to be written behind o. -/
def tlx (o : List UInt8) (l : List Nat) : List UInt8 := if o = [] then tl0 l else tl1 l
def inner (S : Nat) : List UInt8 := tl0 (mem S)
def txt (S : Nat) : List UInt8 := 91 :: (inner S ++ [93])

theorem emit_len (f c : Nat) : (emit f c).length ≤ 5 := by
  unfold emit hx
  split <;> simp
theorem emit_ne (f c : Nat) (r : List UInt8) : emit f c ++ r ≠ [] := by
  unfold emit hx; simp
theorem runT_len : ∀ (l : List Nat) (f c : Nat), (runT f c l).length ≤ 6 * l.length + 5
  | [], f, c => by simpa [runT] using emit_len f c
  | y :: t, f, c => by
    unfold runT
    have h1 := emit_len f c
    split
    · have := runT_len t f y; simp; omega
    · have := runT_len t y y; simp; omega
theorem tl0_len (l : List Nat) : (tl0 l).length ≤ 6 * l.length := by
  cases l with
  | nil => simp [tl0]
  | cons y t => have := runT_len t y y; simp [tl0]; omega
theorem mem_len (S : Nat) : (mem S).length ≤ 256 := by
  have := List.length_filter_le S.testBit (List.range 256)
  simpa [mem] using this
theorem inner_len (S : Nat) : (inner S).length ≤ 1536 := by
  have h1 := tl0_len (mem S); have h2 := mem_len S
  unfold inner; omega

/-- The members from k on. -/
def memFrom (S k : Nat) : List Nat := (List.range' k (256 - k)).filter S.testBit
theorem memFrom_0 (S : Nat) : memFrom S 0 = mem S := by simp [memFrom, mem, List.range_eq_range']
theorem memFrom_end (S : Nat) : memFrom S 256 = [] := by simp [memFrom]
theorem memFrom_succ (S k : Nat) (h : k < 256) : memFrom S k = if S.testBit k then k :: memFrom S (k + 1) else memFrom S (k + 1) := by
  unfold memFrom
  have e : 256 - k = (256 - (k + 1)) + 1 := by omega
  rw [e, List.range'_succ, List.filter_cons]
theorem memFrom_yes (S k : Nat) (h : k < 256) (hb : S.testBit k = true) : memFrom S k = k :: memFrom S (k + 1) := by rw [memFrom_succ S k h, if_pos hb]
theorem memFrom_no (S k : Nat) (h : k < 256) (hb : S.testBit k = false) : memFrom S k = memFrom S (k + 1) := by rw [memFrom_succ S k h]; simp [hb]
theorem memFrom_ge (S k x : Nat) (h : x ∈ memFrom S k) : k ≤ x := by
  unfold memFrom at h
  have := (List.mem_filter.1 h).1
  rw [List.mem_range'_1] at this
  exact this.1
/-- A run goes on. -/
theorem run_go (S f b : Nat) (h : b + 1 < 256) (hb : S.testBit (b + 1) = true) : runT f b (memFrom S (b + 1)) = runT f (b + 1) (memFrom S (b + 1 + 1)) := by
  rw [memFrom_yes S (b + 1) h hb]
  show (if b + 1 = b + 1 then _ else _) = _
  rw [if_pos rfl]
theorem runT_stop (f b : Nat) (l : List Nat) (h : ∀ x ∈ l, b + 1 < x) : runT f b l = emit f b ++ tl1 l := by
  cases l with
  | nil => simp [runT, tl1]
  | cons y t =>
    have := h y (by simp)
    show (if y = b + 1 then _ else _) = _
    rw [if_neg (by omega)]
    rfl
/-- A run ends. -/
theorem run_end (S f b : Nat) (h : b < 256) (hb : b = 255 ∨ S.testBit (b + 1) = false) : runT f b (memFrom S (b + 1)) = emit f b ++ tl1 (memFrom S (b + 1)) := by
  refine runT_stop f b _ fun x hx => ?_
  rcases hb with rfl | hb
  · rw [memFrom_end] at hx; cases hx
  · by_cases h2 : b + 1 < 256
    · rw [memFrom_no S (b + 1) h2 hb] at hx
      have := memFrom_ge S _ _ hx
      omega
    · have : b = 255 := by omega
      subst this
      rw [memFrom_end] at hx; cases hx
/-- The text so far and what is still to come. -/
def TxtAt (S : Nat) (o : List UInt8) (b : Nat) : Prop := inner S = o ++ tlx o (memFrom S b)
def TxtRun (S : Nat) (o : List UInt8) (f b : Nat) : Prop := inner S = o ++ (if o = [] then [] else [44]) ++ runT f b (memFrom S (b + 1))
theorem txt_start (S : Nat) : TxtAt S [] 0 := by
  unfold TxtAt tlx inner; rw [memFrom_0]; simp
theorem txt_skip (S b : Nat) (o : List UInt8) (hb : b < 256) (h : TxtAt S o b) (hn : S.testBit b = false) : TxtAt S o (b + 1) := by
  unfold TxtAt at *; rw [← memFrom_no S b hb hn]; exact h
theorem txt_open (S b : Nat) (o : List UInt8) (hb : b < 256) (h : TxtAt S o b) (hn : S.testBit b = true) : TxtRun S o b b := by
  unfold TxtAt tlx at h; unfold TxtRun
  rw [h, memFrom_yes S b hb hn]
  by_cases ho : o = []
  · simp [ho, tl0]
  · simp [ho, tl1]
theorem txt_on (S f b : Nat) (o : List UInt8) (hb : b + 1 < 256) (h : TxtRun S o f b) (hn : S.testBit (b + 1) = true) : TxtRun S o f (b + 1) := by
  unfold TxtRun at *; rw [h, run_go S f b hb hn]
theorem txt_close (S f b : Nat) (o : List UInt8) (hb : b < 256) (h : TxtRun S o f b) (hn : b = 255 ∨ S.testBit (b + 1) = false) : TxtAt S (o ++ (if o = [] then [] else [44]) ++ emit f b) (b + 1) := by
  have hne : ¬ (o ++ (if o = [] then [] else [44]) ++ emit f b = []) := by simp [emit, hx]
  unfold TxtRun at h; unfold TxtAt tlx
  rw [h, run_end S f b hb hn, if_neg hne]
  simp
theorem txt_end (S : Nat) (o : List UInt8) (h : TxtAt S o 256) : o = inner S := by
  unfold TxtAt tlx at h
  rw [memFrom_end] at h
  rw [h]; split <;> simp [tl0, tl1]
theorem txt_len {S b : Nat} {o : List UInt8} (h : TxtAt S o b) : o.length ≤ 1536 := by
  have h1 := inner_len S
  have h2 := congrArg List.length h
  simp at h2; omega
theorem txtRun_len {S f b : Nat} {o : List UInt8} (h : TxtRun S o f b) : o.length ≤ 1536 := by
  have h1 := inner_len S
  have h2 := congrArg List.length h
  simp at h2; omega
theorem txt_zero : txt 0 = [91, 93] := by decide
/-- The same over the list of members, by places. -/
def LAt (S : Nat) (o : List UInt8) (i : Nat) : Prop := inner S = o ++ (if i = 0 then tl0 (mem S) else tl1 ((mem S).drop i))
def LRun (S : Nat) (o : List UInt8) (i k : Nat) : Prop := inner S = o ++ (if i = 0 then [] else [44]) ++ runT ((mem S).getD i 0) ((mem S).getD k 0) ((mem S).drop (k + 1))
theorem drop_get (l : List Nat) (i : Nat) (h : i < l.length) : l.drop i = l.getD i 0 :: l.drop (i + 1) := by
  rw [List.drop_eq_getElem_cons h, List.getD_eq_getElem?_getD, List.getElem?_eq_getElem h]; rfl
theorem l_start (S : Nat) : LAt S [] 0 := by simp [LAt, inner]
theorem l_open (S i : Nat) (o : List UInt8) (hi : i < (mem S).length) (h : LAt S o i) : LRun S o i i := by
  unfold LAt at h; unfold LRun
  rw [h]
  by_cases h0 : i = 0
  · subst h0
    have e := drop_get (mem S) 0 hi
    rw [List.drop_zero] at e
    rw [if_pos rfl, if_pos rfl]
    conv => lhs; rw [e]
    simp [tl0]
  · rw [if_neg h0, if_neg h0, drop_get _ _ hi]
    simp [tl1]
theorem l_on (S i k : Nat) (o : List UInt8) (hk : k + 1 < (mem S).length) (h : LRun S o i k) (he : (mem S).getD (k + 1) 0 = (mem S).getD k 0 + 1) : LRun S o i (k + 1) := by
  unfold LRun at *
  rw [h, drop_get _ _ hk, he]
  show _ ++ (if _ = _ then _ else _) = _
  rw [if_pos rfl]
theorem mem_sorted (S : Nat) : (mem S).Pairwise (· < ·) := List.Pairwise.filter _ (List.pairwise_lt_range (n := 256))
theorem memS_lt (S b : Nat) (h : b ∈ mem S) : b < 256 := by
  have := (List.mem_filter.1 h).1
  simpa using this
theorem getD_mem (l : List Nat) (i : Nat) (h : i < l.length) : l.getD i 0 ∈ l := by
  rw [List.getD_eq_getElem?_getD, List.getElem?_eq_getElem h]; exact List.getElem_mem h
theorem mem_getD_lt (S i : Nat) : (mem S).getD i 0 < 256 := by
  by_cases h : i < (mem S).length
  · exact memS_lt S _ (getD_mem _ _ h)
  · simp [List.getD_eq_getElem?_getD, List.getElem?_eq_none (Nat.le_of_not_lt h)]
theorem mem_rise (S i k : Nat) (hik : i < k) (hk : k < (mem S).length) : (mem S).getD i 0 < (mem S).getD k 0 := by
  have h := List.pairwise_iff_getElem.1 (mem_sorted S) i k (by omega) hk hik
  simpa [List.getD_eq_getElem?_getD, List.getElem?_eq_getElem, hk, (by omega : i < (mem S).length)] using h
theorem l_close (S i k : Nat) (o : List UInt8) (hk : k < (mem S).length) (h : LRun S o i k) (he : k + 1 = (mem S).length ∨ (mem S).getD (k + 1) 0 ≠ (mem S).getD k 0 + 1) :
    LAt S (o ++ (if i = 0 then [] else [44]) ++ emit ((mem S).getD i 0) ((mem S).getD k 0)) (k + 1) := by
  unfold LRun at h; unfold LAt
  rw [h, if_neg (by omega : ¬ k + 1 = 0), runT_stop]
  · simp
  · intro x hx
    obtain ⟨j, hj, rfl⟩ := List.getElem_of_mem hx
    rw [List.length_drop] at hj
    rw [List.getElem_drop]
    have e : ∀ m, (hm : m < (mem S).length) → (mem S)[m] = (mem S).getD m 0 := fun m hm => by simp [List.getD_eq_getElem?_getD, List.getElem?_eq_getElem hm]
    rw [e _ (by omega)]
    have h1 := mem_rise S k (k + 1) (by omega) (by omega)
    by_cases hj0 : j = 0
    · subst hj0; simp only [Nat.add_zero]; omega
    · have h2 := mem_rise S (k + 1) (k + 1 + j) (by omega) (by omega)
      omega
theorem l_end (S : Nat) (o : List UInt8) (h : LAt S o (mem S).length) : o = inner S := by
  unfold LAt at h
  rw [h]
  split
  next h0 => 
    have : mem S = [] := List.eq_nil_of_length_eq_zero h0
    simp [this, tl0]
  next => simp [tl1]
theorem l_len {S i : Nat} {o : List UInt8} (h : LAt S o i) : o.length ≤ 1536 := by
  have h1 := inner_len S
  have h2 := congrArg List.length h
  simp at h2; omega
theorem lRun_len {S i k : Nat} {o : List UInt8} (h : LRun S o i k) : o.length ≤ 1536 := by
  have h1 := inner_len S
  have h2 := congrArg List.length h
  simp at h2; omega
end Go.Proofs.YteeopjgfiojoiaaDoor
