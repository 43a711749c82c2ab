/- The walk over SetTurned: a bracket and the same with ^ ahead are the two sides of one another; what stands behind makes no difference: it returns true. Conditions: the bytes, at most 1048576 in each slice, the errors' variables and errors.errorType lie in memory. -/
import Derived.Test.YteeopjgfiojoiaaDoorTel
import Derived.Test.YteeopjgfiojoiaaDoorBrkP
import Derived.Test.YteeopjgfiojoiaaDoorTn12
import Derived.Test.YteeopjgfiojoiaaDoorBrt
import Derived.Laws.AppendOwnNone
import Derived.Deep.Cut
import Derived.Handy
import Derived.Outline
namespace Go.Proofs.YteeopjgfiojoiaaDoor
open Go Go.RowKit SN

theorem item_code {l : List UInt8} {glob : Bool} {i c p : Nat} (h : item l glob i = .err c p) : c = 8 := by
  unfold item itemCls itemCut itemOne at h
  split at h
  · cases h; rfl
  split at h
  · split at h
    · cases h
    · cases h; rfl
  split at h
  · split at h
    · cases h; rfl
    · cases h
  · cases h
theorem step_code {l : List UInt8} {glob : Bool} {i c p : Nat} (h : step l glob i = .err c p) : c = 7 ∨ c = 8 := by
  unfold step at h
  cases hx : item l glob i with
  | err a b => rw [hx] at h; cases h; exact .inr (item_code hx)
  | cls S n => rw [hx] at h; cases h
  | byte x n =>
    rw [hx, ranged_byte] at h
    split at h
    · cases h
    · cases hy : item l glob (n + 1) with
      | err a b => rw [hy] at h; cases h; exact .inr (item_code hy)
      | cls S k => rw [hy] at h; cases h; exact .inr rfl
      | byte d k =>
        rw [hy] at h
        have h2 : (if d.toNat < x.toNat then Rg.err 7 i else .ok (rng x.toNat d.toNat) k) = .err c p := h
        by_cases hd : d.toNat < x.toNat
        · rw [if_pos hd] at h2; cases h2; exact .inl rfl
        · rw [if_neg hd] at h2; cases h2
theorem loop_code {l : List UInt8} {glob : Bool} : ∀ (n : Nat) (first : Bool) (i S c p : Nat), loop l glob n first i S = .err c p → c = 7 ∨ c = 8
  | 0, _, _, _, _, _, h => by cases h; exact .inr rfl
  | n + 1, first, i, S, c, p, h => by
    unfold loop at h
    split at h
    · cases h; exact .inr rfl
    split at h
    · cases h
    cases hs : step l glob i with
    | err a b => rw [hs] at h; cases h; exact step_code hs
    | ok U next => rw [hs] at h; exact loop_code n false next (S ||| U) c p h
theorem brk_code {l : List UInt8} {i lang : Int} {c p : Nat} (h : brk l i lang = .err c p) : c = 1 ∨ c = 7 ∨ c = 8 := by
  unfold brk at h
  split at h
  · cases h; exact .inl rfl
  unfold read at h
  cases hl : loop l (lang == 2) (l.length + 1) true (if turned l (lang == 2) i.toNat = true then i.toNat + 1 else i.toNat) 0 with
  | err a b => rw [hl] at h; cases h; exact .inr (loop_code _ _ _ _ _ _ hl)
  | ok T M => rw [hl] at h; cases h
theorem item_pos {l : List UInt8} {glob : Bool} {i c p : Nat} (hi : i < l.length) (h : item l glob i = .err c p) : p ≤ l.length := by
  unfold item itemCls itemCut itemOne at h
  split at h
  · cases h; omega
  split at h
  · split at h
    · cases h
    · cases h; omega
  split at h
  · split at h
    · cases h; omega
    · cases h
  · cases h
theorem step_pos {l : List UInt8} {glob : Bool} {i c p : Nat} (hi : i < l.length) (h : step l glob i = .err c p) : p ≤ l.length := by
  unfold step at h
  cases hx : item l glob i with
  | err a b => rw [hx] at h; cases h; exact item_pos hi hx
  | cls S n => rw [hx] at h; cases h
  | byte x n =>
    rw [hx, ranged_byte] at h
    split at h
    · cases h
    · rename_i hh
      simp at hh
      cases hy : item l glob (n + 1) with
      | err a b => rw [hy] at h; cases h; exact item_pos (by omega) hy
      | cls S k => rw [hy] at h; cases h; omega
      | byte d k =>
        rw [hy] at h
        have h2 : (if d.toNat < x.toNat then Rg.err 7 i else .ok (rng x.toNat d.toNat) k) = .err c p := h
        by_cases hd : d.toNat < x.toNat
        · rw [if_pos hd] at h2; cases h2; omega
        · rw [if_neg hd] at h2; cases h2
theorem loop_pos {l : List UInt8} {glob : Bool} : ∀ (n : Nat) (first : Bool) (i S c p : Nat), loop l glob n first i S = .err c p → p ≤ l.length
  | 0, _, _, _, _, _, h => by cases h; exact Nat.le_refl _
  | n + 1, first, i, S, c, p, h => by
    unfold loop at h
    split at h
    · cases h; exact Nat.le_refl _
    split at h
    · cases h
    cases hs : step l glob i with
    | err a b => rw [hs] at h; cases h; exact step_pos (by omega) hs
    | ok U next => rw [hs] at h; exact loop_pos n false next (S ||| U) c p h
theorem brk_pos {l : List UInt8} {i lang : Int} {c p : Nat} (h : brk l i lang = .err c p) : p ≤ l.length := by
  unfold brk at h
  split at h
  · cases h; exact Nat.zero_le _
  unfold read at h
  cases hl : loop l (lang == 2) (l.length + 1) true (if turned l (lang == 2) i.toNat = true then i.toNat + 1 else i.toNat) 0 with
  | err a b => rw [hl] at h; cases h; exact loop_pos _ _ _ _ _ _ hl
  | ok T M => rw [hl] at h; cases h
theorem brk_turn {l : List UInt8} {L : Int} (hL : L = 2 ∨ L = 4) (h1 : isL l 0 94 = false) (h2 : isL l 0 33 = false) : brk (94 :: l) 0 L = turnR (brk l 0 L) := by
  unfold brk
  rw [if_neg (by rcases hL with rfl | rfl <;> simp <;> omega), if_neg (by rcases hL with rfl | rfl <;> simp <;> omega)]
  exact read_turned l _ h1 h2
theorem brk_more {l more : List UInt8} {L : Int} {S n : Nat} (hL : L = 2 ∨ L = 4) (h : brk l 0 L = .ok S n) : n ≤ l.length ∧ brk (l.take n ++ more) 0 L = .ok S n := by
  unfold brk at h ⊢
  rw [if_neg (by rcases hL with rfl | rfl <;> simp <;> omega)] at h ⊢
  exact read_more l more _ S n h
/-- A text's bytes as numbers. -/
def natL (l : List UInt8) : List Nat := l.map (·.toNat)
theorem natL_lt (l : List UInt8) : ∀ x ∈ natL l, x < 256 := fun x hx => by
  obtain ⟨c, -, rfl⟩ := List.mem_map.1 hx
  exact c.toNat_lt
theorem toB_natL (l : List UInt8) : (toB (natL l)).data.toList = l := by
  rw [toB_list]
  unfold natL
  rw [List.map_map]
  have h : ∀ x : UInt8, ((fun n : Nat => n.toUInt8) ∘ fun c : UInt8 => c.toNat) x = x := fun x => by simp
  exact (List.map_congr_left fun x _ => h x).trans (List.map_id _)
theorem hasB_cells {w : World} {b o : Nat} {s : ByteArray} (h : HasB w (some ⟨b, o, none⟩) s) (k : Nat) (hk : k ≤ s.size) : ∀ (j : Nat) u, (bv (natL (s.data.toList.take k)))[j]? = some u → w.cell? ((⟨b, o, none⟩ : Addr).add j) = some u := by
  intro j u hu
  have hj : j < k ∧ j < s.size := by
    rcases Nat.lt_or_ge j (bv (natL (s.data.toList.take k))).length with h' | h'
    · simp [bv, natL] at h'; omega
    · rw [List.getElem?_eq_none h'] at hu; cases hu
  obtain ⟨b', o', e, hc, -⟩ := hasB_at h (i := j) hj.2
  cases e
  have e2 : (⟨b, o, none⟩ : Addr).add j = ⟨b, o + j, none⟩ := by unfold Addr.add; split <;> simp_all
  rw [e2, hc, ← hu]
  simp [bv, natL, hj.1, hj.2, ByteArray.getElem_eq_getElem_data]
theorem bv_one (l : List Nat) : ∀ u ∈ bv l, u.oneCell' = true := by
  intro u hu; simp only [bv, List.mem_map] at hu; obtain ⟨x, -, rfl⟩ := hu; rfl
theorem own_new1 (x : Nat) (w : World) : OwnsB (w.alloc (.cells #[.int .u8 x] 5)) w.heap.size (.slice (some ⟨w.heap.size, 0, none⟩) 1 1) [x] :=
  ⟨rfl, .inr ⟨w.heap.size, 1, #[.int .u8 x], rfl, Nat.le_refl _, heap_alloc_new w _, Nat.le_refl _, by unfold maxLen; decide, rfl, rfl⟩⟩
theorem own_new0 (w : World) : OwnsB (w.alloc (.cells #[] 5)) w.heap.size (.slice (some ⟨w.heap.size, 0, none⟩) 0 0) [] :=
  ⟨rfl, .inr ⟨w.heap.size, 0, #[], rfl, Nat.le_refl _, heap_alloc_new w _, Nat.le_refl _, by unfold maxLen; decide, rfl, rfl⟩⟩
theorem bv_len (l : List Nat) : (bv l).length = l.length := by simp [bv]
theorem natL_len (l : List UInt8) : (natL l).length = l.length := by simp [natL]
theorem src_cells {w : World} {b o : Nat} {s : ByteArray} {l : List UInt8} (hl : l = s.data.toList) (h : HasB w (some ⟨b, o, none⟩) s) : ∀ (j : Nat) u, (bv (natL l))[j]? = some u → w.cell? ((⟨b, o, none⟩ : Addr).add j) = some u := by
  subst hl
  have := hasB_cells h s.size (Nat.le_refl _)
  have e : s.data.toList.take s.size = s.data.toList := List.take_of_length_le (by simp)
  rw [e] at this
  exact this
theorem src_take {w : World} {b o k : Nat} {s : ByteArray} {l : List UInt8} (hl : l = s.data.toList) (h : HasB w (some ⟨b, o, none⟩) s) (hk : k ≤ s.size) : ∀ (j : Nat) u, (bv (natL (l.take k)))[j]? = some u → w.cell? ((⟨b, o, none⟩ : Addr).add j) = some u := by
  subst hl
  exact hasB_cells h k hk
theorem src_any {w : World} {a : Addr} {s : ByteArray} (h : HasB w (some a) s) : ∀ (j : Nat) u, (bv (natL s.data.toList))[j]? = some u → w.cell? (a.add j) = some u := by
  rcases h with h | ⟨b, o, e, hc, hl⟩
  · intro j u hu
    have : s.data.toList = [] := List.eq_nil_of_length_eq_zero (by simpa using h)
    rw [this] at hu
    cases hu
  · cases e
    exact src_cells rfl (.inr ⟨b, o, rfl, hc, hl⟩)
theorem World.grownBy.trans' {w w' : World} {o : Obj} (h : (w.alloc o).grownBy w' none) : w.grownBy w' none :=
  ⟨h.os, h.tape, h.output, by have := h.size; simp at this; omega, fun k hk hne => by rw [h.block k (by simp; omega) hne, Below.heap_alloc _ _ _ hk]⟩
theorem grown_two {w w1 w2 : World} {o : Obj} {row : Option Nat} (h : (w.alloc o).grownBy w1 none) (h2 : w1.grownBy w2 row) (hr : ∀ j, row = some j → w.heap.size ≤ j) : w.grownBy w2 none :=
  ⟨h2.os.trans h.os, h2.tape.trans h.tape, h2.output.trans h.output, by have := h.size; have := h2.size; simp at *; omega, fun k hk _ => by
    have hs := h.size
    simp at hs
    rw [h2.block k (by omega) (fun e => by have := hr k e.symm; omega), h.block k (by simp; omega) (by simp), Below.heap_alloc _ _ _ hk]⟩
theorem conv_caret (W : World) : (convert 36 36 (.slice (some ⟨W.heap.size, 0, none⟩) 1 1)).run Tryd.prog (W.alloc (.cells #[.int .u8 94] 5)) = .ok (.slice (some ⟨W.heap.size, 0, none⟩) 1 1) (W.alloc (.cells #[.int .u8 94] 5 (1, 2))) :=
  Lib.run_convert_bytes_const (P := Tryd.prog) W 36 5 #[.int .u8 94] 1 1 Tryd.underlying36 Tryd.underlying5
theorem one_newF (w : World) (v : Value) (t : TypeId) (z : Nat × Nat) : ∀ (j : Nat) u, [v][j]? = some u → (w.alloc (.cells #[v] t z)).cell? ((⟨w.heap.size, 0, none⟩ : Addr).add j) = some u := by
  intro j u hj
  match j, hj with
  | 0, hj =>
    simp at hj; subst hj
    have := heap_alloc_new w (.cells #[v] t z)
    exact Lib.cell_of_heap this 0
theorem IsF.all {w : World} {B : Nat} {c p l : Int} (h : IsF w B c p l) : w.cell? ⟨B, 0, none⟩ = some (.int .i64 c) ∧ w.cell? ⟨B, 1, none⟩ = some (.int .i64 p) ∧ w.cell? ⟨B, 2, none⟩ = some (.int .i64 l) := ⟨row_cell h rfl, row_cell h rfl, row_cell h rfl⟩
theorem caret_list (l : List UInt8) : (toB (94 :: natL l)).data.toList = 94 :: l := by
  have h := toB_natL l
  rw [toB_list] at h ⊢
  rw [List.map_cons, h]
  rfl
set_option maxHeartbeats 1000000 in
set_option maxRecDepth 100000 in
theorem turned_any {N : Nat} {E : Nat → Addr} (p p2 : Option Addr) (s m : ByteArray) (cap cap2 : Nat) (g : Bool) (w : World) (hS : HasB w p s) (hM : HasB w p2 m) (hs : s.size ≤ 1048576) (hm : m.size ≤ 1048576) (hcap : s.size ≤ cap) (hnil : p2 = none → cap2 = 0) (hE : Errs N E w) (hT : ErrT N w) (hN : N ≤ w.heap.size) :
    Calls Tryd.prog 12 #[.slice p s.size cap, .slice p2 m.size cap2, .bool g] w fun e w' => e = .returned (.bool true) ∧ Below w.heap.size w w' := by
  obtain ⟨i0, hi0, hz0, hz1, hz2⟩ := info_parts info_u8
  have hE' := Lib.hid hE
  have hT' := Lib.hid hT
  have hS' := Lib.hid hS
  have hM' := Lib.hid hM
  clear hE hT hM
  by_cases h0 : s.size = 0
  · have hz0 : ((s.size : Int)) = 0 := by omega
    rw [h0]
    cases g
    all_goals
      go_enter Tryd.func12, Tryd.ntmps12
      go_wp2_with fail
      refine (awake_any (N := N) (E := E) _ hE'.out hN).mono ?_
      rintro e w3 ⟨rfl, b3⟩
      have b3' := Lib.hid b3
      clear b3
      go_wp2_with fail
      go_ret
      exact ⟨rfl, b3'.out⟩
  · have hpos : 0 < s.size := by omega
    obtain ⟨b, o, rfl, hc, -⟩ := hasB_at hS (i := 0) hpos
    clear hS h0
    rw [Nat.add_zero] at hc
    have hx := (s[0]).toNat_lt
    have hl0 : s.data.toList[0]? = some s[0] := by rw [Array.getElem?_toList]; exact Array.getElem?_eq_getElem hpos
    obtain ⟨x, hxe⟩ : ∃ x, x = (s[0]).toNat := ⟨_, rfl⟩
    rw [← hxe] at hc hx
    have hi94 : x ≠ 94 → isL s.data.toList 0 94 = false := fun h => isL_no hl0 94 (by omega)
    have hi33 : x ≠ 33 → isL s.data.toList 0 33 = false := fun h => isL_no hl0 33 (by omega)
    have hlen : s.data.toList.length = s.size := by simp
    obtain ⟨l, hl⟩ : ∃ l, l = s.data.toList := ⟨_, rfl⟩
    have hbr := fun (L : Int) (W : World) (hb : Below w.heap.size w W) => bracket_any (N := N) (E := E) (some ⟨b, o, none⟩) cap 0 L s W (hS'.out.below hb (Nat.le_refl _)) (hE'.out.below hb hN) (by have := hb.size; omega) (by omega) hcap
    rw [← hl] at hi94 hi33 hlen hbr
    clear hxe hl0
    generalize hnn : s.size = n at hpos hs hcap hlen hbr
    have hnn' := Lib.hid hnn
    have hl' := Lib.hid hl
    have hlen' := Lib.hid hlen
    have hbr' := Lib.hid hbr
    clear hnn hl hlen hbr
    have hne0 : ((n : Int) == 0) = false := by simp; omega
    by_cases hx1 : x = 94 ∨ x = 33
    · clear hi94 hi33
      cases g
      all_goals
        rcases hx1 with rfl | rfl
        all_goals
          go_enter Tryd.func12, Tryd.ntmps12
          go_wp2_with fail
          refine (awake_any (N := N) (E := E) _ hE'.out hN).mono ?_
          rintro e w3 ⟨rfl, b3⟩
          have b3' := Lib.hid b3
          clear b3
          go_wp2_with fail
          go_ret
          exact ⟨rfl, b3'.out⟩
    · have q94 := hi94 (by omega)
      have q33 := hi33 (by omega)
      have q94' := Lib.hid q94
      have q33' := Lib.hid q33
      have e1 : ((x : Int) == 94) = false := by simp; omega
      have e2 : ((x : Int) == 33) = false := by simp; omega
      clear hi94 hi33 q94 q33 hx1
      cases g
      case' false =>
        obtain ⟨L, hLe⟩ : ∃ L : Int, L = 4 := ⟨_, rfl⟩
        have hLL : L = 2 ∨ L = 4 := .inr hLe
      case' true =>
        obtain ⟨L, hLe⟩ : ∃ L : Int, L = 2 := ⟨_, rfl⟩
        have hLL : L = 2 ∨ L = 4 := .inl hLe
      all_goals
        have hLL' := Lib.hid hLL
        have hLe' := Lib.hid hLe
        clear hLL hLe
        go_enter Tryd.func12, Tryd.ntmps12
        go_wp2_with fail
        rw [← hLe'.out]
        cases hr : brk l 0 L with
        | err c q =>
          have h1 := hbr'.out L w (Below.refl _ _)
          rw [hr] at h1
          refine h1.mono ?_
          rintro e w1 ⟨v1, rfl, ⟨S1, P1, rfl, ha1, ha2⟩, b1⟩
          have he1 : IsErr w1 E (.iface 111 (.pointer (some ⟨S1, 0, none⟩))) c q L := ⟨S1, P1, rfl, ha1, ha2⟩
          have hz1' := b1.size
          have he1' := Lib.hid he1
          have b1' := Lib.hid b1
          have hr' := Lib.hid hr
          clear h1 he1 b1 hr ha1 ha2
          go_wp2_with (refine store_set rfl rfl _ _ rfl _ _ rfl rfl ?_ ?_; (focus (apply Exists.intro; (repeat' (first | (with_reducible assumption) | (with_reducible apply IsSet.zero'; first | (with_reducible rfl) | (simp only [World.size_alloc]; done)) | (with_reducible apply IsSet.new'; first | (with_reducible rfl) | (simp only [World.size_alloc]; done)) | (with_reducible apply IsSet.sv; first | (with_reducible rfl) | (simp only [World.size_alloc]; done)) | (with_reducible apply IsSet.viaG; with_reducible assumption) | (with_reducible apply IsSet.viaB; with_reducible assumption) | (with_reducible apply IsSet.drew) | (with_reducible apply IsSet.store4) | (with_reducible apply IsSet.set_other) | (with_reducible apply IsSet.alloc) | (simp only [World.size_alloc]; omega) | omega | (simp; omega) | (simp; done))); done)); intro wX hX gX zX; (try simp only [World.size_alloc] at zX))
          have y1 := ((Below.refl w1.heap.size w1).alloc (Nat.le_refl _) (.cells #[.int .u64 0, .int .u64 0, .int .u64 0, .int .u64 0] 24)).grown gX (by simp) (fun j hj => by cases hj; exact Nat.le_refl _)
          have x1 := b1'.out.trans (y1.mono hz1')
          have sX := hS'.out.below x1 (Nat.le_refl _)
          have sX' := Lib.hid sX
          have x1' := Lib.hid x1
          have ex := he1'.out.below y1 (Nat.le_refl _)
          have ex' := Lib.hid ex
          clear x1 y1 sX ex hX
          rw [conv_caret wX]
          go_wp2_with (at_builtin; refine wpList_append_grows _ rfl _ _ 36 rfl 5 i0 (.int .u8 0) 1 1 Tryd.underlying36 hi0 hz0 hz1 hz2 rfl (by decide) (some ⟨wX.heap.size, 0, none⟩) 1 1 [.int .u8 94] rfl (fun h => by cases h) rfl (fun b' e => by cases e; exact one_newF _ _ _ _) ⟨b, o, none⟩ n cap (bv (natL l)) rfl (by rw [bv_len, natL_len, hlen'.out, Nat.mul_one]) (src_cells hl'.out (sX'.out.alloc _)) (bv_one _) (by omega) (by unfold maxLen; omega) (by omega) ?_; intro v3 w3 hown3 hg3)
          have x3 := (x1'.out.alloc (by omega) (.cells #[.int .u8 94] 5 (1, 2))).grown hg3 (by simp; omega) (fun j hj => by cases hj)
          have hz3 : wX.heap.size + 1 ≤ w3.heap.size := by have := hg3.size; simpa using this
          have hown4 : OwnsB w3 (wX.heap.size + 1) v3 (94 :: natL l) := by
            have h := hown3
            rw [World.size_alloc] at h
            have e : ([.int .u8 94] : List Value) ++ bv (natL l) = bv (94 :: natL l) := rfl
            rw [e] at h
            unfold OwnsB
            rw [show (94 :: natL l).length = 1 + n by rw [List.length_cons, natL_len, hlen'.out, Nat.add_comm]]
            exact h
          obtain ⟨p3, cap3, rfl, hcap3, hB3, -⟩ := hown4.hasB' (fun y hy => by
            rcases List.mem_cons.1 hy with rfl | h
            · decide
            · exact natL_lt l y h)
          have hlen3 : (94 :: natL l).length = n + 1 := by rw [List.length_cons, natL_len, hlen'.out]
          have e3 : IsErr w3 E (.iface 111 (.pointer (some ⟨S1, 0, none⟩))) c q L := (ex'.out.alloc _).below (((Below.refl (wX.heap.size + 1) (wX.alloc (.cells #[.int .u8 94] 5 (1, 2)))).grown hg3 (by simp) (fun j hj => by cases hj))) (by simp)
          have hb2 := bracket_any (N := N) (E := E) p3 cap3 0 L (toB (94 :: natL l)) w3 hB3 (hE'.out.below x3 hN) (by omega) (by rw [toB_size, hlen3]; omega) (by rw [toB_size]; exact hcap3)
          rw [caret_list, brk_turn hLL'.out q94'.out q33'.out, hr'.out, toB_size, hlen3] at hb2
          rw [hlen3]
          have hb2' := Lib.hid hb2
          have x3' := Lib.hid x3
          have e3' := Lib.hid e3
          clear hb2 x3 e3 hown3 hown4 hg3 hB3 hlen3 hcap3 x1' ex' sX'
          refine hb2'.out.mono ?_
          rintro e w4 ⟨v2, rfl, ⟨S2, P2, rfl, hc1, hc2⟩, b4⟩
          have he2 : IsErr w4 E (.iface 111 (.pointer (some ⟨S2, 0, none⟩))) c ((q + 1 : Nat) : Int) L := ⟨S2, P2, rfl, hc1, hc2⟩
          have z4 := b4.size
          have x4 := x3'.out.trans (b4.mono (by omega))
          have e4 := e3'.out.below b4 (Nat.le_refl _)
          have he2' := Lib.hid he2
          have x4' := Lib.hid x4
          have e4' := Lib.hid e4
          clear hb2' x4 e4 he2 hc1 hc2 b4 x3' e3'
          go_wp2_with (refine store_set rfl rfl _ _ rfl _ _ rfl rfl ?_ ?_; (focus (apply Exists.intro; (repeat' (first | (with_reducible assumption) | (with_reducible apply IsSet.zero'; first | (with_reducible rfl) | (simp only [World.size_alloc]; done)) | (with_reducible apply IsSet.new'; first | (with_reducible rfl) | (simp only [World.size_alloc]; done)) | (with_reducible apply IsSet.sv; first | (with_reducible rfl) | (simp only [World.size_alloc]; done)) | (with_reducible apply IsSet.viaG; with_reducible assumption) | (with_reducible apply IsSet.viaB; with_reducible assumption) | (with_reducible apply IsSet.drew) | (with_reducible apply IsSet.store4) | (with_reducible apply IsSet.set_other) | (with_reducible apply IsSet.alloc) | (simp only [World.size_alloc]; omega) | omega | (simp; omega) | (simp; done))); done)); intro wX hX gX zX; (try simp only [World.size_alloc] at zX))
          have y5 := ((Below.refl w4.heap.size w4).alloc (Nat.le_refl _) (.cells #[.int .u64 0, .int .u64 0, .int .u64 0, .int .u64 0] 24)).grown gX (by simp) (fun j hj => by cases hj; exact Nat.le_refl _)
          have x5 := x4'.out.trans (y5.mono (by omega))
          have e5 := e4'.out.below y5 (Nat.le_refl _)
          have he5 := he2'.out.below y5 (Nat.le_refl _)
          have hcc := brk_code hr'.out
          have hcq : q ≤ n := by have := brk_pos hr'.out; rw [hlen'.out] at this; exact this
          have z5 := x5.size
          have ht1 := tell_err (N := N) (E := E) wX (hE'.out.below x5 hN) (hT'.out.below x5 hN) (by omega) e5 (by omega) (by omega)
          have ht1' := Lib.hid ht1
          have x5' := Lib.hid x5
          have he5' := Lib.hid he5
          clear ht1 x5 y5 e5 he5 hX gX x4' e4' he2' he1' b1'
          have hwp : IntKind.i64.wrap ((q : Int) + 1) = (q : Int) + 1 := by rw [IntKind.wrap_i64]; omega
          refine ht1'.out.mono ?_
          rintro e w6 ⟨rfl, b6⟩
          have z6 := b6.size
          have x6 := x5'.out.trans (b6.mono z5)
          have ht2 := tell_err (N := N) (E := E) w6 (hE'.out.below x6 hN) (hT'.out.below x6 hN) (by omega) (he5'.out.below b6 (Nat.le_refl _)) (by omega) (by omega)
          have ht2' := Lib.hid ht2
          have x6' := Lib.hid x6
          clear ht2 x6 b6 ht1' x5' he5'
          have hw7 : w.heap.size ≤ w6.heap.size := by omega
          clear z4 z5 z6 hz3
          go_wp2_with fail
          refine ht2'.out.mono ?_
          rintro e w7 ⟨rfl, b7⟩
          have z7 := b7.size
          have x7 := x6'.out.trans (b7.mono hw7)
          have x7' := Lib.hid x7
          clear x7 b7 ht2' x6'
          have hn1 := heap_alloc_new w7 (.cells #[.int .i64 0, .int .i64 0, .int .i64 0] 62)
          have hn2 := heap_alloc_new (w7.alloc (.cells #[.int .i64 0, .int .i64 0, .int .i64 0] 62)) (.cells #[.int .i64 0, .int .i64 0, .int .i64 0] 62)
          rw [World.size_alloc] at hn2
          have hn3 := row_alloc hn1 (.cells #[.int .i64 0, .int .i64 0, .int .i64 0] 62)
          have hn2' := Lib.hid hn2
          have hn3' := Lib.hid hn3
          clear hn1 hn2 hn3
          go_wp2_with (first | (refine store_flt rfl rfl _ _ rfl w7.heap.size _ _ _ 0 0 0 rfl rfl hn3'.out ?_; intro w8 hF8 g8 z8) | (refine store_flt rfl rfl _ _ rfl (w7.heap.size + 1) _ _ _ 0 0 0 rfl rfl (row_grown hn2'.out g8 (by intro e; injection e with e; omega)) ?_; intro w9 hF9 g9 z9; obtain ⟨k1, k2, -⟩ := IsF.all (row_grown hF8 g9 (by intro e; injection e with e; omega)); obtain ⟨k3, k4, -⟩ := IsF.all hF9))
          have x9 := (((x7'.out.alloc (by omega) (.cells #[.int .i64 0, .int .i64 0, .int .i64 0] 62)).alloc (by simp; omega) (.cells #[.int .i64 0, .int .i64 0, .int .i64 0] 62)).grown g8 (by simp; omega) (fun j hj => by cases hj; omega)).grown g9 (by have := g8.size; simp at this; omega) (fun j hj => by cases hj; omega)
          have hz9 : w.heap.size ≤ w9.heap.size := x9.size
          have x9' := Lib.hid x9
          clear x9 g8 g9
          refine (awake_any (N := N) (E := E) _ (hE'.out.below x9'.out hN) (by omega)).mono ?_
          rintro e w10 ⟨rfl, b10⟩
          have x10 := x9'.out.trans (b10.mono hz9)
          have x10' := Lib.hid x10
          clear x10 b10
          go_wp2_with fail
          go_ret
          exact ⟨rfl, x10'.out⟩
        | ok S k =>
          have oS := ok_brk hr
          have hkn : k ≤ n := by have := (brk_more (more := m.data.toList) hLL'.out hr).1; rw [hlen'.out] at this; exact this
          have hk1 : 1 ≤ k := by have := (brk_le l 0 L S k hr).1; omega
          have h1 := hbr'.out L w (Below.refl _ _)
          rw [hr] at h1
          refine h1.mono ?_
          rintro e w1 ⟨rfl, b1⟩
          have hz1' := b1.size
          have b1' := Lib.hid b1
          have hr' := Lib.hid hr
          have oS' := Lib.hid oS
          clear h1 b1 hr oS
          go_wp2_with (refine store_set rfl rfl _ _ rfl _ _ rfl rfl ?_ ?_; (focus (apply Exists.intro; (repeat' (first | (with_reducible assumption) | (with_reducible apply IsSet.zero'; first | (with_reducible rfl) | (simp only [World.size_alloc]; done)) | (with_reducible apply IsSet.new'; first | (with_reducible rfl) | (simp only [World.size_alloc]; done)) | (with_reducible apply IsSet.sv; first | (with_reducible rfl) | (simp only [World.size_alloc]; done)) | (with_reducible apply IsSet.viaG; with_reducible assumption) | (with_reducible apply IsSet.viaB; with_reducible assumption) | (with_reducible apply IsSet.drew) | (with_reducible apply IsSet.store4) | (with_reducible apply IsSet.set_other) | (with_reducible apply IsSet.alloc) | (simp only [World.size_alloc]; omega) | omega | (simp; omega) | (simp; done))); done)); intro wX hX gX zX; (try simp only [World.size_alloc] at zX))
          have y1 := ((Below.refl w1.heap.size w1).alloc (Nat.le_refl _) (.cells #[.int .u64 0, .int .u64 0, .int .u64 0, .int .u64 0] 24)).grown gX (by simp) (fun j hj => by cases hj; exact Nat.le_refl _)
          have x1 := b1'.out.trans (y1.mono hz1')
          have sX := hS'.out.below x1 (Nat.le_refl _)
          have sX' := Lib.hid sX
          have x1' := Lib.hid x1
          have hX' := Lib.hid hX
          have hlX := hX.lt
          clear x1 y1 sX hX
          rw [conv_caret wX]
          go_wp2_with (at_builtin; refine wpList_append_grows _ rfl _ _ 36 rfl 5 i0 (.int .u8 0) 1 1 Tryd.underlying36 hi0 hz0 hz1 hz2 rfl (by decide) (some ⟨wX.heap.size, 0, none⟩) 1 1 [.int .u8 94] rfl (fun h => by cases h) rfl (fun b' e => by cases e; exact one_newF _ _ _ _) ⟨b, o, none⟩ n cap (bv (natL l)) rfl (by rw [bv_len, natL_len, hlen'.out, Nat.mul_one]) (src_cells hl'.out (sX'.out.alloc _)) (bv_one _) (by omega) (by unfold maxLen; omega) (by omega) ?_; intro v3 w3 hown3 hg3)
          have x3 := (x1'.out.alloc (by omega) (.cells #[.int .u8 94] 5 (1, 2))).grown hg3 (by simp; omega) (fun j hj => by cases hj)
          have i3 := (hX'.out.alloc (.cells #[.int .u8 94] 5 (1, 2))).grown hg3 (by simp)
          have hz3 : wX.heap.size + 1 ≤ w3.heap.size := by have := hg3.size; simpa using this
          have hown4 : OwnsB w3 (wX.heap.size + 1) v3 (94 :: natL l) := by
            have h := hown3
            rw [World.size_alloc] at h
            have e : ([.int .u8 94] : List Value) ++ bv (natL l) = bv (94 :: natL l) := rfl
            rw [e] at h
            unfold OwnsB
            rw [show (94 :: natL l).length = 1 + n by rw [List.length_cons, natL_len, hlen'.out, Nat.add_comm]]
            exact h
          obtain ⟨p3, cap3, rfl, hcap3, hB3, -⟩ := hown4.hasB' (fun y hy => by
            rcases List.mem_cons.1 hy with rfl | h
            · decide
            · exact natL_lt l y h)
          have hlen3 : (94 :: natL l).length = n + 1 := by rw [List.length_cons, natL_len, hlen'.out]
          have hb2 := bracket_any (N := N) (E := E) p3 cap3 0 L (toB (94 :: natL l)) w3 hB3 (hE'.out.below x3 hN) (by omega) (by rw [toB_size, hlen3]; omega) (by rw [toB_size]; exact hcap3)
          rw [caret_list, brk_turn hLL'.out q94'.out q33'.out, hr'.out, toB_size, hlen3] at hb2
          rw [hlen3]
          have hb2' := Lib.hid hb2
          have x3' := Lib.hid x3
          have i3' := Lib.hid i3
          clear hb2 x3 i3 hown3 hown4 hg3 hB3 hlen3 hcap3 x1' sX' hX'
          refine hb2'.out.mono ?_
          rintro e w4 ⟨rfl, b4⟩
          have z4 := b4.size
          have x4 := x3'.out.trans (b4.mono (by omega))
          have i4 := i3'.out.below b4 (by omega)
          have x4' := Lib.hid x4
          have i4' := Lib.hid i4
          obtain ⟨B8, hB8⟩ : ∃ B8, B8 = w1.heap.size := ⟨_, rfl⟩
          rw [← hB8] at i4' hlX hz1'
          rw [← hB8]
          have hB8' := Lib.hid hB8
          have hl84 : B8 < w4.heap.size := by omega
          clear hb2' x4 i4 b4 x3' i3' gX zX hB8
          go_upto_region 8 with ((refine store_set rfl rfl _ _ rfl _ _ rfl rfl ?_ ?_; (focus (apply Exists.intro; (repeat' (first | (with_reducible assumption) | (with_reducible apply IsSet.zero'; first | (with_reducible rfl) | (simp only [World.size_alloc]; done)) | (with_reducible apply IsSet.new'; first | (with_reducible rfl) | (simp only [World.size_alloc]; done)) | (with_reducible apply IsSet.sv; first | (with_reducible rfl) | (simp only [World.size_alloc]; done)) | (with_reducible apply IsSet.viaG; with_reducible assumption) | (with_reducible apply IsSet.viaB; with_reducible assumption) | (with_reducible apply IsSet.drew) | (with_reducible apply IsSet.store4) | (with_reducible apply IsSet.set_other) | (with_reducible apply IsSet.alloc) | (simp only [World.size_alloc]; omega) | omega | (simp; omega) | (simp; done))); done)); intro wX hX gX zX; (try simp only [World.size_alloc] at zX)))
          have y5 := ((Below.refl w4.heap.size w4).alloc (Nat.le_refl _) (.cells #[.int .u64 0, .int .u64 0, .int .u64 0, .int .u64 0] 24)).grown gX (by simp) (fun j hj => by cases hj; exact Nat.le_refl _)
          have x5 := x4'.out.trans (y5.mono (by omega))
          have i5 := i4'.out.below y5 hl84
          have j5 := hX.lt
          have sX := hS'.out.below x5 (Nat.le_refl _)
          have mX := hM'.out.below x5 (Nat.le_refl _)
          obtain ⟨B11, hB11⟩ : ∃ B11, B11 = w4.heap.size := ⟨_, rfl⟩
          rw [← hB11] at hX j5
          rw [← hB11]
          have sX' := Lib.hid sX
          have mX' := Lib.hid mX
          have x5' := Lib.hid x5
          have i5' := Lib.hid i5
          have hX' := Lib.hid hX
          have hB11' := Lib.hid hB11
          have hz11 : w.heap.size ≤ B11 := by have := x4'.out.size; omega
          have hl85 : B8 < B11 := by omega
          have hkc : k ≤ cap := by omega
          clear x4' i4' x5 i5 y5 sX mX hX gX zX hB11 hl84 hz3 z4
          cases p2 with
          | none =>
            have hm0 : m.data.toList = [] := by
              rcases hM'.out with h | ⟨b', o', e, -⟩
              · exact List.eq_nil_of_length_eq_zero (by simpa using h)
              · cases e
            have hms : m.size = 0 := by have := congrArg List.length hm0; simpa using this
            rw [hms]
            have hc0 := hnil rfl
            subst hc0
            have hm0' := Lib.hid hm0
            clear hm0 hms
            go_wp2_with (first | (at_builtin; refine wpList_append_grows _ rfl (.tmp 76) (.tmp 79) 36 rfl 5 i0 (.int .u8 0) 1 1 Tryd.underlying36 hi0 hz0 hz1 hz2 rfl (by decide) (some ⟨wX.heap.size, 0, none⟩) 0 0 [] rfl (fun h => by cases h) rfl (fun b' e j u hu => by cases hu) ⟨b, o, none⟩ k cap (bv (natL (l.take k))) rfl (by rw [bv_len, natL_len, List.length_take, hlen'.out, Nat.min_eq_left hkn, Nat.mul_one]) (src_take hl'.out (sX'.out.alloc _) (by rw [hnn'.out]; exact hkn)) (bv_one _) (by omega) (by unfold maxLen; omega) (by omega) ?_; intro v6 w6 hown6 hg6) | (at_builtin; refine wpList_append_own_none rfl (.tmp 80) (.tmp 81) 36 rfl _ 5 i0 1 Tryd.underlying36 hi0 _ _ _ rfl hown6 rfl ?_))
            have hg7 : wX.grownBy w6 none := World.grownBy.trans' hg6
            have hownF : OwnsB w6 (wX.heap.size + 1) v6 (natL (l.take k ++ m.data.toList)) := by
              rw [hm0'.out, List.append_nil]
              have h := hown6
              rw [World.size_alloc] at h
              unfold OwnsB
              rw [show (natL (l.take k)).length = 0 + k by rw [natL_len, List.length_take, hlen'.out, Nat.min_eq_left hkn, Nat.zero_add]]
              exact h
            obtain ⟨w7, hw7⟩ : ∃ x : World, x = w6 := ⟨_, rfl⟩
            obtain ⟨v7, hv7⟩ : ∃ x : Value, x = v6 := ⟨_, rfl⟩
            rw [← hw7, ← hv7] at hownF
            rw [← hw7] at hg7
            clear hg6 hown6
            rw [← hw7, ← hv7]
            have x7 := x5'.out.grown hg7 (by omega) (fun j hj => by cases hj)
            have i7 := i5'.out.grown hg7 (by simp)
            have j7 := hX'.out.grown hg7 (by simp)
            have hz7 := hg7.size
            obtain ⟨p7, cap7, rfl, hcap7, hB7, -⟩ := hownF.hasB' (natL_lt _)
            have hlen7 : (natL (l.take k ++ m.data.toList)).length = k + m.size := by rw [natL_len, List.length_append, List.length_take, hlen'.out, Nat.min_eq_left hkn]; simp
            have hb7 := bracket_any (N := N) (E := E) p7 cap7 0 L (toB (natL (l.take k ++ m.data.toList))) w7 hB7 (hE'.out.below x7 hN) (by omega) (by rw [toB_size, hlen7]; omega) (by rw [toB_size]; exact hcap7)
            rw [toB_natL, (brk_more hLL'.out hr'.out).2, toB_size, hlen7] at hb7
            rw [hlen7]
            have hb7' := Lib.hid hb7
            have x7' := Lib.hid x7
            have i7' := Lib.hid i7
            have j7' := Lib.hid j7
            have hl87 : B8 < w7.heap.size := by omega
            have hl117 : B11 < w7.heap.size := by omega
            have hz77 : w.heap.size ≤ w7.heap.size := by omega
            clear hb7 x7 i7 j7 hz7 hownF hg7 hB7 hlen7 hcap7
            refine hb7'.out.mono ?_
            rintro e w8 ⟨rfl, b8⟩
            have z8 := b8.size
            have x8 := x7'.out.trans (b8.mono hz77)
            have i8 := i7'.out.below b8 hl87
            have j8 := j7'.out.below b8 hl117
            have x8' := Lib.hid x8
            have i8' := Lib.hid i8
            have j8' := Lib.hid j8
            have hl88 : B8 < w8.heap.size := by omega
            have hl118 : B11 < w8.heap.size := by omega
            have hz88 : w.heap.size ≤ w8.heap.size := by omega
            clear b8 x8 i8 j8 x7' i7' j7' hb7' z8
            go_wp2_with (refine store_set rfl rfl _ _ rfl _ _ rfl rfl ?_ ?_; (focus (apply Exists.intro; (repeat' (first | (with_reducible assumption) | (with_reducible apply IsSet.zero'; first | (with_reducible rfl) | (simp only [World.size_alloc]; done)) | (with_reducible apply IsSet.new'; first | (with_reducible rfl) | (simp only [World.size_alloc]; done)) | (with_reducible apply IsSet.sv; first | (with_reducible rfl) | (simp only [World.size_alloc]; done)) | (with_reducible apply IsSet.viaG; with_reducible assumption) | (with_reducible apply IsSet.viaB; with_reducible assumption) | (with_reducible apply IsSet.drew) | (with_reducible apply IsSet.store4) | (with_reducible apply IsSet.set_other) | (with_reducible apply IsSet.alloc) | (simp only [World.size_alloc]; omega) | omega | (simp; omega) | (simp; done))); done)); intro wX hX gX zX; (try simp only [World.size_alloc] at zX))
            have y9 := ((Below.refl w8.heap.size w8).alloc (Nat.le_refl _) (.cells #[.int .u64 0, .int .u64 0, .int .u64 0, .int .u64 0] 24)).grown gX (by simp) (fun j hj => by cases hj; exact Nat.le_refl _)
            have x9 := x8'.out.trans (y9.mono hz88)
            have i9 := i8'.out.below y9 hl88
            have j9 := j8'.out.below y9 hl118
            have k9 := hX
            have hlk := hX.lt
            have hli := i9.lt
            have hlj := j9.lt
            have hzz := x9.size
            have x9' := Lib.hid x9
            have i9' := Lib.hid i9
            have j9' := Lib.hid j9
            have k9' := Lib.hid k9
            clear y9 x9 i9 j9 k9 hX gX zX
            refine wp_region_swap (o' := regionOps Tryd.f12 12) (by kernel_rfl) ?_
            refine tn12_wp (base := wX.heap.size) (B8 := B8) (B11 := B11) (B16 := w8.heap.size) (S := S) (k := k) (N := N) (E := E) ⟨by rfl, by rfl, by rfl, by rfl, by rfl, by rfl, by rfl, by rfl, by rfl, i9'.out, j9'.out, k9'.out, hli, hlj, hlk, oS'.out, by omega, hE'.out.below x9'.out hN, by omega⟩ (Nat.le_refl _) ?_
            intro u W e31 bW hszW
            have j10 := x9'.out.trans (bW.mono hzz)
            rw [tn12_plan]
            simp only [putL, Act.put, List.setIfInBounds_toArray, List.set_cons_succ, List.set_cons_zero, e31]
            go_wp2_with fail
            go_ret
            exact ⟨rfl, j10⟩
          | some a2 =>
            go_wp2_with (first | (at_builtin; refine wpList_append_grows _ rfl (.tmp 76) (.tmp 79) 36 rfl 5 i0 (.int .u8 0) 1 1 Tryd.underlying36 hi0 hz0 hz1 hz2 rfl (by decide) (some ⟨wX.heap.size, 0, none⟩) 0 0 [] rfl (fun h => by cases h) rfl (fun b' e j u hu => by cases hu) ⟨b, o, none⟩ k cap (bv (natL (l.take k))) rfl (by rw [bv_len, natL_len, List.length_take, hlen'.out, Nat.min_eq_left hkn, Nat.mul_one]) (src_take hl'.out (sX'.out.alloc _) (by rw [hnn'.out]; exact hkn)) (bv_one _) (by omega) (by unfold maxLen; omega) (by omega) ?_; intro v6 w6 hown6 hg6) | (at_builtin; refine wpList_append_own _ rfl (.tmp 80) (.tmp 81) 36 rfl _ 5 i0 (.int .u8 0) 1 1 Tryd.underlying36 hi0 hz0 hz1 hz2 rfl (by decide) _ _ _ rfl hown6 a2 m.size cap2 (bv (natL m.data.toList)) rfl (by rw [bv_len, natL_len, Nat.mul_one]; simp) (src_any (mX'.out.below (((Below.refl wX.heap.size wX).alloc (Nat.le_refl _) _).grown hg6 (by simp) (fun j hj => by cases hj)) (Nat.le_refl _))) (bv_one _) (by unfold maxLen; omega) (by omega) (hg6.size) ?_; intro v7 w7 hown7 hg7 _))
            have hg7 : wX.grownBy w7 none := grown_two hg6 hg7 (fun j hj => by have := World.ownsRow.lt hown6 j hj; simp at this; omega)
            have hownF : OwnsB w7 (wX.heap.size + 1) v7 (natL (l.take k ++ m.data.toList)) := by
              have h := hown7
              rw [World.size_alloc] at h
              have e : ([] : List Value) ++ bv (natL (l.take k)) ++ bv (natL m.data.toList) = bv (natL (l.take k ++ m.data.toList)) := by simp [bv, natL]
              rw [e] at h
              unfold OwnsB
              rw [show (natL (l.take k ++ m.data.toList)).length = 0 + k + m.size by rw [natL_len, List.length_append, List.length_take, hlen'.out, Nat.min_eq_left hkn]; simp]
              exact h
            clear hg6 hown6 hown7
            have x7 := x5'.out.grown hg7 (by omega) (fun j hj => by cases hj)
            have i7 := i5'.out.grown hg7 (by simp)
            have j7 := hX'.out.grown hg7 (by simp)
            have hz7 := hg7.size
            obtain ⟨p7, cap7, rfl, hcap7, hB7, -⟩ := hownF.hasB' (natL_lt _)
            have hlen7 : (natL (l.take k ++ m.data.toList)).length = k + m.size := by rw [natL_len, List.length_append, List.length_take, hlen'.out, Nat.min_eq_left hkn]; simp
            have hb7 := bracket_any (N := N) (E := E) p7 cap7 0 L (toB (natL (l.take k ++ m.data.toList))) w7 hB7 (hE'.out.below x7 hN) (by omega) (by rw [toB_size, hlen7]; omega) (by rw [toB_size]; exact hcap7)
            rw [toB_natL, (brk_more hLL'.out hr'.out).2, toB_size, hlen7] at hb7
            rw [hlen7]
            have hb7' := Lib.hid hb7
            have x7' := Lib.hid x7
            have i7' := Lib.hid i7
            have j7' := Lib.hid j7
            have hl87 : B8 < w7.heap.size := by omega
            have hl117 : B11 < w7.heap.size := by omega
            have hz77 : w.heap.size ≤ w7.heap.size := by omega
            clear hb7 x7 i7 j7 hz7 hownF hg7 hB7 hlen7 hcap7
            refine hb7'.out.mono ?_
            rintro e w8 ⟨rfl, b8⟩
            have z8 := b8.size
            have x8 := x7'.out.trans (b8.mono hz77)
            have i8 := i7'.out.below b8 hl87
            have j8 := j7'.out.below b8 hl117
            have x8' := Lib.hid x8
            have i8' := Lib.hid i8
            have j8' := Lib.hid j8
            have hl88 : B8 < w8.heap.size := by omega
            have hl118 : B11 < w8.heap.size := by omega
            have hz88 : w.heap.size ≤ w8.heap.size := by omega
            clear b8 x8 i8 j8 x7' i7' j7' hb7' z8
            go_wp2_with (refine store_set rfl rfl _ _ rfl _ _ rfl rfl ?_ ?_; (focus (apply Exists.intro; (repeat' (first | (with_reducible assumption) | (with_reducible apply IsSet.zero'; first | (with_reducible rfl) | (simp only [World.size_alloc]; done)) | (with_reducible apply IsSet.new'; first | (with_reducible rfl) | (simp only [World.size_alloc]; done)) | (with_reducible apply IsSet.sv; first | (with_reducible rfl) | (simp only [World.size_alloc]; done)) | (with_reducible apply IsSet.viaG; with_reducible assumption) | (with_reducible apply IsSet.viaB; with_reducible assumption) | (with_reducible apply IsSet.drew) | (with_reducible apply IsSet.store4) | (with_reducible apply IsSet.set_other) | (with_reducible apply IsSet.alloc) | (simp only [World.size_alloc]; omega) | omega | (simp; omega) | (simp; done))); done)); intro wX hX gX zX; (try simp only [World.size_alloc] at zX))
            have y9 := ((Below.refl w8.heap.size w8).alloc (Nat.le_refl _) (.cells #[.int .u64 0, .int .u64 0, .int .u64 0, .int .u64 0] 24)).grown gX (by simp) (fun j hj => by cases hj; exact Nat.le_refl _)
            have x9 := x8'.out.trans (y9.mono hz88)
            have i9 := i8'.out.below y9 hl88
            have j9 := j8'.out.below y9 hl118
            have k9 := hX
            have hlk := hX.lt
            have hli := i9.lt
            have hlj := j9.lt
            have hzz := x9.size
            have x9' := Lib.hid x9
            have i9' := Lib.hid i9
            have j9' := Lib.hid j9
            have k9' := Lib.hid k9
            clear y9 x9 i9 j9 k9 hX gX zX
            refine wp_region_swap (o' := regionOps Tryd.f12 12) (by kernel_rfl) ?_
            refine tn12_wp (base := wX.heap.size) (B8 := B8) (B11 := B11) (B16 := w8.heap.size) (S := S) (k := k) (N := N) (E := E) ⟨by rfl, by rfl, by rfl, by rfl, by rfl, by rfl, by rfl, by rfl, by rfl, i9'.out, j9'.out, k9'.out, hli, hlj, hlk, oS'.out, by omega, hE'.out.below x9'.out hN, by omega⟩ (Nat.le_refl _) ?_
            intro u W e31 bW hszW
            have j10 := x9'.out.trans (bW.mono hzz)
            rw [tn12_plan]
            simp only [putL, Act.put, List.setIfInBounds_toArray, List.set_cons_succ, List.set_cons_zero, e31]
            go_wp2_with fail
            go_ret
            exact ⟨rfl, j10⟩
end Go.Proofs.YteeopjgfiojoiaaDoor
