/- The document's reader of numbers: White, Trim, Whole, number. Conditions: the text has fewer bytes than a machine's word counts. -/
import Derived.Test.YtfnaooplpofgiaaGreatDoorKNumB
import Derived.WalkMore
import Derived.Handy
import Derived.Outline
namespace Go.Proofs.YtfnaooplpofgiaaGreatDoor
open Go Go.RowKit SN

theorem white_any (c : UInt8) (w : World) : Calls Tryz.prog 87 #[.int .u8 c.toNat] w fun e w' => e = .returned (.bool (isW c)) ∧ w' = w := by
  have h : isW c = (decide (c.toNat = 32) || decide (c.toNat = 9) || decide (c.toNat = 10)) := by
    have : ∀ k : Fin 256, isW (UInt8.ofNat k.val) = (decide (k.val = 32) || decide (k.val = 9) || decide (k.val = 10)) := by decide +kernel
    have h2 := this ⟨c.toNat, c.toNat_lt⟩
    simpa using h2
  have hl := c.toNat_lt
  rw [h]
  generalize c.toNat = n at hl
  clear h
  by_cases h1 : n = 32
  · subst h1
    go_enter Tryz.func87, Tryz.ntmps87
    go_wp2_with fail
    go_ret
    exact ⟨rfl, rfl⟩
  · by_cases h2 : n = 9
    · subst h2
      go_enter Tryz.func87, Tryz.ntmps87
      go_wp2_with fail
      go_ret
      exact ⟨rfl, rfl⟩
    · by_cases h3 : n = 10
      · subst h3
        go_enter Tryz.func87, Tryz.ntmps87
        go_wp2_with fail
        go_ret
        exact ⟨rfl, rfl⟩
      · have i1 : ¬ (n : Int) = 32 := by omega
        have i2 : ¬ (n : Int) = 9 := by omega
        have i3 : ¬ (n : Int) = 10 := by omega
        go_enter Tryz.func87, Tryz.ntmps87
        go_wp2_with fail
        go_ret
        refine ⟨?_, rfl⟩
        show Ending.returned (.bool ((n : Int) == 32 || (n : Int) == 9 || (n : Int) == 10)) = _
        rw [show ((n : Int) == 32) = false by simpa using i1, show ((n : Int) == 9) = false by simpa using i2, show ((n : Int) == 10) = false by simpa using i3, decide_eq_false h1, decide_eq_false h2, decide_eq_false h3]
def strLen : Value → Nat
  | .string s => s.size
  | _ => 0
theorem rtrim_snoc (l : List UInt8) (c : UInt8) : rtrim (l ++ [c]) = if isW c then rtrim l else l ++ [c] := by
  unfold rtrim
  rw [List.reverse_append]
  show ((c :: l.reverse).dropWhile isW).reverse = _
  cases h : isW c
  · rw [List.dropWhile_cons_of_neg (by simp [h])]; simp
  · rw [List.dropWhile_cons_of_pos h]; simp
theorem ltrim_cons (c : UInt8) (l : List UInt8) : ltrim (c :: l) = if isW c then ltrim l else c :: l := by
  unfold ltrim
  cases h : isW c
  · rw [List.dropWhile_cons_of_neg (by simp [h])]; simp
  · rw [List.dropWhile_cons_of_pos h]; simp
theorem bytes_cons (t : ByteArray) (h : 0 < t.size) : t.data.toList = t[0] :: t.data.toList.drop 1 := by
  have hl : 0 < t.data.toList.length := by simpa using h
  have := List.drop_eq_getElem_cons hl
  rw [List.drop_zero] at this
  rw [this]
  rfl
theorem bytes_snoc (t : ByteArray) (h : 0 < t.size) : t.data.toList = t.data.toList.take (t.size - 1) ++ [t[t.size - 1]] := by
  have hl : t.data.toList.length = t.size := by simp
  have h2 := List.drop_eq_getElem_cons (l := t.data.toList) (i := t.size - 1) (by omega)
  rw [List.drop_eq_nil_of_le (i := t.size - 1 + 1) (by omega)] at h2
  have h3 := List.take_append_drop (t.size - 1) t.data.toList
  rw [h2] at h3
  exact h3.symm
theorem empty_isE {t : ByteArray} (h : t.size = 0) : t.toList.isEmpty = true ∧ t.data.toList = [] := by
  have hl : t.data.toList.length = t.size := by simp
  have : t.data.toList = [] := List.eq_nil_of_length_eq_zero (by omega)
  exact ⟨by rw [Lib.toList_data, this]; rfl, this⟩
theorem empty_not {t : ByteArray} (h : ¬ t.size = 0) : t.toList.isEmpty = false := by
  have hl : t.data.toList.length = t.size := by simp
  rw [Lib.toList_data]
  cases hc : t.data.toList with
  | nil => rw [hc] at hl; exact absurd hl.symm h
  | cons a b => rfl
theorem extract_tail (t : ByteArray) : (t.extract 1 t.size).data.toList = t.data.toList.drop 1 := by
  rw [ByteArray.data_extract, Array.toList_extract]
  have hl : t.data.toList.length = t.size := by simp
  rw [List.extract_eq_take_drop, List.take_of_length_le (by rw [List.length_drop]; omega)]
theorem extract_init (t : ByteArray) (n : Nat) : (t.extract 0 n).data.toList = t.data.toList.take n := by
  rw [ByteArray.data_extract, Array.toList_extract, List.extract_eq_take_drop, List.drop_zero, Nat.sub_zero]
set_option maxHeartbeats 1000000 in
set_option maxRecDepth 100000 in
theorem trim_any (s : ByteArray) (hs : s.size ≤ 9223372036854775807) (w : World) :
    Calls Tryz.prog 72 #[.string s] w fun e w' => e = .returned (.string ⟨(trimW s.data.toList).toArray⟩) ∧ w' = w := by
  rw [trimW_eq]
  obtain ⟨Post, hPost⟩ : ∃ Post : Ending → World → Prop, Post = fun e w' => e = .returned (.string ⟨(rtrim (ltrim s.data.toList)).toArray⟩) ∧ w' = w := ⟨_, rfl⟩
  rw [← hPost]
  have hP := Lib.hid hPost
  clear hPost
  go_enter Tryz.func72, Tryz.ntmps72
  go_wp2_with fail
  go_loopw [0] (fun v wr => ∃ t : ByteArray, v = .string t ∧ wr = w ∧ ltrim t.data.toList = ltrim s.data.toList ∧ t.size ≤ s.size) (fun v _ => strLen v)
  case atStart => exact ⟨s, rfl, rfl, rfl, Nat.le_refl _⟩
  case round =>
    obtain ⟨t, rfl, rfl, hl, hz⟩ := hrel
    have hl' := Lib.hid hl
    clear hl
    by_cases h0 : t.size = 0
    · have he := (empty_isE h0).1
      have hn := (empty_isE h0).2
      have hT : t.data.toList = ltrim s.data.toList := by rw [← hl'.out, hn]; rfl
      have hT' := Lib.hid hT
      clear hT
      go_wp2_with fail
      go_loopw [0] (fun v wr2 => ∃ t2 : ByteArray, v = .string t2 ∧ wr2 = wr ∧ rtrim t2.data.toList = rtrim t.data.toList ∧ t2.size ≤ s.size) (fun v _ => strLen v)
      case atStart => exact ⟨t, rfl, rfl, rfl, hz⟩
      case round =>
        obtain ⟨t2, rfl, rfl, hl2, hz2⟩ := hrel
        have hl2' := Lib.hid hl2
        clear hl2
        by_cases h20 : t2.size = 0
        · have he2 := (empty_isE h20).1
          have hn2 := (empty_isE h20).2
          go_wp2_with fail
          rw [hP.out]
          refine ⟨?_, rfl⟩
          have e := hl2'.out
          rw [hT'.out, hn2] at e
          rw [← e]
          show Ending.returned (.string t2) = _
          congr 2
          apply ByteArray.ext
          apply Array.toList_inj.1
          rw [hn2]
          rfl
        · have he2 := empty_not h20
          have hpos2 : t2.size - 1 < t2.size := by omega
          have hlI : (t2.size : Int) - 1 = ((t2.size - 1 : Nat) : Int) := by omega
          have hw2 := fun W => white_any (t2[t2.size - 1]) W
          by_cases hwh2 : isW (t2[t2.size - 1]) = true
          · rw [hwh2] at hw2
            have hw2' := Lib.hid hw2
            clear hw2
            go_wp2_with fail
            refine (hw2'.out _).mono ?_
            rintro e w2 ⟨rfl, rfl⟩
            go_wp2_with fail
            case roundEnd =>
              refine ⟨⟨_, rfl, trivial, ?_, ?_⟩, ?_⟩
              · rw [extract_init, ← hl2'.out]
                have hc := bytes_snoc t2 (by omega)
                conv => rhs; rw [hc]
                rw [rtrim_snoc, if_pos hwh2]
              · rw [ByteArray.size_extract]; omega
              · show (t2.extract 0 (t2.size - 1)).size < t2.size
                rw [ByteArray.size_extract]; omega
          · have hwf : isW (t2[t2.size - 1]) = false := by simpa using hwh2
            rw [hwf] at hw2
            have hw2' := Lib.hid hw2
            clear hw2
            go_wp2_with fail
            refine (hw2'.out _).mono ?_
            rintro e w2 ⟨rfl, rfl⟩
            go_wp2_with fail
            rw [hP.out]
            refine ⟨?_, rfl⟩
            have hc := bytes_snoc t2 (by omega)
            have hr2 : rtrim t2.data.toList = t2.data.toList := by
              conv => lhs; rw [hc]
              rw [rtrim_snoc, if_neg hwh2]
              exact hc.symm
            have e := hl2'.out
            rw [hT'.out, hr2] at e
            rw [← e]
            rfl
    · have he := empty_not h0
      have hpos : 0 < t.size := by omega
      have hw := fun W => white_any t[0] W
      by_cases hwh : isW t[0] = true
      · rw [hwh] at hw
        have hw' := Lib.hid hw
        clear hw
        go_wp2_with fail
        refine (hw'.out _).mono ?_
        rintro e w1 ⟨rfl, rfl⟩
        go_wp2_with fail
        case roundEnd =>
          refine ⟨⟨_, rfl, trivial, ?_, ?_⟩, ?_⟩
          · rw [extract_tail, ← hl'.out]
            have hc := bytes_cons t hpos
            rw [hc, ltrim_cons, if_pos hwh, List.drop_one, List.tail_cons]
          · rw [ByteArray.size_extract]; omega
          · show (t.extract 1 t.size).size < t.size
            rw [ByteArray.size_extract]; omega
      · have hwf : isW t[0] = false := by simpa using hwh
        rw [hwf] at hw
        have hw' := Lib.hid hw
        clear hw
        have hT : t.data.toList = ltrim s.data.toList := by
          rw [← hl'.out]
          have hc := bytes_cons t hpos
          conv => rhs; rw [hc]
          rw [ltrim_cons, if_neg hwh]
          exact hc
        have hT' := Lib.hid hT
        clear hT
        go_wp2_with fail
        refine (hw'.out _).mono ?_
        rintro e w1 ⟨rfl, rfl⟩
        go_wp2_with fail
        go_loopw [0] (fun v wr2 => ∃ t2 : ByteArray, v = .string t2 ∧ wr2 = w1 ∧ rtrim t2.data.toList = rtrim t.data.toList ∧ t2.size ≤ s.size) (fun v _ => strLen v)
        case atStart => exact ⟨t, rfl, rfl, rfl, hz⟩
        case round =>
          obtain ⟨t2, rfl, rfl, hl2, hz2⟩ := hrel
          have hl2' := Lib.hid hl2
          clear hl2
          by_cases h20 : t2.size = 0
          · have he2 := (empty_isE h20).1
            have hn2 := (empty_isE h20).2
            go_wp2_with fail
            rw [hP.out]
            refine ⟨?_, rfl⟩
            have e := hl2'.out
            rw [hT'.out, hn2] at e
            rw [← e]
            show Ending.returned (.string t2) = _
            congr 2
            apply ByteArray.ext
            apply Array.toList_inj.1
            rw [hn2]
            rfl
          · have he2 := empty_not h20
            have hpos2 : t2.size - 1 < t2.size := by omega
            have hlI : (t2.size : Int) - 1 = ((t2.size - 1 : Nat) : Int) := by omega
            have hw2 := fun W => white_any (t2[t2.size - 1]) W
            by_cases hwh2 : isW (t2[t2.size - 1]) = true
            · rw [hwh2] at hw2
              have hw2' := Lib.hid hw2
              clear hw2
              go_wp2_with fail
              refine (hw2'.out _).mono ?_
              rintro e w2 ⟨rfl, rfl⟩
              go_wp2_with fail
              case roundEnd =>
                refine ⟨⟨_, rfl, trivial, ?_, ?_⟩, ?_⟩
                · rw [extract_init, ← hl2'.out]
                  have hc := bytes_snoc t2 (by omega)
                  conv => rhs; rw [hc]
                  rw [rtrim_snoc, if_pos hwh2]
                · rw [ByteArray.size_extract]; omega
                · show (t2.extract 0 (t2.size - 1)).size < t2.size
                  rw [ByteArray.size_extract]; omega
            · have hwf : isW (t2[t2.size - 1]) = false := by simpa using hwh2
              rw [hwf] at hw2
              have hw2' := Lib.hid hw2
              clear hw2
              go_wp2_with fail
              refine (hw2'.out _).mono ?_
              rintro e w2 ⟨rfl, rfl⟩
              go_wp2_with fail
              rw [hP.out]
              refine ⟨?_, rfl⟩
              have hc := bytes_snoc t2 (by omega)
              have hr2 : rtrim t2.data.toList = t2.data.toList := by
                conv => lhs; rw [hc]
                rw [rtrim_snoc, if_neg hwh2]
                exact hc.symm
              have e := hl2'.out
              rw [hT'.out, hr2] at e
              rw [← e]
              rfl
/-- What the loop reads, with the document's one limit. -/
theorem wholeS_ref (neg : Bool) (l : List UInt8) : wholeS neg l = if l = [] then none else (numF 9223372036854775808 0 l).bind fun m => if neg = false ∧ 9223372036854775807 < m then none else some (if neg then -(m : Int) else (m : Int)) := by
  unfold wholeS
  by_cases h : l = []
  · rw [if_pos h, if_pos h]
  · rw [if_neg h, if_neg h]
    cases neg
    · unfold limOf
      rw [if_neg (by decide), numF_two l 0 (by decide)]
      cases numF 9223372036854775808 0 l with
      | none => rfl
      | some m =>
        show Option.map _ (if m ≤ 9223372036854775807 then some m else none) = _
        by_cases hm : m ≤ 9223372036854775807
        · rw [if_pos hm]
          show some _ = (if false = false ∧ 9223372036854775807 < m then none else _)
          rw [if_neg (by omega)]
        · rw [if_neg hm]
          show none = (if false = false ∧ 9223372036854775807 < m then none else _)
          rw [if_pos ⟨rfl, by omega⟩]
    · unfold limOf
      rw [if_pos rfl]
      cases numF 9223372036854775808 0 l <;> rfl
set_option maxHeartbeats 1000000 in
set_option maxRecDepth 100000 in
theorem rwhole_neg (s : ByteArray) (h0 : 0 < s.size) (h45 : s[0].toNat = 45) (hs : s.size ≤ 9223372036854775807) (w : World) :
    Calls Tryz.prog 73 #[.string s] w fun e w' => e = .returned (numV (wholeS true (s.extract 1 s.size).data.toList)) ∧ Below w.heap.size w w' := by
  have h0I : (0 : Int) < (s.size : Int) := by omega
  have hrs : (s.extract 1 s.size).size = s.size - 1 := by rw [ByteArray.size_extract]; omega
  obtain ⟨r, hr⟩ : ∃ r, r = s.extract 1 s.size := ⟨_, rfl⟩
  rw [← hr] at hrs ⊢
  obtain ⟨l, hl⟩ : ∃ l, l = r.data.toList := ⟨_, rfl⟩
  have hlen : l.length = r.size := by rw [hl]; simp
  have hget : ∀ k, (hk : k < r.size) → l[k]? = some r[k] := fun k hk => by rw [hl, Array.getElem?_toList]; exact Array.getElem?_eq_getElem hk
  rw [← hl]
  have hcv := Lib.hid (Lib.run_convert_string_bytes (P := Tryz.prog) w 9 62 5 r Tryz.underlying9 Tryz.underlying62 Tryz.underlying5)
  have hbl := bytesWorld_below w 5 r
  have hcell : ∀ i (h : i < r.size), (Lib.bytesWorld w 5 r).cell? ⟨w.heap.size, i, none⟩ = some (.int .u8 r[i].toNat) := fun i h => by
    have := Lib.bytesWorld_cell w 5 r i h
    rw [this]
    simp [h, ByteArray.getElem_eq_getElem_data]
  have hcp : r.size ≤ grownCap w r.size 0 5 := grownCap_ge _ _ _ _
  generalize Lib.bytesWorld w 5 r = W at hcv hbl hcell
  generalize grownCap w r.size 0 5 = gc at hcv hcp
  have hbl' := Lib.hid hbl
  have hcell' := Lib.hid hcell
  have hget' := Lib.hid hget
  clear hcell hbl hget
  obtain ⟨Post, hPost⟩ : ∃ Post : Ending → World → Prop, Post = fun e w' => e = .returned (numV (wholeS true l)) ∧ Below w.heap.size w w' := ⟨_, rfl⟩
  rw [← hPost]
  rw [wholeS_ref] at hPost
  have hP := Lib.hid hPost
  have hdr := Lib.hid (fun (k : Nat) (hk : k < r.size) => show l.drop k = r[k] :: l.drop (k + 1) by
    have := hget'.out k hk
    rw [List.drop_eq_getElem_cons (by omega)]
    rw [List.getElem?_eq_getElem (by omega)] at this
    rw [Option.some.inj this])
  clear hPost hget'
  go_enter Tryz.func73, Tryz.ntmps73
  go_wp2_with fail
  rw [← hr, hcv.out]
  go_wp2_with fail
  go_loopw [5, 26] (fun n i wr => ∃ (k m : Nat), k ≤ r.size ∧ n = .int .u64 m ∧ i = .int .i64 k ∧ m ≤ 9223372036854775808 ∧ numF 9223372036854775808 0 l = numF 9223372036854775808 m (l.drop k) ∧ wr = W) (fun _ i _ => r.size - (intOf i).toNat)
  case atStart => exact ⟨0, 0, Nat.zero_le _, rfl, rfl, Nat.zero_le _, by rw [List.drop_zero], rfl⟩
  case round =>
    obtain ⟨k, m, hk, rfl, rfl, hm, hnum, rfl⟩ := hrel
    have hnum' := Lib.hid hnum
    clear hnum
    by_cases hkk : k < r.size
    · have hl0 : l ≠ [] := fun e => by rw [e] at hlen; simp at hlen; omega
      have hld := hcell'.out k hkk
      have hkI : (k : Int) < (r.size : Int) := by omega
      have hn2 := Lib.hid (show numF 9223372036854775808 0 l = if 48 ≤ r[k].toNat ∧ r[k].toNat ≤ 57 ∧ m * 10 + (r[k].toNat - 48) ≤ 9223372036854775808 then numF 9223372036854775808 (m * 10 + (r[k].toNat - 48)) (l.drop (k + 1)) else none by rw [hnum'.out, hdr.out k hkk, numF_cons])
      have h256 := r[k].toNat_lt
      generalize r[k].toNat = d at hld hn2 h256
      go_wp2_with fail
      case roundEnd =>
        refine ⟨⟨k + 1, m * 10 + (d - 48), by omega, ?_, rfl, by omega, ?_, trivial⟩, ?_⟩
        · congr 1; omega
        · rw [hn2.out, if_pos (by omega)]
        · simp [intOf]; omega
      all_goals
        rw [hP.out]
        refine ⟨?_, hbl'.out⟩
        rw [if_neg hl0, hn2.out, if_neg (by omega)]
        rfl
    · have hke : k = r.size := by omega
      have hkI : ¬ (k : Int) < (r.size : Int) := by omega
      have hn2 : numF 9223372036854775808 0 l = some m := by rw [hnum'.out, List.drop_eq_nil_of_le (by omega)]; rfl
      by_cases hz : r.size = 0
      · have hl0 : l = [] := List.eq_nil_of_length_eq_zero (by omega)
        have hzI : ¬ 0 < s.size - 1 := by omega
        go_wp2_with fail
        rw [hP.out]
        refine ⟨?_, hbl'.out⟩
        rw [if_pos hl0]
        rfl
      · have hl0 : l ≠ [] := fun e => by rw [e] at hlen; simp at hlen; omega
        have hzI : 0 < s.size - 1 := by omega
        go_wp2_with fail
        rw [hP.out]
        refine ⟨?_, hbl'.out⟩
        rw [if_neg hl0, hn2]
        simp [numV, wrap64]
        omega
set_option maxHeartbeats 1000000 in
set_option maxRecDepth 100000 in
theorem rwhole_pos (r : ByteArray) (h0 : 0 < r.size) (h45 : ¬ r[0].toNat = 45) (hs : r.size ≤ 9223372036854775807) (w : World) :
    Calls Tryz.prog 73 #[.string r] w fun e w' => e = .returned (numV (wholeS false r.data.toList)) ∧ Below w.heap.size w w' := by
  have h0I : (0 : Int) < (r.size : Int) := by omega
  have h45I : ¬ (r[0].toNat : Int) = 45 := by omega
  obtain ⟨l, hl⟩ : ∃ l, l = r.data.toList := ⟨_, rfl⟩
  have hlen : l.length = r.size := by rw [hl]; simp
  have hget : ∀ k, (hk : k < r.size) → l[k]? = some r[k] := fun k hk => by rw [hl, Array.getElem?_toList]; exact Array.getElem?_eq_getElem hk
  rw [← hl]
  have hcv := Lib.hid (Lib.run_convert_string_bytes (P := Tryz.prog) w 9 62 5 r Tryz.underlying9 Tryz.underlying62 Tryz.underlying5)
  have hbl := bytesWorld_below w 5 r
  have hcell : ∀ i (h : i < r.size), (Lib.bytesWorld w 5 r).cell? ⟨w.heap.size, i, none⟩ = some (.int .u8 r[i].toNat) := fun i h => by
    have := Lib.bytesWorld_cell w 5 r i h
    rw [this]
    simp [h, ByteArray.getElem_eq_getElem_data]
  have hcp : r.size ≤ grownCap w r.size 0 5 := grownCap_ge _ _ _ _
  generalize Lib.bytesWorld w 5 r = W at hcv hbl hcell
  generalize grownCap w r.size 0 5 = gc at hcv hcp
  have hbl' := Lib.hid hbl
  have hcell' := Lib.hid hcell
  have hget' := Lib.hid hget
  clear hcell hbl hget
  obtain ⟨Post, hPost⟩ : ∃ Post : Ending → World → Prop, Post = fun e w' => e = .returned (numV (wholeS false l)) ∧ Below w.heap.size w w' := ⟨_, rfl⟩
  rw [← hPost]
  rw [wholeS_ref] at hPost
  have hP := Lib.hid hPost
  have hdr := Lib.hid (fun (k : Nat) (hk : k < r.size) => show l.drop k = r[k] :: l.drop (k + 1) by
    have := hget'.out k hk
    rw [List.drop_eq_getElem_cons (by omega)]
    rw [List.getElem?_eq_getElem (by omega)] at this
    rw [Option.some.inj this])
  clear hPost hget'
  go_enter Tryz.func73, Tryz.ntmps73
  go_wp2_with fail
  rw [hcv.out]
  go_wp2_with fail
  go_loopw [5, 26] (fun n i wr => ∃ (k m : Nat), k ≤ r.size ∧ n = .int .u64 m ∧ i = .int .i64 k ∧ m ≤ 9223372036854775808 ∧ numF 9223372036854775808 0 l = numF 9223372036854775808 m (l.drop k) ∧ wr = W) (fun _ i _ => r.size - (intOf i).toNat)
  case atStart => exact ⟨0, 0, Nat.zero_le _, rfl, rfl, Nat.zero_le _, by rw [List.drop_zero], rfl⟩
  case round =>
    obtain ⟨k, m, hk, rfl, rfl, hm, hnum, rfl⟩ := hrel
    have hnum' := Lib.hid hnum
    clear hnum
    by_cases hkk : k < r.size
    · have hl0 : l ≠ [] := fun e => by rw [e] at hlen; simp at hlen; omega
      have hld := hcell'.out k hkk
      have hkI : (k : Int) < (r.size : Int) := by omega
      have hn2 := Lib.hid (show numF 9223372036854775808 0 l = if 48 ≤ r[k].toNat ∧ r[k].toNat ≤ 57 ∧ m * 10 + (r[k].toNat - 48) ≤ 9223372036854775808 then numF 9223372036854775808 (m * 10 + (r[k].toNat - 48)) (l.drop (k + 1)) else none by rw [hnum'.out, hdr.out k hkk, numF_cons])
      have h256 := r[k].toNat_lt
      generalize r[k].toNat = d at hld hn2 h256
      go_wp2_with fail
      case roundEnd =>
        refine ⟨⟨k + 1, m * 10 + (d - 48), by omega, ?_, rfl, by omega, ?_, trivial⟩, ?_⟩
        · congr 1; omega
        · rw [hn2.out, if_pos (by omega)]
        · simp [intOf]; omega
      all_goals
        rw [hP.out]
        refine ⟨?_, hbl'.out⟩
        rw [if_neg hl0, hn2.out, if_neg (by omega)]
        rfl
    · have hke : k = r.size := by omega
      have hkI : ¬ (k : Int) < (r.size : Int) := by omega
      have hn2 : numF 9223372036854775808 0 l = some m := by rw [hnum'.out, List.drop_eq_nil_of_le (by omega)]; rfl
      have hl0 : l ≠ [] := fun e => by rw [e] at hlen; simp at hlen; omega
      by_cases hm2 : m ≤ 9223372036854775807
      · have hmI : ¬ (9223372036854775807 : Int) < (m : Int) := by omega
        go_wp2_with fail
        rw [hP.out]
        refine ⟨?_, hbl'.out⟩
        rw [if_neg hl0, hn2]
        show Ending.returned (.tuple #[.int .i64 m, .bool true]) = Ending.returned (numV (if True ∧ 9223372036854775807 < m then none else some (if false = true then -(m : Int) else (m : Int))))
        rw [if_neg (by omega)]
        rfl
      · have hmI : (9223372036854775807 : Int) < (m : Int) := by omega
        go_wp2_with fail
        rw [hP.out]
        refine ⟨?_, hbl'.out⟩
        rw [if_neg hl0, hn2]
        show _ = Ending.returned (numV (if True ∧ 9223372036854775807 < m then none else some (if false = true then -(m : Int) else (m : Int))))
        rw [if_pos ⟨trivial, by omega⟩]
        rfl
set_option maxHeartbeats 1000000 in
set_option maxRecDepth 100000 in
theorem rwhole_emp (r : ByteArray) (h0 : r.size = 0) (w : World) :
    Calls Tryz.prog 73 #[.string r] w fun e w' => e = .returned (numV none) ∧ Below w.heap.size w w' := by
  have hcv := Lib.hid (Lib.run_convert_string_bytes (P := Tryz.prog) w 9 62 5 r Tryz.underlying9 Tryz.underlying62 Tryz.underlying5)
  have hbl := bytesWorld_below w 5 r
  generalize Lib.bytesWorld w 5 r = W at hcv hbl
  generalize grownCap w r.size 0 5 = gc at hcv
  have hbl' := Lib.hid hbl
  have h0I : ¬ (0 : Int) < (r.size : Int) := by omega
  go_enter Tryz.func73, Tryz.ntmps73
  go_wp2_with fail
  rw [hcv.out]
  go_wp2_with fail
  go_loopw [5, 26] (fun n i wr => n = .int .u64 0 ∧ i = .int .i64 0 ∧ wr = W) (fun _ _ _ => 0)
  case atStart => exact ⟨rfl, rfl, rfl⟩
  case round =>
    obtain ⟨rfl, rfl, rfl⟩ := hrel
    go_wp2_with fail
    go_ret2
    exact ⟨rfl, hbl'.out⟩
theorem rwhole_any (s : ByteArray) (hs : s.size ≤ 9223372036854775807) (w : World) :
    Calls Tryz.prog 73 #[.string s] w fun e w' => e = .returned (numV (whole s.data.toList)) ∧ Below w.heap.size w w' := by
  by_cases h0 : s.size = 0
  · have hn := (empty_isE h0).2
    rw [hn]
    exact rwhole_emp s h0 w
  · have hp : 0 < s.size := by omega
    have hc := bytes_cons s hp
    by_cases h45 : s[0].toNat = 45
    · have e1 : isNeg s.data.toList = true := by
        unfold isNeg
        rw [hc]
        have : s[0] = 45 := UInt8.toNat_inj.1 h45
        rw [this]; rfl
      unfold whole unNeg
      rw [e1, if_pos rfl, ← extract_tail]
      exact rwhole_neg s hp h45 hs w
    · have e1 : isNeg s.data.toList = false := by
        unfold isNeg
        rw [hc]
        have : s[0] ≠ 45 := fun e => h45 (by rw [e]; rfl)
        simpa using this
      unfold whole unNeg
      rw [e1]
      exact rwhole_pos s hp h45 hs w
/-- No number begins with + once its sign is cut. -/
theorem whole_plus (r : List UInt8) : whole (43 :: r) = none := rfl
theorem number_ref (t : List UInt8) : (if t.head? = some 43 then (if t[1]? = some 45 then none else whole (t.drop 1)) else whole t) = if 1 < t.length ∧ t.head? = some 43 ∧ t[1]? ≠ some 45 then whole (t.drop 1) else whole t := by
  by_cases h43 : t.head? = some 43
  · rw [if_pos h43]
    obtain ⟨r, rfl⟩ : ∃ r, t = (43 : UInt8) :: r := by
      cases t with
      | nil => cases h43
      | cons a r => injection h43 with h; exact ⟨r, by rw [h]⟩
    by_cases h45 : ((43 : UInt8) :: r)[1]? = some 45
    · rw [if_pos h45, if_neg (fun h => h.2.2 h45), whole_plus]
    · rw [if_neg h45]
      cases r with
      | nil => rfl
      | cons b r => rw [if_pos ⟨by simp, rfl, h45⟩]
  · rw [if_neg h43, if_neg (fun h => h43 h.2.1)]
set_option maxHeartbeats 1000000 in
set_option maxRecDepth 100000 in
theorem rnumber_any (s : ByteArray) (hs : s.size ≤ 9223372036854775807) (w : World) :
    Calls Tryz.prog 57 #[.string s] w fun e w' => e = .returned (numV (number s.data.toList)) ∧ Below w.heap.size w w' := by
  have hT := Lib.hid (trim_any s hs w)
  have hlen : s.data.toList.length = s.size := by simp
  have htl := trimW_len s.data.toList
  obtain ⟨t, ht⟩ : ∃ t : ByteArray, t = ⟨(trimW s.data.toList).toArray⟩ := ⟨_, rfl⟩
  have htd : t.data.toList = trimW s.data.toList := by rw [ht]
  have htz : t.size ≤ 9223372036854775807 := by
    have : t.data.toList.length = t.size := by simp
    rw [htd] at this; omega
  rw [← ht] at hT
  have hn : number s.data.toList = if 1 < t.data.toList.length ∧ t.data.toList.head? = some 43 ∧ t.data.toList[1]? ≠ some 45 then whole (t.data.toList.drop 1) else whole t.data.toList := by
    rw [← number_ref, htd]; rfl
  rw [hn]
  have htl2 : t.data.toList.length = t.size := by simp
  clear ht hn htl hlen
  have hW := Lib.hid (fun W => rwhole_any t htz W)
  have hW2 := Lib.hid (fun W => rwhole_any (t.extract 1 t.size) (by rw [ByteArray.size_extract]; omega) W)
  rw [extract_tail] at hW2
  by_cases h1 : 1 < t.size
  · have g0 : t.data.toList.head? = some t[0] := by rw [bytes_cons t (by omega)]; rfl
    have g1 : t.data.toList[1]? = some t[1] := by rw [Array.getElem?_toList]; exact Array.getElem?_eq_getElem h1
    rw [htl2, g0, g1]
    have h1I : (1 : Int) < (t.size : Int) := by omega
    have h0p : 0 < t.size := by omega
    by_cases h43 : t[0].toNat = 43
    · have h43I : (t[0].toNat : Int) = 43 := by omega
      by_cases h45 : t[1].toNat = 45
      · rw [if_neg (fun h => h.2.2 (by rw [UInt8.toNat_inj.1 (show t[1].toNat = (45 : UInt8).toNat from h45)]))]
        have h45I : (t[1].toNat : Int) = 45 := by omega
        clear g0 g1
        obtain ⟨v, hv⟩ : ∃ v, v = whole t.data.toList := ⟨_, rfl⟩
        rw [← hv] at hW ⊢
        obtain ⟨q, z, hq⟩ : ∃ q z, numV v = .tuple #[.int .i64 q, .bool z] := by cases v <;> exact ⟨_, _, rfl⟩
        rw [hq] at hW ⊢
        go_enter Tryz.func57, Tryz.ntmps57
        go_wp2_with fail
        refine hT.out.mono ?_
        rintro e w1 ⟨rfl, rfl⟩
        go_wp2_with fail
        refine (hW.out _).mono ?_
        rintro e w2 ⟨rfl, b2⟩
        go_wp2_with fail
        go_ret2
        exact ⟨rfl, b2⟩
      · have hc : (1 < t.size ∧ some t[0] = some 43 ∧ some t[1] ≠ some 45) := ⟨h1, by rw [UInt8.toNat_inj.1 (show t[0].toNat = (43 : UInt8).toNat from h43)], fun e => h45 (by injection e with e; rw [e]; rfl)⟩
        rw [if_pos hc]
        have h45I : ¬ (t[1].toNat : Int) = 45 := by omega
        clear g0 g1 hc
        obtain ⟨v, hv⟩ : ∃ v, v = whole (t.data.toList.drop 1) := ⟨_, rfl⟩
        rw [← hv] at hW2 ⊢
        obtain ⟨q, z, hq⟩ : ∃ q z, numV v = .tuple #[.int .i64 q, .bool z] := by cases v <;> exact ⟨_, _, rfl⟩
        rw [hq] at hW2 ⊢
        go_enter Tryz.func57, Tryz.ntmps57
        go_wp2_with fail
        refine hT.out.mono ?_
        rintro e w1 ⟨rfl, rfl⟩
        go_wp2_with fail
        refine (hW2.out _).mono ?_
        rintro e w2 ⟨rfl, b2⟩
        go_wp2_with fail
        go_ret2
        exact ⟨rfl, b2⟩
    · rw [if_neg (fun h => h43 (by have := h.2.1; injection this with this; rw [this]; rfl))]
      have h43I : ¬ (t[0].toNat : Int) = 43 := by omega
      clear g0 g1
      obtain ⟨v, hv⟩ : ∃ v, v = whole t.data.toList := ⟨_, rfl⟩
      rw [← hv] at hW ⊢
      obtain ⟨q, z, hq⟩ : ∃ q z, numV v = .tuple #[.int .i64 q, .bool z] := by cases v <;> exact ⟨_, _, rfl⟩
      rw [hq] at hW ⊢
      go_enter Tryz.func57, Tryz.ntmps57
      go_wp2_with fail
      refine hT.out.mono ?_
      rintro e w1 ⟨rfl, rfl⟩
      go_wp2_with fail
      refine (hW.out _).mono ?_
      rintro e w2 ⟨rfl, b2⟩
      go_wp2_with fail
      go_ret2
      exact ⟨rfl, b2⟩
  · rw [htl2, if_neg (fun h => h1 h.1)]
    have h1I : ¬ (1 : Int) < (t.size : Int) := by omega
    obtain ⟨v, hv⟩ : ∃ v, v = whole t.data.toList := ⟨_, rfl⟩
    rw [← hv] at hW ⊢
    obtain ⟨q, z, hq⟩ : ∃ q z, numV v = .tuple #[.int .i64 q, .bool z] := by cases v <;> exact ⟨_, _, rfl⟩
    rw [hq] at hW ⊢
    go_enter Tryz.func57, Tryz.ntmps57
    go_wp2_with fail
    refine hT.out.mono ?_
    rintro e w1 ⟨rfl, rfl⟩
    go_wp2_with fail
    refine (hW.out _).mono ?_
    rintro e w2 ⟨rfl, b2⟩
    go_wp2_with fail
    go_ret2
    exact ⟨rfl, b2⟩
end Go.Proofs.YtfnaooplpofgiaaGreatDoor
