/- tree.Clean: a path's parts. Conditions: the library's variable of lengths holds a number. -/
import Derived.Test.YtfnaooplpofgiaaGreatDoorKBy
import Derived.Test.YtfnaooplpofgiaaGreatDoorKStat
import Derived.Test.YtfnaooplpofgiaaGreatDoorClnP
import Derived.Test.YtfnaooplpofgiaaGreatDoorShelf
import Derived.WalkMore
import Derived.OwnWalk
import Derived.Handy
import Derived.Outline
namespace Go.Proofs.YtfnaooplpofgiaaGreatDoor
open Go Go.RowKit SN

def MaxL (N : Nat) (w : World) : Prop := (∃ m, w.cell? ⟨22, 0, none⟩ = some (.int .i64 m)) ∧ 22 < N
theorem MaxL.below {N M : Nat} {w w' : World} (h : MaxL N w) (hb : Below M w w') (hN : N ≤ M) : MaxL N w' := by
  obtain ⟨⟨m, hm⟩, hl⟩ := h
  exact ⟨⟨m, (hb.cell (p := ⟨22, 0, none⟩) (Nat.lt_of_lt_of_le hl hN)).trans hm⟩, hl⟩
def sV (l : List ByteArray) : List Value := l.map Value.string
theorem info_str : (Tryz.prog.info? 9).map (fun i => (i.zero, i.size, i.bytes)) = some (some (.string ByteArray.empty), 1, 16) := by kernel_rfl
/-- A row of texts that the call owns. -/
def OwnS (w : World) (base : Nat) (v : Value) (l : List ByteArray) : Prop := w.ownsRow base 9 1 v l.length (sV l)
theorem OwnS.nil (w : World) (base : Nat) : OwnS w base (.slice none 0 0) [] := World.ownsRow_nil w base 9 1
theorem OwnS.shape {w : World} {base : Nat} {v : Value} {l : List ByteArray} (h : OwnS w base v l) : (v = .slice none 0 0 ∧ l = []) ∨ ∃ g cap, v = .slice (some ⟨g, 0, none⟩) l.length cap ∧ base ≤ g ∧ g < w.heap.size ∧ l.length ≤ cap ∧ cap ≤ maxLen ∧ RowAt w g 0 l := by
  obtain ⟨h1, ⟨rfl, h2⟩ | ⟨g, cap, cur, rfl, hg, hc, hn, hm, hs, ht⟩⟩ := h
  · exact .inl ⟨rfl, List.eq_nil_of_length_eq_zero h2⟩
  · refine .inr ⟨g, cap, rfl, hg, row_lt hc, hn, hm, fun i s hi => row_cell hc ?_⟩
    rw [Nat.zero_add]
    have hil : i < l.length := by
      by_cases h : i < l.length
      · exact h
      · rw [List.getElem?_eq_none (by omega)] at hi; cases hi
    have e : (cur.toList.take (l.length * 1))[i]? = some (.string s) := by rw [ht]; unfold sV; rw [List.getElem?_map, hi]; rfl
    rw [List.getElem?_take_of_lt (by omega), Array.getElem?_toList] at e
    exact e
theorem OwnS.grown {w w' : World} {base : Nat} {v : Value} {l : List ByteArray} {row : Option Nat} (h : OwnS w base v l) (hg : w.grownBy w' row) (hr : ∀ g, row = some g → g < base) : OwnS w' base v l := by
  obtain ⟨h1, h2 | ⟨g, cap, cur, e, hb, hc, hr2⟩⟩ := h
  · exact ⟨h1, .inl h2⟩
  · exact ⟨h1, .inr ⟨g, cap, cur, e, hb, row_grown hc hg (fun e => by have := hr g e.symm; omega), hr2⟩⟩
theorem OwnS.cut {w : World} {base g cap n : Nat} {l : List ByteArray} (h : OwnS w base (.slice (some ⟨g, 0, none⟩) n cap) l) : OwnS w base (.slice (some ⟨g, 0, none⟩) (l.length - 1) cap) l.dropLast := by
  obtain ⟨h1, ⟨e, -⟩ | ⟨g', cap', cur, e, hb, hc, hn, hm, hs, ht⟩⟩ := h
  · cases e
  · injection e with e1 e2 e3
    injection e1 with e1
    injection e1 with e1
    subst e1 e2 e3
    have hd : l.dropLast.length = l.length - 1 := List.length_dropLast
    refine ⟨by simp [sV], .inr ⟨g, cap, cur, by rw [hd], hb, hc, by omega, hm, hs, ?_⟩⟩
    rw [hd]
    have e : sV l.dropLast = (sV l).dropLast := by unfold sV; rw [List.map_dropLast]
    rw [e, ← ht, List.dropLast_eq_take, List.take_take, List.length_take]
    congr 1
    have hz : cur.toList.length = cur.size := by simp
    omega
set_option maxHeartbeats 1000000 in
set_option maxRecDepth 100000 in
theorem clip_some (g n cap : Nat) (hn : n ≤ cap) (w : World) : Calls Tryz.prog 76 #[.slice (some ⟨g, 0, none⟩) n cap] w fun e w' => e = .returned (.slice (some ⟨g, 0, none⟩) n n) ∧ w' = w := by
  have h1 : (n : Int) ≤ (cap : Int) := by omega
  go_enter Tryz.func76, Tryz.ntmps76
  go_wp2_with fail
  go_ret
  exact ⟨rfl, rfl⟩
theorem clip_none (w : World) : Calls Tryz.prog 76 #[.slice none 0 0] w fun e w' => e = .returned (.slice none 0 0) ∧ w' = w := by
  go_enter Tryz.func76, Tryz.ntmps76
  go_wp2_with fail
  go_ret
  exact ⟨rfl, rfl⟩
/-- What Clean gives back. -/
def ClnR (w0 : World) (r : Option (List (List UInt8))) (e : Ending) (w' : World) : Prop := Below w0.heap.size w0 w' ∧ match r with
  | none => e = .returned (.tuple #[.slice none 0 0, .bool false])
  | some L => ∃ v l, e = .returned (.tuple #[v, .bool true]) ∧ l.map (·.data.toList) = L ∧ IsOps w' v l
theorem row_len {w : World} {B : Nat} {c : Array Value} {t : TypeId} (h : w.heap[B]? = some (.cells c t (0, 0))) : B < w.heap.size := row_lt h
theorem parts_cell {w : World} {B : Nat} {P : List ByteArray} (h : w.heap[B]? = some (.cells (P.map Value.string).toArray 9 (0, 0))) (k : Nat) (hk : k < P.length) : w.cell? ⟨B, k, none⟩ = some (.string P[k]) := by
  refine row_cell h ?_
  rw [List.getElem?_toArray, List.getElem?_map, List.getElem?_eq_getElem hk]
  rfl
theorem foldl_take {α β : Type} (f : β → α → β) (l : List α) (b : β) (k : Nat) (hk : k < l.length) : (l.take (k + 1)).foldl f b = f ((l.take k).foldl f b) l[k] := by
  rw [List.take_succ_eq_append_getElem hk, List.foldl_append]
  rfl
theorem cstepB_len (out : List ByteArray) (s : ByteArray) : (cstepB out s).length ≤ out.length + 1 := by
  unfold cstepB
  split
  · omega
  · split
    · rw [List.length_dropLast]; omega
    · simp
theorem cfoldB_len : ∀ (l out : List ByteArray), (l.foldl cstepB out).length ≤ out.length + l.length
  | [], out => Nat.le_refl _
  | s :: l, out => by
    have h1 := cfoldB_len l (cstepB out s)
    have h2 := cstepB_len out s
    show (l.foldl cstepB (cstepB out s)).length ≤ out.length + (l.length + 1)
    omega
theorem mem_idx {l : List UInt8} {c : UInt8} : c ∈ l ↔ 0 ≤ Lib.indexByte l c := by
  rw [← List.contains_iff_mem, Lib.contains_iff_indexByte]
  simp
set_option maxHeartbeats 4000000 in
set_option maxRecDepth 100000 in
theorem clean_core (s : ByteArray) (w : World) (P : List ByteArray) (h1 : 1 ≤ s.size) (h256 : s.size ≤ 256) (h0 : Lib.indexByte s.data.toList 0 < 0)
    (hPl : P.length ≤ 300) (hS : Calls Tryz.prog 75 #[.string s, .string ⟨#[47]⟩] w fun e w' => e = .returned (.slice (some ⟨w.heap.size, 0, none⟩) P.length P.length) ∧ w' = w.alloc (.cells (P.map Value.string).toArray 9)) :
    Calls Tryz.prog 62 #[.string s] w (ClnR w (if ∀ t ∈ (P.foldl cstepB []).map (·.data.toList), t.length ≤ 64 then some ((P.foldl cstepB []).map (·.data.toList)) else none)) := by
  have hS' := Lib.hid hS
  clear hS
  have i1 : ¬ (s.size : Int) < 1 := by omega
  have i2 : ¬ (256 : Int) < (s.size : Int) := by omega
  have hix := Lib.hid (fun W => Tryz.strings_IndexByte s 0 W)
  have h0' : ¬ (0 : Int) ≤ Lib.indexByte s.data.toList 0 := by omega
  obtain ⟨LF, hLF⟩ : ∃ LF, LF = P.foldl cstepB [] := ⟨_, rfl⟩
  have hLFl : LF.length ≤ 300 := by rw [hLF]; have := cfoldB_len P []; simp at this; omega
  rw [← hLF]
  have hLF' := Lib.hid hLF
  clear hLF
  obtain ⟨R, hR⟩ : ∃ R, R = (if ∀ t ∈ LF.map (·.data.toList), t.length ≤ 64 then some (LF.map (·.data.toList)) else none) := ⟨_, rfl⟩
  rw [← hR]
  have hR' := Lib.hid hR
  clear hR
  obtain ⟨Post, hPost⟩ : ∃ Post : Ending → World → Prop, Post = ClnR w R := ⟨_, rfl⟩
  rw [← hPost]
  have hP := Lib.hid hPost
  clear hPost
  go_enter Tryz.func62, Tryz.ntmps62
  go_wp2_with fail
  refine (hix.out _).mono ?_
  rintro e w0 ⟨rfl, rfl⟩
  rw [show Int.toNat 0 = 0 from rfl, show Nat.toUInt8 0 = 0 from rfl]
  generalize Lib.indexByte s.data.toList 0 = ib at h0'
  go_wp2_with fail
  refine hS'.out.mono ?_
  rintro e w1 ⟨rfl, rfl⟩
  obtain ⟨i0, hi0, hz0, hz1, hz2⟩ := info_parts info_str
  clear h0' hix
  go_wp2_with fail
  go_loopw [4, 25] (fun v i wr => ∃ (k : Nat) (L : List ByteArray) (u : Value), k ≤ P.length ∧ u = v ∧ i = .int .i64 k ∧ Hid (L = (P.take k).foldl cstepB []) ∧ Hid (wr.heap[w0.heap.size]? = some (.cells (P.map Value.string).toArray 9 (0, 0))) ∧ Hid (Below w0.heap.size w0 wr) ∧ Hid (OwnS wr (w0.heap.size + 1) v L) ∧ w0.heap.size + 1 ≤ wr.heap.size) (fun _ i _ => P.length - (intOf i).toNat)
  case atStart => exact ⟨0, [], _, Nat.zero_le _, rfl, rfl, Lib.hid rfl, Lib.hid (heap_alloc_new w0 _), Lib.hid ((Below.refl _ _).alloc (Nat.le_refl _) _), Lib.hid (OwnS.nil _ _), by simp⟩
  case round =>
    obtain ⟨k, L, v, hk, rfl, rfl, hL, hrow, hbl, hown, hsz⟩ := hrel
    by_cases hkk : k < P.length
    · have hld := parts_cell hrow.out k hkk
      have hkI : (k : Int) < (P.length : Int) := by omega
      have hst : (P.take (k + 1)).foldl cstepB [] = cstepB L P[k] := by rw [foldl_take _ _ _ _ hkk, hL.out]
      have hLl : L.length ≤ k := by rw [hL.out]; have := cfoldB_len (P.take k) []; simp at this; omega
      generalize P[k] = sk at hld hst
      have hst' := Lib.hid hst
      clear hst
      by_cases e0 : sk.data.toList.isEmpty = true
      · have he : sk.toList.isEmpty = true := by rw [Lib.toList_data]; exact e0
        have hstep : cstepB L sk = L := by unfold cstepB; rw [e0]; rfl
        have hstep' := Lib.hid hstep
        clear e0 hstep
        go_wp2_with fail
        case roundEnd =>
          refine ⟨⟨k + 1, L, _, by omega, rfl, rfl, Lib.hid (by rw [hst'.out, hstep'.out]), hrow, hbl, hown, hsz⟩, ?_⟩
          simp [intOf]; omega
      · have he : sk.toList.isEmpty = false := by rw [Lib.toList_data]; simpa using e0
        by_cases e1 : (sk.data.toList == [46]) = true
        · obtain rfl := bytes_eq e1
          have hstep' := Lib.hid (show cstepB L ⟨#[46]⟩ = L from rfl)
          clear e0 e1 he
          go_wp2_with fail
          case roundEnd =>
            refine ⟨⟨k + 1, L, _, by omega, rfl, rfl, Lib.hid (by rw [hst'.out, hstep'.out]), hrow, hbl, hown, hsz⟩, ?_⟩
            simp [intOf]; omega
        · have f1 : (sk.toList == [46]) = false := beq_no e1
          by_cases e2 : (sk.data.toList == [46, 46]) = true
          · obtain rfl := bytes_eq e2
            have hstep' := Lib.hid (show cstepB L ⟨#[46, 46]⟩ = L.dropLast from rfl)
            clear e0 e1 e2 he f1
            rcases hown.out.shape with ⟨rfl, rfl⟩ | ⟨g, cap, rfl, hg, hgl, hlc, hcm, hRw⟩
            · go_wp2_with fail
              case roundEnd =>
                refine ⟨⟨k + 1, [], _, by omega, rfl, rfl, Lib.hid (by rw [hst'.out, hstep'.out]; rfl), hrow, hbl, hown, hsz⟩, ?_⟩
                simp [intOf]; omega
            · have hcut := Lib.hid hown.out.cut
              by_cases hl0 : L.length = 0
              · rw [hl0] at hown hcut hlc ⊢
                go_wp2_with fail
                case roundEnd =>
                  refine ⟨⟨k + 1, L.dropLast, _, by omega, rfl, rfl, Lib.hid (by rw [hst'.out, hstep'.out]), hrow, hbl, hcut, hsz⟩, ?_⟩
                  simp [intOf]; omega
              · have hm : ((L.length : Nat) : Int) - 1 = ((L.length - 1 : Nat) : Int) := by omega
                have hm1 : (0 : Int) ≤ ((L.length - 1 : Nat) : Int) := by omega
                have hm2 : ((L.length - 1 : Nat) : Int) ≤ (cap : Int) := by omega
                go_wp2_with fail
                case roundEnd =>
                  refine ⟨⟨k + 1, L.dropLast, _, by omega, rfl, rfl, Lib.hid (by rw [hst'.out, hstep'.out]), hrow, hbl, hcut, hsz⟩, ?_⟩
                  simp [intOf]; omega
          · have f2 : (sk.toList == [46, 46]) = false := beq_no e2
            have hstep' := Lib.hid (show cstepB L sk = L ++ [sk] by unfold cstepB; rw [show sk.data.toList.isEmpty = false by simpa using e0, show (sk.data.toList == [46]) = false by simpa using e1, if_neg (by simp), if_neg e2])
            clear e0 e1 e2
            have hown0 : (wr.alloc (.cells #[.string sk] 9)).ownsRow (w0.heap.size + 1) 9 1 v L.length (sV L) := hown.out.grown (w' := wr.alloc (.cells #[.string sk] 9)) (World.grownBy_alloc wr _ none) (fun g e => by cases e)
            have hs1 : sV (L ++ [sk]) = sV L ++ [.string sk] := by simp [sV]
            have hown' := hown
            have hvs : ∀ g, v.ownBlock = some g → w0.heap.size < g := by
              intro g hg
              rcases hown.out.shape with ⟨rfl, -⟩ | ⟨g', cap, rfl, hg', -⟩
              · cases hg
              · have e : g' = g := by injection hg
                omega
            have hvs' := Lib.hid hvs
            clear hvs
            go_wp2_with (at_builtin; refine wpList_append_own _ rfl _ _ 22 rfl (w0.heap.size + 1) 9 i0 (.string ByteArray.empty) 1 16 Tryz.underlying22 hi0 hz0 hz1 hz2 rfl (by decide) v L.length (sV L) rfl hown0 ⟨wr.heap.size, 0, none⟩ 1 1 [.string sk] rfl rfl ?_ (by simp [Value.oneCell']) (by unfold maxLen; omega) (by omega) (by simp; omega) ?_)
            · intro j u hj
              match j, hj with
              | 0, hj => cases hj; exact row_cell (heap_alloc_new wr _) rfl
            · intro v' w' hown1 hgrow hnil
              have h1' := Lib.hid (show OwnS w' (w0.heap.size + 1) v' (L ++ [sk]) by unfold OwnS; rw [hs1, List.length_append]; exact hown1)
              have hrow1 := Lib.hid (row_grown (row_alloc hrow.out (.cells #[.string sk] 9)) hgrow (fun e => by have := hvs'.out _ e.symm; omega))
              have hb1 := Lib.hid ((hbl.out.alloc (by omega) (.cells #[.string sk] 9)).grown hgrow (by simp; omega) (fun j hj => by have := hvs'.out _ hj; omega))
              have hz1 : w0.heap.size + 1 ≤ w'.heap.size := by have := hgrow.size; simp at this; omega
              clear hown1 hgrow hown0 hnil
              go_wp2_with fail
              case roundEnd =>
                refine ⟨⟨k + 1, L ++ [sk], _, by omega, rfl, rfl, Lib.hid (by rw [hst'.out, hstep'.out]), hrow1, hb1, h1', hz1⟩, ?_⟩
                simp [intOf]; omega
    · have hke : k = P.length := by omega
      subst hke
      have hLL : L = LF := by rw [hL.out, hLF'.out, List.take_length]
      subst hLL
      have hkI : ¬ ((P.length : Nat) : Int) < (P.length : Int) := by omega
      clear hL hLF' hS' hrow
      rcases hown.out.shape with ⟨rfl, rfl⟩ | ⟨g, cap, rfl, hg, hgl, hlc, hcm, hRw⟩
      · go_wp2_with fail
        refine wp_loop_rounds 1 ?_
        rw [rounds_succ]
        go_wp2_with fail
        refine (clip_none _).mono ?_
        rintro e w2 ⟨rfl, rfl⟩
        go_wp2_with fail
        rw [hP.out, hR'.out]
        refine ⟨hbl.out, ?_⟩
        rw [if_pos (by simp)]
        exact ⟨_, [], rfl, rfl, none, 0, rfl, Nat.le_refl _, .inl rfl⟩
      · have hRw' := Lib.hid hRw
        clear hRw hown
        go_wp2_with fail
        go_loopw [48] (fun i wr2 => ∃ (j : Nat), j ≤ L.length ∧ i = .int .i64 j ∧ wr2 = wr ∧ Hid (∀ i t, i < j → L[i]? = some t → t.size ≤ 64)) (fun i _ => L.length - (intOf i).toNat)
        case atStart => exact ⟨0, Nat.zero_le _, rfl, rfl, Lib.hid fun i t h => absurd h (by omega)⟩
        case round =>
          obtain ⟨j, hj, rfl, rfl, hsm⟩ := hrel
          by_cases hjj : j < L.length
          · have hld := hRw'.out j L[j] (List.getElem?_eq_getElem hjj)
            rw [Nat.zero_add] at hld
            have hjI : (j : Int) < (L.length : Int) := by omega
            have hget := Lib.hid (List.getElem?_eq_getElem hjj)
            generalize L[j] = sj at hld hget
            by_cases hz : sj.size ≤ 64
            · have hzI : ¬ (64 : Int) < (sj.size : Int) := by omega
              go_wp2_with fail
              case roundEnd =>
                refine ⟨⟨j + 1, by omega, rfl, trivial, Lib.hid fun i t hi ht => ?_⟩, ?_⟩
                · by_cases h : i = j
                  · subst h; have := hget.out; rw [this] at ht; cases ht; exact hz
                  · exact hsm.out i t (by omega) ht
                · simp [intOf]; omega
            · have hzI : (64 : Int) < (sj.size : Int) := by omega
              go_wp2_with fail
              rw [hP.out, hR'.out]
              refine ⟨hbl.out, ?_⟩
              rw [if_neg (fun h => hz (by have := h sj.data.toList (List.mem_map.2 ⟨sj, List.mem_of_getElem? hget.out, rfl⟩); simpa using this))]
              rfl
          · have hje : j = L.length := by omega
            subst hje
            have hjI : ¬ ((L.length : Nat) : Int) < (L.length : Int) := by omega
            have hall : ∀ t ∈ L.map (·.data.toList), t.length ≤ 64 := fun t ht => by
              obtain ⟨x, hx, rfl⟩ := List.mem_map.1 ht
              obtain ⟨i, hi, rfl⟩ := List.getElem_of_mem hx
              have := hsm.out i _ hi (List.getElem?_eq_getElem hi)
              simpa using this
            have hall' := Lib.hid hall
            clear hall
            go_wp2_with fail
            refine (clip_some g L.length cap hlc _).mono ?_
            rintro e w2 ⟨rfl, rfl⟩
            go_wp2_with fail
            rw [hP.out, hR'.out]
            refine ⟨hbl.out, ?_⟩
            rw [if_pos hall'.out]
            exact ⟨_, L, rfl, rfl, _, L.length, rfl, Nat.le_refl _, .inr ⟨g, rfl, hgl, hRw'.out⟩⟩
set_option maxHeartbeats 1000000 in
set_option maxRecDepth 100000 in
theorem clean_short (s : ByteArray) (w : World) (h : s.size < 1) : Calls Tryz.prog 62 #[.string s] w (ClnR w none) := by
  have i1 : (s.size : Int) < 1 := by omega
  go_enter Tryz.func62, Tryz.ntmps62
  go_wp2_with fail
  go_ret2
  exact ⟨Below.refl _ _, rfl⟩
set_option maxHeartbeats 1000000 in
set_option maxRecDepth 100000 in
theorem clean_long (s : ByteArray) (w : World) (h : 256 < s.size) : Calls Tryz.prog 62 #[.string s] w (ClnR w none) := by
  have i1 : ¬ (s.size : Int) < 1 := by omega
  have i2 : (256 : Int) < (s.size : Int) := by omega
  go_enter Tryz.func62, Tryz.ntmps62
  go_wp2_with fail
  go_ret2
  exact ⟨Below.refl _ _, rfl⟩
set_option maxHeartbeats 1000000 in
set_option maxRecDepth 100000 in
theorem clean_null (s : ByteArray) (w : World) (h1 : 1 ≤ s.size) (h2 : s.size ≤ 256) (h0 : 0 ≤ Lib.indexByte s.data.toList 0) : Calls Tryz.prog 62 #[.string s] w (ClnR w none) := by
  have i1 : ¬ (s.size : Int) < 1 := by omega
  have i2 : ¬ (256 : Int) < (s.size : Int) := by omega
  have hix := Lib.hid (fun W => Tryz.strings_IndexByte s 0 W)
  go_enter Tryz.func62, Tryz.ntmps62
  go_wp2_with fail
  refine (hix.out _).mono ?_
  rintro e w0 ⟨rfl, rfl⟩
  rw [show Int.toNat 0 = 0 from rfl, show Nat.toUInt8 0 = 0 from rfl]
  generalize Lib.indexByte s.data.toList 0 = ib at h0
  go_wp2_with fail
  go_ret2
  exact ⟨Below.refl _ _, rfl⟩
/-- tree.Clean at every text. -/
theorem clean_any {N : Nat} (s : ByteArray) (w : World) (hM : MaxL N w) : Calls Tryz.prog 62 #[.string s] w (ClnR w (cleanP s.data.toList)) := by
  have hl : s.data.toList.length = s.size := by simp
  unfold cleanP
  rw [hl]
  by_cases h1 : s.size < 1
  · rw [if_pos (.inl h1)]; exact clean_short s w h1
  by_cases h2 : 256 < s.size
  · rw [if_pos (.inr (.inl h2))]; exact clean_long s w h2
  by_cases h0 : (0 : UInt8) ∈ s.data.toList
  · rw [if_pos (.inr (.inr h0))]; exact clean_null s w (by omega) (by omega) (mem_idx.1 h0)
  rw [if_neg (fun h => h.elim h1 (fun h => h.elim h2 h0))]
  have h0' : Lib.indexByte s.data.toList 0 < 0 := by
    by_cases h : 0 ≤ Lib.indexByte s.data.toList 0
    · exact absurd (mem_idx.2 h) h0
    · omega
  obtain ⟨m, hm⟩ := hM.1
  have hcb : Lib.countB s ⟨#[47]⟩ ≤ s.size := Lib.countB_le ⟨#[47]⟩ (by decide) s.size s (Nat.le_refl _)
  have hlen := Lib.splitB_all ⟨#[47]⟩ (by decide) 0 (Lib.countB s ⟨#[47]⟩) s rfl
  have hsp := Tryz.strings_Split s ⟨#[47]⟩ m w (by omega) hm (by decide)
  rw [← hlen] at hsp
  have hc := clean_core s w (Lib.splitB ⟨#[47]⟩ 0 (Lib.countB s ⟨#[47]⟩) s) (by omega) (by omega) h0' (by rw [hlen]; omega) hsp
  rw [cfoldB_map, pieces_spl] at hc
  exact hc
end Go.Proofs.YtfnaooplpofgiaaGreatDoor
