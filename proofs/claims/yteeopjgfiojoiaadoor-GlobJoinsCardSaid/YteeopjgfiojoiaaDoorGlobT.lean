/- The text of a pattern: its pieces' texts behind one another, a blank between. Conditions: the pattern lies in memory. -/
import Derived.Test.YteeopjgfiojoiaaDoorGlobS
import Derived.WalkMore
import Derived.Handy
import Derived.Outline
namespace Go.Proofs.YteeopjgfiojoiaaDoor
open Go Go.RowKit SN

def pieT (p : Pie) : List UInt8 := if p.kind = 3 then [42] else if p.kind = 2 then [63] else txt p.set
def strV (l : List UInt8) : Value := .string ⟨l.toArray⟩
def ptxts (l : List Pie) : List (List UInt8) := l.map pieT
def ptxt (l : List Pie) : List UInt8 := Lib.join (ptxts l) [32]
theorem txt_le (S : Nat) : (txt S).length ≤ 1600 := by
  have := inner_len S
  unfold txt
  simp; omega
theorem pieT_len (p : Pie) : (pieT p).length ≤ 1600 := by
  unfold pieT
  split
  · simp
  split
  · simp
  · exact txt_le _
theorem join_len (xs : List (List UInt8)) (h : ∀ x ∈ xs, x.length ≤ 1600) : (Lib.join xs [32]).length ≤ xs.length * 1601 := by
  have tail : ∀ r : List (List UInt8), (∀ x ∈ r, x.length ≤ 1600) → (Lib.joinTail [32] r).length ≤ r.length * 1601 := by
    intro r
    induction r with
    | nil => intro _; simp [Lib.joinTail]
    | cons x r ih =>
      intro hr
      have h1 := ih (fun y hy => hr y (List.mem_cons_of_mem _ hy))
      have h2 := hr x List.mem_cons_self
      simp only [Lib.joinTail, List.map_cons, List.flatten_cons, List.length_append, List.length_cons, List.length_nil] at h1 ⊢
      omega
  cases xs with
  | nil => simp [Lib.join_nil]
  | cons x r =>
    rw [Lib.join_cons, List.length_append, List.length_cons]
    have h1 := tail r (fun y hy => h y (List.mem_cons_of_mem _ hy))
    have h2 := h x List.mem_cons_self
    omega
theorem ptxt_len (l : List Pie) : (ptxt l).length ≤ l.length * 1601 := by
  have h := join_len (ptxts l) (fun x hx => by
    obtain ⟨p, -, rfl⟩ := List.mem_map.1 hx
    exact pieT_len p)
  rw [show (ptxts l).length = l.length by simp [ptxts]] at h
  exact h
theorem info_str : (Tryd.prog.info? 9).map (fun i => (i.zero, i.size, i.bytes)) = some (some (.string ⟨#[]⟩), 1, 16) := by kernel_rfl
theorem ptext_nil (w : World) : Calls Tryd.prog 42 #[.pointer none] w fun e w' => e = .returned (.string ⟨#[]⟩) ∧ w' = w := by
  go_enter Tryd.func42, Tryd.ntmps42
  go_wp2
  go_ret
  exact ⟨rfl, rfl⟩
theorem one_newS (w : World) (v : Value) (t : TypeId) : ∀ (j : Nat) x, [v][j]? = some x → (w.alloc (.cells #[v] t)).cell? ((⟨w.heap.size, 0, none⟩ : Addr).add j) = some x := by
  intro j x hj
  match j, hj with
  | 0, hj => simp at hj; subst hj; simp [Addr.add]
theorem one_newB (w : World) (v : Value) (t : TypeId) (b : Nat) (e : b = w.heap.size) : ∀ (j : Nat) x, [v][j]? = some x → (w.alloc (.cells #[v] t)).cell? ((⟨b, 0, none⟩ : Addr).add j) = some x := by
  subst e; exact one_newS w v t
theorem one_str (s : ByteArray) : ∀ u ∈ ([.string s] : List Value), u.oneCell' = true := by
  intro u hu; simp at hu; rcases hu with rfl; rfl
def strVs (l : List Pie) : List Value := l.map fun p => strV (pieT p)
theorem strVs_snoc (l : List Pie) (p : Pie) : strVs (l ++ [p]) = strVs l ++ [strV (pieT p)] := by simp [strVs]
set_option maxHeartbeats 1000000 in
set_option maxRecDepth 100000 in
theorem ptext_any (B base : Nat) (l : List Pie) (w : World) (h : IsPt w base B l) (hl : l.length ≤ 512) (hok : ∀ p ∈ l, Ok p.set ∧ (p.kind = 1 ∨ p.kind = 2 ∨ p.kind = 3)) :
    Calls Tryd.prog 42 #[.pointer (some ⟨B, 0, none⟩)] w fun e w' => e = .returned (.string ⟨(ptxt l).toArray⟩) ∧ Below w.heap.size w w' := by
  obtain ⟨i0, hi0, hz0, hz1, hz2⟩ := info_parts info_str
  obtain ⟨hb, v, hv, hown, hne⟩ := h
  have hcv : w.cell? ⟨B, 0, none⟩ = some v := row_cell hv rfl
  clear hne hb hv
  have hok' := Lib.hid hok
  have hown' := Lib.hid hown
  have hpv := Lib.hid (pvs_at l)
  clear hok
  obtain ⟨a, c, rfl⟩ := own_slice hown
  clear hown
  go_enter Tryd.func42, Tryd.ntmps42
  go_wp2_with fail
  go_loopw [13, 3] (fun i v wr => ∃ (k : Nat), k ≤ l.length ∧ i = .int .i64 k ∧ wr.ownsRow w.heap.size 9 1 v k (strVs (l.take k)) ∧ Below w.heap.size w wr) (fun i _ _ => l.length - (intOf i).toNat)
  case atStart => exact ⟨0, Nat.zero_le _, rfl, World.ownsRow_nil _ _ _ _, Below.refl _ _⟩
  case round =>
    obtain ⟨k, hk, rfl, hr, hb⟩ := hrel
    have hr' := Lib.hid hr
    have hb' := Lib.hid hb
    have hzb := hb.size
    clear hr hb
    by_cases hlt : k < l.length
    · have r1 := own_below hown'.out hb'.out (Nat.le_refl _)
      obtain ⟨-, ⟨e, hn⟩ | ⟨g, cap, cur, e, -⟩⟩ := id r1
      · omega
      injection e with ea _ ec
      subst ea ec
      have q1 : ∀ j, j < 5 → wr.cell? ⟨g, k * 5 + j, none⟩ = (pcl (l[k]'hlt)).toList[j]? := fun j hj => (r1.cellAt _ (by omega)).trans (hpv.out k j hlt hj)
      have hpm : l[k]'hlt ∈ l := List.getElem_mem _
      have htk : l.take (k + 1) = l.take k ++ [l[k]'hlt] := by rw [List.take_succ_eq_append_getElem hlt]
      obtain ⟨p, hp⟩ : ∃ p, p = l[k]'hlt := ⟨_, rfl⟩
      rw [← hp] at q1 hpm htk
      obtain ⟨hokS, hkind⟩ := hok'.out p hpm
      have a0 : wr.cell? ⟨g, k * 5, none⟩ = some (.int .i64 p.kind) := q1 0 (by decide)
      have a1 : wr.cell? ⟨g, k * 5 + 1, none⟩ = some (.int .u64 (word p.set 0)) := q1 1 (by decide)
      have a2 : wr.cell? ⟨g, k * 5 + 2, none⟩ = some (.int .u64 (word p.set 1)) := q1 2 (by decide)
      have a3 : wr.cell? ⟨g, k * 5 + 3, none⟩ = some (.int .u64 (word p.set 2)) := q1 3 (by decide)
      have a4 : wr.cell? ⟨g, k * 5 + 4, none⟩ = some (.int .u64 (word p.set 3)) := q1 4 (by decide)
      have htk' := Lib.hid htk
      clear q1 r1 hp hpm htk
      rcases hkind with hk1 | hk2 | hk3
      · have hpT : strV (pieT p) = .string ⟨(txt p.set).toArray⟩ := by unfold pieT; rw [if_neg (by omega), if_neg (by omega)]; rfl
        have hpT' := Lib.hid hpT
        clear hpT
        go_wp2_with fail
        refine (Text_any p.set hokS _).mono ?_
        rintro e w1 ⟨rfl, hb1⟩
        have hzA := hb1.size
        have hr1 := own_below (hr'.out.alloc (.cells #[.int .i64 1, .int .u64 (word p.set 0), .int .u64 (word p.set 1), .int .u64 (word p.set 2), .int .u64 (word p.set 3)] 58)) hb1 (Nat.le_refl _)
        have hb3 := (hb'.out.alloc hzb (.cells #[.int .i64 1, .int .u64 (word p.set 0), .int .u64 (word p.set 1), .int .u64 (word p.set 2), .int .u64 (word p.set 3)] 58)).trans (hb1.mono (by simp; omega))
        have hr1' := Lib.hid hr1
        have hb3' := Lib.hid hb3
        have hlow1' := Lib.hid hr1.lt
        have hzz : w.heap.size ≤ w1.heap.size := hb3.size
        clear hb1 hr1 hb3
        generalize hT : (⟨(txt p.set).toArray⟩ : ByteArray) = T at hpT'
        clear hT
        go_wp2_with (at_builtin; refine wpList_append_own _ rfl _ _ 100 rfl w.heap.size 9 i0 (.string ⟨#[]⟩) 1 16 Tryd.underlying100 hi0 hz0 hz1 hz2 rfl (by decide) _ k (strVs (l.take k)) rfl (hr1'.out.alloc _) ⟨w1.heap.size, 0, none⟩ 1 1 [.string T] rfl rfl (one_newB _ _ _ _ (by simp)) (one_str _) (by unfold maxLen; omega) (by omega) (by simp; omega) ?_; intro v1 w2 hown2 hg2 _; have hown2' := Lib.hid hown2; have hg2' := Lib.hid hg2; clear hown2 hg2)
        have hb2 := (hb3'.out.alloc hzz (.cells #[.string T] 9)).grown hg2'.out (by simp; omega) (fun j hj => by have := (fun j hj => (hlow1'.out j hj).1) j hj; omega)
        have hown3 : w2.ownsRow w.heap.size 9 1 v1 (k + 1) (strVs (l.take (k + 1))) := by
          rw [htk'.out, strVs_snoc, hpT'.out]
          exact hown2'.out
        have hown3' := Lib.hid hown3
        have hb2' := Lib.hid hb2
        clear hb2 hown3 a0 a1 a2 a3 a4
        go_wp2_with fail
        go_round
        case rel => exact ⟨k + 1, by omega, by go_num, hown3'.out, hb2'.out⟩
        case measure => simp [intOf]; omega
      · have hpT : strV (pieT p) = .string ⟨#[63]⟩ := by unfold pieT; rw [if_neg (by omega), if_pos hk2]; rfl
        have hpT' := Lib.hid hpT
        have hlow' := Lib.hid hr'.out.lt
        clear hpT
        go_wp2_with (at_builtin; refine wpList_append_own _ rfl _ _ 100 rfl w.heap.size 9 i0 (.string ⟨#[]⟩) 1 16 Tryd.underlying100 hi0 hz0 hz1 hz2 rfl (by decide) _ k (strVs (l.take k)) rfl ((hr'.out.alloc _).alloc _) ⟨wr.heap.size + 1, 0, none⟩ 1 1 [.string ⟨#[63]⟩] rfl rfl (one_newB _ _ _ _ (by simp)) (one_str _) (by unfold maxLen; omega) (by omega) (by simp; omega) ?_; intro v1 w2 hown2 hg2 _; have hown2' := Lib.hid hown2; have hg2' := Lib.hid hg2; clear hown2 hg2)
        have hb2 := ((hb'.out.alloc hzb (.cells #[.int .i64 2, .int .u64 (word p.set 0), .int .u64 (word p.set 1), .int .u64 (word p.set 2), .int .u64 (word p.set 3)] 58)).alloc (by simp; omega) (.cells #[.string ⟨#[63]⟩] 9)).grown hg2'.out (by simp; omega) (fun j hj => by have := (fun j hj => (hlow'.out j hj).1) j hj; omega)
        have hown3 : w2.ownsRow w.heap.size 9 1 v1 (k + 1) (strVs (l.take (k + 1))) := by
          rw [htk'.out, strVs_snoc, hpT'.out]
          exact hown2'.out
        have hown3' := Lib.hid hown3
        have hb2' := Lib.hid hb2
        clear hb2 hown3 a0 a1 a2 a3 a4
        go_wp2_with fail
        go_round
        case rel => exact ⟨k + 1, by omega, by go_num, hown3'.out, hb2'.out⟩
        case measure => simp [intOf]; omega
      · have hpT : strV (pieT p) = .string ⟨#[42]⟩ := by unfold pieT; rw [if_pos hk3]; rfl
        have hpT' := Lib.hid hpT
        have hlow' := Lib.hid hr'.out.lt
        clear hpT
        go_wp2_with (at_builtin; refine wpList_append_own _ rfl _ _ 100 rfl w.heap.size 9 i0 (.string ⟨#[]⟩) 1 16 Tryd.underlying100 hi0 hz0 hz1 hz2 rfl (by decide) _ k (strVs (l.take k)) rfl ((hr'.out.alloc _).alloc _) ⟨wr.heap.size + 1, 0, none⟩ 1 1 [.string ⟨#[42]⟩] rfl rfl (one_newB _ _ _ _ (by simp)) (one_str _) (by unfold maxLen; omega) (by omega) (by simp; omega) ?_; intro v1 w2 hown2 hg2 _; have hown2' := Lib.hid hown2; have hg2' := Lib.hid hg2; clear hown2 hg2)
        have hb2 := ((hb'.out.alloc hzb (.cells #[.int .i64 3, .int .u64 (word p.set 0), .int .u64 (word p.set 1), .int .u64 (word p.set 2), .int .u64 (word p.set 3)] 58)).alloc (by simp; omega) (.cells #[.string ⟨#[42]⟩] 9)).grown hg2'.out (by simp; omega) (fun j hj => by have := (fun j hj => (hlow'.out j hj).1) j hj; omega)
        have hown3 : w2.ownsRow w.heap.size 9 1 v1 (k + 1) (strVs (l.take (k + 1))) := by
          rw [htk'.out, strVs_snoc, hpT'.out]
          exact hown2'.out
        have hown3' := Lib.hid hown3
        have hb2' := Lib.hid hb2
        clear hb2 hown3 a0 a1 a2 a3 a4
        go_wp2_with fail
        go_round
        case rel => exact ⟨k + 1, by omega, by go_num, hown3'.out, hb2'.out⟩
        case measure => simp [intOf]; omega
    · have hke : k = l.length := by omega
      subst hke
      have hr2 := hr'.out
      rw [List.take_length] at hr2
      obtain ⟨hr3, ⟨rfl, hn⟩ | ⟨g, cap, cur, rfl, hg, hh, hc1, hc2, hc3, hc4⟩⟩ := id hr2
      · have hl0 : l = [] := List.eq_nil_of_length_eq_zero hn
        subst hl0
        clear hr2
        go_wp2_with fail
        refine (Tryd.strings_Join_none none 0 _ _).mono ?_
        rintro e w1 ⟨rfl, rfl⟩
        go_wp2_with fail
        go_ret
        exact ⟨rfl, hb'.out⟩
      · have hcells := hr2.cellAt
        have hlg := lt_of_block hh
        have hxs : (l.map fun p => (⟨(pieT p).toArray⟩ : ByteArray)).length = l.length := by simp
        have hjn := Tryd.strings_Join g 0 cap (l.map fun p => (⟨(pieT p).toArray⟩ : ByteArray)) ⟨#[32]⟩ wr (fun j x hj => by
            have hjl : j < l.length := by
              rcases Nat.lt_or_ge j l.length with h' | h'
              · exact h'
              · rw [List.getElem?_eq_none (by simpa using h')] at hj; cases hj
            have := hcells j (by omega)
            rw [Nat.zero_add, this]
            unfold strVs
            rw [List.getElem?_map] at hj ⊢
            rw [List.getElem?_eq_getElem hjl] at hj ⊢
            simp at hj ⊢
            rw [← hj]; rfl) hlg (by rw [hxs]; omega) (by rw [hxs]; exact hc1) (by
            have := ptxt_len l
            rw [show ((l.map fun p => (⟨(pieT p).toArray⟩ : ByteArray)).map fun x => x.data.toList) = ptxts l by simp [ptxts]]
            show (Lib.join (ptxts l) [32]).length ≤ _
            unfold ptxt at this
            omega)
        rw [hxs, show ((l.map fun p => (⟨(pieT p).toArray⟩ : ByteArray)).map fun x => x.data.toList) = ptxts l by simp [ptxts]] at hjn
        have hjn' := Lib.hid hjn
        clear hjn hcells hh hc4 hr2
        go_wp2_with fail
        refine hjn'.out.mono ?_
        rintro e w1 ⟨rfl, hb4⟩
        have hb5 := Lib.hid (hb'.out.trans (hb4.mono hzb))
        clear hjn' hb4
        go_wp2_with fail
        go_ret
        exact ⟨rfl, hb5.out⟩
end Go.Proofs.YteeopjgfiojoiaaDoor
