/- pidginref5.Bracket, equal to the plain law of brackets. Conditions: the bytes lie in memory; fewer than 2^61 of them. -/
import Derived.Test.YteeopjgfiojoiaaDoorRItC
import Derived.Test.YteeopjgfiojoiaaDoorTel
import Derived.Test.YteeopjgfiojoiaaDoorBrkP
import Derived.Test.YteeopjgfiojoiaaDoorRb31
import Derived.Test.YteeopjgfiojoiaaDoorBrt
import Derived.Deep.DeepCutAuto
import Derived.WalkMore
import Derived.Handy
import Derived.Outline
namespace Go.Proofs.YteeopjgfiojoiaaDoor
open Go Go.RowKit SN

theorem one_at (s : ByteArray) (i : Nat) (hi : i < s.size) : itemOne s.data.toList i = .byte s[i] (i + 1) := by
  unfold itemOne
  rw [show s.data.toList[i]? = some s[i] by simp [ByteArray.getElem_eq_getElem_data, hi]]
  rfl
/-- The reference's item, at every place. -/
theorem r5item_any (p : Option Addr) (cap i : Nat) (lang : Int) (s : ByteArray) (w : World) (hS : HasB w p s) (hs : s.size < 2 ^ 61) (hi : i < s.size) (hcap : s.size ≤ cap) :
    Calls Tryd.prog 67 #[.slice p s.size cap, .int .i64 i, .int .i64 lang] w fun e w' => e = .returned (itV i (item s.data.toList (lang == 2) i)) ∧ Below w.heap.size w w' := by
  have e0 := isL_s s i hi
  have hlen : s.data.toList.length = s.size := by simp
  by_cases h91 : (((s[i]).toNat : Int) == 91) = true
  · have h92 : (((s[i]).toNat : Int) == 92) = false := by simp at h91 ⊢; omega
    by_cases hi1 : i + 1 < s.size
    · have e1 := isL_s s (i + 1) hi1
      by_cases hd : (((s[i + 1]).toNat : Int) == 46) = true
      · have e : item s.data.toList (lang == 2) i = .err 8 i := by
          unfold item
          rw [e0 91, e1 46, h91, hd]
          rfl
        rw [e]
        exact r5item_dot p cap i lang s w hS hs hi h91 hi1 (.inl hd)
      have hd' : (((s[i + 1]).toNat : Int) == 46) = false := by simpa using hd
      by_cases hq : (((s[i + 1]).toNat : Int) == 61) = true
      · have e : item s.data.toList (lang == 2) i = .err 8 i := by
          unfold item
          rw [e0 91, e1 46, e1 61, h91, hd', hq]
          rfl
        rw [e]
        exact r5item_dot p cap i lang s w hS hs hi h91 hi1 (.inr ⟨hd', hq⟩)
      have hq' : (((s[i + 1]).toNat : Int) == 61) = false := by simpa using hq
      by_cases hc : (((s[i + 1]).toNat : Int) == 58) = true
      · have e : item s.data.toList (lang == 2) i = itemCls s.data.toList i := by
          unfold item
          rw [e0 91, e1 46, e1 61, e1 58, h91, hd', hq', hc]
          rfl
        rw [e]
        exact r5item_cls p cap i lang s w hS hs hi hcap h91 hi1 hd' hq' hc
      have hc' : (((s[i + 1]).toNat : Int) == 58) = false := by simpa using hc
      have e : item s.data.toList (lang == 2) i = .byte s[i] (i + 1) := by
        unfold item
        rw [e0 91, e0 92, e1 46, e1 61, e1 58, h91, hd', hq', hc', h92, one_at s i hi]
        rfl
      rw [e]
      exact r5item_open p cap i lang s w hS hs hi h91 hi1 hd' hq' hc'
    · have e1 := isL_past s (i + 1) (by omega)
      have e : item s.data.toList (lang == 2) i = .byte s[i] (i + 1) := by
        unfold item
        rw [e0 91, e0 92, e1 46, e1 61, e1 58, h91, h92, one_at s i hi]
        rfl
      rw [e]
      exact r5item_last p cap i lang s w hS hs hi h91 (by omega)
  have h91' : (((s[i]).toNat : Int) == 91) = false := by simpa using h91
  by_cases h92 : (((s[i]).toNat : Int) == 92) = true
  · by_cases hl : (lang == 2) = true
    · by_cases hi1 : i + 1 < s.size
      · have e : item s.data.toList (lang == 2) i = .byte s[i + 1] (i + 2) := by
          unfold item
          rw [e0 91, e0 92, h91', h92, hl, hlen, one_at s (i + 1) hi1]
          simp only [Bool.false_and, Bool.and_self, Bool.false_eq_true, if_false, if_true]
          rw [if_neg (by omega)]
        rw [e]
        exact r5item_esc p cap i lang s w hS hs hi h91' h92 hl hi1
      · have e : item s.data.toList (lang == 2) i = .err 8 s.size := by
          unfold item
          rw [e0 91, e0 92, h91', h92, hl, hlen]
          simp only [Bool.false_and, Bool.and_self, Bool.false_eq_true, if_false, if_true]
          rw [if_pos (by omega)]
        rw [e]
        exact r5item_escEnd p cap i lang s w hS hs hi h91' h92 hl (by omega)
    · have hl' : (lang == 2) = false := by simpa using hl
      have e : item s.data.toList (lang == 2) i = .byte s[i] (i + 1) := by
        unfold item
        rw [e0 91, e0 92, h91', h92, hl', one_at s i hi]
        rfl
      rw [e]
      exact r5item_one p cap i lang s w hS hs hi (.inr ⟨h91', h92, hl'⟩)
  · have h92' : (((s[i]).toNat : Int) == 92) = false := by simpa using h92
    have e : item s.data.toList (lang == 2) i = .byte s[i] (i + 1) := by
      unfold item
      rw [e0 91, e0 92, h91', h92', one_at s i hi]
      simp only [Bool.false_and, Bool.false_eq_true, if_false]
    rw [e]
    exact r5item_one p cap i lang s w hS hs hi (.inl ⟨h91', h92'⟩)
set_option maxHeartbeats 1000000 in
theorem r1F_any (a b c : Int) (w : World) : Calls Tryd.prog 66 #[.int .i64 a, .int .i64 b, .int .i64 c] w fun e w' => e = .returned (fv a b c) ∧ Below w.heap.size w w' := by
  go_enter Tryd.func66, Tryd.ntmps66
  go_wp2_with (first | (refine store_flt rfl rfl _ _ rfl _ a b c 0 0 0 rfl rfl (heap_alloc_new w _) ?_; intro wX hX gX zX))
  exact ret_flt rfl rfl rfl hX ⟨rfl, ((Below.refl _ _).alloc (Nat.le_refl _) _).grown gX (by simp) (fun k hk => by cases hk; exact Nat.le_refl _)⟩
theorem ret_brk {fn : Func} {p q r : Tmp} {R : Ending → World → Prop} {a : Act} {w : World} {B C S : Nat} {u : Value} {c0 c1 c2 : Int} (h : fn.results = #[.cell p 24, .tmp q, .cell r 62]) (hd : a.defers = [])
    (hp : a.tmps.getD p undef = .pointer (some ⟨B, 0, none⟩)) (hq : a.tmps.getD q undef = u) (hr : a.tmps.getD r undef = .pointer (some ⟨C, 0, none⟩)) (hS : IsSet 24 w B S) (hF : IsF w C c0 c1 c2)
    (hR : R (.returned (.tuple #[sv S, u, fv c0 c1 c2])) w) : bodyPost Tryd.prog fn R .ret a w := by
  have hp' : a.tmps[p]?.getD undef = .pointer (some ⟨B, 0, none⟩) := by simpa using hp
  have hq' : a.tmps[q]?.getD undef = u := by simpa using hq
  have hr' : a.tmps[r]?.getD undef = .pointer (some ⟨C, 0, none⟩) := by simpa using hr
  refine bodyPost_ret (v := .tuple #[sv S, u, fv c0 c1 c2]) ?_ hd hR
  have hl := run_loadVar_row (P := Tryd.prog) w B 24 24 (sc S) (0, 0) _ hS Tryd.underlying24 (by rfl) (by rw [size24]; rfl)
  have hl2 := run_loadVar_row (P := Tryd.prog) w C 62 62 (fc c0 c1 c2) (0, 0) _ hF Tryd.underlying62 (by rfl) (by rw [size3]; rfl)
  simp [results, h, hp', hq', hr', asAddr, hl, hl2]
  exact ⟨rfl, rfl⟩
/-- What the reference's Bracket leaves. -/
def RbPost (w : World) (lang : Int) : Rg → Ending → World → Prop
  | .err code pos, e, w' => e = .returned (.tuple #[sv 0, .int .i64 0, fv (code : Nat) (pos : Nat) lang]) ∧ Below w.heap.size w w'
  | .ok S n, e, w' => e = .returned (.tuple #[sv S, .int .i64 (n : Nat), fv 0 0 0]) ∧ Below w.heap.size w w'
theorem rb_start (w : World) :
    IsSet 24 ((w.alloc (.cells #[.int .u64 0, .int .u64 0, .int .u64 0, .int .u64 0] 24)).alloc (.cells #[.int .i64 0, .int .i64 0, .int .i64 0] 62)) w.heap.size 0 ∧
    IsF ((w.alloc (.cells #[.int .u64 0, .int .u64 0, .int .u64 0, .int .u64 0] 24)).alloc (.cells #[.int .i64 0, .int .i64 0, .int .i64 0] 62)) (w.heap.size + 1) 0 0 0 ∧
    Below w.heap.size w ((w.alloc (.cells #[.int .u64 0, .int .u64 0, .int .u64 0, .int .u64 0] 24)).alloc (.cells #[.int .i64 0, .int .i64 0, .int .i64 0] 62)) ∧
    ((w.alloc (.cells #[.int .u64 0, .int .u64 0, .int .u64 0, .int .u64 0] 24)).alloc (.cells #[.int .i64 0, .int .i64 0, .int .i64 0] 62)).heap.size = w.heap.size + 2 := by
  have hn := heap_alloc_new (w.alloc (.cells #[.int .u64 0, .int .u64 0, .int .u64 0, .int .u64 0] 24)) (.cells #[.int .i64 0, .int .i64 0, .int .i64 0] 62)
  rw [World.size_alloc] at hn
  exact ⟨IsSet.alloc (IsSet.zero _ w) _, hn, ((Below.refl _ _).alloc (Nat.le_refl _) _).alloc (by simp) _, by simp⟩
set_option maxHeartbeats 2000000 in
set_option maxRecDepth 100000 in
theorem rbrk_bad (p : Option Addr) (cap : Nat) (at' lang : Int) (s : ByteArray) (w : World)
    (hb : at' < 0 ∨ ((s.size : Int) < at' ∧ ¬ at' < 0) ∨ (¬ (s.size : Int) < at' ∧ ¬ at' < 0 ∧ (lang == 2) = false ∧ (lang == 3) = false ∧ (lang == 4) = false)) :
    Calls Tryd.prog 43 #[.slice p s.size cap, .int .i64 at', .int .i64 lang] w fun e w' => e = .returned (.tuple #[sv 0, .int .i64 0, fv 1 0 lang]) ∧ Below w.heap.size w w' := by
  rcases hb with hb | ⟨hb, hb2⟩ | ⟨hb1, hb2, hb3, hb4, hb5⟩
  case' inr.inr =>
    have hb6 : (lang != 2) = true := by simp [bne, hb3]
    have hb7 : (lang != 3) = true := by simp [bne, hb4]
    have hb8 : (lang != 4) = true := by simp [bne, hb5]
  all_goals
    go_enter Tryd.func43, Tryd.ntmps43
    go_wp2_with fail
    obtain ⟨hO, hF, hb0, hz⟩ := rb_start w
    refine (r1F_any _ _ _ _).mono ?_
    rintro e w3 ⟨rfl, b3⟩
    have hO3 := hO.below b3 (by rw [hz]; omega)
    have hF3 := row_below hF b3 (by rw [hz]; omega)
    have y3 := Lib.hid (hb0.trans (b3.mono (by rw [hz]; omega)))
    clear b3 hO hF hb0 hz
    go_wp2_with (first | (refine store_set rfl rfl _ _ rfl _ 0 rfl rfl ⟨0, hO3⟩ ?_; intro wX hX gX zX; have hFX := row_grown hF3 gX (fun e => by injection e; omega)) | (refine store_flt rfl rfl _ _ rfl _ _ _ _ 0 0 0 rfl rfl hFX ?_; intro wY hY gY zY))
    exact ret_brk rfl rfl rfl rfl rfl (hX.grown gY (fun e => by injection e; omega)) hY ⟨rfl, (y3.out.grown gX (by have := hO3.lt; omega) (fun k hk => by cases hk; exact Nat.le_refl _)).grown gY (by have := row_lt hFX; omega) (fun k hk => by cases hk; omega)⟩
theorem itm_code {l : List UInt8} {glob : Bool} {i c p : Nat} (h : item l glob i = .err c p) : c = 8 := by
  unfold item itemCls itemCut itemOne at h
  split at h
  · cases h; rfl
  split at h
  · split at h
    · cases h
    · cases h; rfl
  split at h
  · split at h
    · cases h; rfl
    · cases h
  · cases h
theorem add_one (S : Nat) (c : UInt8) : add S c.toNat = S ||| ofL [c] := by
  show add S c.toNat = S ||| add 0 c.toNat
  unfold add
  rw [Nat.zero_or]
/-- In the loop: the result's two blocks, the set so far. -/
def BMid (w W : World) (S : Nat) : Prop := IsSet 24 W w.heap.size 0 ∧ IsF W (w.heap.size + 1) 0 0 0 ∧ IsSet 24 W (w.heap.size + 1 + 1) S ∧ Below w.heap.size w W
theorem BMid.size {w W : World} {S : Nat} (h : BMid w W S) : w.heap.size + 3 ≤ W.heap.size := by have := h.2.2.1.lt; omega
theorem BMid.ext {w W W' : World} {S N : Nat} (h : BMid w W S) (hb : Below N W W') (hN : W.heap.size ≤ N) : BMid w W' S := by
  have hz := h.size
  exact ⟨h.1.below hb (by omega), row_below h.2.1 hb (by omega), h.2.2.1.below hb (by omega), h.2.2.2.trans (hb.mono (by omega))⟩
theorem BMid.put {w W W' : World} {S T : Nat} (h : BMid w W S) (hg : W.grownBy W' (some (w.heap.size + 1 + 1))) (hT : IsSet 24 W' (w.heap.size + 1 + 1) T) : BMid w W' T := by
  have hz := h.size
  exact ⟨h.1.grown hg (fun e => by injection e; omega), row_grown h.2.1 hg (fun e => by injection e; omega), hT, h.2.2.2.grown hg (by omega) (fun k hk => by cases hk; omega)⟩
theorem BMid.done {w W X Y : World} {S : Nat} (h : BMid w W S) (gX : W.grownBy X (some w.heap.size)) (gY : X.grownBy Y (some (w.heap.size + 1))) : Below w.heap.size w Y := by
  have hz := h.size
  have hx := gX.size
  exact (h.2.2.2.grown gX (by omega) (fun k hk => by cases hk; exact Nat.le_refl _)).grown gY (by omega) (fun k hk => by cases hk; omega)
theorem BMid.start (w : World) : BMid w (((w.alloc (.cells #[.int .u64 0, .int .u64 0, .int .u64 0, .int .u64 0] 24)).alloc (.cells #[.int .i64 0, .int .i64 0, .int .i64 0] 62)).alloc (.cells #[.int .u64 0, .int .u64 0, .int .u64 0, .int .u64 0] 24)) 0 := by
  obtain ⟨hO, hF, hb, hz⟩ := rb_start w
  exact ⟨hO.alloc _, row_alloc hF _, IsSet.zero' _ _ _ (by rw [hz]), hb.alloc (by omega) _⟩
set_option maxHeartbeats 2000000 in
set_option maxRecDepth 100000 in
theorem rbrk_good (p : Option Addr) (cap at' : Nat) (lang : Int) (s : ByteArray) (w : World) (hS : HasB w p s) (hs : s.size < 2 ^ 61) (hcap : s.size ≤ cap) (hat : at' ≤ s.size)
    (hg : lang = 2 ∨ lang = 3 ∨ lang = 4) :
    Calls Tryd.prog 43 #[.slice p s.size cap, .int .i64 at', .int .i64 lang] w (RbPost w lang (read s.data.toList (lang == 2) at')) := by
  have hS' := Lib.hid hS
  have hd1 : ¬ (s.size : Int) < (at' : Int) := by omega
  have hd2 : ¬ (at' : Int) < 0 := by omega
  obtain ⟨T, hT⟩ : ∃ T, T = turned s.data.toList (lang == 2) at' := ⟨_, rfl⟩
  have hT' := Lib.hid hT
  obtain ⟨a0, ha0⟩ : ∃ a0 : Nat, a0 = if T then at' + 1 else at' := ⟨_, rfl⟩
  have ha0' := Lib.hid ha0
  have hsz' := Lib.hid (show s.data.toList.length = s.size by simp)
  have hcell := Lib.hid (fun (k : Nat) (hk : k < s.size) (W : World) (hb : Below w.heap.size w W) => hasB_at (hS.below hb (Nat.le_refl _)) (i := k) hk)
  obtain ⟨Post, hPost⟩ : ∃ P, P = RbPost w lang (read s.data.toList (lang == 2) at') := ⟨_, rfl⟩
  rw [← hPost]
  have hPost' := Lib.hid hPost
  clear hT hS ha0 hPost
  go_enter Tryd.func43, Tryd.ntmps43
  go_upto_region 1 with fail
  go_cut [40] from 21 to 39 (fun v W => v = .bool false ∧ W = ((w.alloc (.cells #[.int .u64 0, .int .u64 0, .int .u64 0, .int .u64 0] 24)).alloc (.cells #[.int .i64 0, .int .i64 0, .int .i64 0] 62)))
  case first =>
    rcases hg with rfl | rfl | rfl
    all_goals
      go_wp2_with fail
      go_meet
      exact ⟨rfl, rfl⟩
  case rest =>
    obtain ⟨rfl, rfl⟩ := hcut
    clear hg
    go_upto_region 4 with fail
    go_cut [67] from 46 to 66 (fun v W => v = .bool T ∧ W = (((w.alloc (.cells #[.int .u64 0, .int .u64 0, .int .u64 0, .int .u64 0] 24)).alloc (.cells #[.int .i64 0, .int .i64 0, .int .i64 0] 62)).alloc (.cells #[.int .u64 0, .int .u64 0, .int .u64 0, .int .u64 0] 24)))
    case first =>
      by_cases hlt : at' < s.size
      · have hltI : (at' : Int) < (s.size : Int) := by omega
        obtain ⟨b, o, rfl, hl, hc⟩ := cell_at (((hS'.out.alloc (.cells #[.int .u64 0, .int .u64 0, .int .u64 0, .int .u64 0] 24)).alloc (.cells #[.int .i64 0, .int .i64 0, .int .i64 0] 62)).alloc (.cells #[.int .u64 0, .int .u64 0, .int .u64 0, .int .u64 0] 24)) hlt
        have hci := hc at' hlt
        have e94 := isL_s s at' hlt 94
        have e33 := isL_s s at' hlt 33
        have hx := (s[at']).toNat_lt
        clear hc
        generalize (s[at']).toNat = c at *
        cases h94 : ((c : Int) == 94) with
        | true =>
          have ht := Lib.hid (show T = true by rw [hT'.out]; simp [turned, e94, h94])
          clear e94 e33
          go_wp2_with fail
          go_meet
          exact ⟨by rw [ht.out], rfl⟩
        | false =>
          cases hg2 : (lang == 2) with
          | true =>
            cases h33 : ((c : Int) == 33) with
            | true =>
              have ht := Lib.hid (show T = true by rw [hT'.out]; simp [turned, e94, h94, e33, h33, hg2])
              clear e94 e33
              go_wp2_with fail
              go_meet
              exact ⟨by rw [ht.out], rfl⟩
            | false =>
              have ht := Lib.hid (show T = false by rw [hT'.out]; simp [turned, e94, h94, e33, h33, hg2])
              clear e94 e33
              go_wp2_with fail
              go_meet
              exact ⟨by rw [ht.out], rfl⟩
          | false =>
            have ht := Lib.hid (show T = false by rw [hT'.out]; simp [turned, e94, h94, hg2])
            clear e94 e33
            go_wp2_with fail
            go_meet
            exact ⟨by rw [ht.out], rfl⟩
      · have hltI : ¬ (at' : Int) < (s.size : Int) := by omega
        have ht := Lib.hid (show T = false by rw [hT'.out]; simp [turned, isL_past s at' (by omega)])
        go_wp2_with fail
        go_meet
        exact ⟨by rw [ht.out], rfl⟩
    case rest =>
      obtain ⟨rfl, rfl⟩ := hcut
      go_upto_if 67 with fail
      go_cut [10, 11] from 68 to 69 (fun v x W => v = .int .i64 (a0 : Nat) ∧ x = .bool T ∧ W = (((w.alloc (.cells #[.int .u64 0, .int .u64 0, .int .u64 0, .int .u64 0] 24)).alloc (.cells #[.int .i64 0, .int .i64 0, .int .i64 0] 62)).alloc (.cells #[.int .u64 0, .int .u64 0, .int .u64 0, .int .u64 0] 24)))
      case first =>
        cases T with
        | true =>
          have e0 : a0 = at' + 1 := by rw [ha0'.out]; rfl
          subst e0
          go_wp2_with fail
          go_meet
          exact ⟨rfl, rfl, rfl⟩
        | false =>
          have e0 : a0 = at' := by rw [ha0'.out]; rfl
          subst e0
          go_wp2_with fail
          go_meet
          exact ⟨rfl, rfl, rfl⟩
      case rest =>
        obtain ⟨rfl, rfl, rfl⟩ := hcut
        have hTl : T = true → at' < s.size := fun e => by
          rw [hT'.out] at e
          unfold turned at e
          simp only [Bool.or_eq_true, Bool.and_eq_true] at e
          have hh := hsz'.out
          rcases e with e | e
          · have := isL_lt e; omega
          · have := isL_lt e.1; omega
        have ha0 : a0 ≤ s.size := by
          rw [ha0'.out]
          cases T with
          | true => have := hTl rfl; simp; omega
          | false => simpa using hat
        have hR0 : read s.data.toList (lang == 2) at' = match loop s.data.toList (lang == 2) (s.data.toList.length + 1) true a0 0 with
            | .err c p => .err c p
            | .ok S n => .ok (if T then cmpl S else S) (n + 1) := by
          rw [ha0'.out, hT'.out]; rfl
        have hG0 : Goes s.data.toList (lang == 2) true a0 0 (loop s.data.toList (lang == 2) (s.data.toList.length + 1) true a0 0) := ⟨_, by omega, rfl⟩
        generalize loop s.data.toList (lang == 2) (s.data.toList.length + 1) true a0 0 = R at hR0 hG0
        have hEnd' := Lib.hid (show ∀ c q, R = .err c q → read s.data.toList (lang == 2) at' = .err c q from fun c q e => by rw [hR0, e])
        have hOk' := Lib.hid (show ∀ U n, R = .ok U n → read s.data.toList (lang == 2) at' = .ok (if T then cmpl U else U) (n + 1) from fun U n e => by rw [hR0, e])
        have hM0 := Lib.hid (BMid.start w)
        have hG0' := Lib.hid hG0
        clear hR0 hG0 hTl
        go_wp2_with fail
        go_loopw [10, 12] (fun iv fvv wr => ∃ (a S : Nat) (f : Bool), iv = .int .i64 (a : Nat) ∧ fvv = .bool f ∧ BMid w wr S ∧ a ≤ s.size ∧ Goes s.data.toList (lang == 2) f a S R) (fun iv _ _ => s.size - (intOf iv).toNat)
        case atStart => exact ⟨a0, 0, true, rfl, rfl, hM0.out, ha0, hG0'.out⟩
        case round =>
          clear hM0 hG0' ha0 ha0' hat
          obtain ⟨a, S, f, rfl, rfl, hM, ha, hgo⟩ := hrel
          have hM' := Lib.hid hM
          have hgo' := Lib.hid hgo
          have hMz := hM.size
          clear hM hgo
          by_cases hlt : a < s.size
          case neg =>
            have haI : (s.size : Int) ≤ (a : Int) := by omega
            have hR := Lib.hid (show R = .err 8 s.size by rw [hgo'.out.out (by rw [hsz'.out]; omega), hsz'.out])
            go_wp2_with fail
            refine (r1F_any _ _ _ _).mono ?_
            rintro e wF ⟨rfl, bF⟩
            have mF := hM'.out.ext bF (Nat.le_refl _)
            have mF' := Lib.hid mF
            obtain ⟨hO3, hF3, -, -⟩ := mF
            clear bF
            go_wp2_with (first | (refine store_set rfl rfl _ _ rfl _ 0 rfl rfl ⟨0, hO3⟩ ?_; intro wX hX gX zX; have hFX := row_grown hF3 gX (fun e => by injection e; omega)) | (refine store_flt rfl rfl _ _ rfl _ _ _ _ 0 0 0 rfl rfl hFX ?_; intro wY hY gY zY))
            refine ret_brk rfl rfl rfl rfl rfl (hX.grown gY (fun e => by injection e; omega)) hY ?_
            rw [hPost'.out, hEnd'.out _ _ hR.out]
            exact ⟨rfl, mF'.out.done gX gY⟩
          case pos =>
            have haI : ¬ (s.size : Int) ≤ (a : Int) := by omega
            obtain ⟨b, o, rfl, hca, -⟩ := hcell.out a hlt wr hM'.out.2.2.2
            have i93 := isL_s s a hlt 93
            have hx := (s[a]).toNat_lt
            generalize (s[a]).toNat = c0 at hca hx i93
            by_cases hstop : ((c0 : Int) == 93) = true ∧ f = false
            · obtain ⟨h93, rfl⟩ := hstop
              have hR := Lib.hid (hgo'.out.stop (by rw [hsz'.out]; exact hlt) (by rw [i93]; exact h93))
              have hXc := hM'.out.2.2.1
              clear i93
              cases T with
              | true =>
                go_wp2_with (first | (refine load_set rfl _ rfl _ rfl ⟨S, hXc, ?_⟩))
                refine (r5Not_any _ _).mono ?_
                rintro e w1 ⟨rfl, b1⟩
                have m1 := hM'.out.ext b1 (Nat.le_refl _)
                have hX1 := m1.2.2.1
                have m1' := Lib.hid m1
                clear b1 m1 hXc
                go_wp2_with (first | (refine store_set rfl rfl _ _ rfl _ (cmpl S) rfl rfl ⟨S, hX1⟩ ?_; intro w2 hX2 g2 z2; have m2 := m1'.out.put g2 hX2; have m2' := Lib.hid m2; obtain ⟨hO2, hF2, -, -⟩ := m2; clear hX1 g2) | (refine load_set rfl _ rfl _ rfl ⟨cmpl S, hX2, ?_⟩) | (refine store_set rfl rfl _ _ rfl _ (cmpl S) rfl rfl ⟨0, hO2⟩ ?_; intro wX hX gX zX; have hFX := row_grown hF2 gX (fun e => by injection e; omega)) | (refine store_flt rfl rfl _ _ rfl _ 0 0 0 0 0 0 rfl rfl hFX ?_; intro wY hY gY zY))
                refine ret_brk rfl rfl rfl rfl rfl (hX.grown gY (fun e => by injection e; omega)) hY ?_
                rw [hPost'.out, hOk'.out _ _ hR.out]
                exact ⟨rfl, m2'.out.done gX gY⟩
              | false =>
                obtain ⟨hO2, hF2, -, -⟩ := hM'.out
                go_wp2_with (first | (refine load_set rfl _ rfl _ rfl ⟨S, hXc, ?_⟩) | (refine store_set rfl rfl _ _ rfl _ S rfl rfl ⟨0, hO2⟩ ?_; intro wX hX gX zX; have hFX := row_grown hF2 gX (fun e => by injection e; omega)) | (refine store_flt rfl rfl _ _ rfl _ 0 0 0 0 0 0 rfl rfl hFX ?_; intro wY hY gY zY))
                refine ret_brk rfl rfl rfl rfl rfl (hX.grown gY (fun e => by injection e; omega)) hY ?_
                rw [hPost'.out, hOk'.out _ _ hR.out]
                exact ⟨rfl, hM'.out.done gX gY⟩
            · have hcnd : (!f && isL s.data.toList a 93) = false := by
                rw [i93]
                cases f <;> simp_all
              have hstep' := Lib.hid (hgo'.out.step (by rw [hsz'.out]; exact hlt) hcnd)
              clear i93 hcnd hgo'
              go_upto_region 11 with fail
              go_cut [87] from 79 to 86 (fun v W => v = .bool false ∧ W = wr)
              case first =>
                cases h93 : ((c0 : Int) == 93) with
                | false =>
                  go_wp2_with fail
                  go_meet
                  exact ⟨rfl, rfl⟩
                | true =>
                  cases f with
                  | false => exact absurd ⟨h93, rfl⟩ hstop
                  | true =>
                    go_wp2_with fail
                    go_meet
                    exact ⟨rfl, rfl⟩
              case rest =>
                obtain ⟨rfl, rfl⟩ := hcut
                clear hstop hca hx
                have hit0 := Lib.hid (r5item_any (some ⟨b, o, none⟩) cap a lang s wc (.inr ⟨b, o, rfl, fun k hk => by obtain ⟨b', o', e, h, -⟩ := hcell.out k hk wc hM'.out.2.2.2; cases e; exact h, by obtain ⟨b', o', e, -, h⟩ := hcell.out a hlt wc hM'.out.2.2.2; cases e; exact h⟩) hs hlt hcap)
                obtain ⟨it, hit⟩ : ∃ it, it = item s.data.toList (lang == 2) a := ⟨_, rfl⟩
                rw [← hit] at hit0
                have hit' := Lib.hid hit
                clear hit
                go_wp2_with fail
                refine hit0.out.mono ?_
                rintro e w1 ⟨rfl, b1⟩
                have m1' := Lib.hid (hM'.out.ext b1 (Nat.le_refl _))
                clear b1 hit0
                clear hM'
                cases it with
                | err cd q =>
                  obtain rfl : cd = 8 := itm_code hit'.out.symm
                  have hR := Lib.hid (hstep'.out.1 8 q (by unfold step; rw [← hit'.out]; rfl))
                  rw [show itV a (.err 8 q) = .tuple #[.int .i64 0, sv 0, .int .i64 (a : Nat), .int .i64 8, .int .i64 (q : Nat)] from rfl]
                  go_wp2_with (first | (refine store_set rfl rfl _ _ rfl _ 0 rfl rfl ⟨0, IsSet.zero' _ _ _ rfl⟩ ?_; intro w4 hX4 g4 z4; have b4 : Below w1.heap.size w1 w4 := Below.viaG1 g4 ((Below.refl _ _).alloc (Nat.le_refl _) _) (by simp) (Nat.le_refl _); have m4' := Lib.hid (m1'.out.ext b4 (Nat.le_refl _)); clear b4 g4))
                  refine (r1F_any _ _ _ _).mono ?_
                  rintro e wF ⟨rfl, bF⟩
                  have mF := m4'.out.ext bF (Nat.le_refl _)
                  have mF' := Lib.hid mF
                  obtain ⟨hO3, hF3, -, -⟩ := mF
                  clear bF
                  go_wp2_with (first | (refine store_set rfl rfl _ _ rfl _ 0 rfl rfl ⟨0, hO3⟩ ?_; intro wX hX gX zX; have hFX := row_grown hF3 gX (fun e => by injection e; omega)) | (refine store_flt rfl rfl _ _ rfl _ _ _ _ 0 0 0 rfl rfl hFX ?_; intro wY hY gY zY))
                  refine ret_brk rfl rfl rfl rfl rfl (hX.grown gY (fun e => by injection e; omega)) hY ?_
                  rw [hPost'.out, hEnd'.out _ _ hR.out]
                  exact ⟨rfl, mF'.out.done gX gY⟩
                | cls U n =>
                  obtain ⟨hn1, hn2⟩ := item_cls hit'.out.symm
                  rw [hsz'.out] at hn2
                  have hgo2 := Lib.hid (hstep'.out.2 U n (by unfold step; rw [← hit'.out]; rfl))
                  rw [show itV a (.cls U n) = .tuple #[.int .i64 (-1), sv U, .int .i64 (n : Nat), .int .i64 0, .int .i64 0] from rfl]
                  go_wp2_with (first | (refine store_set rfl rfl _ _ rfl _ U rfl rfl ⟨0, IsSet.zero' _ _ _ rfl⟩ ?_; intro w4 hX4 g4 z4; have b4 : Below w1.heap.size w1 w4 := Below.viaG1 g4 ((Below.refl _ _).alloc (Nat.le_refl _) _) (by simp) (Nat.le_refl _); have m4 := m1'.out.ext b4 (Nat.le_refl _); have hXs := m4.2.2.1; have m4' := Lib.hid m4; clear b4 g4 m4) | (refine load_set rfl _ rfl _ rfl ⟨S, hXs, ?_⟩) | (refine load_set rfl _ rfl _ rfl ⟨U, hX4, ?_⟩))
                  refine (r5Or_any _ _ _).mono ?_
                  rintro e w5 ⟨rfl, b5⟩
                  have m5 := m4'.out.ext b5 (Nat.le_refl _)
                  have hX5 := m5.2.2.1
                  have m5' := Lib.hid m5
                  clear b5 m5 hXs hX4
                  go_wp2_with (first | (refine store_set rfl rfl _ _ rfl _ (S ||| U) rfl rfl ⟨S, hX5⟩ ?_; intro w6 hX6 g6 z6; have m6' := Lib.hid (m5'.out.put g6 hX6); clear g6))
                  go_roundw
                  case rel => exact ⟨n, S ||| U, false, rfl, rfl, m6'.out, hn2, hgo2.out⟩
                  case measure => simp [intOf]; omega
                | byte c n =>
                  obtain ⟨hn1, hn2, -⟩ := item_byte (by rw [hsz'.out]; exact hlt) hit'.out.symm
                  rw [hsz'.out] at hn2
                  have hcx := c.toNat_lt
                  obtain ⟨D, hD⟩ : ∃ D, D = (!isL s.data.toList n 45 || isL s.data.toList (n + 1) 93 || decide (s.data.toList.length ≤ n + 1)) := ⟨_, rfl⟩
                  have hst : step s.data.toList (lang == 2) a = if D then .ok (ofL [c]) n else hiR c a n (item s.data.toList (lang == 2) (n + 1)) := by
                    unfold step; rw [← hit'.out, ranged_byte, ← hD]
                  have hst' := Lib.hid hst
                  have hD' := Lib.hid hD
                  rw [show itV a (.byte c n) = .tuple #[.int .i64 (c.toNat : Nat), sv 0, .int .i64 (n : Nat), .int .i64 0, .int .i64 0] from rfl]
                  clear hst hD
                  go_upto_region 22 with (first | (refine store_set rfl rfl _ _ rfl _ 0 rfl rfl ⟨0, IsSet.zero' _ _ _ rfl⟩ ?_; intro w4 hX4 g4 z4; have b4 : Below w1.heap.size w1 w4 := Below.viaG1 g4 ((Below.refl _ _).alloc (Nat.le_refl _) _) (by simp) (Nat.le_refl _); have m4' := Lib.hid (m1'.out.ext b4 (Nat.le_refl _)); clear b4 g4))
                  go_cut [138] from 119 to 137 (fun v W => v = .bool D ∧ W = w4)
                  case first =>
                    by_cases hn3 : n + 1 < s.size
                    · have hnI : ¬ (s.size : Int) ≤ (n : Int) + 1 := by omega
                      obtain ⟨b', o', e, hy0, -⟩ := hcell.out n (by omega) w4 m4'.out.2.2.2
                      cases e
                      obtain ⟨b', o', e, hy1, -⟩ := hcell.out (n + 1) hn3 w4 m4'.out.2.2.2
                      cases e
                      have j0 := isL_s s n (by omega) 45
                      have j1 := isL_s s (n + 1) hn3 93
                      have jx0 := (s[n]).toNat_lt
                      have jx1 := (s[n + 1]).toNat_lt
                      have jl : decide (s.data.toList.length ≤ n + 1) = false := by rw [hsz'.out]; simp; omega
                      generalize (s[n]).toNat = y0 at hy0 jx0 j0
                      generalize (s[n + 1]).toNat = y1 at hy1 jx1 j1
                      cases h45 : ((y0 : Int) == 45) with
                      | false =>
                        have hd := Lib.hid (show D = true by rw [hD'.out, j0, h45]; rfl)
                        have h45n : ((y0 : Int) != 45) = true := by simp [bne, h45]
                        clear j0 j1 jl
                        go_wp2_with fail
                        go_meet
                        exact ⟨by rw [hd.out], rfl⟩
                      | true =>
                        have h45n : ((y0 : Int) != 45) = false := by simp [bne, h45]
                        cases h93 : ((y1 : Int) == 93) with
                        | true =>
                          have hd := Lib.hid (show D = true by rw [hD'.out, j0, h45, j1, h93]; rfl)
                          clear j0 j1 jl
                          go_wp2_with fail
                          go_meet
                          exact ⟨by rw [hd.out], rfl⟩
                        | false =>
                          have hd := Lib.hid (show D = false by rw [hD'.out, j0, h45, j1, h93, jl]; rfl)
                          clear j0 j1 jl
                          go_wp2_with fail
                          go_meet
                          exact ⟨by rw [hd.out], rfl⟩
                    · have hnI : (s.size : Int) ≤ (n : Int) + 1 := by omega
                      have jl : decide (s.data.toList.length ≤ n + 1) = true := by rw [hsz'.out]; simp; omega
                      have hd := Lib.hid (show D = true by rw [hD'.out, jl, Bool.or_true])
                      clear jl
                      go_wp2_with fail
                      go_meet
                      exact ⟨by rw [hd.out], rfl⟩
                  case rest =>
                    obtain ⟨rfl, rfl⟩ := hcut
                    have hXs := m4'.out.2.2.1
                    cases D with
                    | true =>
                      have hgo2 := Lib.hid (hstep'.out.2 (ofL [c]) n (by rw [hst'.out]; rfl))
                      have hw8 : IntKind.u8.wrap ((c.toNat : Nat) : Int) = ((c.toNat : Nat) : Int) := by rw [IntKind.wrap_u8]; omega
                      have hcv := conv_i8 c.toNat hcx
                      go_wp2_with (first | (refine load_set rfl _ rfl _ rfl ⟨S, hXs, ?_⟩))
                      refine (r5Add_any S c.toNat hcx _).mono ?_
                      rintro e w5 ⟨rfl, b5⟩
                      have m5 := m4'.out.ext b5 (Nat.le_refl _)
                      have hX5 := m5.2.2.1
                      have m5' := Lib.hid m5
                      have hadd := Lib.hid (add_one S c)
                      clear b5 m5 hXs hX4
                      go_wp2_with (first | (refine store_set rfl rfl _ _ rfl _ (add S c.toNat) rfl rfl ⟨S, hX5⟩ ?_; intro w6 hX6 g6 z6; have m6' := Lib.hid (m5'.out.put g6 hX6); clear g6))
                      go_roundw
                      case rel => exact ⟨n, S ||| ofL [c], false, rfl, rfl, by rw [← hadd.out]; exact m6'.out, hn2, hgo2.out⟩
                      case measure => simp [intOf]; omega
                    | false =>
                      have hn3 : n + 1 < s.size := by
                        have h := hD'.out
                        simp at h
                        have := h.2
                        have hh := hsz'.out
                        simp at hh
                        omega
                      have hit0 := Lib.hid (r5item_any (some ⟨b, o, none⟩) cap (n + 1) lang s wc (.inr ⟨b, o, rfl, fun k hk => by obtain ⟨b', o', e, h, -⟩ := hcell.out k hk wc m4'.out.2.2.2; cases e; exact h, by obtain ⟨b', o', e, -, h⟩ := hcell.out a hlt wc m4'.out.2.2.2; cases e; exact h⟩) hs hn3 hcap)
                      obtain ⟨it2, hit2⟩ : ∃ it2, it2 = item s.data.toList (lang == 2) (n + 1) := ⟨_, rfl⟩
                      rw [← hit2] at hit0 hst'
                      have hit2' := Lib.hid hit2
                      clear hit2 hXs hX4
                      go_wp2_with fail
                      refine hit0.out.mono ?_
                      rintro e w5 ⟨rfl, b5⟩
                      have m5' := Lib.hid (m4'.out.ext b5 (Nat.le_refl _))
                      clear b5 hit0 m4'
                      cases it2 with
                      | err cd q =>
                        obtain rfl : cd = 8 := itm_code hit2'.out.symm
                        have hR := Lib.hid (hstep'.out.1 8 q (by rw [hst'.out]; rfl))
                        rw [show itV (n + 1) (.err 8 q) = .tuple #[.int .i64 0, sv 0, .int .i64 ((n + 1 : Nat)), .int .i64 8, .int .i64 (q : Nat)] from rfl]
                        go_wp2_with (first | (refine store_set rfl rfl _ _ rfl _ 0 rfl rfl ⟨0, IsSet.zero' _ _ _ rfl⟩ ?_; intro w6 hX6 g6 z6; have b6 : Below w5.heap.size w5 w6 := Below.viaG1 g6 ((Below.refl _ _).alloc (Nat.le_refl _) _) (by simp) (Nat.le_refl _); have m6' := Lib.hid (m5'.out.ext b6 (Nat.le_refl _)); clear b6 g6))
                        refine (r1F_any _ _ _ _).mono ?_
                        rintro e wF ⟨rfl, bF⟩
                        have mF := m6'.out.ext bF (Nat.le_refl _)
                        have mF' := Lib.hid mF
                        obtain ⟨hO3, hF3, -, -⟩ := mF
                        clear bF
                        go_wp2_with (first | (refine store_set rfl rfl _ _ rfl _ 0 rfl rfl ⟨0, hO3⟩ ?_; intro wX hX gX zX; have hFX := row_grown hF3 gX (fun e => by injection e; omega)) | (refine store_flt rfl rfl _ _ rfl _ _ _ _ 0 0 0 rfl rfl hFX ?_; intro wY hY gY zY))
                        refine ret_brk rfl rfl rfl rfl rfl (hX.grown gY (fun e => by injection e; omega)) hY ?_
                        rw [hPost'.out, hEnd'.out _ _ hR.out]
                        exact ⟨rfl, mF'.out.done gX gY⟩
                      | cls U q =>
                        have hR := Lib.hid (hstep'.out.1 8 (n + 1) (by rw [hst'.out]; rfl))
                        rw [show itV (n + 1) (.cls U q) = .tuple #[.int .i64 (-1), sv U, .int .i64 (q : Nat), .int .i64 0, .int .i64 0] from rfl]
                        go_wp2_with (first | (refine store_set rfl rfl _ _ rfl _ U rfl rfl ⟨0, IsSet.zero' _ _ _ rfl⟩ ?_; intro w6 hX6 g6 z6; have b6 : Below w5.heap.size w5 w6 := Below.viaG1 g6 ((Below.refl _ _).alloc (Nat.le_refl _) _) (by simp) (Nat.le_refl _); have m6' := Lib.hid (m5'.out.ext b6 (Nat.le_refl _)); clear b6 g6))
                        refine (r1F_any _ _ _ _).mono ?_
                        rintro e wF ⟨rfl, bF⟩
                        have mF := m6'.out.ext bF (Nat.le_refl _)
                        have mF' := Lib.hid mF
                        obtain ⟨hO3, hF3, -, -⟩ := mF
                        clear bF
                        go_wp2_with (first | (refine store_set rfl rfl _ _ rfl _ 0 rfl rfl ⟨0, hO3⟩ ?_; intro wX hX gX zX; have hFX := row_grown hF3 gX (fun e => by injection e; omega)) | (refine store_flt rfl rfl _ _ rfl _ _ _ _ 0 0 0 rfl rfl hFX ?_; intro wY hY gY zY))
                        refine ret_brk rfl rfl rfl rfl rfl (hX.grown gY (fun e => by injection e; omega)) hY ?_
                        rw [hPost'.out, hEnd'.out _ _ hR.out]
                        exact ⟨rfl, mF'.out.done gX gY⟩
                      | byte d q =>
                        obtain ⟨hq1, hq2, -⟩ := item_byte (by rw [hsz'.out]; exact hn3) hit2'.out.symm
                        rw [hsz'.out] at hq2
                        have hdx := d.toNat_lt
                        rw [show itV (n + 1) (.byte d q) = .tuple #[.int .i64 (d.toNat : Nat), sv 0, .int .i64 (q : Nat), .int .i64 0, .int .i64 0] from rfl]
                        by_cases hdc : d.toNat < c.toNat
                        · have hR := Lib.hid (hstep'.out.1 7 a (by rw [hst'.out]; exact if_pos hdc))
                          have hdI : (d.toNat : Int) < (c.toNat : Int) := by omega
                          go_wp2_with (first | (refine store_set rfl rfl _ _ rfl _ 0 rfl rfl ⟨0, IsSet.zero' _ _ _ rfl⟩ ?_; intro w6 hX6 g6 z6; have b6 : Below w5.heap.size w5 w6 := Below.viaG1 g6 ((Below.refl _ _).alloc (Nat.le_refl _) _) (by simp) (Nat.le_refl _); have m6' := Lib.hid (m5'.out.ext b6 (Nat.le_refl _)); clear b6 g6))
                          refine (r1F_any _ _ _ _).mono ?_
                          rintro e wF ⟨rfl, bF⟩
                          have mF := m6'.out.ext bF (Nat.le_refl _)
                          have mF' := Lib.hid mF
                          obtain ⟨hO3, hF3, -, -⟩ := mF
                          clear bF
                          go_wp2_with (first | (refine store_set rfl rfl _ _ rfl _ 0 rfl rfl ⟨0, hO3⟩ ?_; intro wX hX gX zX; have hFX := row_grown hF3 gX (fun e => by injection e; omega)) | (refine store_flt rfl rfl _ _ rfl _ _ _ _ 0 0 0 rfl rfl hFX ?_; intro wY hY gY zY))
                          refine ret_brk rfl rfl rfl rfl rfl (hX.grown gY (fun e => by injection e; omega)) hY ?_
                          rw [hPost'.out, hEnd'.out _ _ hR.out]
                          exact ⟨rfl, mF'.out.done gX gY⟩
                        · have hgo2 := Lib.hid (hstep'.out.2 (rng c.toNat d.toNat) q (by rw [hst'.out]; exact if_neg hdc))
                          have hdI : ¬ (d.toNat : Int) < (c.toNat : Int) := by omega
                          go_wp2_with (first | (refine store_set rfl rfl _ _ rfl _ 0 rfl rfl ⟨0, IsSet.zero' _ _ _ rfl⟩ ?_; intro w6 hX6 g6 z6; have b6 : Below w5.heap.size w5 w6 := Below.viaG1 g6 ((Below.refl _ _).alloc (Nat.le_refl _) _) (by simp) (Nat.le_refl _); have m6' := Lib.hid (m5'.out.ext b6 (Nat.le_refl _)); clear b6 g6))
                          have mz := m6'.out.size
                          refine wp_region_swap (o' := regionOps Tryd.f43 31) (by kernel_rfl) ?_
                          refine rb31_wp (base := w6.heap.size) (B := w.heap.size + 1 + 1) (S := S) (c := c.toNat) (d := d.toNat) ⟨by rfl, by rfl, by rfl, by rfl, m6'.out.2.2.1, by omega, hcx, hdx⟩ rfl ?_
                          intro u W hgW hXW hszW
                          have m7' := Lib.hid (m6'.out.put hgW hXW)
                          clear hgW hXW m6'
                          rw [rb31_plan]
                          simp only [putL, Act.put, List.setIfInBounds_toArray, List.set_cons_succ, List.set_cons_zero]
                          go_wp2_with fail
                          go_roundw
                          case rel => exact ⟨q, S ||| rng c.toNat d.toNat, false, rfl, rfl, m7'.out, hq2, hgo2.out⟩
                          case measure => simp [intOf]; omega
theorem rbrk_any (p : Option Addr) (cap : Nat) (at' lang : Int) (s : ByteArray) (w : World) (hS : HasB w p s) (hs : s.size < 2 ^ 61) (hcap : s.size ≤ cap) :
    Calls Tryd.prog 43 #[.slice p s.size cap, .int .i64 at', .int .i64 lang] w (RbPost w lang (brk s.data.toList at' lang)) := by
  have hsz : s.data.toList.length = s.size := by simp
  unfold brk
  rw [hsz]
  by_cases h1 : at' < 0
  · rw [if_pos (.inl h1)]
    exact rbrk_bad p cap at' lang s w (.inl h1)
  by_cases h2 : (s.size : Int) < at'
  · rw [if_pos (.inr (.inl h2))]
    exact rbrk_bad p cap at' lang s w (.inr (.inl ⟨h2, h1⟩))
  by_cases h3 : lang ≠ 2 ∧ lang ≠ 3 ∧ lang ≠ 4
  · rw [if_pos (.inr (.inr h3))]
    exact rbrk_bad p cap at' lang s w (.inr (.inr ⟨h2, h1, by simpa using h3.1, by simpa using h3.2.1, by simpa using h3.2.2⟩))
  · rw [if_neg (by omega)]
    obtain ⟨k, rfl⟩ := Int.eq_ofNat_of_zero_le (Int.not_lt.1 h1)
    exact rbrk_good p cap k lang s w hS hs hcap (by omega) (by omega)
end Go.Proofs.YteeopjgfiojoiaaDoor
