/- GlobJoins; glob.Quote; Pattern.Plain at single bytes. Conditions: the bytes lie in memory; a quoted text has at most 1048576 bytes. -/
import Derived.Test.YteeopjgfiojoiaaDoorGlobA
import Derived.Test.YteeopjgfiojoiaaDoorWRanges
import Derived.Laws.AppendOwnNone
import Derived.WalkMore
import Derived.Deep.Cut
import Derived.Handy
import Derived.Outline
import Derived.Lib.BufferRead
namespace Go.Proofs.YteeopjgfiojoiaaDoor
open Go Go.RowKit SN

theorem World.grownBy.refl0 (w : World) (row : Option Nat) : w.grownBy w row := ⟨rfl, rfl, rfl, Nat.le_refl _, fun _ _ _ => rfl⟩
/-- append of an owned row onto an owned row, whichever of the two is nil. -/
theorem append_rows {w : World} {ops : Array Oper} {rest : List Oper} {o : Oper} {a : Act} {Q : Exit → Act → World → Prop} (hw : Region.wanted o (yielded ops a.tmps) = true) (s x : Operand) (t : TypeId)
    (ho : o.op = .call { callee := .builtin .append, args := #[s, x], argTypes := #[t, t] })
    (base : Nat) (e : TypeId) (i : TypeInfo) (z : Value) (size bytes : Nat) (ht : Tryd.prog.underlying t = some (.slice e)) (hi : Tryd.prog.info? e = some i) (hz : i.zero = some z)
    (hsize : i.size = size) (hby : i.bytes = bytes) (hzs : z.cells.size = size) (hsz : 0 < size)
    (v : Value) (n : Nat) (xs : List Value) (hs : a.eval s = v) (hown : w.ownsRow base e size v n xs) (b2 m : Nat) (vx : Value) (news : List Value) (hx : a.eval x = vx) (hownx : w.ownsRow b2 e size vx m news) (h1 : ∀ u ∈ news, u.oneCell' = true)
    (h63 : n + m ≤ maxLen) (hbytes : (n + m) * bytes ≤ 140737488355328) (hbase : base ≤ w.heap.size)
    (h : ∀ v' w', w'.ownsRow base e size v' (n + m) (xs ++ news) → w.grownBy w' v.ownBlock → wpList Tryd.prog ops Q rest (a.put o.dst v') w') : wpList Tryd.prog ops Q (o :: rest) a w := by
  refine wpList_wanted hw fun K hK => ?_
  obtain ⟨hl, ⟨rfl, rfl⟩ | ⟨g, cap, cur, rfl, -⟩⟩ := id hownx
  · obtain rfl : news = [] := List.eq_nil_of_length_eq_zero (by simpa using hl)
    have hrun := run_append_owned_none (P := Tryd.prog) (w := w) base t o.type e i size ht hi v n xs hown
    unfold Oper.wp
    simp [execOp, ho, resolve, invoke, builtin, hs, hx, hrun, Result.andThen]
    exact hK _ _ (h v w (by simpa using hown) (World.grownBy.refl0 _ _))
  · exact wp_append_own w s x t ho base e i z size bytes ht hi hz hsize hby hzs hsz v n xs hs hown ⟨g, 0, none⟩ m cap news hx hl (hownx.cells rfl) h1 h63 hbytes hbase fun v' w' h2 h3 _ => hK _ _ (h v' w' h2 h3)
theorem pvs_append (l m : List Pie) : pvs (l ++ m) = pvs l ++ pvs m := by simp [pvs]
theorem same_zero (a1 a2 : Option Addr) (c1 c2 : Nat) (w : World) : Calls Tryd.prog 40 #[.slice a1 0 c1, .slice a2 0 c2] w fun e w' => e = .returned (.bool true) ∧ w' = w := by
  go_enter Tryd.func40, Tryd.ntmps40
  go_wp2
  go_loopw [13] (fun i wr => i = .int .i64 0 ∧ wr = w) (fun i _ => 0)
  case atStart => exact ⟨rfl, rfl⟩
  case round =>
    obtain ⟨rfl, rfl⟩ := hrel
    go_wp2
    go_ret
    exact ⟨rfl, rfl⟩
theorem same_own (b1 b2 : Nat) (v1 v2 : Value) (l : List Pie) (w : World) (hl : l.length ≤ 1024) (h1 : w.ownsRow b1 58 5 v1 l.length (pvs l)) (h2 : w.ownsRow b2 58 5 v2 l.length (pvs l)) :
    Calls Tryd.prog 40 #[v1, v2] w fun e w' => e = .returned (.bool true) ∧ Below w.heap.size w w' := by
  by_cases h0 : l.length = 0
  · obtain ⟨a1, c1, rfl⟩ := own_slice h1
    obtain ⟨a2, c2, rfl⟩ := own_slice h2
    rw [h0]
    exact (same_zero a1 a2 c1 c2 w).mono fun _ _ ⟨x, y⟩ => ⟨x, y ▸ Below.refl _ _⟩
  · obtain ⟨-, ⟨-, e⟩ | ⟨g1, c1, cur1, rfl, -⟩⟩ := id h1
    · exact absurd e h0
    obtain ⟨-, ⟨-, e⟩ | ⟨g2, c2, cur2, rfl, -⟩⟩ := id h2
    · exact absurd e h0
    exact same_eq g1 g2 c1 c2 b1 b2 l w hl h1 h2
/-- The bytes of an argument, behind a row of bytes that the call owns. -/
theorem append_bytes {w : World} {ops : Array Oper} {rest : List Oper} {o : Oper} {a : Act} {Q : Exit → Act → World → Prop} (hgd : o.guard = none) (s x : Operand)
    (ho : o.op = .call { callee := .builtin .append, args := #[s, x], argTypes := #[36, 36] })
    (base : Nat) (v : Value) (xs : List Nat) (hs : a.eval s = v) (hown : OwnsB w base v xs) (p : Option Addr) (t : ByteArray) (cap : Nat) (l : List Nat) (hl : l = t.data.toList.map (·.toNat)) (hx : a.eval x = .slice p t.size cap) (hS : HasB w p t) (hnil : p = none → cap = 0) (hcap : t.size ≤ cap)
    (hsm : xs.length + t.size ≤ 1048576) (hbase : base ≤ w.heap.size)
    (h : ∀ v' w', OwnsB w' base v' (xs ++ l) → w.grownBy w' v.ownBlock → wpList Tryd.prog ops Q rest (a.put o.dst v') w') : wpList Tryd.prog ops Q (o :: rest) a w := by
  obtain ⟨i0, hi0, hz0, hz1, hz2⟩ := info_parts info_u8
  have hll : l.length = t.size := by rw [hl]; simp
  have key : ∀ w', ∀ v', w'.ownsRow base 5 1 v' (xs.length + t.size) (bv xs ++ bv l) → OwnsB w' base v' (xs ++ l) := fun w' v' hh => by
    unfold OwnsB
    rw [List.length_append, hll, show bv (xs ++ l) = bv xs ++ bv l by simp [bv]]
    exact hh
  cases p with
  | none =>
    have h0 := hnil rfl
    subst h0
    have ht : t.size = 0 := by omega
    rw [ht] at hx
    have hl0 : l = [] := List.eq_nil_of_length_eq_zero (by omega)
    refine wpList_append_own_none hgd s x 36 ho base 5 i0 1 Tryd.underlying36 hi0 v xs.length (bv xs) hs hown hx ?_
    exact h v w (by rw [hl0, List.append_nil]; exact hown) (World.grownBy.refl0 _ _)
  | some ad =>
    refine wpList_append_own w hgd s x 36 ho base 5 i0 (.int .u8 0) 1 1 Tryd.underlying36 hi0 hz0 hz1 hz2 rfl (by decide) v xs.length (bv xs) hs hown ad t.size cap (bv l) hx (by simp [bv, hll]) ?_ ?_ (by unfold maxLen; omega) (by omega) hbase ?_
    · rcases hS with h0 | ⟨b, of, e, hc, hlt⟩
      · intro j u hu
        have : l = [] := List.eq_nil_of_length_eq_zero (by omega)
        rw [this] at hu
        cases hu
      · cases e
        intro j u hu
        have hj : j < t.size := by
          rcases Nat.lt_or_ge j (bv l).length with h' | h'
          · simpa [bv, hll] using h'
          · rw [List.getElem?_eq_none h'] at hu; cases hu
        have e2 : (⟨b, of, none⟩ : Addr).add j = ⟨b, of + j, none⟩ := by unfold Addr.add; split <;> simp_all
        rw [e2, hc j hj, ← hu, hl]
        simp [bv, hj, ByteArray.getElem_eq_getElem_data]
    · intro u hu; simp only [bv, List.mem_map] at hu; obtain ⟨y, -, rfl⟩ := hu; rfl
    · intro v' w' h2 h3 _
      exact h v' w' (key w' v' h2) h3
theorem build0 (w : World) : (Instr.buildSlice 36 0 #[]).run Tryd.prog w = .ok (.slice (some ⟨w.heap.size, 0, none⟩) 0 0) (w.alloc (.cells #[] 5)) := by kernel_rfl
theorem build0p (w : World) : (Instr.buildSlice 55 0 #[]).run Tryd.prog w = .ok (.slice (some ⟨w.heap.size, 0, none⟩) 0 0) (w.alloc (.cells #[] 58)) := by kernel_rfl
theorem safe_else (c : UInt8) (t : List UInt8) (h1 : c ≠ 91) (h2 : c ≠ 92) : safe (c :: t) = safe t := by
  cases t with
  | nil => simp [safe, h1, h2]
  | cons d t => simp [safe, h1, h2]
theorem safe_esc (d : UInt8) (t : List UInt8) : safe (92 :: d :: t) = safe t := by simp [safe]
theorem IsPt.below {w w' : World} {base B N : Nat} {l : List Pie} (h : IsPt w base B l) (hb : Below N w w') (hN : w.heap.size ≤ N) : IsPt w' base B l := by
  obtain ⟨h1, v, h2, h3, h4⟩ := h
  exact ⟨h1, v, row_below h2 hb (Nat.lt_of_lt_of_le (row_lt h2) hN), own_below h3 hb hN, h4⟩
theorem own_new0b (w : World) : OwnsB (w.alloc (.cells #[] 5)) w.heap.size (.slice (some ⟨w.heap.size, 0, none⟩) 0 0) [] :=
  ⟨rfl, .inr ⟨w.heap.size, 0, #[], rfl, Nat.le_refl _, heap_alloc_new w _, Nat.le_refl _, by unfold maxLen; decide, rfl, rfl⟩⟩
set_option maxHeartbeats 2000000 in
set_option maxRecDepth 100000 in
theorem gjoins_any {N : Nat} {E : Nat → Addr} (p p2 : Option Addr) (s m : ByteArray) (cap cap2 : Nat) (w : World) (hS : HasB w p s) (hM : HasB w p2 m) (hcap : s.size ≤ cap) (hcap2 : m.size ≤ cap2) (hnil : p = none → cap = 0) (hnil2 : p2 = none → cap2 = 0) (hE : Errs N E w) (hN : N ≤ w.heap.size) :
    Calls Tryd.prog 9 #[.slice p s.size cap, .slice p2 m.size cap2] w fun e w' => e = .returned (.bool true) ∧ Below w.heap.size w w' := by
  obtain ⟨i0, hi0, hz0, hz1, hz2⟩ := info_parts info_pc
  have hE' := Lib.hid hE
  have hS' := Lib.hid hS
  have hM' := Lib.hid hM
  have hnil' := Lib.hid hnil
  have hnil2' := Lib.hid hnil2
  have haw := fun (W : World) (hb : Below w.heap.size w W) => awake6_any (N := N) (E := E) W (hE'.out.below hb hN) (by have := hb.size; omega)
  have haw' := Lib.hid haw
  clear hE hS hM hnil hnil2 haw
  by_cases hA : 128 < s.size
  · have hA' : (128 : Int) < (s.size : Int) := by omega
    go_enter Tryd.func9, Tryd.ntmps9
    go_wp2_with fail
    refine (haw'.out w (Below.refl _ _)).mono ?_
    rintro e w1 ⟨rfl, hb⟩
    go_wp2_with fail
    go_ret
    exact ⟨rfl, hb⟩
  have hA' : ¬ (128 : Int) < (s.size : Int) := by omega
  by_cases hB : 128 < m.size
  · have hB' : (128 : Int) < (m.size : Int) := by omega
    go_enter Tryd.func9, Tryd.ntmps9
    go_wp2_with fail
    refine (haw'.out w (Below.refl _ _)).mono ?_
    rintro e w1 ⟨rfl, hb⟩
    go_wp2_with fail
    go_ret
    exact ⟨rfl, hb⟩
  have hB' : ¬ (128 : Int) < (m.size : Int) := by omega
  obtain ⟨l, hl⟩ : ∃ l, l = s.data.toList := ⟨_, rfl⟩
  have hlen : l.length = s.size := by rw [hl]; simp
  have hget : ∀ k, (hk : k < s.size) → l[k]? = some s[k] := fun k hk => by rw [hl, Array.getElem?_toList]; exact Array.getElem?_eq_getElem hk
  have hcell := fun (k : Nat) (hk : k < s.size) => hasB_at hS'.out (i := k) hk
  have hl' := Lib.hid hl
  have hlen' := Lib.hid hlen
  have hget' := Lib.hid hget
  have hcell' := Lib.hid hcell
  clear hl hlen hget hcell
  go_enter Tryd.func9, Tryd.ntmps9
  go_wp2_with fail
  go_loopw [5] (fun i wr => ∃ (k : Nat), k ≤ s.size ∧ i = .int .i64 k ∧ (safe (l.drop k) = true → safe l = true) ∧ wr = w) (fun i _ => s.size - (intOf i).toNat)
  case atStart => exact ⟨0, Nat.zero_le _, rfl, fun h => by simpa using h, rfl⟩
  case round =>
    obtain ⟨k, hk, rfl, hsf, rfl⟩ := hrel
    have hsf' := Lib.hid hsf
    clear hsf
    by_cases hlt : k < s.size
    · obtain ⟨b, o, rfl, hc, -⟩ := hcell'.out k hlt
      have hx := (s[k]).toNat_lt
      have hgk := hget'.out k hlt
      obtain ⟨c, hce⟩ : ∃ c, c = (s[k]).toNat := ⟨_, rfl⟩
      have hcu : s[k] = c.toUInt8 := by rw [hce]; simp
      rw [hcu] at hgk
      rw [← hce] at hc hx
      have hd' := Lib.hid (pt_drop hgk)
      clear hgk hce hcu
      by_cases h91 : c = 91
      · subst h91
        go_wp2_with fail
        refine (haw'.out wr (Below.refl _ _)).mono ?_
        rintro e w1 ⟨rfl, hb⟩
        go_wp2_with fail
        go_ret
        exact ⟨rfl, hb⟩
      by_cases h92 : c = 92
      · subst h92
        by_cases hlt2 : k + 1 < s.size
        · have hne : ((k : Int) + 1 == (s.size : Int)) = false := by simp; omega
          have hgk2 := pt_drop (hget'.out (k + 1) hlt2)
          have hgk2' := Lib.hid hgk2
          clear hgk2 h91
          go_wp2_with fail
          go_round
          case rel => exact ⟨k + 2, by omega, by go_num, fun h => hsf'.out (by rw [hd'.out, hgk2'.out]; rw [show (92 : Nat).toUInt8 = (92 : UInt8) from rfl, safe_esc]; exact h), trivial⟩
          case measure => simp [intOf]; omega
        · have hne : ((k : Int) + 1 == (s.size : Int)) = true := by simp; omega
          clear h91
          go_wp2_with fail
          refine (haw'.out wr (Below.refl _ _)).mono ?_
          rintro e w1 ⟨rfl, hb⟩
          go_wp2_with fail
          go_ret
          exact ⟨rfl, hb⟩
      have e91 : ((c : Int) == 91) = false := by simp; omega
      have e92 : ((c : Int) == 92) = false := by simp; omega
      have hse' := Lib.hid (safe_else c.toUInt8 (l.drop (k + 1)) (u8_ne c 91 hx h91) (u8_ne c 92 hx h92))
      clear h91 h92
      go_wp2_with fail
      go_round
      case rel => exact ⟨k + 1, by omega, by go_num, fun h => hsf'.out (by rw [hd'.out, hse'.out]; exact h), trivial⟩
      case measure => simp [intOf]; omega
    · have hke : k = s.size := by omega
      subst hke
      have hsafe : safe l = true := hsf'.out (by rw [List.drop_eq_nil_of_le (Nat.le_of_eq hlen'.out)]; rfl)
      have hsafe' := Lib.hid hsafe
      clear hsafe hsf' hcell' hget'
      go_wp2_with fail
      refine (parse_any (N := N) (E := E) p s cap wr hS'.out (by omega) hcap hE'.out hN).mono ?_
      rintro e w1 ⟨B1, rfl, hI1, b1⟩
      have hI1' := Lib.hid hI1
      have b1' := Lib.hid b1
      have z1 := b1.size
      clear hI1 b1
      go_wp2_with fail
      refine (parse_any (N := N) (E := E) p2 m cap2 w1 (hM'.out.below b1'.out (Nat.le_refl _)) (by omega) hcap2 (hE'.out.below b1'.out hN) (by omega)).mono ?_
      rintro e w2 ⟨B2, rfl, hI2, b2⟩
      have hI2' := Lib.hid hI2
      have b2' := Lib.hid (b1'.out.trans (b2.mono (by omega)))
      have hI12' := Lib.hid (hI1'.out.below b2 (Nat.le_refl _))
      have z2 := b2.size
      clear hI2 b2
      have y2' := Lib.hid (b2'.out.alloc (by omega) (.cells #[] 5))
      have y2' := Lib.hid (b2'.out.alloc (by omega) (.cells #[] 5))
      go_upto_region 14 with (fail)
      go_step
      go_step
      refine opw_buildSlice (vs := #[]) rfl (by simp) (build0 w2) ?_
      go_wp2_with (at_builtin; refine append_bytes rfl _ _ rfl w2.heap.size _ [] rfl (own_new0b w2) p s cap (l.map (·.toNat)) (by rw [hl'.out]) rfl (hS'.out.below y2'.out (Nat.le_refl _)) hnil'.out hcap (by simp; omega) (by simp) ?_)
      intro v3 w3 hown3 hg3
      have hz3 : w2.heap.size + 1 ≤ w3.heap.size := by
        have := hg3.size
        simpa using this
      have y3' := Lib.hid (y2'.out.grown hg3 (by simp; omega) (fun j hj => by cases hj; show _ ≤ w2.heap.size; omega))
      have hown3' := Lib.hid (show OwnsB w3 w2.heap.size v3 (l.map (·.toNat)) from hown3)
      have hlow3 := Lib.hid hown3'.out.lt
      have k3 := Lib.hid (((Below.refl w2.heap.size w2).alloc (Nat.le_refl _) (.cells #[] 5)).grown hg3 (by simp) (fun j hj => by cases hj; exact Nat.le_refl _))
      clear hown3 hg3
      go_wp2_with (at_builtin; refine append_bytes rfl _ _ rfl w2.heap.size v3 (l.map (·.toNat)) rfl hown3'.out p2 m cap2 (m.data.toList.map (·.toNat)) rfl rfl (hM'.out.below y3'.out (Nat.le_refl _)) hnil2'.out hcap2 (by rw [List.length_map, hlen'.out]; omega) (by omega) ?_)
      intro v4 w4 hown4 hg4
      have hz4 := hg4.size
      have y4' := Lib.hid (y3'.out.grown hg4 (by omega) (fun j hj => by have := hlow3.out j hj; omega))
      have k4 := Lib.hid (k3.out.grown hg4 (by omega) (fun j hj => (hlow3.out j hj).1))
      obtain ⟨p4, cap4, rfl, hcap4, hB4, -⟩ := hown4.hasB' (fun x hx => by
        rcases List.mem_append.1 hx with h | h <;> (obtain ⟨y, -, rfl⟩ := List.mem_map.1 h; exact y.toNat_lt))
      have hlen4 : (l.map (·.toNat) ++ m.data.toList.map (·.toNat)).length = s.size + m.size := by simp [hlen'.out]
      have hpr := parse_any (N := N) (E := E) p4 _ cap4 w4 hB4 (by rw [toB_size, hlen4]; omega) (by rw [toB_size]; exact hcap4) (hE'.out.below y4'.out hN) (by omega)
      rw [toB_size, hlen4] at hpr
      rw [hlen4]
      have hlist : (toB (l.map (·.toNat) ++ m.data.toList.map (·.toNat))).data.toList = l ++ m.data.toList := by
        rw [toB_list, List.map_append, List.map_map, List.map_map]
        have e : ∀ r : List UInt8, r.map ((fun n : Nat => n.toUInt8) ∘ fun c : UInt8 => c.toNat) = r := fun r => (List.map_congr_left fun x _ => by simp).trans (List.map_id _)
        rw [e, e]
      rw [hlist, pt_join l.length l m.data.toList (Nat.le_refl _) hsafe'.out] at hpr
      have hq1 := pt_len l
      have hq2 := pt_len m.data.toList
      rw [hlen'.out] at hq1
      have hq3 : m.data.toList.length = m.size := by simp
      rw [hq3] at hq2
      clear hlist hlen4 hcap4 hB4 hown4 hg4 hq3
      have hpr' := Lib.hid hpr
      clear hpr
      go_wp2_with fail
      refine hpr'.out.mono ?_
      rintro e w5 ⟨B3, rfl, hI3, b5⟩
      have hI3' := Lib.hid hI3
      have z5 := b5.size
      have y5' := Lib.hid (y4'.out.trans (b5.mono (by omega)))
      have k5 := Lib.hid (k4.out.trans (b5.mono (by omega)))
      have hIA := Lib.hid (hI12'.out.below k5.out (Nat.le_refl _))
      have hIB := Lib.hid (hI2'.out.below k5.out (Nat.le_refl _))
      obtain ⟨la, hla⟩ : ∃ la, la = pt l := ⟨_, rfl⟩
      obtain ⟨lb, hlb⟩ : ∃ lb, lb = pt m.data.toList := ⟨_, rfl⟩
      rw [← hl'.out] at hIA
      rw [← hla] at hIA hI3' hq1
      rw [← hlb] at hIB hI3' hq2
      clear hpr' hI3 b5 hla hlb
      go_wp2_with fail
      refine (pieces_any B3 _ _ w5 hI3'.out (by simp; omega)).mono ?_
      rintro e w6 ⟨v6, rfl, own6, b6⟩
      have z6 := b6.size
      have y6' := Lib.hid (y5'.out.trans (b6.mono (by omega)))
      have hIA6 := hIA.out.below b6 (Nat.le_refl _)
      have hIB6 := hIB.out.below b6 (Nat.le_refl _)
      have own6' := Lib.hid own6
      have kA := (Below.refl w6.heap.size w6).alloc (Nat.le_refl _) (.cells #[] 58)
      have y6a := Lib.hid (y6'.out.alloc (by omega) (.cells #[] 58))
      have hIA7 := Lib.hid (hIA6.below kA (Nat.le_refl _))
      have hIB7 := Lib.hid (hIB6.below kA (Nat.le_refl _))
      have lit := Lib.hid (World.ownsRow_lit (base := w6.heap.size) (size := 5) (e := 58) w6 #[] 0 (Nat.le_refl _) (Nat.zero_le _) rfl)
      have kA' := Lib.hid kA
      have hIB6' := Lib.hid hIB6
      clear own6 hIA6 hIB6 kA b6
      go_wp2_with fail
      refine (pieces_any B1 _ la _ hIA7.out (by omega)).mono ?_
      rintro e w7 ⟨v7, rfl, own7, b7⟩
      have z7 := b7.size
      rw [World.size_alloc] at z7
      have z7le : w6.heap.size ≤ w7.heap.size := by omega
      have y7' := Lib.hid (y6a.out.trans (b7.mono (by rw [World.size_alloc]; omega)))
      have lit7 := Lib.hid (own_below lit.out b7 (Nat.le_refl _))
      have c7 := Lib.hid (kA'.out.trans (b7.mono (by rw [World.size_alloc]; omega)))
      have own7' := Lib.hid own7
      clear own7 b7
      go_wp2_with (at_builtin; refine append_rows rfl _ _ 55 rfl w6.heap.size 58 i0 (.agg #[.int .i64 0, .int .u64 0, .int .u64 0, .int .u64 0, .int .u64 0]) 5 40 Tryd.underlying55 hi0 hz0 hz1 hz2 rfl (by decide) _ 0 [] rfl lit7.out _ la.length v7 (pvs la) rfl own7'.out (pvs_one _) (by unfold maxLen; omega) (by omega) (by omega) ?_)
      intro v8 w8 own8 hg8
      have z8 := hg8.size
      have y8' := Lib.hid (y7'.out.grown hg8 (by omega) (fun j hj => by cases hj; show _ ≤ w6.heap.size; omega))
      have c8 := Lib.hid (c7.out.grown hg8 (by omega) (fun j hj => by cases hj; exact Nat.le_refl _))
      have own8' := Lib.hid (show w8.ownsRow w6.heap.size 58 5 v8 la.length (pvs la) by simpa using own8)
      clear own8 hg8
      go_wp2_with fail
      refine (pieces_any B2 _ lb _ (hIB6'.out.below c8.out (Nat.le_refl _)) (by omega)).mono ?_
      rintro e w9 ⟨v9, rfl, own9, b9⟩
      have z9 := b9.size
      have y9' := Lib.hid (y8'.out.trans (b9.mono (by omega)))
      have c9 := Lib.hid (c8.out.trans (b9.mono (by omega)))
      have own89 := Lib.hid (own_below own8'.out b9 (Nat.le_refl _))
      have own9' := Lib.hid own9
      have hlow8 := Lib.hid own8'.out.lt
      clear own9 b9
      go_wp2_with (at_builtin; refine append_rows rfl _ _ 55 rfl w6.heap.size 58 i0 (.agg #[.int .i64 0, .int .u64 0, .int .u64 0, .int .u64 0, .int .u64 0]) 5 40 Tryd.underlying55 hi0 hz0 hz1 hz2 rfl (by decide) v8 la.length (pvs la) rfl own89.out _ lb.length v9 (pvs lb) rfl own9'.out (pvs_one _) (by unfold maxLen; omega) (by omega) (by omega) ?_)
      intro v10 w10 own10 hg10
      have z10 := hg10.size
      have y10' := Lib.hid (y9'.out.grown hg10 (by omega) (fun j hj => by have := hlow8.out j hj; omega))
      have c10 := Lib.hid (c9.out.grown hg10 (by omega) (fun j hj => (hlow8.out j hj).1))
      have hsm := same_own w5.heap.size w6.heap.size v6 v10 (la ++ lb) w10 (by simp; omega) (own_below own6'.out c10.out (Nat.le_refl _)) (by
        rw [List.length_append, pvs_append]; exact own10)
      have hsm' := Lib.hid hsm
      clear hsm own10 hg10
      go_wp2_with fail
      refine hsm'.out.mono ?_
      rintro e w11 ⟨rfl, b11⟩
      have y11' := Lib.hid (y10'.out.trans (b11.mono (by omega)))
      clear b11
      go_wp2_with fail
      refine (haw'.out _ y11'.out).mono ?_
      rintro e w12 ⟨rfl, b12⟩
      have y12' := Lib.hid (y11'.out.trans (b12.mono (by have := y11'.out.size; omega)))
      clear b12
      go_wp2_with fail
      go_ret
      exact ⟨rfl, y12'.out⟩
end Go.Proofs.YteeopjgfiojoiaaDoor
namespace Go.Proofs.YteeopjgfiojoiaaDoor
open Go Go.RowKit SN

theorem qt1_two (c : UInt8) (h : c = 42 ∨ c = 63 ∨ c = 91 ∨ c = 92) : qt1 c = [92, c] := if_pos h
theorem qt1_one (c : UInt8) (h : ¬ (c = 42 ∨ c = 63 ∨ c = 91 ∨ c = 92)) : qt1 c = [c] := if_neg h
theorem one_i8 (c : Int) : ∀ u ∈ ([.int .u8 c] : List Value), u.oneCell' = true := by
  intro u hu; simp at hu; rcases hu with rfl; rfl
def nn (l : List UInt8) : List Nat := l.map (·.toNat)
theorem nn_append (a b : List UInt8) : nn (a ++ b) = nn a ++ nn b := by simp [nn]
theorem nn_cons (c : UInt8) (l : List UInt8) : nn (c :: l) = c.toNat :: nn l := rfl
theorem nn_nil : nn [] = [] := rfl
theorem nn_len (a : List UInt8) : (nn a).length = a.length := by simp [nn]
theorem conv_own {w : World} {base : Nat} {v : Value} {t : List UInt8} (h : OwnsB w base v (nn t)) : (convert 36 9 v).run Tryd.prog w = .ok (.string ⟨t.toArray⟩) w := by
  have hlen := nn_len t
  obtain ⟨-, ⟨rfl, hn⟩ | ⟨g, cap, cur, rfl, -⟩⟩ := id h
  · obtain rfl : t = [] := List.eq_nil_of_length_eq_zero (by omega)
    exact Lib.run_convert_nil_bytes w 36 9 5 0 Tryd.underlying36 Tryd.underlying5 Tryd.underlying9
  · have hcell := World.ownsRow.cellAt h
    rw [hlen]
    refine run_convert_bytes_back (P := Tryd.prog) w 36 9 5 ⟨g, 0, none⟩ cap t Tryd.underlying36 Tryd.underlying5 Tryd.underlying9 ?_
    intro j hj
    have e2 : (⟨g, 0, none⟩ : Addr).add j = ⟨g, j, none⟩ := by unfold Addr.add; split <;> simp_all
    rw [e2, hcell j (by omega)]
    simp [bv, nn, hj]
set_option maxHeartbeats 1000000 in
set_option maxRecDepth 100000 in
theorem quote_any (s : ByteArray) (hs : s.size ≤ 1048576) (w : World) :
    Calls Tryd.prog 46 #[.string s] w fun e w' => e = .returned (.string ⟨(qt s.data.toList).toArray⟩) ∧ Below w.heap.size w w' := by
  obtain ⟨i0, hi0, hz0, hz1, hz2⟩ := info_parts info_u8
  obtain ⟨l, hl⟩ : ∃ l, l = s.data.toList := ⟨_, rfl⟩
  have hlen : l.length = s.size := by rw [hl]; simp
  have hget : ∀ k, (hk : k < s.size) → l[k]? = some s[k] := fun k hk => by rw [hl, Array.getElem?_toList]; exact Array.getElem?_eq_getElem hk
  rw [← hl]
  have hlen' := Lib.hid hlen
  have hget' := Lib.hid hget
  clear hl hlen hget
  go_enter Tryd.func46, Tryd.ntmps46
  go_wp2_with fail
  go_loopw [7, 3] (fun i v wr => ∃ (k : Nat), k ≤ s.size ∧ i = .int .i64 k ∧ OwnsB wr w.heap.size v (nn (qt (l.take k))) ∧ Below w.heap.size w wr) (fun i _ _ => s.size - (intOf i).toNat)
  case atStart => exact ⟨0, Nat.zero_le _, rfl, OwnsB.nil _ _, Below.refl _ _⟩
  case round =>
    obtain ⟨k, hk, rfl, hr, hb⟩ := hrel
    have hr' := Lib.hid hr
    have hb' := Lib.hid hb
    have hzb := hb.size
    clear hr hb
    by_cases hlt : k < s.size
    · have hx := (s[k]).toNat_lt
      have hgk := hget'.out k hlt
      have hq2 := (qt_len (l.take k)).2
      have hq3 : (l.take k).length ≤ k := by simp; omega
      have htk : l.take (k + 1) = l.take k ++ [s[k]] := by rw [List.take_add_one, hgk]; rfl
      obtain ⟨x, hxe⟩ : ∃ x, x = s[k] := ⟨_, rfl⟩
      have hix : ∀ h : k < s.size, s[k]'h = x := fun _ => hxe.symm
      rw [← hxe] at htk hx
      have htk' := Lib.hid htk
      clear hgk htk hxe
      have hql : (nn (qt (l.take k))).length ≤ 2 * s.size := by rw [nn_len]; omega
      have hlow' := Lib.hid hr'.out.lt
      by_cases hsp : x = 42 ∨ x = 63 ∨ x = 91 ∨ x = 92
      · have hq1 := Lib.hid (qt1_two x hsp)
        rcases hsp with rfl | rfl | rfl | rfl
        all_goals
          go_wp2_with (at_builtin; refine wpList_append_own _ rfl _ _ 36 rfl w.heap.size 5 i0 (.int .u8 0) 1 1 Tryd.underlying36 hi0 hz0 hz1 hz2 rfl (by decide) _ (nn (qt (l.take k))).length (bv (nn (qt (l.take k)))) rfl (hr'.out.alloc _) ⟨_, 0, none⟩ 1 1 [.int .u8 92] rfl rfl (one_newB _ _ _ _ (by simp)) (one_i8 _) (by unfold maxLen; omega) (by omega) (by simp; omega) ?_)
          intro v1 w1 own1 hg1 _
          have hz1b := hg1.size
          rw [World.size_alloc] at hz1b
          have hb1 := Lib.hid ((hb'.out.alloc hzb (.cells #[.int .u8 92] 5)).grown hg1 (by simp; omega) (fun j hj => (hlow'.out j hj).1))
          have own1' := Lib.hid own1
          have hlow1 := Lib.hid own1.lt
          clear own1 hg1
          go_wp2_with (at_builtin; refine wpList_append_own _ rfl _ _ 36 rfl w.heap.size 5 i0 (.int .u8 0) 1 1 Tryd.underlying36 hi0 hz0 hz1 hz2 rfl (by decide) _ ((nn (qt (l.take k))).length + 1) (bv (nn (qt (l.take k))) ++ [.int .u8 92]) rfl (own1'.out.alloc _) ⟨_, 0, none⟩ 1 1 [_] rfl rfl (one_newB _ _ _ _ (by simp)) (one_i8 _) (by unfold maxLen; omega) (by omega) (by simp; omega) ?_)
          intro v2 w2 own2 hg2 _
          have hb2 := Lib.hid ((hb1.out.alloc (by omega) _).grown hg2 (by simp; omega) (fun j hj => (hlow1.out j hj).1))
          have own3 := Lib.hid (show OwnsB w2 w.heap.size v2 (nn (qt (l.take (k + 1)))) by
            rw [htk'.out, qt_snoc, nn_append, hq1.out]
            unfold OwnsB
            simpa [bv, List.length_append, nn_cons, nn_nil] using own2)
          clear own2 hg2
          go_wp2_with fail
          go_round
          case rel => exact ⟨k + 1, by omega, by go_num, own3.out, hb2.out⟩
          case measure => simp [intOf]; omega

      · have hq1 := Lib.hid (qt1_one x hsp)
        have hne : ∀ d : UInt8, x ≠ d → ((x.toNat : Int) == (d.toNat : Int)) = false := fun d hd => by
          simp only [beq_eq_false_iff_ne, ne_eq]
          intro e
          exact hd (UInt8.toNat_inj.1 (by omega))
        have e42 : ((x.toNat : Int) == 42) = false := hne 42 (fun e => hsp (.inl e))
        have e63 : ((x.toNat : Int) == 63) = false := hne 63 (fun e => hsp (.inr (.inl e)))
        have e91 : ((x.toNat : Int) == 91) = false := hne 91 (fun e => hsp (.inr (.inr (.inl e))))
        have e92 : ((x.toNat : Int) == 92) = false := hne 92 (fun e => hsp (.inr (.inr (.inr e))))
        clear hsp hne
        go_wp2_with (at_builtin; refine wpList_append_own _ rfl _ _ 36 rfl w.heap.size 5 i0 (.int .u8 0) 1 1 Tryd.underlying36 hi0 hz0 hz1 hz2 rfl (by decide) _ (nn (qt (l.take k))).length (bv (nn (qt (l.take k)))) rfl (hr'.out.alloc _) ⟨_, 0, none⟩ 1 1 [.int .u8 x.toNat] rfl rfl (one_newB _ _ _ _ (by simp)) (one_i8 _) (by unfold maxLen; omega) (by omega) (by simp; omega) ?_)
        intro v2 w2 own2 hg2 _
        have hb2 := Lib.hid ((hb'.out.alloc hzb _).grown hg2 (by simp; omega) (fun j hj => (hlow'.out j hj).1))
        have own3 := Lib.hid (show OwnsB w2 w.heap.size v2 (nn (qt (l.take (k + 1)))) by
          rw [htk'.out, qt_snoc, nn_append, hq1.out]
          unfold OwnsB
          simpa [bv, List.length_append, nn_cons, nn_nil] using own2)
        clear own2 hg2
        go_wp2_with fail
        go_round
        case rel => exact ⟨k + 1, by omega, by go_num, own3.out, hb2.out⟩
        case measure => simp [intOf]; omega
    · have hke : k = s.size := by omega
      subst hke
      have hr2 := hr'.out
      rw [List.take_of_length_le (Nat.le_of_eq hlen'.out)] at hr2
      have hcv := conv_own hr2
      have hcv' := Lib.hid hcv
      clear hcv hr2
      go_wp2_with fail
      rw [hcv'.out]
      go_wp2_with fail
      go_ret
      exact ⟨rfl, hb'.out⟩
end Go.Proofs.YteeopjgfiojoiaaDoor
namespace Go.Proofs.YteeopjgfiojoiaaDoor
open Go Go.RowKit SN

theorem cnt_one (c : UInt8) : cnt (oneP c).set = 1 := by
  have h : ∀ n : Fin 256, cnt (ofL [n.val.toUInt8]) = 1 := by decide +kernel
  have := h ⟨c.toNat, c.toNat_lt⟩
  simpa [oneP] using this
theorem mem_one (c : UInt8) : mem (oneP c).set = [c.toNat] := by
  have h : ∀ n : Fin 256, mem (ofL [n.val.toUInt8]) = [n.val] := by decide +kernel
  have := h ⟨c.toNat, c.toNat_lt⟩
  simpa [oneP] using this
set_option maxHeartbeats 1000000 in
set_option maxRecDepth 100000 in
theorem plain_any (B base : Nat) (q : List UInt8) (w : World) (h : IsPt w base B (q.map oneP)) (hl : q.length ≤ 512) :
    Calls Tryd.prog 45 #[.pointer (some ⟨B, 0, none⟩)] w fun e w' => e = .returned (.tuple #[.string ⟨q.toArray⟩, .bool true]) ∧ Below w.heap.size w w' := by
  obtain ⟨i0, hi0, hz0, hz1, hz2⟩ := info_parts info_u8
  obtain ⟨hb, v, hv, hown, hne⟩ := h
  have hcv : w.cell? ⟨B, 0, none⟩ = some v := row_cell hv rfl
  clear hne hb hv
  have hown' := Lib.hid hown
  have hpv := Lib.hid (pvs_at (q.map oneP))
  have hlm : (q.map oneP).length = q.length := by simp
  rw [hlm] at hown
  have hlm' := Lib.hid hlm
  obtain ⟨a, c, rfl⟩ := own_slice hown
  clear hown hlm
  go_enter Tryd.func45, Tryd.ntmps45
  go_wp2_with fail
  go_loopw [14, 4] (fun i v wr => ∃ (k : Nat), k ≤ q.length ∧ i = .int .i64 k ∧ OwnsB wr w.heap.size v (nn (q.take k)) ∧ Below w.heap.size w wr) (fun i _ _ => q.length - (intOf i).toNat)
  case atStart => exact ⟨0, Nat.zero_le _, rfl, OwnsB.nil _ _, Below.refl _ _⟩
  case round =>
    obtain ⟨k, hk, rfl, hr, hb⟩ := hrel
    have hr' := Lib.hid hr
    have hb' := Lib.hid hb
    have hzb := hb.size
    clear hr hb
    by_cases hlt : k < q.length
    · have hkm : k < (q.map oneP).length := by simpa using hlt
      have r1 := own_below hown'.out hb'.out (Nat.le_refl _)
      rw [hlm'.out] at r1
      obtain ⟨-, ⟨e, hn⟩ | ⟨g, cap, cur, e, -⟩⟩ := id r1
      · omega
      injection e with ea _ ec
      subst ea ec
      have q1 : ∀ j, j < 5 → wr.cell? ⟨g, k * 5 + j, none⟩ = (pcl ((q.map oneP)[k]'hkm)).toList[j]? := fun j hj => (r1.cellAt _ (by omega)).trans (hpv.out k j hkm hj)
      have htk : q.take (k + 1) = q.take k ++ [q[k]'hlt] := by rw [List.take_succ_eq_append_getElem hlt]
      rw [List.getElem_map] at q1
      obtain ⟨x, hxe⟩ : ∃ x, x = q[k]'hlt := ⟨_, rfl⟩
      rw [← hxe] at q1 htk
      have hcn := Lib.hid (cnt_one x)
      have hmn := Lib.hid (mem_one x)
      obtain ⟨S, hS⟩ : ∃ S, S = (oneP x).set := ⟨_, rfl⟩
      rw [← hS] at hcn hmn
      have hk1 : (oneP x).kind = 1 := rfl
      have a0 : wr.cell? ⟨g, k * 5, none⟩ = some (.int .i64 1) := q1 0 (by decide)
      have a1 : wr.cell? ⟨g, k * 5 + 1, none⟩ = some (.int .u64 (word S 0)) := by rw [hS]; exact q1 1 (by decide)
      have a2 : wr.cell? ⟨g, k * 5 + 2, none⟩ = some (.int .u64 (word S 1)) := by rw [hS]; exact q1 2 (by decide)
      have a3 : wr.cell? ⟨g, k * 5 + 3, none⟩ = some (.int .u64 (word S 2)) := by rw [hS]; exact q1 3 (by decide)
      have a4 : wr.cell? ⟨g, k * 5 + 4, none⟩ = some (.int .u64 (word S 3)) := by rw [hS]; exact q1 4 (by decide)
      have htk' := Lib.hid htk
      clear q1 r1 hS hxe hk1 htk
      go_wp2_with fail
      refine (Len_any S _).mono ?_
      rintro e w1 ⟨rfl, b1⟩
      rw [hcn.out]
      have zA := b1.size
      rw [World.size_alloc] at zA
      have hrow := row_below (heap_alloc_new wr (.cells #[.int .i64 1, .int .u64 (word S 0), .int .u64 (word S 1), .int .u64 (word S 2), .int .u64 (word S 3)] 58)) b1 (by simp)
      have d1 : w1.cell? ⟨wr.heap.size, 1, none⟩ = some (.int .u64 (word S 0)) := row_cell hrow rfl
      have d2 : w1.cell? ⟨wr.heap.size, 2, none⟩ = some (.int .u64 (word S 1)) := row_cell hrow rfl
      have d3 : w1.cell? ⟨wr.heap.size, 3, none⟩ = some (.int .u64 (word S 2)) := row_cell hrow rfl
      have d4 : w1.cell? ⟨wr.heap.size, 4, none⟩ = some (.int .u64 (word S 3)) := row_cell hrow rfl
      have hlt1 : wr.heap.size < w1.heap.size := by omega
      have y1 := Lib.hid ((hb'.out.alloc hzb (.cells #[.int .i64 1, .int .u64 (word S 0), .int .u64 (word S 1), .int .u64 (word S 2), .int .u64 (word S 3)] 58)).trans (b1.mono (by rw [World.size_alloc]; omega)))
      have o1 := Lib.hid (own_below (World.ownsRow.alloc hr'.out (.cells #[.int .i64 1, .int .u64 (word S 0), .int .u64 (word S 1), .int .u64 (word S 2), .int .u64 (word S 3)] 58)) b1 (Nat.le_refl _))
      clear b1 hrow a0 a1 a2 a3 a4
      go_wp2_with fail
      refine (Bytes_any S _).mono ?_
      rintro e w2 ⟨v2, rfl, ow2, b2⟩
      rw [hmn.out] at ow2
      have zB := b2.size
      have y2 := Lib.hid (y1.out.trans (b2.mono (by omega)))
      have o2 := Lib.hid (own_below o1.out b2 (Nat.le_refl _))
      have ow2' := Lib.hid ow2
      have hlow := Lib.hid o1.out.lt
      have hnl : (nn (q.take k)).length ≤ q.length := by rw [nn_len]; simp; omega
      clear b2 ow2 d1 d2 d3 d4
      go_wp2_with (at_builtin; refine append_rows rfl _ _ 36 rfl w.heap.size 5 i0 (.int .u8 0) 1 1 Tryd.underlying36 hi0 hz0 hz1 hz2 rfl (by decide) _ (nn (q.take k)).length (bv (nn (q.take k))) rfl o2.out _ 1 v2 (bv [x.toNat]) rfl ow2'.out (one_i8 _) (by unfold maxLen; omega) (by omega) (by omega) ?_)
      intro v3 w3 own3 hg3
      have zC := hg3.size
      have y3 := Lib.hid (y2.out.grown hg3 (by omega) (fun j hj => (hlow.out j hj).1))
      have o3 := Lib.hid (show OwnsB w3 w.heap.size v3 (nn (q.take (k + 1))) by
        rw [htk'.out, nn_append]
        unfold OwnsB
        simpa [bv, List.length_append, nn_cons, nn_nil] using own3)
      clear own3 hg3
      go_wp2_with fail
      go_round
      case rel => exact ⟨k + 1, by omega, by go_num, o3.out, y3.out⟩
      case measure => simp [intOf]; omega
    · have hke : k = q.length := by omega
      subst hke
      have hr2 := hr'.out
      rw [List.take_length] at hr2
      have hcv2 := Lib.hid (conv_own hr2)
      clear hr2
      go_wp2_with fail
      rw [hcv2.out]
      go_wp2_with fail
      go_ret2
      exact ⟨rfl, hb'.out⟩
end Go.Proofs.YteeopjgfiojoiaaDoor
