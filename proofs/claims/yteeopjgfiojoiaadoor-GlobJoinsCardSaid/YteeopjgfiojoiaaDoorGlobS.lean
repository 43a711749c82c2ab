/- The pieces of a pattern handed out; two equal rows of pieces are the same. Conditions: the pattern lies in memory. -/
import Derived.Test.YteeopjgfiojoiaaDoorGlobP
import Derived.Test.YteeopjgfiojoiaaDoorGrd
import Derived.Test.YteeopjgfiojoiaaDoorSetE
import Derived.Laws.AppendOwnNone
import Derived.BigQuiet
import Derived.WalkMore
import Derived.Handy
import Derived.Outline
namespace Go.Proofs.YteeopjgfiojoiaaDoor
open Go Go.RowKit SN

theorem fields_pc : ((Tryd.prog.fieldsOf 58).toList.map fun f => (f.name, f.type, f.offset)) = [("Kind", 3, 0), ("Set", 24, 1)] := by kernel_rfl
theorem eq_set_at (d A : Nat) (w : World) : (Op.equalIn (d + 2) 24 (sv A) (sv A)).run Tryd.prog w = .ok true w := by
  obtain ⟨i, hi⟩ := info_u64'
  obtain ⟨p0, p1, p2, p3⟩ := parts4 (word A 0) (word A 1) (word A 2) (word A 3) w
  show (Op.equalIn (d + 1 + 1) 24 (.agg #[.int .u64 (word A 0), .int .u64 (word A 1), .int .u64 (word A 2), .int .u64 (word A 3)]) (.agg #[.int .u64 (word A 0), .int .u64 (word A 1), .int .u64 (word A 2), .int .u64 (word A 3)])).run Tryd.prog w = .ok true w
  rw [run_equalIn_array w (d + 1) _ _ Tryd.underlying24 hi, cells_u64]
  rw [show List.range 4 = [0, 1, 2, 3] from rfl]
  have e0 := eq_u64 d (word A 0) (word A 0) w
  have e1 := eq_u64 d (word A 1) (word A 1) w
  have e2 := eq_u64 d (word A 2) (word A 2) w
  have e3 := eq_u64 d (word A 3) (word A 3) w
  simp only [Op.eqItems, Sem.run_bind, Sem.run_ite, p0, p1, p2, p3, Result.andThen_ok, e0, e1, e2, e3]
  simp
theorem part_k (k : Int) (a b c d : Int) (w : World) : (part 3 #[.int .i64 k, .int .u64 a, .int .u64 b, .int .u64 c, .int .u64 d] 0).run Tryd.prog w = .ok (.int .i64 k) w := by kernel_rfl
theorem part_s (k : Int) (a b c d : Int) (w : World) : (part 24 #[.int .i64 k, .int .u64 a, .int .u64 b, .int .u64 c, .int .u64 d] 1).run Tryd.prog w = .ok (.agg #[.int .u64 a, .int .u64 b, .int .u64 c, .int .u64 d]) w := by kernel_rfl
theorem under_pc : Tryd.prog.underlying 58 = some (.struct (Tryd.prog.fieldsOf 58)) := by kernel_rfl
theorem neq_pc (p : Pie) (w : World) : (binOp .neq 58 (pv p) (pv p)).run Tryd.prog w = .ok (.bool false) w := by
  unfold pv
  rw [run_neq_struct, run_equalIn_struct w 9999 58 _ _ under_pc (by kernel_rfl)]
  have hf := fields_pc
  generalize (Tryd.prog.fieldsOf 58).toList = fs at hf
  rcases fs with _ | ⟨f, _ | ⟨g, _ | ⟨_, _⟩⟩⟩ <;> simp at hf
  obtain ⟨⟨f1, f2, f3⟩, ⟨g1, g2, g3⟩⟩ := hf
  have ek : (Op.equalIn 9999 3 (.int .i64 p.kind) (.int .i64 p.kind)).run Tryd.prog w = .ok true w := by
    rw [show (9999 : Nat) = 9998 + 1 from rfl, run_equalIn_int w 9998 3 .i64 .i64 _ _ Tryd.underlying3]
    simp
  have es : (Op.equalIn 9999 24 (.agg #[.int .u64 (word p.set 0), .int .u64 (word p.set 1), .int .u64 (word p.set 2), .int .u64 (word p.set 3)]) (.agg #[.int .u64 (word p.set 0), .int .u64 (word p.set 1), .int .u64 (word p.set 2), .int .u64 (word p.set 3)])).run Tryd.prog w = .ok true w := eq_set_at 9997 p.set w
  simp only [Op.eqFields, f1, f2, f3, g1, g2, g3, pcl, Sem.run_bind, Sem.run_ite, part_k, part_s, Result.andThen_ok, ek, es]
  simp
theorem nePcGuard (x y : Operand) (p q : Pie) (w : World) : (eqGuard .neq 58 x y (pv p) (pv q)).run Tryd.prog w = .ok () w := run_eqGuard_agg w .neq _ x y _ _ (by kernel_rfl)

theorem pieces_nil (w : World) : Calls Tryd.prog 41 #[.pointer none] w fun e w' => e = .returned (.slice none 0 0) ∧ w' = w := by
  go_enter Tryd.func41, Tryd.ntmps41
  go_wp2
  go_ret
  exact ⟨rfl, rfl⟩
theorem pieces_any (B base : Nat) (l : List Pie) (w : World) (h : IsPt w base B l) (hl : l.length ≤ 512) :
    Calls Tryd.prog 41 #[.pointer (some ⟨B, 0, none⟩)] w fun e w' => ∃ v, e = .returned v ∧ w'.ownsRow w.heap.size 58 5 v l.length (pvs l) ∧ Below w.heap.size w w' := by
  obtain ⟨i0, hi0, hz0, hz1, hz2⟩ := info_parts info_pc
  obtain ⟨hb, v, hv, hown, hne⟩ := h
  have hcv : w.cell? ⟨B, 0, none⟩ = some v := row_cell hv rfl
  have hlen := pvs_len l
  have hone := pvs_one l
  clear hne hb
  generalize hxs : pvs l = xs at hown hlen hone
  have hlen' := Lib.hid hlen
  have hone' := Lib.hid hone
  have hxs' := Lib.hid hxs
  clear hlen hone hxs hv
  obtain ⟨-, ⟨rfl, hn⟩ | ⟨g, cap, cur, rfl, hg, hh, hc1, hc2, hc3, hc4⟩⟩ := id hown
  · obtain rfl : xs = [] := List.eq_nil_of_length_eq_zero (by rw [hlen'.out, hn])
    generalize l.length = n at hn
    subst hn
    go_enter Tryd.func41, Tryd.ntmps41
    go_wp2_with (at_builtin; refine wpList_append_own_none rfl _ _ 55 rfl w.heap.size 58 i0 5 Tryd.underlying55 hi0 _ _ _ rfl (World.ownsRow_nil _ _ _ _) rfl ?_)
    go_ret
    exact ⟨_, rfl, World.ownsRow_nil _ _ _ _, Below.refl _ _⟩
  · have hcells := hown.cells rfl
    generalize l.length = n at *
    have hcells' := Lib.hid hcells
    clear hown hcells hh hc3 hc4 hg
    go_enter Tryd.func41, Tryd.ntmps41
    go_wp2_with (at_builtin; refine wpList_append_own _ rfl _ _ 55 rfl w.heap.size 58 i0 (.agg #[.int .i64 0, .int .u64 0, .int .u64 0, .int .u64 0, .int .u64 0]) 5 40 Tryd.underlying55 hi0 hz0 hz1 hz2 rfl (by decide) _ 0 [] rfl (World.ownsRow_nil _ _ _ _) ⟨g, 0, none⟩ n cap xs rfl hlen'.out hcells'.out hone'.out (by unfold maxLen; omega) (by omega) (Nat.le_refl _) ?_; intro v1 w1 hown1 hg1 _; have hown1' := Lib.hid hown1; have hg1' := Lib.hid hg1; clear hown1 hg1)
    go_ret
    refine ⟨_, rfl, ?_, ?_⟩
    · have := hown1'.out
      rw [Nat.zero_add, List.nil_append] at this
      exact this
    · exact (Below.refl _ _).grown hg1'.out (Nat.le_refl _) (fun j hj => by cases hj)
theorem pvs_at (l : List Pie) (k j : Nat) (hk : k < l.length) (hj : j < 5) : (pvs l)[k * 5 + j]? = (pcl (l[k]'hk)).toList[j]? := by
  induction l generalizing k with
  | nil => simp at hk
  | cons p l ih =>
    have e : pvs (p :: l) = (pcl p).toList ++ pvs l := by simp [pvs]
    rw [e]
    cases k with
    | zero =>
      rw [List.getElem?_append_left (by simp [pcl]; omega)]
      simp
    | succ k =>
      rw [List.getElem?_append_right (by simp [pcl]; omega)]
      have : (k + 1) * 5 + j - (pcl p).toList.length = k * 5 + j := by simp [pcl]; omega
      rw [this, ih k (by simpa using hk)]
      simp
theorem quiet_neq_pc {o : Oper} {a : Act} {C : World → Prop} {K : Act → Prop} (x y : Operand) (ho : o.op = .binOp .neq 58 x y 58) (p : Pie) (hx : a.eval x = pv p) (hy : a.eval y = pv p) (hk : K (a.put o.dst (.bool false))) : o.quiet Tryd.prog a C K :=
  ⟨.bool false, fun w _ => by unfold Oper.quietAt execOp; simp only [ho, hx, hy, Sem.run_bind, nePcGuard, neq_pc, Result.andThen_ok]; exact ⟨rfl, rfl⟩, hk⟩
theorem same_nil (w : World) : Calls Tryd.prog 40 #[.slice none 0 0, .slice none 0 0] w fun e w' => e = .returned (.bool true) ∧ w' = w := by
  go_enter Tryd.func40, Tryd.ntmps40
  go_wp2
  go_loopw [13] (fun i wr => i = .int .i64 0 ∧ wr = w) (fun i _ => 0)
  case atStart => exact ⟨rfl, rfl⟩
  case round =>
    obtain ⟨rfl, rfl⟩ := hrel
    go_wp2
    go_ret
    exact ⟨rfl, rfl⟩
theorem same_eq (g1 g2 c1 c2 b1 b2 : Nat) (l : List Pie) (w : World) (hl : l.length ≤ 1024)
    (h1 : w.ownsRow b1 58 5 (.slice (some ⟨g1, 0, none⟩) l.length c1) l.length (pvs l)) (h2 : w.ownsRow b2 58 5 (.slice (some ⟨g2, 0, none⟩) l.length c2) l.length (pvs l)) :
    Calls Tryd.prog 40 #[.slice (some ⟨g1, 0, none⟩) l.length c1, .slice (some ⟨g2, 0, none⟩) l.length c2] w fun e w' => e = .returned (.bool true) ∧ Below w.heap.size w w' := by
  have h1' := Lib.hid h1
  have h2' := Lib.hid h2
  have hpv := Lib.hid (pvs_at l)
  clear h1 h2
  go_enter Tryd.func40, Tryd.ntmps40
  go_wp2_with fail
  go_loopw [13] (fun i wr => ∃ (k : Nat), k ≤ l.length ∧ i = .int .i64 k ∧ Below w.heap.size w wr) (fun i _ => l.length - (intOf i).toNat)
  case atStart => exact ⟨0, Nat.zero_le _, rfl, Below.refl _ _⟩
  case round =>
    obtain ⟨k, hk, rfl, hb⟩ := hrel
    have hb' := Lib.hid hb
    clear hb
    by_cases hlt : k < l.length
    · have r1 := own_below h1'.out hb'.out (Nat.le_refl _)
      have r2 := own_below h2'.out hb'.out (Nat.le_refl _)
      have q1 : ∀ j, j < 5 → wr.cell? ⟨g1, k * 5 + j, none⟩ = (pcl (l[k]'hlt)).toList[j]? := fun j hj => (r1.cellAt _ (by omega)).trans (hpv.out k j hlt hj)
      have q2 : ∀ j, j < 5 → wr.cell? ⟨g2, k * 5 + j, none⟩ = (pcl (l[k]'hlt)).toList[j]? := fun j hj => (r2.cellAt _ (by omega)).trans (hpv.out k j hlt hj)
      obtain ⟨p, hp⟩ : ∃ p, p = l[k]'hlt := ⟨_, rfl⟩
      rw [← hp] at q1 q2
      have a0 : wr.cell? ⟨g1, k * 5, none⟩ = some (.int .i64 p.kind) := q1 0 (by decide)
      have a1 : wr.cell? ⟨g1, k * 5 + 1, none⟩ = some (.int .u64 (word p.set 0)) := q1 1 (by decide)
      have a2 : wr.cell? ⟨g1, k * 5 + 2, none⟩ = some (.int .u64 (word p.set 1)) := q1 2 (by decide)
      have a3 : wr.cell? ⟨g1, k * 5 + 3, none⟩ = some (.int .u64 (word p.set 2)) := q1 3 (by decide)
      have a4 : wr.cell? ⟨g1, k * 5 + 4, none⟩ = some (.int .u64 (word p.set 3)) := q1 4 (by decide)
      have d0 : wr.cell? ⟨g2, k * 5, none⟩ = some (.int .i64 p.kind) := q2 0 (by decide)
      have d1 : wr.cell? ⟨g2, k * 5 + 1, none⟩ = some (.int .u64 (word p.set 0)) := q2 1 (by decide)
      have d2 : wr.cell? ⟨g2, k * 5 + 2, none⟩ = some (.int .u64 (word p.set 1)) := q2 2 (by decide)
      have d3 : wr.cell? ⟨g2, k * 5 + 3, none⟩ = some (.int .u64 (word p.set 2)) := q2 3 (by decide)
      have d4 : wr.cell? ⟨g2, k * 5 + 4, none⟩ = some (.int .u64 (word p.set 3)) := q2 4 (by decide)
      have hnp := Lib.hid (neq_pc p)
      clear q1 q2 r1 r2 hp
      go_wp2_with fail
      refine wp_region_quiet_lit (by kernel_rfl) (by kernel_rfl) ?_
      repeat (quiet_step (fail))
      refine BigFrame.wpQuiet_want (by simp [Region.wanted]) fun K hK => ?_
      refine quiet_neq_pc (.tmp 19) (.tmp 23) rfl p rfl rfl (hK _ ?_)
      refine wpQuiet_nil ?_
      rintro _ ⟨nq, rfl⟩
      have hb2 := Lib.hid (below_drewN hb'.out nq)
      clear a0 a1 a2 a3 a4 d0 d1 d2 d3 d4 hK hb'
      go_wp2_with fail
      go_round
      case rel => exact ⟨k + 1, by omega, by go_num, hb2.out⟩
      case measure => simp [intOf]; omega
    · have hke : k = l.length := by omega
      subst hke
      go_wp2_with fail
      go_ret
      exact ⟨rfl, hb'.out⟩
end Go.Proofs.YteeopjgfiojoiaaDoor
