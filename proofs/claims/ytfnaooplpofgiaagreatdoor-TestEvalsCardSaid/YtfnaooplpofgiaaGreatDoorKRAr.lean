/- The document's add: one entry more, at some place of the row. Conditions: the tree lies in memory. -/
import Derived.Test.YtfnaooplpofgiaaGreatDoorKRAd
import Derived.Test.YtfnaooplpofgiaaGreatDoorKPln
import Derived.ArgAppend
import Derived.WalkMore
import Derived.OwnWalk
import Derived.Handy
import Derived.Outline
namespace Go.Proofs.YtfnaooplpofgiaaGreatDoor
open Go Go.RowKit SN

/-- The cells of a row of entries. -/
def fE (L : DRow) : List Value := L.flatMap entL
theorem fE_len (L : DRow) : (fE L).length = L.length * 2 := by
  induction L with
  | nil => rfl
  | cons x L ih =>
    show (entL x ++ fE L).length = _
    rw [List.length_append, ih, List.length_cons]
    show 2 + _ = _
    omega
theorem fE_append (A B : DRow) : fE (A ++ B) = fE A ++ fE B := by unfold fE; rw [List.flatMap_append]
theorem fE_one (L : DRow) : ∀ u ∈ fE L, u.oneCell' = true := by
  intro u hu
  obtain ⟨x, -, hx⟩ := List.mem_flatMap.1 hu
  unfold entL at hx
  simp only [List.mem_cons, List.not_mem_nil, or_false] at hx
  rcases hx with rfl | rfl <;> rfl
theorem fE_cells {w : World} {g : Nat} : ∀ (L : DRow) (o : Nat), (∀ i x, L[i]? = some x → w.rangeAt g (o + i * 2) (entL x)) → ∀ j u, (fE L)[j]? = some u → w.cell? ⟨g, o + j, none⟩ = some u
  | [], _, _, j, u, h => by cases h
  | x :: L, o, hr, j, u, h => by
    change (entL x ++ fE L)[j]? = some u at h
    by_cases hj : j < 2
    · rw [List.getElem?_append_left (by exact hj)] at h
      have := hr 0 x rfl j u h
      rw [Nat.zero_mul, Nat.add_zero] at this
      exact this
    · rw [List.getElem?_append_right (by show 2 ≤ j; omega)] at h
      have h2 : (fE L)[j - 2]? = some u := h
      have := fE_cells L (o + 2) (fun i y hy => by have := hr (i + 1) y hy; rwa [show o + 2 + i * 2 = o + (i + 1) * 2 by omega]) (j - 2) u h2
      rwa [show o + 2 + (j - 2) = o + j by omega] at this
theorem fE_range {w : World} {g : Nat} : ∀ (L : DRow) (o : Nat), (∀ j u, (fE L)[j]? = some u → w.cell? ⟨g, o + j, none⟩ = some u) → ∀ i x, L[i]? = some x → w.rangeAt g (o + i * 2) (entL x)
  | [], _, _, i, x, h => by cases h
  | y :: L, o, hr, 0, x, h => by
    cases h
    intro j v hv
    rw [Nat.zero_mul, Nat.add_zero]
    have hj : j < 2 := by
      rcases Nat.lt_or_ge j 2 with h' | h'
      · exact h'
      · rw [List.getElem?_eq_none (by exact h')] at hv; cases hv
    refine hr j v ?_
    show (entL y ++ fE L)[j]? = some v
    rw [List.getElem?_append_left (by exact hj)]
    exact hv
  | y :: L, o, hr, i + 1, x, h => by
    have := fE_range L (o + 2) (fun j u hu => by
      have := hr (j + 2) u (by
        show (entL y ++ fE L)[j + 2]? = some u
        rw [List.getElem?_append_right (by show 2 ≤ j + 2; omega)]
        exact hu)
      rwa [show o + 2 + j = o + (j + 2) by omega]) i x h
    rwa [show o + (i + 1) * 2 = o + 2 + i * 2 by omega]
theorem info_ent : (Tryz.prog.info? 98).map (fun i => (i.zero, i.size, i.bytes)) = some (some (.agg #[.string ByteArray.empty, .pointer none]), 2, 24) := by kernel_rfl
section
variable {o : Oper} {a : Act} {w : World} {K : Act → World → Prop} {Q : Exit → Act → World → Prop}
theorem opw_nil {x : Operand} {p : Addr} (ho : o.op = .nilCheck x) (hx : a.eval x = .pointer (some p)) (h : K (a.put o.dst (.pointer (some p))) w) : o.wp Tryz.prog a w K Q :=
  opw_run (by unfold execOp; simp only [ho, hx]; go_simp) h
theorem opw_fld0 {x : Operand} {m : Nat} (ho : o.op = .fieldAddr 101 x 0) (hx : a.eval x = .pointer (some ⟨m, 0, none⟩)) (h : K (a.put o.dst (.pointer (some ⟨m, 0, none⟩))) w) : o.wp Tryz.prog a w K Q :=
  opw_run (by have hu := Tryz.underlying101; unfold execOp; simp only [ho, hx]; go_simp) h
theorem opw_load_ents {x : Operand} {B : Nat} {p : Option Addr} {n c : Nat} (ho : o.op = .load 99 x) (hx : a.eval x = .pointer (some ⟨B, 0, none⟩)) (hc : w.cell? ⟨B, 0, none⟩ = some (.slice p n c)) (h : K (a.put o.dst (.slice p n c)) w) : o.wp Tryz.prog a w K Q :=
  opw_run (by have hu := Tryz.underlying99; unfold execOp; simp only [ho, hx]; go_simp) h
theorem opw_slice3 {x y z : Operand} {g n c k : Nat} (ho : o.op = .slice 99 x none (some y) (some z)) (hx : a.eval x = .slice (some ⟨g, 0, none⟩) n c) (hy : a.eval y = .int .i64 k) (hz : a.eval z = .int .i64 k) (hk : k ≤ c) (h : K (a.put o.dst (.slice (some ⟨g, 0, none⟩) k k)) w) : o.wp Tryz.prog a w K Q :=
  opw_run (by
    have hu := Tryz.underlying99
    have h1 : (0 : Int) ≤ (k : Int) ∧ (k : Int) ≤ (c : Int) := ⟨by omega, by omega⟩
    unfold execOp; simp only [ho, hx, hy, hz, Option.map_some, Option.map_none]; go_simp) h
theorem opw_slice1 {x y : Operand} {g n c k : Nat} (ho : o.op = .slice 99 x (some y) none none) (hx : a.eval x = .slice (some ⟨g, 0, none⟩) n c) (hy : a.eval y = .int .i64 k) (hk : k ≤ n) (hc : n ≤ c) (h : K (a.put o.dst (.slice (some ⟨g, if c = k then 0 else k * 2, none⟩) (n - k) (c - k))) w) : o.wp Tryz.prog a w K Q := by
  have hu := Tryz.underlying99
  have h1 : (0 : Int) ≤ (k : Int) ∧ (k : Int) ≤ (n : Int) := ⟨by omega, by omega⟩
  have h2 : (0 : Int) ≤ (n : Int) ∧ (n : Int) ≤ (c : Int) := ⟨by omega, by omega⟩
  by_cases e : c = k
  · subst e
    obtain rfl : n = c := by omega
    rw [if_pos rfl] at h
    refine opw_run ?_ h
    unfold execOp; simp only [ho, hx, hy, Option.map_some, Option.map_none]; go_simp
  · rw [if_neg e] at h
    have e1 : ¬ (c : Int) = (k : Int) := by omega
    have e2 : ¬ c - k = 0 := by omega
    refine opw_run ?_ h
    unfold execOp; simp only [ho, hx, hy, Option.map_some, Option.map_none]; go_simp
theorem run_bent (s : ByteArray) (q : Option Addr) (w : World) : (Instr.build 98 #[(0, .string s), (1, .pointer q)]).run Tryz.prog w = .ok (.agg #[.string s, .pointer q]) w := by
  have hu := Tryz.underlying98
  go_simp
theorem run_bents (p : ByteArray) (q : Option Addr) (w : World) : (Instr.buildSlice 99 1 #[(0, .agg #[.string p, .pointer q])]).run Tryz.prog w = .ok (.slice (some ⟨w.heap.size, 0, none⟩) 1 1) (w.alloc (.cells #[.string p, .pointer q] 98)) := by
  have hu := Tryz.underlying99
  go_simp
theorem opw_append {s x : Operand} (ho : o.op = .call { callee := .builtin .append, args := #[s, x], argTypes := #[99, 99] }) {v1 v2 v : Value} {w' : World} (hs : a.eval s = v1) (hx : a.eval x = v2)
    (hr : (Builtin.append_ #[99, 99] o.type #[v1, v2]).run Tryz.prog w = .ok v w') (h : K (a.put o.dst v) w') : o.wp Tryz.prog a w K Q := by
  unfold Oper.wp
  simp [execOp, ho, resolve, invoke, builtin, hs, hx, hr, Result.andThen]
  exact h
end
theorem wpAny_one {ops : Array Oper} {Q : Exit → Act → World → Prop} {listed : Array Bool} {f i : Nat} {a : Act} {w : World} {op : Op} {dst : Option Tmp} (hrd : Region.ready .any ops listed = [i]) (hop : (ops[i]?).map (fun o => (o.op, o.dst, o.guard)) = some (op, dst, none))
    (h : ∀ o : Oper, o.op = op → o.dst = dst → o.wp Tryz.prog a w (wpAny Tryz.prog .any ops Q f (listed.setIfInBounds i true)) Q) : wpAny Tryz.prog .any ops Q (f + 1) listed a w := by
  refine ⟨fun h => (by rw [hrd] at h; cases h), fun j hj => ?_⟩
  rw [hrd, List.mem_singleton] at hj
  subst hj
  cases ho : ops[j]? with
  | none => rw [ho] at hop; cases hop
  | some o =>
    rw [ho] at hop
    simp only [Option.map_some, Option.some.injEq, Prod.mk.injEq] at hop
    obtain ⟨e1, e2, e3⟩ := hop
    unfold wpOp
    rw [ho]
    simp only []
    rw [if_pos (plan_free e3 _)]
    exact .inl (h o e1 e2)
theorem put_eval (a : Act) (t : Nat) (v : Value) (h : t < a.tmps.size) : (a.put (some t) v).eval (.tmp t) = v := by
  simp [Act.eval, Act.put, h]
theorem put_other (a : Act) {d t : Nat} (v : Value) (h : d ≠ t) : (a.put (some d) v).eval (.tmp t) = a.eval (.tmp t) := by
  simp [Act.eval, Act.put, Array.getD_eq_getD_getElem?, h]
section
variable {o : Oper} {a : Act} {w : World} {K : Act → World → Prop} {Q : Exit → Act → World → Prop}
theorem opw_store_ents {x y : Operand} {m : Nat} {p0 p1 : Option Addr} {n0 c0 n1 c1 : Nat} (ho : o.op = .store 99 x y) (hx : a.eval x = .pointer (some ⟨m, 0, none⟩)) (hy : a.eval y = .slice p1 n1 c1) (hc : w.cell? ⟨m, 0, none⟩ = some (.slice p0 n0 c0)) (hf : w.frozen? ⟨m, 0, none⟩ = false)
    (h : K (a.put o.dst undef) (w.setCell ⟨m, 0, none⟩ (.slice p1 n1 c1))) : o.wp Tryz.prog a w K Q := by
  have hu := Tryz.underlying99
  unfold Oper.wp execOp
  simp only [ho, hx, hy]
  go_simp
  exact h
end
/-- A row that lies in memory, of its own. -/
def RowC (base n : Nat) (xs : List Value) (v : Value) (W : World) : Prop := ∃ g c, v = .slice (some ⟨g, 0, none⟩) n c ∧ n ≤ c ∧ base ≤ g ∧ g < W.heap.size ∧ ∀ j u, xs[j]? = some u → W.cell? ⟨g, j, none⟩ = some u
theorem RowC.keep {base n : Nat} {xs : List Value} : ∀ v W W', RowC base n xs v W → Below W.heap.size W W' → RowC base n xs v W' := fun _ _ _ ⟨g, c, e, hc, hb, hl, h⟩ hB =>
  ⟨g, c, e, hc, hb, Nat.lt_of_lt_of_le hl hB.size, fun j u hu => (hB.cell (p := ⟨g, j, none⟩) hl).trans (h j u hu)⟩
def Row1 (base : Nat) (xs : List Value) (v : Value) (W : World) : Prop := ∃ g, v = .slice (some ⟨g, 0, none⟩) 1 1 ∧ base ≤ g ∧ g < W.heap.size ∧ ∀ j u, xs[j]? = some u → W.cell? ⟨g, j, none⟩ = some u
theorem Row1.keep {base : Nat} {xs : List Value} : ∀ v W W', Row1 base xs v W → Below W.heap.size W W' → Row1 base xs v W' := fun _ _ _ ⟨g, e, hb, hl, h⟩ hB =>
  ⟨g, e, hb, Nat.lt_of_lt_of_le hl hB.size, fun j u hu => (hB.cell (p := ⟨g, j, none⟩) hl).trans (h j u hu)⟩
theorem own_rowC {base n : Nat} {xs : List Value} {v : Value} {W : World} {b : Nat} (h : W.ownsRow b 98 2 v n xs) (hb : base ≤ b) (hn : 0 < n) : RowC base n xs v W := by
  rcases h.2 with ⟨-, h0⟩ | ⟨g, cap, cur, rfl, hg, hh, hcap, -⟩
  · omega
  · exact ⟨g, cap, rfl, hcap, by omega, row_lt hh, fun j u hu => by
      have := h.cells rfl j u hu
      rwa [Addr.add_mid, Nat.zero_add] at this⟩
theorem Below.of_none {w w' : World} (h : w.grownBy w' none) : Below w.heap.size w w' := (Below.refl w.heap.size w).grown h (Nat.le_refl _) (fun j hj => by cases hj)
structure Ad3 (a0 : Act) (w0 : World) (m g len c k o n : Nat) (p : ByteArray) (base : Nat) (L : DRow) : Prop where
  hz : a0.tmps.size = 50
  h0 : a0.eval (.tmp 0) = .pointer (some ⟨m, 0, none⟩)
  h1 : a0.eval (.tmp 1) = .string p
  h2 : a0.eval (.tmp 2) = .pointer (some ⟨n, 0, none⟩)
  h6 : a0.eval (.tmp 6) = .int .i64 k
  cm : w0.cell? ⟨m, 0, none⟩ = some (.slice (some ⟨g, 0, none⟩) len c)
  lm : m < base
  lg : g < base
  hk : k ≤ len
  hc : len ≤ c
  hl : L.length = len
  few : len < 1000
  ho : o = if c = k then 0 else k * 2
  row : ∀ j u, (fE L)[j]? = some u → w0.cell? ⟨g, j, none⟩ = some u
section
variable {a0 : Act} {w0 : World} {m g len c k o n base : Nat} {p : ByteArray} {L : DRow}
def adCs (m g len c k o n : Nat) (p : ByteArray) (base : Nat) (L : DRow) : List Claim := [.val (.pointer (some ⟨m, 0, none⟩)), .val (.pointer (some ⟨m, 0, none⟩)), .val (.pointer (some ⟨m, 0, none⟩)), .val (.pointer (some ⟨m, 0, none⟩)), .val (.slice (some ⟨g, 0, none⟩) len c), .val (.int .i64 k), .val (.int .i64 k), .val (.slice (some ⟨g, 0, none⟩) k k), .val (.string p), .val (.pointer (some ⟨n, 0, none⟩)), .val (.agg #[.string p, .pointer (some ⟨n, 0, none⟩)]), .any (Row1 base (entL (p, n))) Row1.keep, .val (.pointer (some ⟨m, 0, none⟩)), .val (.pointer (some ⟨m, 0, none⟩)), .val (.pointer (some ⟨m, 0, none⟩)), .val (.slice (some ⟨g, 0, none⟩) len c), .val (.int .i64 k), .val (.slice (some ⟨g, o, none⟩) (len - k) (c - k)), .any (RowC base (1 + (len - k)) (entL (p, n) ++ fE (L.drop k))) RowC.keep, .any (RowC base (len + 1) (fE (insL L k p n))) RowC.keep]
theorem ad_ok : planOk .any (regionOps Tryz.f50 3) (upto 20) = true := by kernel_rfl
theorem ad_0 (F : Ad3 a0 w0 m g len c k o n p base L) : PO (regionOps Tryz.f50 3) 20 a0 base w0 (adCs m g len c k o n p base L) 0 := by
  intro o' ho u W hI hR
  obtain ⟨e1, e2, e3⟩ := ob_op ho (show ((regionOps Tryz.f50 3)[0]?).map (fun o => (o.op, o.dst, o.guard)) = some (.move (.tmp 0), some 28, none) by kernel_rfl)
  rw [if_pos (plan_free e3 _)]
  intro K hK
  have x0 := ev_base (u := u) ad_ok (by kernel_rfl) F.h0
  exact opw_move e1 x0 (hK _ _ ⟨_, rfl, rfl⟩ hI (Below.refl _ _))
theorem ad_1 (F : Ad3 a0 w0 m g len c k o n p base L) : PO (regionOps Tryz.f50 3) 20 a0 base w0 (adCs m g len c k o n p base L) 1 := by
  intro o' ho u W hI hR
  obtain ⟨e1, e2, e3⟩ := ob_op ho (show ((regionOps Tryz.f50 3)[1]?).map (fun o => (o.op, o.dst, o.guard)) = some (.move (.tmp 0), some 29, none) by kernel_rfl)
  rw [if_pos (plan_free e3 _)]
  intro K hK
  have x0 := ev_base (u := u) ad_ok (by kernel_rfl) F.h0
  exact opw_move e1 x0 (hK _ _ ⟨_, rfl, rfl⟩ hI (Below.refl _ _))
theorem ad_2 (F : Ad3 a0 w0 m g len c k o n p base L) : PO (regionOps Tryz.f50 3) 20 a0 base w0 (adCs m g len c k o n p base L) 2 := by
  intro o' ho u W hI hR
  obtain ⟨e1, e2, e3⟩ := ob_op ho (show ((regionOps Tryz.f50 3)[2]?).map (fun o => (o.op, o.dst, o.guard)) = some (.nilCheck (.tmp 29), some 30, none) by kernel_rfl)
  rw [if_pos (plan_free e3 _)]
  intro K hK
  have x0 := ev_val (v := .pointer (some ⟨m, 0, none⟩)) (cs := (adCs m g len c k o n p base L)) ad_ok hR ho (j := 1) (t := 29) (by rw [F.hz]; kernel_rfl) rfl
  exact opw_nil e1 x0 (hK _ _ ⟨_, rfl, rfl⟩ hI (Below.refl _ _))
theorem ad_3 (F : Ad3 a0 w0 m g len c k o n p base L) : PO (regionOps Tryz.f50 3) 20 a0 base w0 (adCs m g len c k o n p base L) 3 := by
  intro o' ho u W hI hR
  obtain ⟨e1, e2, e3⟩ := ob_op ho (show ((regionOps Tryz.f50 3)[3]?).map (fun o => (o.op, o.dst, o.guard)) = some (.fieldAddr 101 (.tmp 30) 0, some 31, none) by kernel_rfl)
  rw [if_pos (plan_free e3 _)]
  intro K hK
  have x0 := ev_val (v := .pointer (some ⟨m, 0, none⟩)) (cs := (adCs m g len c k o n p base L)) ad_ok hR ho (j := 2) (t := 30) (by rw [F.hz]; kernel_rfl) rfl
  exact opw_fld0 e1 x0 (hK _ _ ⟨_, rfl, rfl⟩ hI (Below.refl _ _))
theorem ad_4 (F : Ad3 a0 w0 m g len c k o n p base L) : PO (regionOps Tryz.f50 3) 20 a0 base w0 (adCs m g len c k o n p base L) 4 := by
  intro o' ho u W hI hR
  obtain ⟨e1, e2, e3⟩ := ob_op ho (show ((regionOps Tryz.f50 3)[4]?).map (fun o => (o.op, o.dst, o.guard)) = some (.load 99 (.tmp 31), some 32, none) by kernel_rfl)
  rw [if_pos (plan_free e3 _)]
  intro K hK
  have x0 := ev_val (v := .pointer (some ⟨m, 0, none⟩)) (cs := (adCs m g len c k o n p base L)) ad_ok hR ho (j := 3) (t := 31) (by rw [F.hz]; kernel_rfl) rfl
  exact opw_load_ents e1 x0 ((hI.1.cell (p := ⟨m, 0, none⟩) F.lm).trans F.cm) (hK _ _ ⟨_, rfl, rfl⟩ hI (Below.refl _ _))
theorem ad_5 (F : Ad3 a0 w0 m g len c k o n p base L) : PO (regionOps Tryz.f50 3) 20 a0 base w0 (adCs m g len c k o n p base L) 5 := by
  intro o' ho u W hI hR
  obtain ⟨e1, e2, e3⟩ := ob_op ho (show ((regionOps Tryz.f50 3)[5]?).map (fun o => (o.op, o.dst, o.guard)) = some (.move (.tmp 6), some 33, none) by kernel_rfl)
  rw [if_pos (plan_free e3 _)]
  intro K hK
  have x0 := ev_base (u := u) ad_ok (by kernel_rfl) F.h6
  exact opw_move e1 x0 (hK _ _ ⟨_, rfl, rfl⟩ hI (Below.refl _ _))
theorem ad_6 (F : Ad3 a0 w0 m g len c k o n p base L) : PO (regionOps Tryz.f50 3) 20 a0 base w0 (adCs m g len c k o n p base L) 6 := by
  intro o' ho u W hI hR
  obtain ⟨e1, e2, e3⟩ := ob_op ho (show ((regionOps Tryz.f50 3)[6]?).map (fun o => (o.op, o.dst, o.guard)) = some (.move (.tmp 6), some 34, none) by kernel_rfl)
  rw [if_pos (plan_free e3 _)]
  intro K hK
  have x0 := ev_base (u := u) ad_ok (by kernel_rfl) F.h6
  exact opw_move e1 x0 (hK _ _ ⟨_, rfl, rfl⟩ hI (Below.refl _ _))
theorem ad_7 (F : Ad3 a0 w0 m g len c k o n p base L) : PO (regionOps Tryz.f50 3) 20 a0 base w0 (adCs m g len c k o n p base L) 7 := by
  intro o' ho u W hI hR
  obtain ⟨e1, e2, e3⟩ := ob_op ho (show ((regionOps Tryz.f50 3)[7]?).map (fun o => (o.op, o.dst, o.guard)) = some (.slice 99 (.tmp 32) none (some (.tmp 33)) (some (.tmp 34)), some 35, none) by kernel_rfl)
  rw [if_pos (plan_free e3 _)]
  intro K hK
  have x0 := ev_val (v := .slice (some ⟨g, 0, none⟩) len c) (cs := (adCs m g len c k o n p base L)) ad_ok hR ho (j := 4) (t := 32) (by rw [F.hz]; kernel_rfl) rfl
  have x1 := ev_val (v := .int .i64 k) (cs := (adCs m g len c k o n p base L)) ad_ok hR ho (j := 5) (t := 33) (by rw [F.hz]; kernel_rfl) rfl
  have x2 := ev_val (v := .int .i64 k) (cs := (adCs m g len c k o n p base L)) ad_ok hR ho (j := 6) (t := 34) (by rw [F.hz]; kernel_rfl) rfl
  exact opw_slice3 e1 x0 x1 x2 (Nat.le_trans F.hk F.hc) (hK _ _ ⟨_, rfl, rfl⟩ hI (Below.refl _ _))
theorem ad_8 (F : Ad3 a0 w0 m g len c k o n p base L) : PO (regionOps Tryz.f50 3) 20 a0 base w0 (adCs m g len c k o n p base L) 8 := by
  intro o' ho u W hI hR
  obtain ⟨e1, e2, e3⟩ := ob_op ho (show ((regionOps Tryz.f50 3)[8]?).map (fun o => (o.op, o.dst, o.guard)) = some (.move (.tmp 1), some 36, none) by kernel_rfl)
  rw [if_pos (plan_free e3 _)]
  intro K hK
  have x0 := ev_base (u := u) ad_ok (by kernel_rfl) F.h1
  exact opw_move e1 x0 (hK _ _ ⟨_, rfl, rfl⟩ hI (Below.refl _ _))
theorem ad_9 (F : Ad3 a0 w0 m g len c k o n p base L) : PO (regionOps Tryz.f50 3) 20 a0 base w0 (adCs m g len c k o n p base L) 9 := by
  intro o' ho u W hI hR
  obtain ⟨e1, e2, e3⟩ := ob_op ho (show ((regionOps Tryz.f50 3)[9]?).map (fun o => (o.op, o.dst, o.guard)) = some (.move (.tmp 2), some 37, none) by kernel_rfl)
  rw [if_pos (plan_free e3 _)]
  intro K hK
  have x0 := ev_base (u := u) ad_ok (by kernel_rfl) F.h2
  exact opw_move e1 x0 (hK _ _ ⟨_, rfl, rfl⟩ hI (Below.refl _ _))
theorem ad_10 (F : Ad3 a0 w0 m g len c k o n p base L) : PO (regionOps Tryz.f50 3) 20 a0 base w0 (adCs m g len c k o n p base L) 10 := by
  intro o' ho u W hI hR
  obtain ⟨e1, e2, e3⟩ := ob_op ho (show ((regionOps Tryz.f50 3)[10]?).map (fun o => (o.op, o.dst, o.guard)) = some (.build 98 #[(0, (.tmp 36)), (1, (.tmp 37))], some 38, none) by kernel_rfl)
  rw [if_pos (plan_free e3 _)]
  intro K hK
  have x0 := ev_val (v := .string p) (cs := (adCs m g len c k o n p base L)) ad_ok hR ho (j := 8) (t := 36) (by rw [F.hz]; kernel_rfl) rfl
  have x1 := ev_val (v := .pointer (some ⟨n, 0, none⟩)) (cs := (adCs m g len c k o n p base L)) ad_ok hR ho (j := 9) (t := 37) (by rw [F.hz]; kernel_rfl) rfl
  exact opw_build e1 (vs := #[(0, .string p), (1, .pointer (some ⟨n, 0, none⟩))]) (by simp only [List.map_toArray, List.map_cons, List.map_nil, x0, x1]) (run_bent _ _ W) (hK _ _ ⟨_, rfl, rfl⟩ hI (Below.refl _ _))
theorem ad_11 (F : Ad3 a0 w0 m g len c k o n p base L) : PO (regionOps Tryz.f50 3) 20 a0 base w0 (adCs m g len c k o n p base L) 11 := by
  intro o' ho u W hI hR
  obtain ⟨e1, e2, e3⟩ := ob_op ho (show ((regionOps Tryz.f50 3)[11]?).map (fun o => (o.op, o.dst, o.guard)) = some (.buildSlice 99 1 #[(0, (.tmp 38))], some 39, none) by kernel_rfl)
  rw [if_pos (plan_free e3 _)]
  intro K hK
  have x0 := ev_val (v := .agg #[.string p, .pointer (some ⟨n, 0, none⟩)]) (cs := (adCs m g len c k o n p base L)) ad_ok hR ho (j := 10) (t := 38) (by rw [F.hz]; kernel_rfl) rfl
  have hb := (Below.refl W.heap.size W).alloc (Nat.le_refl _) (.cells #[.string p, .pointer (some ⟨n, 0, none⟩)] 98)
  refine opw_buildSlice e1 (vs := #[(0, .agg #[.string p, .pointer (some ⟨n, 0, none⟩)])]) (by simp only [List.map_toArray, List.map_cons, List.map_nil, x0]) (run_bents _ _ W) ?_
  refine hK _ _ ⟨_, rfl, W.heap.size, rfl, hI.2, by simp, fun j u hu => ?_⟩ (hI.step hb) hb
  match j, hu with
  | 0, hu => cases hu; exact row_cell (heap_alloc_new W _) rfl
  | 1, hu => cases hu; exact row_cell (heap_alloc_new W _) rfl
theorem ad_12 (F : Ad3 a0 w0 m g len c k o n p base L) : PO (regionOps Tryz.f50 3) 20 a0 base w0 (adCs m g len c k o n p base L) 12 := by
  intro o' ho u W hI hR
  obtain ⟨e1, e2, e3⟩ := ob_op ho (show ((regionOps Tryz.f50 3)[12]?).map (fun o => (o.op, o.dst, o.guard)) = some (.move (.tmp 0), some 40, none) by kernel_rfl)
  rw [if_pos (plan_free e3 _)]
  intro K hK
  have x0 := ev_base (u := u) ad_ok (by kernel_rfl) F.h0
  exact opw_move e1 x0 (hK _ _ ⟨_, rfl, rfl⟩ hI (Below.refl _ _))
theorem ad_13 (F : Ad3 a0 w0 m g len c k o n p base L) : PO (regionOps Tryz.f50 3) 20 a0 base w0 (adCs m g len c k o n p base L) 13 := by
  intro o' ho u W hI hR
  obtain ⟨e1, e2, e3⟩ := ob_op ho (show ((regionOps Tryz.f50 3)[13]?).map (fun o => (o.op, o.dst, o.guard)) = some (.nilCheck (.tmp 40), some 41, none) by kernel_rfl)
  rw [if_pos (plan_free e3 _)]
  intro K hK
  have x0 := ev_val (v := .pointer (some ⟨m, 0, none⟩)) (cs := (adCs m g len c k o n p base L)) ad_ok hR ho (j := 12) (t := 40) (by rw [F.hz]; kernel_rfl) rfl
  exact opw_nil e1 x0 (hK _ _ ⟨_, rfl, rfl⟩ hI (Below.refl _ _))
theorem ad_14 (F : Ad3 a0 w0 m g len c k o n p base L) : PO (regionOps Tryz.f50 3) 20 a0 base w0 (adCs m g len c k o n p base L) 14 := by
  intro o' ho u W hI hR
  obtain ⟨e1, e2, e3⟩ := ob_op ho (show ((regionOps Tryz.f50 3)[14]?).map (fun o => (o.op, o.dst, o.guard)) = some (.fieldAddr 101 (.tmp 41) 0, some 42, none) by kernel_rfl)
  rw [if_pos (plan_free e3 _)]
  intro K hK
  have x0 := ev_val (v := .pointer (some ⟨m, 0, none⟩)) (cs := (adCs m g len c k o n p base L)) ad_ok hR ho (j := 13) (t := 41) (by rw [F.hz]; kernel_rfl) rfl
  exact opw_fld0 e1 x0 (hK _ _ ⟨_, rfl, rfl⟩ hI (Below.refl _ _))
theorem ad_15 (F : Ad3 a0 w0 m g len c k o n p base L) : PO (regionOps Tryz.f50 3) 20 a0 base w0 (adCs m g len c k o n p base L) 15 := by
  intro o' ho u W hI hR
  obtain ⟨e1, e2, e3⟩ := ob_op ho (show ((regionOps Tryz.f50 3)[15]?).map (fun o => (o.op, o.dst, o.guard)) = some (.load 99 (.tmp 42), some 43, none) by kernel_rfl)
  rw [if_pos (plan_free e3 _)]
  intro K hK
  have x0 := ev_val (v := .pointer (some ⟨m, 0, none⟩)) (cs := (adCs m g len c k o n p base L)) ad_ok hR ho (j := 14) (t := 42) (by rw [F.hz]; kernel_rfl) rfl
  exact opw_load_ents e1 x0 ((hI.1.cell (p := ⟨m, 0, none⟩) F.lm).trans F.cm) (hK _ _ ⟨_, rfl, rfl⟩ hI (Below.refl _ _))
theorem ad_16 (F : Ad3 a0 w0 m g len c k o n p base L) : PO (regionOps Tryz.f50 3) 20 a0 base w0 (adCs m g len c k o n p base L) 16 := by
  intro o' ho u W hI hR
  obtain ⟨e1, e2, e3⟩ := ob_op ho (show ((regionOps Tryz.f50 3)[16]?).map (fun o => (o.op, o.dst, o.guard)) = some (.move (.tmp 6), some 44, none) by kernel_rfl)
  rw [if_pos (plan_free e3 _)]
  intro K hK
  have x0 := ev_base (u := u) ad_ok (by kernel_rfl) F.h6
  exact opw_move e1 x0 (hK _ _ ⟨_, rfl, rfl⟩ hI (Below.refl _ _))
theorem ad_17 (F : Ad3 a0 w0 m g len c k o n p base L) : PO (regionOps Tryz.f50 3) 20 a0 base w0 (adCs m g len c k o n p base L) 17 := by
  intro o' ho u W hI hR
  obtain ⟨e1, e2, e3⟩ := ob_op ho (show ((regionOps Tryz.f50 3)[17]?).map (fun o => (o.op, o.dst, o.guard)) = some (.slice 99 (.tmp 43) (some (.tmp 44)) none none, some 45, none) by kernel_rfl)
  rw [if_pos (plan_free e3 _)]
  intro K hK
  have x0 := ev_val (v := .slice (some ⟨g, 0, none⟩) len c) (cs := (adCs m g len c k o n p base L)) ad_ok hR ho (j := 15) (t := 43) (by rw [F.hz]; kernel_rfl) rfl
  have x1 := ev_val (v := .int .i64 k) (cs := (adCs m g len c k o n p base L)) ad_ok hR ho (j := 16) (t := 44) (by rw [F.hz]; kernel_rfl) rfl
  refine opw_slice1 e1 x0 x1 F.hk F.hc ?_
  rw [← F.ho]
  exact hK _ _ ⟨_, rfl, rfl⟩ hI (Below.refl _ _)
theorem ad_18 (F : Ad3 a0 w0 m g len c k o n p base L) : PO (regionOps Tryz.f50 3) 20 a0 base w0 (adCs m g len c k o n p base L) 18 := by
  intro o' ho u W hI hR
  obtain ⟨e1, e2, e3⟩ := ob_op ho (show ((regionOps Tryz.f50 3)[18]?).map (fun o => (o.op, o.dst, o.guard)) = some (.call { callee := .builtin .append, args := #[(.tmp 39), (.tmp 45)], argTypes := #[99, 99] }, some 46, none) by kernel_rfl)
  rw [if_pos (plan_free e3 _)]
  intro K hK
  obtain ⟨x0, cx0, hcx0, hhx0⟩ := ev_cl (cs := (adCs m g len c k o n p base L)) ad_ok hR ho (j := 11) (t := 39) (by rw [F.hz]; kernel_rfl)
  cases hcx0
  have x1 := ev_val (v := .slice (some ⟨g, o, none⟩) (len - k) (c - k)) (cs := (adCs m g len c k o n p base L)) ad_ok hR ho (j := 17) (t := 45) (by rw [F.hz]; kernel_rfl) rfl
  obtain ⟨i0, hi0, hz0, hz1, hz2⟩ := info_parts info_ent
  obtain ⟨g1, e4, hb1, hl1, hc1⟩ := hhx0
  rw [e4] at x0
  have hk := F.hk
  have hlen := F.hl
  have hfew := F.few
  by_cases hm : len - k = 0
  · have hd : L.drop k = [] := List.drop_eq_nil_of_le (by omega)
    have hr := run_append_room_cells (P := Tryz.prog) W 99 o'.type 98 i0 Tryz.underlying99 hi0 g1 0 1 1 ⟨g, o, none⟩ 0 (c - k) [] (by simp) (fun j u hu => by cases hu) (fun u hu => by cases hu) (by decide) (fun j hj => by cases hj) (fun j hj => by cases hj)
    rw [hm] at x1
    refine opw_append e1 x0 x1 hr ?_
    have hw : W.setCells g1 (0 + 1 * i0.size) [] = W := rfl
    rw [hw]
    refine hK _ _ ⟨_, rfl, g1, 1, by rw [hm], by omega, hb1, hl1, fun j u hu => ?_⟩ hI (Below.refl _ _)
    rw [hd] at hu
    exact hc1 j u (by simpa [fE] using hu)
  · have hkc : ¬ c = k := by have := F.hc; omega
    have ho2 : o = k * 2 := by rw [F.ho, if_neg hkc]
    have hnews : ∀ j u, (fE (L.drop k))[j]? = some u → W.cell? ((⟨g, o, none⟩ : Addr).add j) = some u := fun j u hu => by
      have h1 : fE L = fE (L.take k) ++ fE (L.drop k) := by rw [← fE_append, List.take_append_drop]
      have h2 := F.row (k * 2 + j) u (by rw [h1, List.getElem?_append_right (by rw [fE_len, List.length_take]; omega), fE_len, List.length_take]; rwa [show k * 2 + j - min k L.length * 2 = j by omega])
      rw [Addr.add_mid, ho2]
      exact (hI.1.cell (p := ⟨g, k * 2 + j, none⟩) F.lg).trans h2
    obtain ⟨v', w', hrun, r1, r2⟩ := run_append_arg_grows (P := Tryz.prog) W 99 o'.type 98 i0 _ 2 24 Tryz.underlying99 hi0 hz0 hz1 hz2 rfl (by decide) ⟨g1, 0, none⟩ 1 1 (entL (p, n)) rfl (fun j u hu => by rw [Addr.add_mid, Nat.zero_add]; exact hc1 j u hu) ⟨g, o, none⟩ (len - k) (c - k) (fE (L.drop k)) (by rw [fE_len, List.length_drop, hlen]) hnews (by omega) (by unfold maxLen; omega) (by omega)
    exact opw_append e1 x0 x1 hrun (hK _ _ ⟨_, rfl, own_rowC r1 hI.2 (by omega)⟩ (hI.step (Below.of_none r2)) (Below.of_none r2))
theorem ad_19 (F : Ad3 a0 w0 m g len c k o n p base L) : PO (regionOps Tryz.f50 3) 20 a0 base w0 (adCs m g len c k o n p base L) 19 := by
  intro o' ho u W hI hR
  obtain ⟨e1, e2, e3⟩ := ob_op ho (show ((regionOps Tryz.f50 3)[19]?).map (fun o => (o.op, o.dst, o.guard)) = some (.call { callee := .builtin .append, args := #[(.tmp 35), (.tmp 46)], argTypes := #[99, 99] }, some 47, none) by kernel_rfl)
  rw [if_pos (plan_free e3 _)]
  intro K hK
  have x0 := ev_val (v := .slice (some ⟨g, 0, none⟩) k k) (cs := (adCs m g len c k o n p base L)) ad_ok hR ho (j := 7) (t := 35) (by rw [F.hz]; kernel_rfl) rfl
  obtain ⟨x1, cx1, hcx1, hhx1⟩ := ev_cl (cs := (adCs m g len c k o n p base L)) ad_ok hR ho (j := 18) (t := 46) (by rw [F.hz]; kernel_rfl)
  cases hcx1
  obtain ⟨i0, hi0, hz0, hz1, hz2⟩ := info_parts info_ent
  obtain ⟨g1, c1, e4, hn1, hb1, hl1, hc1⟩ := hhx1
  rw [e4] at x1
  have hk := F.hk
  have hlen := F.hl
  have hfew := F.few
  have holds : ∀ j u, (fE (L.take k))[j]? = some u → W.cell? ((⟨g, 0, none⟩ : Addr).add j) = some u := fun j u hu => by
    have h1 : fE L = fE (L.take k) ++ fE (L.drop k) := by rw [← fE_append, List.take_append_drop]
    have h2 := F.row j u (by
      rw [h1, List.getElem?_append_left]
      · exact hu
      · rcases Nat.lt_or_ge j (fE (L.take k)).length with h' | h'
        · exact h'
        · rw [List.getElem?_eq_none h'] at hu; cases hu)
    rw [Addr.add_mid, Nat.zero_add]
    exact (hI.1.cell (p := ⟨g, j, none⟩) F.lg).trans h2
  have hlt : (fE (L.take k)).length = k * 2 := by rw [fE_len, List.length_take, Nat.min_eq_left (by omega)]
  have hln : (entL (p, n) ++ fE (L.drop k)).length = (1 + (len - k)) * 2 := by rw [List.length_append, fE_len, List.length_drop, hlen]; show 2 + _ = _; omega
  obtain ⟨v', w', hrun, r1, r2⟩ := run_append_arg_grows (P := Tryz.prog) W 99 o'.type 98 i0 _ 2 24 Tryz.underlying99 hi0 hz0 hz1 hz2 rfl (by decide) ⟨g, 0, none⟩ k k (fE (L.take k)) hlt holds ⟨g1, 0, none⟩ (1 + (len - k)) c1 (entL (p, n) ++ fE (L.drop k)) hln (fun j u hu => by rw [Addr.add_mid, Nat.zero_add]; exact hc1 j u hu) (by omega) (by unfold maxLen; omega) (by omega)
  have hins : fE (L.take k) ++ (entL (p, n) ++ fE (L.drop k)) = fE (insL L k p n) := by unfold insL; rw [fE_append]; rfl
  rw [hins, show k + (1 + (len - k)) = len + 1 by omega] at r1
  exact opw_append e1 x0 x1 hrun (hK _ _ ⟨_, rfl, own_rowC r1 hI.2 (by omega)⟩ (hI.step (Below.of_none r2)) (Below.of_none r2))
theorem ad_all (F : Ad3 a0 w0 m g len c k o n p base L) : ∀ i, i < 20 → PO (regionOps Tryz.f50 3) 20 a0 base w0 (adCs m g len c k o n p base L) i
  | 0, _ => ad_0 F
  | 1, _ => ad_1 F
  | 2, _ => ad_2 F
  | 3, _ => ad_3 F
  | 4, _ => ad_4 F
  | 5, _ => ad_5 F
  | 6, _ => ad_6 F
  | 7, _ => ad_7 F
  | 8, _ => ad_8 F
  | 9, _ => ad_9 F
  | 10, _ => ad_10 F
  | 11, _ => ad_11 F
  | 12, _ => ad_12 F
  | 13, _ => ad_13 F
  | 14, _ => ad_14 F
  | 15, _ => ad_15 F
  | 16, _ => ad_16 F
  | 17, _ => ad_17 F
  | 18, _ => ad_18 F
  | 19, _ => ad_19 F
  | i + 20, h => absurd h (by omega)
theorem ad_wp {id : Nat} {Q : Exit → Act → World → Prop} (F : Ad3 a0 w0 m g len c k o n p base L) (hb : base = w0.heap.size) {cs0 : Array Value} (hm : w0.heap[m]? = some (.cells cs0 101 (0, 0)))
    (hend : ∀ (a : Act) (W W' : World) (v : Value), a.defers = a0.defers → Below base w0 W → base ≤ W.heap.size → RowC base (len + 1) (fE (insL L k p n)) v W → W' = W.setCell ⟨m, 0, none⟩ v → Q .normal a W') :
    (Code.region id (regionOps Tryz.f50 3) true).wp Tryz.prog Q a0 w0 := by
  refine wp_plan_cl 20 (0 + 1 + 1 + 1) (adCs m g len c k o n p base L) ad_ok (by kernel_rfl) (Nat.le_of_eq hb) (ad_all F) fun u W hI1 hI2 hR => ?_
  obtain ⟨ct, hct, hv19⟩ := hR 19 (of_decide_eq_true (by kernel_rfl)) (by decide)
  cases hct
  have e28 : (putL (planOf (regionOps Tryz.f50 3) (upto 20)) u a0).eval (.tmp 28) = .pointer (some ⟨m, 0, none⟩) := by
    obtain ⟨ct, hct, h⟩ := hR 0 (of_decide_eq_true (by kernel_rfl)) (by decide)
    cases hct
    exact (plan_eval ad_ok (j := 0) (by kernel_rfl) (by decide) (by rw [F.hz]; decide)).trans h
  have e47 : (putL (planOf (regionOps Tryz.f50 3) (upto 20)) u a0).eval (.tmp 47) = u 19 := plan_eval ad_ok (j := 19) (by kernel_rfl) (by decide) (by rw [F.hz]; decide)
  have hdf := (plan_frame (a0 := a0) ad_ok u).1
  have hsz : (putL (planOf (regionOps Tryz.f50 3) (upto 20)) u a0).tmps.size = 50 := (plan_frame (a0 := a0) ad_ok u).2.1.trans F.hz
  generalize putL (planOf (regionOps Tryz.f50 3) (upto 20)) u a0 = A at e28 e47 hdf hsz ⊢
  refine wpAny_one (i := 20) (by kernel_rfl) (op := .nilCheck (.tmp 28)) (dst := some 48) (by kernel_rfl) fun o e1 e2 => opw_nil e1 e28 ?_
  rw [e2]
  have f48 := put_eval A 48 (.pointer (some ⟨m, 0, none⟩)) (by rw [hsz]; decide)
  have f47 := (put_other A (d := 48) (t := 47) (.pointer (some ⟨m, 0, none⟩)) (by decide)).trans e47
  have hdf2 : (A.put (some 48) (.pointer (some ⟨m, 0, none⟩))).defers = a0.defers := (put_defers' _ _ _).trans hdf
  have hsz2 : (A.put (some 48) (.pointer (some ⟨m, 0, none⟩))).tmps.size = 50 := (put_size _ _ _).trans hsz
  generalize A.put (some 48) (.pointer (some ⟨m, 0, none⟩)) = A2 at f48 f47 hdf2 hsz2 ⊢
  refine wpAny_one (i := 21) (by kernel_rfl) (op := .fieldAddr 101 (.tmp 48) 0) (dst := some 49) (by kernel_rfl) fun o e1 e2 => opw_fld0 e1 f48 ?_
  rw [e2]
  have g49 := put_eval A2 49 (.pointer (some ⟨m, 0, none⟩)) (by rw [hsz2]; decide)
  have g47 := (put_other A2 (d := 49) (t := 47) (.pointer (some ⟨m, 0, none⟩)) (by decide)).trans f47
  have hdf3 : (A2.put (some 49) (.pointer (some ⟨m, 0, none⟩))).defers = a0.defers := (put_defers' _ _ _).trans hdf2
  generalize A2.put (some 49) (.pointer (some ⟨m, 0, none⟩)) = A3 at g49 g47 hdf3 ⊢
  have hmW : W.heap[m]? = some (.cells cs0 101 (0, 0)) := by rw [hI1.block m F.lm]; exact hm
  obtain ⟨g1, c1, ev, h1, h2, h3, h4⟩ := hv19
  have hcell : W.cell? ⟨m, 0, none⟩ = some (.slice (some ⟨g, 0, none⟩) len c) := (hI1.cell (p := ⟨m, 0, none⟩) F.lm).trans F.cm
  have hfr : W.frozen? ⟨m, 0, none⟩ = false := row_free hmW 0
  rw [ev] at g47
  refine wpAny_one (i := 22) (by kernel_rfl) (op := .store 99 (.tmp 49) (.tmp 47)) (dst := none) (by kernel_rfl) fun o e1 e2 => opw_store_ents e1 g49 g47 hcell hfr ?_
  have hput : ∀ a : Act, a.put none undef = a := fun _ => rfl
  rw [e2, hput]
  exact ⟨by kernel_rfl, hend A3 W _ _ hdf3 hI1 hI2 ⟨g1, c1, rfl, h1, h2, h3, h4⟩ rfl⟩
end
def AddR (w0 : World) (base m : Nat) (L : DRow) (D : Nat → Option DN) (p : ByteArray) (n : Nat) (e : Ending) (w' : World) : Prop := e = .returned (.tuple #[]) ∧ Below base w0 w' ∧ (∀ j, j < w0.heap.size → j ≠ m → w'.heap[j]? = w0.heap[j]?) ∧ ∃ k, IsDt w' m (insL L k p n) D
theorem add_end {base m : Nat} {L : DRow} {D : Nat → Option DN} {p : ByteArray} {n k : Nat} {nd : DN} {w w0 W : World} {v : Value} (h : IsDt w m L D) (hm : base ≤ m) (hbs : base ≤ w.heap.size) (hD : D n = some nd) (hn : IsDn w n nd) (hp : p.size ≤ 1000) (hlen : L.length < 200)
    (b : Below w.heap.size w w0) (bW : Below w0.heap.size w0 W) (hrow : RowC w0.heap.size (L.length + 1) (fE (insL L k p n)) v W) : AddR w base m L D p n (.returned (.tuple #[])) (W.setCell ⟨m, 0, none⟩ v) := by
  have bb : Below w.heap.size w W := b.trans (bW.mono b.size)
  have hW := h.below bb
  have hnW := hn.below bb
  have hml : m < w.heap.size := by obtain ⟨g, cap, now, gr, h1, -⟩ := h.row; exact row_lt h1
  obtain ⟨g1, c1, rfl, hc1, hg1, hl1, hcells⟩ := hrow
  have hg1m : g1 ≠ m := by have := b.size; omega
  have keepn : ∀ B x, IsDn W B x → IsDn (W.setCell ⟨m, 0, none⟩ (.slice (some ⟨g1, 0, none⟩) (L.length + 1) c1)) B x := fun B x hB => by
    have hne := hW.ne_m hB
    obtain ⟨sl, c, ti, hB⟩ := hB
    exact ⟨sl, c, ti, row_set_other hB hne _ _⟩
  refine ⟨rfl, (bb.mono hbs).setCell (p := ⟨m, 0, none⟩) hm _, fun j hj hne => (Below.heap_setCell _ _ _ _ hne).trans (bb.block j hj), k, ?_, fun x hx => ?_, ?_, fun x hx => ?_⟩
  · obtain ⟨g, cap, now, gr, h1, -⟩ := hW.row
    refine ⟨g1, c1, now, gr, ?_, by rw [insL_len]; exact hc1, by simpa using hl1, fun i x hx => ?_⟩
    · rw [insL_len]
      have := row_set h1 0 (.slice (some ⟨g1, 0, none⟩) (L.length + 1) c1)
      exact this
    · have := fE_range (w := W.setCell ⟨m, 0, none⟩ (.slice (some ⟨g1, 0, none⟩) (L.length + 1) c1)) (g := g1) (insL L k p n) 0 (fun j u hu => by
        rw [World.cell?_setCell_far _ _ _ _ (Ne.symm hg1m), Nat.zero_add]
        exact hcells j u hu) i x hx
      rwa [Nat.zero_add] at this
  · rcases insL_mem hx with rfl | hx
    · exact ⟨nd, hD, keepn _ _ hnW⟩
    · obtain ⟨nx, hDx, hnx⟩ := hW.nds x hx
      exact ⟨nx, hDx, keepn _ _ hnx⟩
  · rw [insL_len]; omega
  · rcases insL_mem hx with rfl | hx
    · exact hp
    · exact h.short x hx
set_option maxHeartbeats 4000000 in
set_option maxRecDepth 100000 in
/-- The document's add. -/
theorem radd_any {base m : Nat} {L : DRow} {D : Nat → Option DN} (p : ByteArray) (n : Nat) {nd : DN} (w : World) (h : IsDt w m L D) (hm : base ≤ m) (hbs : base ≤ w.heap.size) (hD : D n = some nd) (hn : IsDn w n nd) (hp : p.size ≤ 1000) (hlen : L.length < 200) :
    Calls Tryz.prog 50 #[.pointer (some ⟨m, 0, none⟩), .string p, .pointer (some ⟨n, 0, none⟩)] w (AddR w base m L D p n) := by
  have hh := Lib.hid h
  have hD' := Lib.hid hD
  have hn' := Lib.hid hn
  obtain ⟨⟨g, cap, now, gr, h1, hcap, h3, h4⟩, -, h6, h7⟩ := h
  have c1' := Lib.hid (show w.cell? ⟨m, 0, none⟩ = some (.slice (some ⟨g, 0, none⟩) L.length cap) from row_cell h1 rfl)
  have h1' := Lib.hid h1
  have h4' := Lib.hid h4
  have h7' := Lib.hid h7
  have hml := row_lt h1
  clear h1 h4 h7 hD hn
  have hfinish : ∀ (k : Nat) (w0 W : World) (v : Value), Below w.heap.size w w0 → Below w0.heap.size w0 W → RowC w0.heap.size (L.length + 1) (fE (insL L k p n)) v W → AddR w base m L D p n (.returned (.tuple #[])) (W.setCell ⟨m, 0, none⟩ v) := fun k w0 W v b bW hr => add_end hh.out hm hbs hD'.out hn'.out hp hlen b bW hr
  have hfin' := Lib.hid hfinish
  clear hfinish
  obtain ⟨Post, hPost⟩ : ∃ Post : Ending → World → Prop, Post = AddR w base m L D p n := ⟨_, rfl⟩
  rw [← hPost]
  have hP := Lib.hid hPost
  clear hPost
  go_enter Tryz.func50, Tryz.ntmps50
  go_wp2_with fail
  go_loopw [6] (fun i wr => ∃ (k : Nat), k ≤ L.length ∧ i = .int .i64 k ∧ Hid (Below w.heap.size w wr) ∧ w.heap.size ≤ wr.heap.size) (fun i _ => L.length - (intOf i).toNat)
  case atStart => exact ⟨0, Nat.zero_le _, rfl, Lib.hid (Below.refl _ _), Nat.le_refl _⟩
  case round =>
    obtain ⟨k, hk, rfl, hb, hz⟩ := hrel
    have cr : wr.cell? ⟨m, 0, none⟩ = some (.slice (some ⟨g, 0, none⟩) L.length cap) := (hb.out.cell (p := ⟨m, 0, none⟩) hml).trans c1'.out
    by_cases hkk : k < L.length
    · have hkI : (k : Int) < (L.length : Int) := by omega
      have hkI0 : (0 : Int) ≤ (k : Int) := by omega
      have hra : wr.rangeAt g (k * 2) (entL L[k]) := rangeAt_below (h4'.out k L[k] (List.getElem?_eq_getElem hkk)) hb.out h3
      have e0 : wr.cell? ⟨g, k * 2, none⟩ = some (.string (L[k]).1) := hra 0 _ rfl
      have hxs : (L[k]).1.size ≤ 1000000 := Nat.le_trans (h7'.out L[k] (List.getElem_mem hkk)) (by decide)
      generalize L[k] = x at hra e0 hxs
      clear hra
      go_wp2_with fail
      refine (before_any x.1 p hxs wr).mono ?_
      rintro e w1 ⟨v, rfl, b1⟩
      have hb1 := Lib.hid (hb.out.trans (b1.mono hz))
      have hz1 : w.heap.size ≤ w1.heap.size := Nat.le_trans hz b1.size
      clear b1 cr e0
      cases v with
      | true =>
        go_wp2_with fail
        case roundEnd =>
          refine ⟨⟨k + 1, by omega, rfl, hb1, hz1⟩, ?_⟩
          simp [intOf]; omega
      | false =>
        go_wp2_with fail
        refine wp_region_swap (o' := regionOps Tryz.f50 3) (by kernel_rfl) ?_
        refine ad_wp (m := m) (g := g) (len := L.length) (c := cap) (k := k) (o := if cap = k then 0 else k * 2) (n := n) (p := p) (base := w1.heap.size) (L := L) ⟨by rfl, by rfl, by rfl, by rfl, by rfl, (hb1.out.cell (p := ⟨m, 0, none⟩) hml).trans c1'.out, by omega, by omega, hk, hcap, rfl, by omega, rfl, fun j u hu => ?_⟩ rfl (by rw [hb1.out.block m hml]; exact h1'.out) ?_
        · have := fE_cells (w := w) (g := g) L 0 (fun i x hx => by rw [Nat.zero_add]; exact h4'.out i x hx) j u hu
          rw [Nat.zero_add] at this
          exact (hb1.out.cell (p := ⟨g, j, none⟩) h3).trans this
        · rintro a W W' v hdf bW zW hrow rfl
          go_wp2_with fail
          refine bodyPost_end (results_none rfl _ _ _) hdf ?_
          rw [hP.out]
          exact hfin'.out k w1 W v hb1.out bW hrow
    · have hkI : ¬ (k : Int) < (L.length : Int) := by omega
      go_wp2_with fail
      refine wp_region_swap (o' := regionOps Tryz.f50 3) (by kernel_rfl) ?_
      refine ad_wp (m := m) (g := g) (len := L.length) (c := cap) (k := k) (o := if cap = k then 0 else k * 2) (n := n) (p := p) (base := wr.heap.size) (L := L) ⟨by rfl, by rfl, by rfl, by rfl, by rfl, (hb.out.cell (p := ⟨m, 0, none⟩) hml).trans c1'.out, by omega, by omega, hk, hcap, rfl, by omega, rfl, fun j u hu => ?_⟩ rfl (by rw [hb.out.block m hml]; exact h1'.out) ?_
      · have := fE_cells (w := w) (g := g) L 0 (fun i x hx => by rw [Nat.zero_add]; exact h4'.out i x hx) j u hu
        rw [Nat.zero_add] at this
        exact (hb.out.cell (p := ⟨g, j, none⟩) h3).trans this
      · rintro a W W' v hdf bW zW hrow rfl
        go_wp2_with fail
        refine bodyPost_end (results_none rfl _ _ _) hdf ?_
        rw [hP.out]
        exact hfin'.out k wr W v hb.out bW hrow
end Go.Proofs.YtfnaooplpofgiaaGreatDoor
