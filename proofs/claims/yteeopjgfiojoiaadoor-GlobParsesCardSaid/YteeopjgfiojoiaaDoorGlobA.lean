/- glob.Parse, Pieces, Text; two equal rows of pieces; GlobNil. Conditions: the bytes, the patterns and the errors' variables lie in memory. -/
import Derived.Test.YteeopjgfiojoiaaDoorBk12
import Derived.Test.YteeopjgfiojoiaaDoorBrkP
import Derived.Test.YteeopjgfiojoiaaDoorTxtAll
import Derived.Test.YteeopjgfiojoiaaDoorTel
import Derived.WalkMore
import Derived.Deep.LoopGhost
import Derived.Deep.RegionLaw
import Derived.Handy
import Derived.Outline
import Derived.Test.YteeopjgfiojoiaaDoorWal
import Derived.Laws.AppendOwnNone
import Derived.BigQuiet
import Derived.Lib.ConvBytes
namespace Go.Proofs.YteeopjgfiojoiaaDoor
open Go Go.RowKit SN

/-- A piece's cells and value; pieces in a row. -/
def pcl (p : Pie) : Array Value := #[.int .i64 p.kind, .int .u64 (word p.set 0), .int .u64 (word p.set 1), .int .u64 (word p.set 2), .int .u64 (word p.set 3)]
def pv (p : Pie) : Value := .agg (pcl p)
def pvs (l : List Pie) : List Value := l.flatMap fun p => (pcl p).toList
theorem pvs_len (l : List Pie) : (pvs l).length = l.length * 5 := by
  unfold pvs
  induction l with
  | nil => rfl
  | cons p l ih => rw [List.flatMap_cons, List.length_append, ih, List.length_cons]; simp [pcl]; omega
theorem pvs_snoc (l : List Pie) (p : Pie) : pvs (l ++ [p]) = pvs l ++ (pcl p).toList := by simp [pvs]
theorem pvs_one (l : List Pie) : ∀ u ∈ pvs l, u.oneCell' = true := by
  intro u hu
  simp only [pvs, List.mem_flatMap] at hu
  obtain ⟨p, -, hp⟩ := hu
  simp [pcl] at hp
  rcases hp with rfl | rfl | rfl | rfl | rfl <;> rfl
def IsPc (w : World) (B : Nat) (p : Pie) : Prop := w.heap[B]? = some (.cells (pcl p) 58 (0, 0))
theorem size5 : (Tryd.prog.info? 58).map (·.size) = some 5 := by kernel_rfl
theorem info_pc : (Tryd.prog.info? 58).map (fun i => (i.zero, i.size, i.bytes)) = some (some (.agg #[.int .i64 0, .int .u64 0, .int .u64 0, .int .u64 0, .int .u64 0]), 5, 40) := by kernel_rfl
section
variable {ops : Array Oper} {Q : Exit → Act → World → Prop} {a : Act} {w : World} {rest : List Oper} {o : Oper}
theorem load_pc (hgd : o.guard = none) (x : Operand) (ho : o.op = .load 58 x) (B : Nat) (hx : a.eval x = .pointer (some ⟨B, 0, none⟩)) (p : Pie)
    (h : IsPc w B p) (hk : wpList Tryd.prog ops Q rest (a.put o.dst (pv p)) w) : wpList Tryd.prog ops Q (o :: rest) a w :=
  wpList_load_row hgd 58 x ho B hx 58 (pcl p) (0, 0) _ h Tryd.underlying58 (by rfl) (by rw [size5]; rfl) hk
theorem store_pc (hgd : o.guard = none) (hd : o.dst = none) (x y : Operand) (ho : o.op = .store 58 x y) (B : Nat) (p q : Pie) (hx : a.eval x = .pointer (some ⟨B, 0, none⟩)) (hy : a.eval y = pv p) (h : IsPc w B q)
    (hk : ∀ w', IsPc w' B p → w.grownBy w' (some B) → w'.heap.size = w.heap.size → wpList Tryd.prog ops Q rest a w') : wpList Tryd.prog ops Q (o :: rest) a w := by
  have hp : a.put o.dst undef = a := by rw [hd]; rfl
  refine wpList_store_row hgd 58 x y ho B (pcl p) hx hy 58 (pcl q) h (by rw [size5]; rfl) rfl (by simp [pcl, Value.oneCell']) (by rw [hp]; exact hk _ (setRow_heap w B _ _ _ _ h) ⟨rfl, rfl, rfl, by simp, fun k _ hk => setRow_other w B k _ (fun e => hk (by rw [e]))⟩ (by simp))
end
theorem ret_pc {fn : Func} {p : Tmp} {R : Ending → World → Prop} {a : Act} {w : World} {B : Nat} {c : Pie} (h : fn.results = #[.cell p 58]) (hd : a.defers = []) (hp : a.tmps.getD p undef = .pointer (some ⟨B, 0, none⟩))
    (hS : IsPc w B c) (hR : R (.returned (pv c)) w) : bodyPost Tryd.prog fn R .ret a w :=
  bodyPost_ret (results_cell_row h a.tmps w B 58 (pcl c) (0, 0) _ hp hS Tryd.underlying58 (by rfl) size5) hd hR
/-- A pattern in memory: its block holds a slice that the call owns. -/
def IsPt (w : World) (base B : Nat) (l : List Pie) : Prop := base ≤ B ∧ ∃ v, w.heap[B]? = some (.cells #[v] 98 (0, 0)) ∧ w.ownsRow (base + 1) 58 5 v l.length (pvs l) ∧ v.ownBlock ≠ some B
theorem pv_one (c : Nat) : pv (oneP c.toUInt8) = .agg #[.int .i64 1, .int .u64 (word (ofL (toB [c]).data.toList) 0), .int .u64 (word (ofL (toB [c]).data.toList) 1), .int .u64 (word (ofL (toB [c]).data.toList) 2), .int .u64 (word (ofL (toB [c]).data.toList) 3)] := by
  have e : (toB [c]).data.toList = [c.toUInt8] := by rw [toB_list]; rfl
  rw [e]; rfl
set_option maxHeartbeats 1000000 in
set_option maxRecDepth 100000 in
theorem one_any (c : Nat) (hc : c < 256) (w : World) :
    Calls Tryd.prog 64 #[.int .u8 c] w fun e w' => e = .returned (pv (oneP c.toUInt8)) ∧ Below w.heap.size w w' := by
  have hcv := conv_any (some ⟨w.heap.size + 1, 0, none⟩) 1 (toB [c]) ((w.alloc (.cells #[.int .i64 0, .int .u64 0, .int .u64 0, .int .u64 0, .int .u64 0] 58)).alloc (.cells #[.int .u8 c] 5)) (by
    have h := hasB_one c hc (w.alloc (.cells #[.int .i64 0, .int .u64 0, .int .u64 0, .int .u64 0, .int .u64 0] 58))
    rw [World.size_alloc] at h
    exact h)
  rw [toB_one] at hcv
  have hi : IsPc ((w.alloc (.cells #[.int .i64 0, .int .u64 0, .int .u64 0, .int .u64 0, .int .u64 0] 58)).alloc (.cells #[.int .u8 c] 5)) w.heap.size ⟨0, 0⟩ := row_alloc (by have h := heap_alloc_new w (.cells #[.int .i64 0, .int .u64 0, .int .u64 0, .int .u64 0, .int .u64 0] 58); simpa [pcl, word_zero] using h) _
  have hb := ((Below.refl w.heap.size w).alloc (Nat.le_refl _) (.cells #[.int .i64 0, .int .u64 0, .int .u64 0, .int .u64 0, .int .u64 0] 58)).alloc (by simp) (.cells #[.int .u8 c] 5)
  have hi' := Lib.hid hi
  have hb' := Lib.hid hb
  clear hi hb
  go_enter Tryd.func64, Tryd.ntmps64
  go_wp2_with (first | (go_at_call 22; refine (Of_any' (toB [c]) _ (by rw [toB_one]; decide)).mono ?_; rintro e w1 ⟨rfl, b1⟩) | (refine store_pc rfl rfl _ _ rfl w.heap.size (oneP c.toUInt8) ⟨0, 0⟩ rfl (pv_one c).symm (row_below hi'.out b1 (by simp; omega)) ?_; intro w2 h2 g2 z2))
  refine ret_pc rfl rfl rfl h2 ⟨rfl, ?_⟩
  exact (hb'.out.trans (b1.mono (by simp; omega))).grown g2 (by have := b1.size; simp at this; omega) (fun j hj => by cases hj; exact Nat.le_refl _)
/-- append onto a row of the call's own, as one step of a statement that draws its order. -/
theorem step_append_own {ops : Array Oper} {o : Oper} {a : Act} {w : World} {K : Act → World → Prop} {Q : Exit → Act → World → Prop} {E : Prop}
    (hg : o.guard = none) (s x : Operand) (t : TypeId) (hop : o.op = Op.call { callee := Callee.builtin Builtin.append, args := #[s, x], argTypes := #[t, t] })
    (base : Nat) (e : TypeId) (i : TypeInfo) (z : Value) (size bytes : Nat) (ht : Tryd.prog.underlying t = some (.slice e)) (hi : Tryd.prog.info? e = some i) (hz : i.zero = some z)
    (hsize : i.size = size) (hby : i.bytes = bytes) (hzs : z.cells.size = size) (hsz : 0 < size)
    (v : Value) (n : Nat) (xs : List Value) (hs : a.eval s = v) (hown : w.ownsRow base e size v n xs)
    (ad : Addr) (m c : Nat) (news : List Value) (hx : a.eval x = .slice (some ad) m c) (hl : news.length = m * size) (hnews : ∀ j u, news[j]? = some u → w.cell? (ad.add j) = some u) (h1 : ∀ u ∈ news, u.oneCell' = true)
    (h63 : n + m ≤ maxLen) (hbytes : (n + m) * bytes ≤ 140737488355328) (hbase : base ≤ w.heap.size)
    (hK : ∀ v' w', w'.ownsRow base e size v' (n + m) (xs ++ news) → w.grownBy w' v.ownBlock → K (a.put o.dst v') w') :
    if Region.wanted o (yielded ops a.tmps) = true then Oper.wp Tryd.prog o a w K Q else E := by
  have hw : Region.wanted o (yielded ops a.tmps) = true := by simp [Region.wanted, hg]
  rw [if_pos hw]
  obtain ⟨v', w', hrun, r1, r2, -⟩ := run_append_own (P := Tryd.prog) w base t o.type e i z size bytes ht hi hz hsize hby hzs hsz v n xs hown ad m c news hl hnews h1 h63 hbytes hbase
  unfold Oper.wp
  simp [execOp, hop, resolve, invoke, builtin, hs, hx, hrun, Result.andThen]
  exact hK v' w' r1 r2
theorem pc_new (p : Pie) (w : World) : ∀ (j : Nat) u, (pcl p).toList[j]? = some u → (w.alloc (.cells (pcl p) 58)).cell? ((⟨w.heap.size, 0, none⟩ : Addr).add j) = some u := by
  intro j u hu
  have h := heap_alloc_new w (.cells (pcl p) 58)
  have hj : j < 5 := by
    rcases Nat.lt_or_ge j 5 with h' | h'
    · exact h'
    · rw [List.getElem?_eq_none (by simpa [pcl] using h')] at hu; cases hu
  have e : (⟨w.heap.size, 0, none⟩ : Addr).add j = ⟨w.heap.size, j, none⟩ := by unfold Addr.add; split <;> simp_all
  rw [e, Lib.cell_of_heap h j, ← hu]
  simp
theorem pc_ones (p : Pie) : ∀ u ∈ (pcl p).toList, u.oneCell' = true := by
  intro u hu
  simp [pcl] at hu
  rcases hu with rfl | rfl | rfl | rfl | rfl <;> rfl
theorem pt_drop {l : List UInt8} {k : Nat} {c : UInt8} (h : l[k]? = some c) : l.drop k = c :: l.drop (k + 1) := by
  have hk : k < l.length := by
    rcases Nat.lt_or_ge k l.length with h' | h'
    · exact h'
    · rw [List.getElem?_eq_none h'] at h; cases h
  rw [List.drop_eq_getElem_cons hk]
  rw [List.getElem?_eq_getElem hk] at h
  injection h with h
  rw [h]
/-- What has been read and what is left. -/
def PtAt (l : List UInt8) (ps : List Pie) (k : Nat) : Prop := pt l = ps ++ pt (l.drop k)
theorem ptAt_one {l : List UInt8} {ps : List Pie} {k k2 : Nat} {p : Pie} (h : PtAt l ps k) (e : pt (l.drop k) = p :: pt (l.drop k2)) : PtAt l (ps ++ [p]) k2 := by
  unfold PtAt at *; rw [h, e]; simp
theorem ptAt_len {l : List UInt8} {ps : List Pie} {k : Nat} (h : PtAt l ps k) : ps.length ≤ l.length := by
  have h1 := pt_len l
  have h2 := congrArg List.length h
  simp at h2; omega
/-- glob.one, as one step of a statement that draws its order. -/
theorem step_one_call {ops : Array Oper} {o : Oper} {a : Act} {w : World} {K : Act → World → Prop} {Q : Exit → Act → World → Prop} {E : Prop}
    (hg : o.guard = none) (x : Operand) (hop : o.op = Op.call { callee := Callee.value (Operand.func 64), args := #[x], argTypes := #[5] }) (c : Nat) (hc : c < 256) (hx : a.eval x = .int .u8 c)
    (hK : ∀ w1, Below w.heap.size w w1 → K (a.put o.dst (.agg #[.int .i64 1, .int .u64 (word (ofL [c.toUInt8]) 0), .int .u64 (word (ofL [c.toUInt8]) 1), .int .u64 (word (ofL [c.toUInt8]) 2), .int .u64 (word (ofL [c.toUInt8]) 3)])) w1) :
    if Region.wanted o (yielded ops a.tmps) = true then Oper.wp Tryd.prog o a w K Q else E := by
  have hw : Region.wanted o (yielded ops a.tmps) = true := by simp [Region.wanted, hg]
  rw [if_pos hw]
  refine opw_call hop (vs := #[.int .u8 c]) (by simp [hx]) Tryd.func64 (by kernel_rfl) (by kernel_rfl) (one_any c hc w) ?_
  rintro e w1 ⟨rfl, b⟩
  exact ⟨_, rfl, hK w1 b⟩
theorem five_new (w : World) (a b c d e : Value) (t : TypeId) : ∀ (j : Nat) x, [a, b, c, d, e][j]? = some x → (w.alloc (.cells #[a, b, c, d, e] t)).cell? ((⟨w.heap.size, 0, none⟩ : Addr).add j) = some x := by
  intro j x hj
  match j, hj with
  | 0, hj => simp at hj; subst hj; simp [Addr.add]
  | 1, hj => simp at hj; subst hj; simp [Addr.add]
  | 2, hj => simp at hj; subst hj; simp [Addr.add]
  | 3, hj => simp at hj; subst hj; simp [Addr.add]
  | 4, hj => simp at hj; subst hj; simp [Addr.add]
theorem five_one (k : Int) (x0 x1 x2 x3 : Int) : ∀ u ∈ ([.int .i64 k, .int .u64 x0, .int .u64 x1, .int .u64 x2, .int .u64 x3] : List Value), u.oneCell' = true := by
  intro u hu; simp at hu; rcases hu with rfl | rfl | rfl | rfl | rfl <;> rfl
theorem pcl_zero (k : Nat) : (pcl ⟨k, 0⟩).toList = [.int .i64 k, .int .u64 0, .int .u64 0, .int .u64 0, .int .u64 0] := by simp [pcl, word_zero]
/-- A piece more, stored back. -/
theorem pt_more {w w1 w2 : World} {base : Nat} {ps : List Pie} {p : Pie} {v v1 : Value} {o : Obj} (hb : base < w.heap.size) (hv : w.heap[base]? = some (.cells #[v] 98 (0, 0))) (hlow : ∀ k, v.ownBlock = some k → base + 1 ≤ k ∧ k < w.heap.size)
    (hg : (w.alloc o).grownBy w1 v.ownBlock) (hown : w1.ownsRow (base + 1) 58 5 v1 (ps.length + 1) (pvs ps ++ (pcl p).toList)) (h2 : w2 = w1.setCell ⟨base, 0, none⟩ v1) : IsPt w2 base base (ps ++ [p]) := by
  subst h2
  have h1 : w1.heap[base]? = some (.cells #[v] 98 (0, 0)) := by
    rw [hg.block base (by simp; omega) (fun e => by have := hlow _ e.symm; omega), Below.heap_alloc _ _ _ hb]; exact hv
  have hl1 := hown.lt
  refine ⟨Nat.le_refl _, v1, ?_, ?_, fun e => by have := hl1 _ e; omega⟩
  · have := row_set h1 0 v1
    simpa using this
  · rw [List.length_append, pvs_snoc]
    exact hown.kept (row := some base) ⟨rfl, rfl, rfl, by simp [World.setCell], fun k _ hk => Below.heap_setCell _ _ _ _ (fun e => hk (by simp [e]))⟩ (Or.inr (fun e => by have := hl1 _ e; omega))
theorem own_slice {w : World} {base : Nat} {e : TypeId} {size n : Nat} {v : Value} {xs : List Value} (h : w.ownsRow base e size v n xs) : ∃ a c, v = .slice a n c := by
  rcases h.2 with ⟨rfl, h0⟩ | ⟨g, cap, cur, rfl, -⟩
  · have : n = 0 := h0
    subst this
    exact ⟨none, 0, rfl⟩
  · exact ⟨some ⟨g, 0, none⟩, cap, rfl⟩
theorem own_below {w w' : World} {base N n size : Nat} {e : TypeId} {v : Value} {xs : List Value} (h : w.ownsRow base e size v n xs) (hb : Below N w w') (hN : w.heap.size ≤ N) : w'.ownsRow base e size v n xs := by
  refine ⟨h.1, ?_⟩
  rcases h.2 with h2 | ⟨g, cap, cur, hv, hg, hh, r⟩
  · exact .inl h2
  · exact .inr ⟨g, cap, cur, hv, hg, by rw [hb.block g (by have := lt_of_block hh; omega)]; exact hh, r⟩
theorem u8_ne (c d : Nat) (hc : c < 2 ^ 8) (h : ¬ c = d) (hd : d < 256 := by decide) : c.toUInt8 ≠ d.toUInt8 := fun e => h (by
  have e2 := congrArg UInt8.toNat e
  simp at e2
  omega)
set_option maxHeartbeats 1000000 in
set_option maxRecDepth 100000 in
theorem parse_long {N : Nat} {E : Nat → Addr} (p : Option Addr) (n cap : Nat) (w : World) (hs : 256 < n) (hE : Errs N E w) :
    Calls Tryd.prog 39 #[.slice p n cap] w fun e w' => ∃ v, e = .returned (.tuple #[.pointer none, v]) ∧ IsErr w' E v 2 0 2 ∧ Below w.heap.size w w' := by
  have hE' := Lib.hid hE
  have hl : (256 : Int) < (n : Int) := by omega
  clear hE
  go_enter Tryd.func39, Tryd.ntmps39
  go_wp2
  go_step3
  go_wp2_with (first
      | (go_at_call 63; refine (of_any (N := N) (E := E) hE'.out 2 (by decide) (by decide)).mono ?_; rintro e w' ⟨rfl, rfl⟩)
      | (go_at_call 62; refine (at_any _ _ _ _).mono ?_; rintro e w' ⟨rfl, rfl⟩)
      | (go_at_call 61; refine (in_any _ _ _ _).mono ?_; rintro e w' ⟨rfl, rfl⟩))
  have hn := heap_alloc_new (w.alloc (.cells #[.iface 167 (.pointer (some (E 2))), .int .i64 0] 110)) (.cells #[.iface 106 (.pointer (some ⟨w.heap.size, 0, none⟩)), .int .i64 2] 114)
  rw [World.size_alloc] at hn
  rw [Exit.noGoto_ret]
  go_ret2
  exact ⟨_, rfl, ⟨w.heap.size + 1, w.heap.size, rfl, hn, row_alloc (heap_alloc_new w _) _⟩, ((Below.refl _ _).alloc (Nat.le_refl _) _).alloc (by simp) _⟩
set_option maxHeartbeats 4000000 in
set_option maxRecDepth 100000 in
theorem parse_any {N : Nat} {E : Nat → Addr} (p : Option Addr) (s : ByteArray) (cap : Nat) (w : World) (hS : HasB w p s) (hs : s.size ≤ 256) (hcap : s.size ≤ cap) (hE : Errs N E w) (hN : N ≤ w.heap.size) :
    Calls Tryd.prog 39 #[.slice p s.size cap] w fun e w' => ∃ B, e = .returned (.tuple #[.pointer (some ⟨B, 0, none⟩), .nilIface]) ∧ IsPt w' w.heap.size B (pt s.data.toList) ∧ Below w.heap.size w w' := by
  obtain ⟨i0, hi0, hz0, hz1, hz2⟩ := info_parts info_pc
  have hE' := Lib.hid hE
  have hS' := Lib.hid hS
  obtain ⟨l, hl⟩ : ∃ l, l = s.data.toList := ⟨_, rfl⟩
  have hlen : l.length = s.size := by rw [hl]; simp
  have hget : ∀ k, (hk : k < s.size) → l[k]? = some s[k] := fun k hk => by rw [hl, Array.getElem?_toList]; exact Array.getElem?_eq_getElem hk
  have hbr := fun (i : Int) (W : World) (hb : Below w.heap.size w W) => bracket_any (N := N) (E := E) p cap i 2 s W (hS'.out.below hb (Nat.le_refl _)) (hE'.out.below hb hN) (by have := hb.size; omega) (by omega) hcap
  have hcell := fun (k : Nat) (hk : k < s.size) (W : World) (hb : Below w.heap.size w W) => hasB_at (hS'.out.below hb (Nat.le_refl _)) (i := k) hk
  rw [← hl] at hbr
  rw [← hl]
  have hl' := Lib.hid hl
  have hlen' := Lib.hid hlen
  have hget' := Lib.hid hget
  have hbr' := Lib.hid hbr
  have hcell' := Lib.hid hcell
  clear hE hS hl hlen hget hbr hcell
  go_enter Tryd.func39, Tryd.ntmps39
  go_wp2
  go_step3
  go_wp2
  go_step3
  go_wp2_with fail
  have i1 : IsPt (w.alloc (.cells #[.slice none 0 0] 98)) w.heap.size w.heap.size [] := ⟨Nat.le_refl _, _, heap_alloc_new w _, World.ownsRow_nil _ _ _ _, by simp [Value.ownBlock]⟩
  have b1 := (Below.refl w.heap.size w).alloc (Nat.le_refl _) (.cells #[.slice none 0 0] 98)
  have i1' := Lib.hid i1
  have b1' := Lib.hid b1
  clear i1 b1
  go_loopw [5] (fun i wr => ∃ (k : Nat) (ps : List Pie), k ≤ s.size ∧ i = .int .i64 k ∧ PtAt l ps k ∧ IsPt wr w.heap.size w.heap.size ps ∧ Below w.heap.size w wr) (fun i _ => s.size - (intOf i).toNat)
  case atStart => exact ⟨0, [], Nat.zero_le _, rfl, by simp [PtAt], i1'.out, b1'.out⟩
  case round =>
    clear i1' b1'
    obtain ⟨k, ps, hk, rfl, hP, hI, hbl⟩ := hrel
    have hpl := ptAt_len hP
    rw [hlen'.out] at hpl
    have hP' := Lib.hid hP
    have hbl' := Lib.hid hbl
    obtain ⟨-, v, hv, hown, hne⟩ := hI
    have hown' := Lib.hid hown
    have hv' := Lib.hid hv
    have hne' := Lib.hid hne
    have hcv : wr.cell? ⟨w.heap.size, 0, none⟩ = some v := row_cell hv rfl
    have hfv := row_free hv 0
    have hlw : w.heap.size < wr.heap.size := row_lt hv
    have hlow' := Lib.hid hown.lt
    clear hP hbl hown hne hv
    by_cases hlt : k < s.size
    · obtain ⟨b, o, rfl, hc, -⟩ := hcell'.out k hlt wr hbl'.out
      have hx := (s[k]).toNat_lt
      have hgk := hget'.out k hlt
      obtain ⟨c, hce⟩ : ∃ c, c = (s[k]).toNat := ⟨_, rfl⟩
      have hcu : s[k] = c.toUInt8 := by rw [hce]; simp
      rw [hcu] at hgk
      rw [← hce] at hc hx
      have hd := pt_drop hgk
      have hd' := Lib.hid hd
      have hby' := Lib.hid (show ((s[k]).toNat : Int) = (c : Int) from by rw [hce])
      clear hgk hce hcu hd
      by_cases h42 : c = 42
      · subst h42
        go_wp2_with (at_builtin; refine wpList_append_own _ rfl _ _ 55 rfl (w.heap.size + 1) 58 i0 (.agg #[.int .i64 0, .int .u64 0, .int .u64 0, .int .u64 0, .int .u64 0]) 5 40 Tryd.underlying55 hi0 hz0 hz1 hz2 rfl (by decide) _ _ _ rfl (hown'.out.alloc _) ⟨wr.heap.size, 0, none⟩ 1 1 [.int .i64 3, .int .u64 0, .int .u64 0, .int .u64 0, .int .u64 0] rfl rfl (five_new _ _ _ _ _ _ _) (five_one _ _ _ _ _) (by unfold maxLen; omega) (by omega) (by simp; omega) ?_; intro v1 w1 hown1 hg1 _; have hv1 := row_grown (row_alloc hv'.out (.cells #[.int .i64 3, .int .u64 0, .int .u64 0, .int .u64 0, .int .u64 0] 58)) hg1 (fun e => by have := hlow'.out _ e.symm; omega); have hcv1 := row_cell (i := 0) hv1 rfl; have hfv1 := row_free hv1 0; obtain ⟨av, cv, hve⟩ := own_slice hown1; subst hve; have hown1' := Lib.hid hown1; have hg1' := Lib.hid hg1; clear hown1 hg1 hv1)
        have hb1 := ((hbl'.out.alloc (by omega) (.cells #[.int .i64 3, .int .u64 0, .int .u64 0, .int .u64 0, .int .u64 0] 58)).grown hg1'.out (by simp; omega) (fun j hj => by have := hlow'.out _ hj; omega)).setCell (p := ⟨w.heap.size, 0, none⟩) (Nat.le_refl _) (.slice av (ps.length + 1) cv)
        have hq : IsPt (w1.setCell ⟨w.heap.size, 0, none⟩ (.slice av (ps.length + 1) cv)) w.heap.size w.heap.size (ps ++ [⟨3, 0⟩]) := pt_more hlw hv'.out hlow'.out hg1'.out (by rw [pcl_zero]; exact hown1'.out) rfl
        have hq' := Lib.hid hq
        have hb1' := Lib.hid hb1
        clear hq hb1 hcv1 hfv1
        go_round
        case rel => exact ⟨k + 1, _, by omega, by go_num, ptAt_one hP'.out (by rw [hd'.out]; exact pt_many _), hq'.out, hb1'.out⟩
        case measure => simp [intOf]; omega
      by_cases h63 : c = 63
      · subst h63
        go_wp2_with (at_builtin; refine wpList_append_own _ rfl _ _ 55 rfl (w.heap.size + 1) 58 i0 (.agg #[.int .i64 0, .int .u64 0, .int .u64 0, .int .u64 0, .int .u64 0]) 5 40 Tryd.underlying55 hi0 hz0 hz1 hz2 rfl (by decide) _ _ _ rfl (hown'.out.alloc _) ⟨wr.heap.size, 0, none⟩ 1 1 [.int .i64 2, .int .u64 0, .int .u64 0, .int .u64 0, .int .u64 0] rfl rfl (five_new _ _ _ _ _ _ _) (five_one _ _ _ _ _) (by unfold maxLen; omega) (by omega) (by simp; omega) ?_; intro v1 w1 hown1 hg1 _; have hv1 := row_grown (row_alloc hv'.out (.cells #[.int .i64 2, .int .u64 0, .int .u64 0, .int .u64 0, .int .u64 0] 58)) hg1 (fun e => by have := hlow'.out _ e.symm; omega); have hcv1 := row_cell (i := 0) hv1 rfl; have hfv1 := row_free hv1 0; obtain ⟨av, cv, hve⟩ := own_slice hown1; subst hve; have hown1' := Lib.hid hown1; have hg1' := Lib.hid hg1; clear hown1 hg1 hv1)
        have hb1 := ((hbl'.out.alloc (by omega) (.cells #[.int .i64 2, .int .u64 0, .int .u64 0, .int .u64 0, .int .u64 0] 58)).grown hg1'.out (by simp; omega) (fun j hj => by have := hlow'.out _ hj; omega)).setCell (p := ⟨w.heap.size, 0, none⟩) (Nat.le_refl _) (.slice av (ps.length + 1) cv)
        have hq : IsPt (w1.setCell ⟨w.heap.size, 0, none⟩ (.slice av (ps.length + 1) cv)) w.heap.size w.heap.size (ps ++ [⟨2, 0⟩]) := pt_more hlw hv'.out hlow'.out hg1'.out (by rw [pcl_zero]; exact hown1'.out) rfl
        have hq' := Lib.hid hq
        have hb1' := Lib.hid hb1
        clear hq hb1 hcv1 hfv1
        go_round
        case rel => exact ⟨k + 1, _, by omega, by go_num, ptAt_one hP'.out (by rw [hd'.out]; exact pt_any _), hq'.out, hb1'.out⟩
        case measure => simp [intOf]; omega
      by_cases h91 : c = 91
      · subst h91
        clear h42 h63
        have hbk : brk l ((k : Int) + 1) 2 = shRn (k + 1) (brk (l.drop (k + 1)) 0 2) := (congrArg (fun i => brk l i 2) (by omega : (k : Int) + 1 = ((k + 1 : Nat) : Int))).trans (brk_drop l (k + 1) (by rw [hlen'.out]; omega))
        have h1 := hbr'.out ((k : Int) + 1) wr hbl'.out
        rw [hbk] at h1
        clear hbk
        cases hr : brk (l.drop (k + 1)) 0 2 with
        | err cc q =>
          rw [hr] at h1
          have hr' := Lib.hid hr
          have h1' := Lib.hid h1
          clear hr h1
          go_wp2_with fail
          refine h1'.out.mono ?_
          rintro e w1 ⟨ve, rfl, ⟨S1, P1, rfl, -, -⟩, b1⟩
          have b1' := Lib.hid b1
          have z1 : wr.heap.size ≤ w1.heap.size := b1.size
          clear b1
          go_wp2_with (refine store_set rfl rfl _ _ rfl _ _ rfl rfl ?_ ?_; (focus (apply Exists.intro; (repeat' (first | (with_reducible assumption) | (with_reducible apply IsSet.zero'; first | (with_reducible rfl) | (simp only [World.size_alloc]; done)) | (with_reducible apply IsSet.new'; first | (with_reducible rfl) | (simp only [World.size_alloc]; done)) | (with_reducible apply IsSet.sv; first | (with_reducible rfl) | (simp only [World.size_alloc]; done)) | (with_reducible apply IsSet.viaG; with_reducible assumption) | (with_reducible apply IsSet.viaB; with_reducible assumption) | (with_reducible apply IsSet.drew) | (with_reducible apply IsSet.store4) | (with_reducible apply IsSet.set_other) | (with_reducible apply IsSet.alloc) | (simp only [World.size_alloc]; omega) | omega | (simp; omega) | (simp; done))); done)); intro wX hX gX zX; (try simp only [World.size_alloc] at zX))
          have y1 := ((Below.refl w1.heap.size w1).alloc (Nat.le_refl _) (.cells #[.int .u64 0, .int .u64 0, .int .u64 0, .int .u64 0] 24)).grown gX (by simp) (fun j hj => by cases hj; exact Nat.le_refl _)
          have x1 := b1'.out.trans (y1.mono z1)
          have y2 := hbl'.out.trans (x1.mono (by omega))
          obtain ⟨b', o', eq', hc', -⟩ := hcell'.out k hlt wX y2
          cases eq'
          rw [hby'.out] at hc'
          have hv2 := row_below hv'.out x1 hlw
          have hown2 := own_below hown'.out x1 (Nat.le_refl _)
          have hlow2 := Lib.hid hown2.lt
          have hv2' := Lib.hid hv2
          have hown2' := Lib.hid hown2
          have y2' := Lib.hid y2
          have hcv2 : wX.cell? ⟨w.heap.size, 0, none⟩ = some v := row_cell hv2 rfl
          have hfv2 := row_free hv2 0
          have hlw2 : w.heap.size < wX.heap.size := row_lt hv2
          clear hX gX zX y1 x1 y2 hv2 hown2 hcv hfv hc hv' hown' hlow' h1' b1'
          go_wp2_with fail
          go_region_law (first | (refine step_append_own rfl (.tmp 89) (.tmp 95) 55 rfl (w.heap.size + 1) 58 i0 (.agg #[.int .i64 0, .int .u64 0, .int .u64 0, .int .u64 0, .int .u64 0]) 5 40 Tryd.underlying55 hi0 hz0 hz1 hz2 rfl (by decide) v ps.length (pvs ps) (by simp [Act.eval]) ((own_below (w := World.drew wX) hown2'.out b1 (Nat.le_refl _)).alloc _) ⟨w1.heap.size, 0, none⟩ 1 1 [.int .i64 1, .int .u64 (word (ofL [(91 : Nat).toUInt8]) 0), .int .u64 (word (ofL [(91 : Nat).toUInt8]) 1), .int .u64 (word (ofL [(91 : Nat).toUInt8]) 2), .int .u64 (word (ofL [(91 : Nat).toUInt8]) 3)] (by simp [Act.eval]) rfl (five_new _ _ _ _ _ _ _) (five_one _ _ _ _ _) (by unfold maxLen; omega) (by omega) (by simp; omega) ?_; intro v2 w2 hown7 hg2; have hv7 := row_grown (row_alloc hv1 (.cells #[.int .i64 1, .int .u64 (word (ofL [(91 : Nat).toUInt8]) 0), .int .u64 (word (ofL [(91 : Nat).toUInt8]) 1), .int .u64 (word (ofL [(91 : Nat).toUInt8]) 2), .int .u64 (word (ofL [(91 : Nat).toUInt8]) 3)] 58)) hg2 (fun e => by have := hlow2.out _ e.symm; omega); have hcv7 := row_cell (i := 0) hv7 rfl; have hfv7 := row_free hv7 0; obtain ⟨av, cv, hve⟩ := own_slice hown7; subst hve; have hown8' := Lib.hid hown7; have hg2' := Lib.hid hg2; clear hown7 hg2 hv7) | (refine step_one_call rfl (.tmp 93) rfl (91 : Nat) (by decide) (by simp [Act.eval]) ?_; intro w1 b1; have hv1 := row_below (show wX.drew.heap[w.heap.size]? = _ from hv2'.out) b1 hlw2; have hcv1 := row_cell (i := 0) hv1 rfl; have z1 := b1.size; have z1' : wX.heap.size ≤ w1.heap.size := z1; have hlw1 : w.heap.size < w1.heap.size := Nat.lt_of_lt_of_le hlw2 z1'; have hfv1 := row_free hv1 0))
          all_goals
            have hb2 := ((((below_drewN y2'.out 1).trans (show Below w.heap.size (wX.drewN 1) w1 from b1.mono (show w.heap.size ≤ wX.heap.size by omega))).alloc (by omega) (.cells #[.int .i64 1, .int .u64 (word (ofL [(91 : Nat).toUInt8]) 0), .int .u64 (word (ofL [(91 : Nat).toUInt8]) 1), .int .u64 (word (ofL [(91 : Nat).toUInt8]) 2), .int .u64 (word (ofL [(91 : Nat).toUInt8]) 3)] 58)).grown hg2'.out (by simp; omega) (fun j hj => by have := hlow2.out _ hj; omega)).setCell (p := ⟨w.heap.size, 0, none⟩) (Nat.le_refl _) (.slice av (ps.length + 1) cv)
            have hq : IsPt (w2.setCell ⟨w.heap.size, 0, none⟩ (.slice av (ps.length + 1) cv)) w.heap.size w.heap.size (ps ++ [oneP (91 : Nat).toUInt8]) := pt_more (w := w1) (by omega) hv1 (fun j hj => by have := hlow2.out _ hj; omega) hg2'.out hown8'.out rfl
            have hq' := Lib.hid hq
            have hb2' := Lib.hid hb2
            clear hq hb2 hcv7 hfv7 hcv1 hfv1 hv1 b1
            go_wp2_with fail
            go_round
            case rel => exact ⟨k + 1, _, by omega, by go_num, ptAt_one hP'.out (by rw [hd'.out]; exact pt_open _ _ _ hr'.out), hq'.out, hb2'.out⟩
            case measure => simp [intOf]; omega
      
        | ok S n =>
          rw [hr] at h1
          have hn := brk_le _ _ _ _ _ hr
          rw [List.length_drop, hlen'.out] at hn
          have hok := ok_brk hr
          have hr' := Lib.hid hr
          have h1' := Lib.hid h1
          clear hr h1
          go_wp2_with fail
          refine h1'.out.mono ?_
          rintro e w1 ⟨rfl, b1⟩
          have b1' := Lib.hid b1
          have z1 : wr.heap.size ≤ w1.heap.size := b1.size
          clear b1
          go_wp2_with (refine store_set rfl rfl _ _ rfl _ _ rfl rfl ?_ ?_; (focus (apply Exists.intro; (repeat' (first | (with_reducible assumption) | (with_reducible apply IsSet.zero'; first | (with_reducible rfl) | (simp only [World.size_alloc]; done)) | (with_reducible apply IsSet.new'; first | (with_reducible rfl) | (simp only [World.size_alloc]; done)) | (with_reducible apply IsSet.sv; first | (with_reducible rfl) | (simp only [World.size_alloc]; done)) | (with_reducible apply IsSet.viaG; with_reducible assumption) | (with_reducible apply IsSet.viaB; with_reducible assumption) | (with_reducible apply IsSet.drew) | (with_reducible apply IsSet.store4) | (with_reducible apply IsSet.set_other) | (with_reducible apply IsSet.alloc) | (simp only [World.size_alloc]; omega) | omega | (simp; omega) | (simp; done))); done)); intro wX hX gX zX; (try simp only [World.size_alloc] at zX))
          have y1 := ((Below.refl w1.heap.size w1).alloc (Nat.le_refl _) (.cells #[.int .u64 0, .int .u64 0, .int .u64 0, .int .u64 0] 24)).grown gX (by simp) (fun j hj => by cases hj; exact Nat.le_refl _)
          have x1 := b1'.out.trans (y1.mono z1)
          have y2 := hbl'.out.trans (x1.mono (by omega))
          have hv2 := row_below hv'.out x1 hlw
          have hown2 := own_below hown'.out x1 (Nat.le_refl _)
          have hlow2 := Lib.hid hown2.lt
          have hv2' := Lib.hid hv2
          have hown2' := Lib.hid hown2
          have y2' := Lib.hid y2
          have hcv2 : wX.cell? ⟨w.heap.size, 0, none⟩ = some v := row_cell hv2 rfl
          have hfv2 := row_free hv2 0
          have hlw2 : w.heap.size < wX.heap.size := row_lt hv2
          have hs0 : wX.cell? ⟨w1.heap.size, 0, none⟩ = some (.int .u64 (word S 0)) := row_cell hX rfl
          have hs1 : wX.cell? ⟨w1.heap.size, 1, none⟩ = some (.int .u64 (word S 1)) := row_cell hX rfl
          have hs2 : wX.cell? ⟨w1.heap.size, 2, none⟩ = some (.int .u64 (word S 2)) := row_cell hX rfl
          have hs3 : wX.cell? ⟨w1.heap.size, 3, none⟩ = some (.int .u64 (word S 3)) := row_cell hX rfl
          have hlX : w1.heap.size < wX.heap.size := hX.lt
          clear hX gX zX y1 x1 y2 hv2 hown2 hcv hfv hc hv' hown' hlow' h1' b1'
          go_region_law (refine step_append_own rfl (.tmp 67) (.tmp 70) 55 rfl (w.heap.size + 1) 58 i0 (.agg #[.int .i64 0, .int .u64 0, .int .u64 0, .int .u64 0, .int .u64 0]) 5 40 Tryd.underlying55 hi0 hz0 hz1 hz2 rfl (by decide) v ps.length (pvs ps) (by simp [Act.eval]) ((show (World.drew wX).ownsRow _ _ _ _ _ _ from hown2'.out).alloc _) ⟨wX.heap.size, 0, none⟩ 1 1 [.int .i64 1, .int .u64 (word S 0), .int .u64 (word S 1), .int .u64 (word S 2), .int .u64 (word S 3)] (by simp [Act.eval]) rfl (five_new _ _ _ _ _ _ _) (five_one _ _ _ _ _) (by unfold maxLen; omega) (by omega) (by simp; omega) ?_; intro v2 w2 hown3 hg2; have hv3 := row_grown (row_alloc (show (World.drew wX).heap[w.heap.size]? = _ from hv2'.out) (.cells #[.int .i64 1, .int .u64 (word S 0), .int .u64 (word S 1), .int .u64 (word S 2), .int .u64 (word S 3)] 58)) hg2 (fun e => by have := hlow2.out _ e.symm; omega); have hcv3 := row_cell (i := 0) hv3 rfl; have hfv3 := row_free hv3 0; obtain ⟨av, cv, hve⟩ := own_slice hown3; subst hve; have hown3' := Lib.hid hown3; have hg2' := Lib.hid hg2; clear hown3 hg2 hv3)
          all_goals
            have hb2 := (((below_drewN y2'.out 1).alloc (by show w.heap.size ≤ wX.heap.size; omega) (.cells #[.int .i64 1, .int .u64 (word S 0), .int .u64 (word S 1), .int .u64 (word S 2), .int .u64 (word S 3)] 58)).grown hg2'.out (by simp; omega) (fun j hj => by have := hlow2.out _ hj; omega)).setCell (p := ⟨w.heap.size, 0, none⟩) (Nat.le_refl _) (.slice av (ps.length + 1) cv)
            have hq : IsPt (w2.setCell ⟨w.heap.size, 0, none⟩ (.slice av (ps.length + 1) cv)) w.heap.size w.heap.size (ps ++ [⟨1, S⟩]) := pt_more (w := World.drew wX) hlw2 hv2'.out hlow2.out hg2'.out hown3'.out rfl
            have hq' := Lib.hid hq
            have hb2' := Lib.hid hb2
            clear hq hb2 hcv3 hfv3
            go_wp2_with fail
            go_round
            case rel => exact ⟨n + (k + 1), _, by omega, by go_num, ptAt_one hP'.out (by rw [hd'.out]; exact (pt_set _ _ _ hr'.out).trans (by rw [List.drop_drop, Nat.add_comm (k + 1) n])), hq'.out, hb2'.out⟩
            case measure => simp [intOf]; omega
      by_cases h92 : c = 92
      · subst h92
        clear h42 h63 h91
        by_cases hlt2 : k + 1 < s.size
        · obtain ⟨b', o', eq', hc2, -⟩ := hcell'.out (k + 1) hlt2 wr hbl'.out
          cases eq'
          have hx2 := (s[k + 1]).toNat_lt
          have hgk2 := hget'.out (k + 1) hlt2
          obtain ⟨d, hde⟩ : ∃ d, d = (s[k + 1]).toNat := ⟨_, rfl⟩
          have hdu : s[k + 1] = d.toUInt8 := by rw [hde]; simp
          rw [hdu] at hgk2
          rw [← hde] at hc2 hx2
          have hd2 := Lib.hid (pt_drop hgk2)
          clear hgk2 hdu hde
          have hk0 : (0 : Int) ≤ (k : Int) + 1 := by omega
          go_wp2_with fail
          go_region_law (first | (refine step_append_own rfl (.tmp 89) (.tmp 95) 55 rfl (w.heap.size + 1) 58 i0 (.agg #[.int .i64 0, .int .u64 0, .int .u64 0, .int .u64 0, .int .u64 0]) 5 40 Tryd.underlying55 hi0 hz0 hz1 hz2 rfl (by decide) v ps.length (pvs ps) (by simp [Act.eval]) ((own_below (w := World.drew wr) hown'.out b1 (Nat.le_refl _)).alloc _) ⟨w1.heap.size, 0, none⟩ 1 1 [.int .i64 1, .int .u64 (word (ofL [d.toUInt8]) 0), .int .u64 (word (ofL [d.toUInt8]) 1), .int .u64 (word (ofL [d.toUInt8]) 2), .int .u64 (word (ofL [d.toUInt8]) 3)] (by simp [Act.eval]) rfl (five_new _ _ _ _ _ _ _) (five_one _ _ _ _ _) (by unfold maxLen; omega) (by omega) (by simp; omega) ?_; intro v2 w2 hown2 hg2; have hv2 := row_grown (row_alloc hv1 (.cells #[.int .i64 1, .int .u64 (word (ofL [d.toUInt8]) 0), .int .u64 (word (ofL [d.toUInt8]) 1), .int .u64 (word (ofL [d.toUInt8]) 2), .int .u64 (word (ofL [d.toUInt8]) 3)] 58)) hg2 (fun e => by have := hlow'.out _ e.symm; omega); have hcv2 := row_cell (i := 0) hv2 rfl; have hfv2 := row_free hv2 0; obtain ⟨av, cv, hve⟩ := own_slice hown2; subst hve; have hown2' := Lib.hid hown2; have hg2' := Lib.hid hg2; clear hown2 hg2 hv2) | (refine step_one_call rfl (.tmp 93) rfl d hx2 (by simp [Act.eval]) ?_; intro w1 b1; have hv1 := row_below (show wr.drew.heap[w.heap.size]? = _ from hv'.out) b1 hlw; have hcv1 := row_cell (i := 0) hv1 rfl; have z1 := b1.size; have z1' : wr.heap.size ≤ w1.heap.size := z1; have hlw1 : w.heap.size < w1.heap.size := Nat.lt_of_lt_of_le hlw z1'; have hfv1 := row_free hv1 0))
          all_goals
            have hb2 := ((((below_drewN hbl'.out 1).trans (show Below w.heap.size (wr.drewN 1) w1 from b1.mono (show w.heap.size ≤ wr.heap.size by omega))).alloc (by omega) (.cells #[.int .i64 1, .int .u64 (word (ofL [d.toUInt8]) 0), .int .u64 (word (ofL [d.toUInt8]) 1), .int .u64 (word (ofL [d.toUInt8]) 2), .int .u64 (word (ofL [d.toUInt8]) 3)] 58)).grown hg2'.out (by simp; omega) (fun j hj => by have := hlow'.out _ hj; omega)).setCell (p := ⟨w.heap.size, 0, none⟩) (Nat.le_refl _) (.slice av (ps.length + 1) cv)
            have hq : IsPt (w2.setCell ⟨w.heap.size, 0, none⟩ (.slice av (ps.length + 1) cv)) w.heap.size w.heap.size (ps ++ [oneP d.toUInt8]) := pt_more (w := w1) (by omega) hv1 (fun j hj => by have := hlow'.out _ hj; omega) hg2'.out hown2'.out rfl
            have hq' := Lib.hid hq
            have hb2' := Lib.hid hb2
            clear hq hb2 hcv2 hfv2 hcv1 hfv1 hv1 b1
            go_wp2_with fail
            go_round
            case rel => exact ⟨k + 2, _, by omega, by go_num, ptAt_one hP'.out (by rw [hd'.out, hd2.out]; exact pt_quoted _ _), hq'.out, hb2'.out⟩
            case measure => simp [intOf]; omega
      
        · have hke : k + 1 = s.size := by omega
          have hdn : l.drop (k + 1) = [] := List.drop_eq_nil_of_le (by rw [hlen'.out]; omega)
          have hdn' := Lib.hid hdn
          clear hdn
          go_wp2_with fail
          go_region_law (first | (refine step_append_own rfl (.tmp 89) (.tmp 95) 55 rfl (w.heap.size + 1) 58 i0 (.agg #[.int .i64 0, .int .u64 0, .int .u64 0, .int .u64 0, .int .u64 0]) 5 40 Tryd.underlying55 hi0 hz0 hz1 hz2 rfl (by decide) v ps.length (pvs ps) (by simp [Act.eval]) ((own_below (w := World.drew wr) hown'.out b1 (Nat.le_refl _)).alloc _) ⟨w1.heap.size, 0, none⟩ 1 1 [.int .i64 1, .int .u64 (word (ofL [(92 : Nat).toUInt8]) 0), .int .u64 (word (ofL [(92 : Nat).toUInt8]) 1), .int .u64 (word (ofL [(92 : Nat).toUInt8]) 2), .int .u64 (word (ofL [(92 : Nat).toUInt8]) 3)] (by simp [Act.eval]) rfl (five_new _ _ _ _ _ _ _) (five_one _ _ _ _ _) (by unfold maxLen; omega) (by omega) (by simp; omega) ?_; intro v2 w2 hown2 hg2; have hv2 := row_grown (row_alloc hv1 (.cells #[.int .i64 1, .int .u64 (word (ofL [(92 : Nat).toUInt8]) 0), .int .u64 (word (ofL [(92 : Nat).toUInt8]) 1), .int .u64 (word (ofL [(92 : Nat).toUInt8]) 2), .int .u64 (word (ofL [(92 : Nat).toUInt8]) 3)] 58)) hg2 (fun e => by have := hlow'.out _ e.symm; omega); have hcv2 := row_cell (i := 0) hv2 rfl; have hfv2 := row_free hv2 0; obtain ⟨av, cv, hve⟩ := own_slice hown2; subst hve; have hown2' := Lib.hid hown2; have hg2' := Lib.hid hg2; clear hown2 hg2 hv2) | (refine step_one_call rfl (.tmp 93) rfl (92 : Nat) (by decide) (by simp [Act.eval]) ?_; intro w1 b1; have hv1 := row_below (show wr.drew.heap[w.heap.size]? = _ from hv'.out) b1 hlw; have hcv1 := row_cell (i := 0) hv1 rfl; have z1 := b1.size; have z1' : wr.heap.size ≤ w1.heap.size := z1; have hlw1 : w.heap.size < w1.heap.size := Nat.lt_of_lt_of_le hlw z1'; have hfv1 := row_free hv1 0))
          all_goals
            have hb2 := ((((below_drewN hbl'.out 1).trans (show Below w.heap.size (wr.drewN 1) w1 from b1.mono (show w.heap.size ≤ wr.heap.size by omega))).alloc (by omega) (.cells #[.int .i64 1, .int .u64 (word (ofL [(92 : Nat).toUInt8]) 0), .int .u64 (word (ofL [(92 : Nat).toUInt8]) 1), .int .u64 (word (ofL [(92 : Nat).toUInt8]) 2), .int .u64 (word (ofL [(92 : Nat).toUInt8]) 3)] 58)).grown hg2'.out (by simp; omega) (fun j hj => by have := hlow'.out _ hj; omega)).setCell (p := ⟨w.heap.size, 0, none⟩) (Nat.le_refl _) (.slice av (ps.length + 1) cv)
            have hq : IsPt (w2.setCell ⟨w.heap.size, 0, none⟩ (.slice av (ps.length + 1) cv)) w.heap.size w.heap.size (ps ++ [oneP (92 : Nat).toUInt8]) := pt_more (w := w1) (by omega) hv1 (fun j hj => by have := hlow'.out _ hj; omega) hg2'.out hown2'.out rfl
            have hq' := Lib.hid hq
            have hb2' := Lib.hid hb2
            clear hq hb2 hcv2 hfv2 hcv1 hfv1 hv1 b1
            go_wp2_with fail
            go_round
            case rel => exact ⟨k + 1, _, by omega, by go_num, ptAt_one hP'.out (by rw [hd'.out, hdn'.out]; exact pt_end), hq'.out, hb2'.out⟩
            case measure => simp [intOf]; omega
      have e42 : ((c : Int) == 42) = false := by simp; omega
      have e63 : ((c : Int) == 63) = false := by simp; omega
      have e91 : ((c : Int) == 91) = false := by simp; omega
      have e92 : ((c : Int) == 92) = false := by simp; omega
      have hel := Lib.hid (pt_else c.toUInt8 (l.drop (k + 1)) (u8_ne c 42 hx h42) (u8_ne c 63 hx h63) (u8_ne c 91 hx h91) (u8_ne c 92 hx h92))
      clear h42 h63 h91 h92
      go_wp2_with fail
      go_region_law (first | (refine step_append_own rfl (.tmp 89) (.tmp 95) 55 rfl (w.heap.size + 1) 58 i0 (.agg #[.int .i64 0, .int .u64 0, .int .u64 0, .int .u64 0, .int .u64 0]) 5 40 Tryd.underlying55 hi0 hz0 hz1 hz2 rfl (by decide) v ps.length (pvs ps) (by simp [Act.eval]) ((own_below (w := World.drew wr) hown'.out b1 (Nat.le_refl _)).alloc _) ⟨w1.heap.size, 0, none⟩ 1 1 [.int .i64 1, .int .u64 (word (ofL [c.toUInt8]) 0), .int .u64 (word (ofL [c.toUInt8]) 1), .int .u64 (word (ofL [c.toUInt8]) 2), .int .u64 (word (ofL [c.toUInt8]) 3)] (by simp [Act.eval]) rfl (five_new _ _ _ _ _ _ _) (five_one _ _ _ _ _) (by unfold maxLen; omega) (by omega) (by simp; omega) ?_; intro v2 w2 hown2 hg2; have hv2 := row_grown (row_alloc hv1 (.cells #[.int .i64 1, .int .u64 (word (ofL [c.toUInt8]) 0), .int .u64 (word (ofL [c.toUInt8]) 1), .int .u64 (word (ofL [c.toUInt8]) 2), .int .u64 (word (ofL [c.toUInt8]) 3)] 58)) hg2 (fun e => by have := hlow'.out _ e.symm; omega); have hcv2 := row_cell (i := 0) hv2 rfl; have hfv2 := row_free hv2 0; obtain ⟨av, cv, hve⟩ := own_slice hown2; subst hve; have hown2' := Lib.hid hown2; have hg2' := Lib.hid hg2; clear hown2 hg2 hv2) | (refine step_one_call rfl (.tmp 93) rfl c hx (by simp [Act.eval]) ?_; intro w1 b1; have hv1 := row_below (show wr.drew.heap[w.heap.size]? = _ from hv'.out) b1 hlw; have hcv1 := row_cell (i := 0) hv1 rfl; have z1 := b1.size; have z1' : wr.heap.size ≤ w1.heap.size := z1; have hlw1 : w.heap.size < w1.heap.size := Nat.lt_of_lt_of_le hlw z1'; have hfv1 := row_free hv1 0))
      all_goals
        have hb2 := ((((below_drewN hbl'.out 1).trans (show Below w.heap.size (wr.drewN 1) w1 from b1.mono (show w.heap.size ≤ wr.heap.size by omega))).alloc (by omega) (.cells #[.int .i64 1, .int .u64 (word (ofL [c.toUInt8]) 0), .int .u64 (word (ofL [c.toUInt8]) 1), .int .u64 (word (ofL [c.toUInt8]) 2), .int .u64 (word (ofL [c.toUInt8]) 3)] 58)).grown hg2'.out (by simp; omega) (fun j hj => by have := hlow'.out _ hj; omega)).setCell (p := ⟨w.heap.size, 0, none⟩) (Nat.le_refl _) (.slice av (ps.length + 1) cv)
        have hq : IsPt (w2.setCell ⟨w.heap.size, 0, none⟩ (.slice av (ps.length + 1) cv)) w.heap.size w.heap.size (ps ++ [oneP c.toUInt8]) := pt_more (w := w1) (by omega) hv1 (fun j hj => by have := hlow'.out _ hj; omega) hg2'.out hown2'.out rfl
        have hq' := Lib.hid hq
        have hb2' := Lib.hid hb2
        clear hq hb2 hcv2 hfv2 hcv1 hfv1 hv1 b1
        go_wp2_with fail
        go_round
        case rel => exact ⟨k + 1, _, by omega, by go_num, ptAt_one hP'.out (by rw [hd'.out]; exact hel.out), hq'.out, hb2'.out⟩
        case measure => simp [intOf]; omega

    · have hke : k = s.size := by omega
      subst hke
      have hps : pt l = ps := by
        have h := hP'.out
        unfold PtAt at h
        rw [h, List.drop_eq_nil_of_le (Nat.le_of_eq hlen'.out), pt_nil, List.append_nil]
      have hI : IsPt wr w.heap.size w.heap.size (pt l) := by rw [hps]; exact ⟨Nat.le_refl _, v, hv'.out, hown'.out, hne'.out⟩
      have hI' := Lib.hid hI
      clear hI hps
      go_wp2_with fail
      rw [Exit.noGoto_ret]
      go_ret2
      exact ⟨_, rfl, hI'.out, hbl'.out⟩
end Go.Proofs.YteeopjgfiojoiaaDoor
namespace Go.Proofs.YteeopjgfiojoiaaDoor
open Go Go.RowKit SN

theorem fields_pc : ((Tryd.prog.fieldsOf 58).toList.map fun f => (f.name, f.type, f.offset)) = [("Kind", 3, 0), ("Set", 24, 1)] := by kernel_rfl
theorem eq_set_at (d A : Nat) (w : World) : (Op.equalIn (d + 2) 24 (sv A) (sv A)).run Tryd.prog w = .ok true w := by
  obtain ⟨i, hi⟩ := info_u64'
  obtain ⟨p0, p1, p2, p3⟩ := parts4 (word A 0) (word A 1) (word A 2) (word A 3) w
  show (Op.equalIn (d + 1 + 1) 24 (.agg #[.int .u64 (word A 0), .int .u64 (word A 1), .int .u64 (word A 2), .int .u64 (word A 3)]) (.agg #[.int .u64 (word A 0), .int .u64 (word A 1), .int .u64 (word A 2), .int .u64 (word A 3)])).run Tryd.prog w = .ok true w
  rw [run_equalIn_array w (d + 1) _ _ Tryd.underlying24 hi, cells_u64]
  rw [show List.range 4 = [0, 1, 2, 3] from rfl]
  have e0 := eq_u64 d (word A 0) (word A 0) w
  have e1 := eq_u64 d (word A 1) (word A 1) w
  have e2 := eq_u64 d (word A 2) (word A 2) w
  have e3 := eq_u64 d (word A 3) (word A 3) w
  simp only [Op.eqItems, Sem.run_bind, Sem.run_ite, p0, p1, p2, p3, Result.andThen_ok, e0, e1, e2, e3]
  simp
theorem part_k (k : Int) (a b c d : Int) (w : World) : (part 3 #[.int .i64 k, .int .u64 a, .int .u64 b, .int .u64 c, .int .u64 d] 0).run Tryd.prog w = .ok (.int .i64 k) w := by kernel_rfl
theorem part_s (k : Int) (a b c d : Int) (w : World) : (part 24 #[.int .i64 k, .int .u64 a, .int .u64 b, .int .u64 c, .int .u64 d] 1).run Tryd.prog w = .ok (.agg #[.int .u64 a, .int .u64 b, .int .u64 c, .int .u64 d]) w := by kernel_rfl
theorem under_pc : Tryd.prog.underlying 58 = some (.struct (Tryd.prog.fieldsOf 58)) := by kernel_rfl
theorem neq_pc (p : Pie) (w : World) : (binOp .neq 58 (pv p) (pv p)).run Tryd.prog w = .ok (.bool false) w := by
  unfold pv
  rw [run_neq_struct, run_equalIn_struct w 9999 58 _ _ under_pc (by kernel_rfl)]
  have hf := fields_pc
  generalize (Tryd.prog.fieldsOf 58).toList = fs at hf
  rcases fs with _ | ⟨f, _ | ⟨g, _ | ⟨_, _⟩⟩⟩ <;> simp at hf
  obtain ⟨⟨f1, f2, f3⟩, ⟨g1, g2, g3⟩⟩ := hf
  have ek : (Op.equalIn 9999 3 (.int .i64 p.kind) (.int .i64 p.kind)).run Tryd.prog w = .ok true w := by
    rw [show (9999 : Nat) = 9998 + 1 from rfl, run_equalIn_int w 9998 3 .i64 .i64 _ _ Tryd.underlying3]
    simp
  have es : (Op.equalIn 9999 24 (.agg #[.int .u64 (word p.set 0), .int .u64 (word p.set 1), .int .u64 (word p.set 2), .int .u64 (word p.set 3)]) (.agg #[.int .u64 (word p.set 0), .int .u64 (word p.set 1), .int .u64 (word p.set 2), .int .u64 (word p.set 3)])).run Tryd.prog w = .ok true w := eq_set_at 9997 p.set w
  simp only [Op.eqFields, f1, f2, f3, g1, g2, g3, pcl, Sem.run_bind, Sem.run_ite, part_k, part_s, Result.andThen_ok, ek, es]
  simp
theorem nePcGuard (x y : Operand) (p q : Pie) (w : World) : (eqGuard .neq 58 x y (pv p) (pv q)).run Tryd.prog w = .ok () w := run_eqGuard_agg w .neq _ x y _ _ (by kernel_rfl)

theorem pieces_nil (w : World) : Calls Tryd.prog 41 #[.pointer none] w fun e w' => e = .returned (.slice none 0 0) ∧ w' = w := by
  go_enter Tryd.func41, Tryd.ntmps41
  go_wp2
  go_ret
  exact ⟨rfl, rfl⟩
theorem pieces_any (B base : Nat) (l : List Pie) (w : World) (h : IsPt w base B l) (hl : l.length ≤ 512) :
    Calls Tryd.prog 41 #[.pointer (some ⟨B, 0, none⟩)] w fun e w' => ∃ v, e = .returned v ∧ w'.ownsRow w.heap.size 58 5 v l.length (pvs l) ∧ Below w.heap.size w w' := by
  obtain ⟨i0, hi0, hz0, hz1, hz2⟩ := info_parts info_pc
  obtain ⟨hb, v, hv, hown, hne⟩ := h
  have hcv : w.cell? ⟨B, 0, none⟩ = some v := row_cell hv rfl
  have hlen := pvs_len l
  have hone := pvs_one l
  clear hne hb
  generalize hxs : pvs l = xs at hown hlen hone
  have hlen' := Lib.hid hlen
  have hone' := Lib.hid hone
  have hxs' := Lib.hid hxs
  clear hlen hone hxs hv
  obtain ⟨-, ⟨rfl, hn⟩ | ⟨g, cap, cur, rfl, hg, hh, hc1, hc2, hc3, hc4⟩⟩ := id hown
  · obtain rfl : xs = [] := List.eq_nil_of_length_eq_zero (by rw [hlen'.out, hn])
    generalize l.length = n at hn
    subst hn
    go_enter Tryd.func41, Tryd.ntmps41
    go_wp2_with (at_builtin; refine wpList_append_own_none rfl _ _ 55 rfl w.heap.size 58 i0 5 Tryd.underlying55 hi0 _ _ _ rfl (World.ownsRow_nil _ _ _ _) rfl ?_)
    go_ret
    exact ⟨_, rfl, World.ownsRow_nil _ _ _ _, Below.refl _ _⟩
  · have hcells := hown.cells rfl
    generalize l.length = n at *
    have hcells' := Lib.hid hcells
    clear hown hcells hh hc3 hc4 hg
    go_enter Tryd.func41, Tryd.ntmps41
    go_wp2_with (at_builtin; refine wpList_append_own _ rfl _ _ 55 rfl w.heap.size 58 i0 (.agg #[.int .i64 0, .int .u64 0, .int .u64 0, .int .u64 0, .int .u64 0]) 5 40 Tryd.underlying55 hi0 hz0 hz1 hz2 rfl (by decide) _ 0 [] rfl (World.ownsRow_nil _ _ _ _) ⟨g, 0, none⟩ n cap xs rfl hlen'.out hcells'.out hone'.out (by unfold maxLen; omega) (by omega) (Nat.le_refl _) ?_; intro v1 w1 hown1 hg1 _; have hown1' := Lib.hid hown1; have hg1' := Lib.hid hg1; clear hown1 hg1)
    go_ret
    refine ⟨_, rfl, ?_, ?_⟩
    · have := hown1'.out
      rw [Nat.zero_add, List.nil_append] at this
      exact this
    · exact (Below.refl _ _).grown hg1'.out (Nat.le_refl _) (fun j hj => by cases hj)
theorem pvs_at (l : List Pie) (k j : Nat) (hk : k < l.length) (hj : j < 5) : (pvs l)[k * 5 + j]? = (pcl (l[k]'hk)).toList[j]? := by
  induction l generalizing k with
  | nil => simp at hk
  | cons p l ih =>
    have e : pvs (p :: l) = (pcl p).toList ++ pvs l := by simp [pvs]
    rw [e]
    cases k with
    | zero =>
      rw [List.getElem?_append_left (by simp [pcl]; omega)]
      simp
    | succ k =>
      rw [List.getElem?_append_right (by simp [pcl]; omega)]
      have : (k + 1) * 5 + j - (pcl p).toList.length = k * 5 + j := by simp [pcl]; omega
      rw [this, ih k (by simpa using hk)]
      simp
theorem quiet_neq_pc {o : Oper} {a : Act} {C : World → Prop} {K : Act → Prop} (x y : Operand) (ho : o.op = .binOp .neq 58 x y 58) (p : Pie) (hx : a.eval x = pv p) (hy : a.eval y = pv p) (hk : K (a.put o.dst (.bool false))) : o.quiet Tryd.prog a C K :=
  ⟨.bool false, fun w _ => by unfold Oper.quietAt execOp; simp only [ho, hx, hy, Sem.run_bind, nePcGuard, neq_pc, Result.andThen_ok]; exact ⟨rfl, rfl⟩, hk⟩
theorem same_nil (w : World) : Calls Tryd.prog 40 #[.slice none 0 0, .slice none 0 0] w fun e w' => e = .returned (.bool true) ∧ w' = w := by
  go_enter Tryd.func40, Tryd.ntmps40
  go_wp2
  go_loopw [13] (fun i wr => i = .int .i64 0 ∧ wr = w) (fun i _ => 0)
  case atStart => exact ⟨rfl, rfl⟩
  case round =>
    obtain ⟨rfl, rfl⟩ := hrel
    go_wp2
    go_ret
    exact ⟨rfl, rfl⟩
theorem same_eq (g1 g2 c1 c2 b1 b2 : Nat) (l : List Pie) (w : World) (hl : l.length ≤ 1024)
    (h1 : w.ownsRow b1 58 5 (.slice (some ⟨g1, 0, none⟩) l.length c1) l.length (pvs l)) (h2 : w.ownsRow b2 58 5 (.slice (some ⟨g2, 0, none⟩) l.length c2) l.length (pvs l)) :
    Calls Tryd.prog 40 #[.slice (some ⟨g1, 0, none⟩) l.length c1, .slice (some ⟨g2, 0, none⟩) l.length c2] w fun e w' => e = .returned (.bool true) ∧ Below w.heap.size w w' := by
  have h1' := Lib.hid h1
  have h2' := Lib.hid h2
  have hpv := Lib.hid (pvs_at l)
  clear h1 h2
  go_enter Tryd.func40, Tryd.ntmps40
  go_wp2_with fail
  go_loopw [13] (fun i wr => ∃ (k : Nat), k ≤ l.length ∧ i = .int .i64 k ∧ Below w.heap.size w wr) (fun i _ => l.length - (intOf i).toNat)
  case atStart => exact ⟨0, Nat.zero_le _, rfl, Below.refl _ _⟩
  case round =>
    obtain ⟨k, hk, rfl, hb⟩ := hrel
    have hb' := Lib.hid hb
    clear hb
    by_cases hlt : k < l.length
    · have r1 := own_below h1'.out hb'.out (Nat.le_refl _)
      have r2 := own_below h2'.out hb'.out (Nat.le_refl _)
      have q1 : ∀ j, j < 5 → wr.cell? ⟨g1, k * 5 + j, none⟩ = (pcl (l[k]'hlt)).toList[j]? := fun j hj => (r1.cellAt _ (by omega)).trans (hpv.out k j hlt hj)
      have q2 : ∀ j, j < 5 → wr.cell? ⟨g2, k * 5 + j, none⟩ = (pcl (l[k]'hlt)).toList[j]? := fun j hj => (r2.cellAt _ (by omega)).trans (hpv.out k j hlt hj)
      obtain ⟨p, hp⟩ : ∃ p, p = l[k]'hlt := ⟨_, rfl⟩
      rw [← hp] at q1 q2
      have a0 : wr.cell? ⟨g1, k * 5, none⟩ = some (.int .i64 p.kind) := q1 0 (by decide)
      have a1 : wr.cell? ⟨g1, k * 5 + 1, none⟩ = some (.int .u64 (word p.set 0)) := q1 1 (by decide)
      have a2 : wr.cell? ⟨g1, k * 5 + 2, none⟩ = some (.int .u64 (word p.set 1)) := q1 2 (by decide)
      have a3 : wr.cell? ⟨g1, k * 5 + 3, none⟩ = some (.int .u64 (word p.set 2)) := q1 3 (by decide)
      have a4 : wr.cell? ⟨g1, k * 5 + 4, none⟩ = some (.int .u64 (word p.set 3)) := q1 4 (by decide)
      have d0 : wr.cell? ⟨g2, k * 5, none⟩ = some (.int .i64 p.kind) := q2 0 (by decide)
      have d1 : wr.cell? ⟨g2, k * 5 + 1, none⟩ = some (.int .u64 (word p.set 0)) := q2 1 (by decide)
      have d2 : wr.cell? ⟨g2, k * 5 + 2, none⟩ = some (.int .u64 (word p.set 1)) := q2 2 (by decide)
      have d3 : wr.cell? ⟨g2, k * 5 + 3, none⟩ = some (.int .u64 (word p.set 2)) := q2 3 (by decide)
      have d4 : wr.cell? ⟨g2, k * 5 + 4, none⟩ = some (.int .u64 (word p.set 3)) := q2 4 (by decide)
      have hnp := Lib.hid (neq_pc p)
      clear q1 q2 r1 r2 hp
      go_wp2_with fail
      refine wp_region_quiet_lit (by kernel_rfl) (by kernel_rfl) ?_
      repeat (quiet_step (fail))
      refine BigFrame.wpQuiet_want (by simp [Region.wanted]) fun K hK => ?_
      refine quiet_neq_pc (.tmp 19) (.tmp 23) rfl p rfl rfl (hK _ ?_)
      refine wpQuiet_nil ?_
      rintro _ ⟨nq, rfl⟩
      have hb2 := Lib.hid (below_drewN hb'.out nq)
      clear a0 a1 a2 a3 a4 d0 d1 d2 d3 d4 hK hb'
      go_wp2_with fail
      go_round
      case rel => exact ⟨k + 1, by omega, by go_num, hb2.out⟩
      case measure => simp [intOf]; omega
    · have hke : k = l.length := by omega
      subst hke
      go_wp2_with fail
      go_ret
      exact ⟨rfl, hb'.out⟩
end Go.Proofs.YteeopjgfiojoiaaDoor
namespace Go.Proofs.YteeopjgfiojoiaaDoor
open Go Go.RowKit SN

def pieT (p : Pie) : List UInt8 := if p.kind = 3 then [42] else if p.kind = 2 then [63] else txt p.set
def strV (l : List UInt8) : Value := .string ⟨l.toArray⟩
def ptxts (l : List Pie) : List (List UInt8) := l.map pieT
def ptxt (l : List Pie) : List UInt8 := Lib.join (ptxts l) [32]
theorem txt_le (S : Nat) : (txt S).length ≤ 1600 := by
  have := inner_len S
  unfold txt
  simp; omega
theorem pieT_len (p : Pie) : (pieT p).length ≤ 1600 := by
  unfold pieT
  split
  · simp
  split
  · simp
  · exact txt_le _
theorem join_len (xs : List (List UInt8)) (h : ∀ x ∈ xs, x.length ≤ 1600) : (Lib.join xs [32]).length ≤ xs.length * 1601 := by
  have tail : ∀ r : List (List UInt8), (∀ x ∈ r, x.length ≤ 1600) → (Lib.joinTail [32] r).length ≤ r.length * 1601 := by
    intro r
    induction r with
    | nil => intro _; simp [Lib.joinTail]
    | cons x r ih =>
      intro hr
      have h1 := ih (fun y hy => hr y (List.mem_cons_of_mem _ hy))
      have h2 := hr x List.mem_cons_self
      simp only [Lib.joinTail, List.map_cons, List.flatten_cons, List.length_append, List.length_cons, List.length_nil] at h1 ⊢
      omega
  cases xs with
  | nil => simp [Lib.join_nil]
  | cons x r =>
    rw [Lib.join_cons, List.length_append, List.length_cons]
    have h1 := tail r (fun y hy => h y (List.mem_cons_of_mem _ hy))
    have h2 := h x List.mem_cons_self
    omega
theorem ptxt_len (l : List Pie) : (ptxt l).length ≤ l.length * 1601 := by
  have h := join_len (ptxts l) (fun x hx => by
    obtain ⟨p, -, rfl⟩ := List.mem_map.1 hx
    exact pieT_len p)
  rw [show (ptxts l).length = l.length by simp [ptxts]] at h
  exact h
theorem info_str : (Tryd.prog.info? 9).map (fun i => (i.zero, i.size, i.bytes)) = some (some (.string ⟨#[]⟩), 1, 16) := by kernel_rfl
theorem ptext_nil (w : World) : Calls Tryd.prog 42 #[.pointer none] w fun e w' => e = .returned (.string ⟨#[]⟩) ∧ w' = w := by
  go_enter Tryd.func42, Tryd.ntmps42
  go_wp2
  go_ret
  exact ⟨rfl, rfl⟩
theorem one_newS (w : World) (v : Value) (t : TypeId) : ∀ (j : Nat) x, [v][j]? = some x → (w.alloc (.cells #[v] t)).cell? ((⟨w.heap.size, 0, none⟩ : Addr).add j) = some x := by
  intro j x hj
  match j, hj with
  | 0, hj => simp at hj; subst hj; simp [Addr.add]
theorem one_newB (w : World) (v : Value) (t : TypeId) (b : Nat) (e : b = w.heap.size) : ∀ (j : Nat) x, [v][j]? = some x → (w.alloc (.cells #[v] t)).cell? ((⟨b, 0, none⟩ : Addr).add j) = some x := by
  subst e; exact one_newS w v t
theorem one_str (s : ByteArray) : ∀ u ∈ ([.string s] : List Value), u.oneCell' = true := by
  intro u hu; simp at hu; rcases hu with rfl; rfl
def strVs (l : List Pie) : List Value := l.map fun p => strV (pieT p)
theorem strVs_snoc (l : List Pie) (p : Pie) : strVs (l ++ [p]) = strVs l ++ [strV (pieT p)] := by simp [strVs]
set_option maxHeartbeats 1000000 in
set_option maxRecDepth 100000 in
theorem ptext_any (B base : Nat) (l : List Pie) (w : World) (h : IsPt w base B l) (hl : l.length ≤ 512) (hok : ∀ p ∈ l, Ok p.set ∧ (p.kind = 1 ∨ p.kind = 2 ∨ p.kind = 3)) :
    Calls Tryd.prog 42 #[.pointer (some ⟨B, 0, none⟩)] w fun e w' => e = .returned (.string ⟨(ptxt l).toArray⟩) ∧ Below w.heap.size w w' := by
  obtain ⟨i0, hi0, hz0, hz1, hz2⟩ := info_parts info_str
  obtain ⟨hb, v, hv, hown, hne⟩ := h
  have hcv : w.cell? ⟨B, 0, none⟩ = some v := row_cell hv rfl
  clear hne hb hv
  have hok' := Lib.hid hok
  have hown' := Lib.hid hown
  have hpv := Lib.hid (pvs_at l)
  clear hok
  obtain ⟨a, c, rfl⟩ := own_slice hown
  clear hown
  go_enter Tryd.func42, Tryd.ntmps42
  go_wp2_with fail
  go_loopw [13, 3] (fun i v wr => ∃ (k : Nat), k ≤ l.length ∧ i = .int .i64 k ∧ wr.ownsRow w.heap.size 9 1 v k (strVs (l.take k)) ∧ Below w.heap.size w wr) (fun i _ _ => l.length - (intOf i).toNat)
  case atStart => exact ⟨0, Nat.zero_le _, rfl, World.ownsRow_nil _ _ _ _, Below.refl _ _⟩
  case round =>
    obtain ⟨k, hk, rfl, hr, hb⟩ := hrel
    have hr' := Lib.hid hr
    have hb' := Lib.hid hb
    have hzb := hb.size
    clear hr hb
    by_cases hlt : k < l.length
    · have r1 := own_below hown'.out hb'.out (Nat.le_refl _)
      obtain ⟨-, ⟨e, hn⟩ | ⟨g, cap, cur, e, -⟩⟩ := id r1
      · omega
      injection e with ea _ ec
      subst ea ec
      have q1 : ∀ j, j < 5 → wr.cell? ⟨g, k * 5 + j, none⟩ = (pcl (l[k]'hlt)).toList[j]? := fun j hj => (r1.cellAt _ (by omega)).trans (hpv.out k j hlt hj)
      have hpm : l[k]'hlt ∈ l := List.getElem_mem _
      have htk : l.take (k + 1) = l.take k ++ [l[k]'hlt] := by rw [List.take_succ_eq_append_getElem hlt]
      obtain ⟨p, hp⟩ : ∃ p, p = l[k]'hlt := ⟨_, rfl⟩
      rw [← hp] at q1 hpm htk
      obtain ⟨hokS, hkind⟩ := hok'.out p hpm
      have a0 : wr.cell? ⟨g, k * 5, none⟩ = some (.int .i64 p.kind) := q1 0 (by decide)
      have a1 : wr.cell? ⟨g, k * 5 + 1, none⟩ = some (.int .u64 (word p.set 0)) := q1 1 (by decide)
      have a2 : wr.cell? ⟨g, k * 5 + 2, none⟩ = some (.int .u64 (word p.set 1)) := q1 2 (by decide)
      have a3 : wr.cell? ⟨g, k * 5 + 3, none⟩ = some (.int .u64 (word p.set 2)) := q1 3 (by decide)
      have a4 : wr.cell? ⟨g, k * 5 + 4, none⟩ = some (.int .u64 (word p.set 3)) := q1 4 (by decide)
      have htk' := Lib.hid htk
      clear q1 r1 hp hpm htk
      rcases hkind with hk1 | hk2 | hk3
      · have hpT : strV (pieT p) = .string ⟨(txt p.set).toArray⟩ := by unfold pieT; rw [if_neg (by omega), if_neg (by omega)]; rfl
        have hpT' := Lib.hid hpT
        clear hpT
        go_wp2_with fail
        refine (Text_any p.set hokS _).mono ?_
        rintro e w1 ⟨rfl, hb1⟩
        have hzA := hb1.size
        have hr1 := own_below (hr'.out.alloc (.cells #[.int .i64 1, .int .u64 (word p.set 0), .int .u64 (word p.set 1), .int .u64 (word p.set 2), .int .u64 (word p.set 3)] 58)) hb1 (Nat.le_refl _)
        have hb3 := (hb'.out.alloc hzb (.cells #[.int .i64 1, .int .u64 (word p.set 0), .int .u64 (word p.set 1), .int .u64 (word p.set 2), .int .u64 (word p.set 3)] 58)).trans (hb1.mono (by simp; omega))
        have hr1' := Lib.hid hr1
        have hb3' := Lib.hid hb3
        have hlow1' := Lib.hid hr1.lt
        have hzz : w.heap.size ≤ w1.heap.size := hb3.size
        clear hb1 hr1 hb3
        generalize hT : (⟨(txt p.set).toArray⟩ : ByteArray) = T at hpT'
        clear hT
        go_wp2_with (at_builtin; refine wpList_append_own _ rfl _ _ 100 rfl w.heap.size 9 i0 (.string ⟨#[]⟩) 1 16 Tryd.underlying100 hi0 hz0 hz1 hz2 rfl (by decide) _ k (strVs (l.take k)) rfl (hr1'.out.alloc _) ⟨w1.heap.size, 0, none⟩ 1 1 [.string T] rfl rfl (one_newB _ _ _ _ (by simp)) (one_str _) (by unfold maxLen; omega) (by omega) (by simp; omega) ?_; intro v1 w2 hown2 hg2 _; have hown2' := Lib.hid hown2; have hg2' := Lib.hid hg2; clear hown2 hg2)
        have hb2 := (hb3'.out.alloc hzz (.cells #[.string T] 9)).grown hg2'.out (by simp; omega) (fun j hj => by have := (fun j hj => (hlow1'.out j hj).1) j hj; omega)
        have hown3 : w2.ownsRow w.heap.size 9 1 v1 (k + 1) (strVs (l.take (k + 1))) := by
          rw [htk'.out, strVs_snoc, hpT'.out]
          exact hown2'.out
        have hown3' := Lib.hid hown3
        have hb2' := Lib.hid hb2
        clear hb2 hown3 a0 a1 a2 a3 a4
        go_wp2_with fail
        go_round
        case rel => exact ⟨k + 1, by omega, by go_num, hown3'.out, hb2'.out⟩
        case measure => simp [intOf]; omega
      · have hpT : strV (pieT p) = .string ⟨#[63]⟩ := by unfold pieT; rw [if_neg (by omega), if_pos hk2]; rfl
        have hpT' := Lib.hid hpT
        have hlow' := Lib.hid hr'.out.lt
        clear hpT
        go_wp2_with (at_builtin; refine wpList_append_own _ rfl _ _ 100 rfl w.heap.size 9 i0 (.string ⟨#[]⟩) 1 16 Tryd.underlying100 hi0 hz0 hz1 hz2 rfl (by decide) _ k (strVs (l.take k)) rfl ((hr'.out.alloc _).alloc _) ⟨wr.heap.size + 1, 0, none⟩ 1 1 [.string ⟨#[63]⟩] rfl rfl (one_newB _ _ _ _ (by simp)) (one_str _) (by unfold maxLen; omega) (by omega) (by simp; omega) ?_; intro v1 w2 hown2 hg2 _; have hown2' := Lib.hid hown2; have hg2' := Lib.hid hg2; clear hown2 hg2)
        have hb2 := ((hb'.out.alloc hzb (.cells #[.int .i64 2, .int .u64 (word p.set 0), .int .u64 (word p.set 1), .int .u64 (word p.set 2), .int .u64 (word p.set 3)] 58)).alloc (by simp; omega) (.cells #[.string ⟨#[63]⟩] 9)).grown hg2'.out (by simp; omega) (fun j hj => by have := (fun j hj => (hlow'.out j hj).1) j hj; omega)
        have hown3 : w2.ownsRow w.heap.size 9 1 v1 (k + 1) (strVs (l.take (k + 1))) := by
          rw [htk'.out, strVs_snoc, hpT'.out]
          exact hown2'.out
        have hown3' := Lib.hid hown3
        have hb2' := Lib.hid hb2
        clear hb2 hown3 a0 a1 a2 a3 a4
        go_wp2_with fail
        go_round
        case rel => exact ⟨k + 1, by omega, by go_num, hown3'.out, hb2'.out⟩
        case measure => simp [intOf]; omega
      · have hpT : strV (pieT p) = .string ⟨#[42]⟩ := by unfold pieT; rw [if_pos hk3]; rfl
        have hpT' := Lib.hid hpT
        have hlow' := Lib.hid hr'.out.lt
        clear hpT
        go_wp2_with (at_builtin; refine wpList_append_own _ rfl _ _ 100 rfl w.heap.size 9 i0 (.string ⟨#[]⟩) 1 16 Tryd.underlying100 hi0 hz0 hz1 hz2 rfl (by decide) _ k (strVs (l.take k)) rfl ((hr'.out.alloc _).alloc _) ⟨wr.heap.size + 1, 0, none⟩ 1 1 [.string ⟨#[42]⟩] rfl rfl (one_newB _ _ _ _ (by simp)) (one_str _) (by unfold maxLen; omega) (by omega) (by simp; omega) ?_; intro v1 w2 hown2 hg2 _; have hown2' := Lib.hid hown2; have hg2' := Lib.hid hg2; clear hown2 hg2)
        have hb2 := ((hb'.out.alloc hzb (.cells #[.int .i64 3, .int .u64 (word p.set 0), .int .u64 (word p.set 1), .int .u64 (word p.set 2), .int .u64 (word p.set 3)] 58)).alloc (by simp; omega) (.cells #[.string ⟨#[42]⟩] 9)).grown hg2'.out (by simp; omega) (fun j hj => by have := (fun j hj => (hlow'.out j hj).1) j hj; omega)
        have hown3 : w2.ownsRow w.heap.size 9 1 v1 (k + 1) (strVs (l.take (k + 1))) := by
          rw [htk'.out, strVs_snoc, hpT'.out]
          exact hown2'.out
        have hown3' := Lib.hid hown3
        have hb2' := Lib.hid hb2
        clear hb2 hown3 a0 a1 a2 a3 a4
        go_wp2_with fail
        go_round
        case rel => exact ⟨k + 1, by omega, by go_num, hown3'.out, hb2'.out⟩
        case measure => simp [intOf]; omega
    · have hke : k = l.length := by omega
      subst hke
      have hr2 := hr'.out
      rw [List.take_length] at hr2
      obtain ⟨hr3, ⟨rfl, hn⟩ | ⟨g, cap, cur, rfl, hg, hh, hc1, hc2, hc3, hc4⟩⟩ := id hr2
      · have hl0 : l = [] := List.eq_nil_of_length_eq_zero hn
        subst hl0
        clear hr2
        go_wp2_with fail
        refine (Tryd.strings_Join_none none 0 _ _).mono ?_
        rintro e w1 ⟨rfl, rfl⟩
        go_wp2_with fail
        go_ret
        exact ⟨rfl, hb'.out⟩
      · have hcells := hr2.cellAt
        have hlg := lt_of_block hh
        have hxs : (l.map fun p => (⟨(pieT p).toArray⟩ : ByteArray)).length = l.length := by simp
        have hjn := Tryd.strings_Join g 0 cap (l.map fun p => (⟨(pieT p).toArray⟩ : ByteArray)) ⟨#[32]⟩ wr (fun j x hj => by
            have hjl : j < l.length := by
              rcases Nat.lt_or_ge j l.length with h' | h'
              · exact h'
              · rw [List.getElem?_eq_none (by simpa using h')] at hj; cases hj
            have := hcells j (by omega)
            rw [Nat.zero_add, this]
            unfold strVs
            rw [List.getElem?_map] at hj ⊢
            rw [List.getElem?_eq_getElem hjl] at hj ⊢
            simp at hj ⊢
            rw [← hj]; rfl) hlg (by rw [hxs]; omega) (by rw [hxs]; exact hc1) (by
            have := ptxt_len l
            rw [show ((l.map fun p => (⟨(pieT p).toArray⟩ : ByteArray)).map fun x => x.data.toList) = ptxts l by simp [ptxts]]
            show (Lib.join (ptxts l) [32]).length ≤ _
            unfold ptxt at this
            omega)
        rw [hxs, show ((l.map fun p => (⟨(pieT p).toArray⟩ : ByteArray)).map fun x => x.data.toList) = ptxts l by simp [ptxts]] at hjn
        have hjn' := Lib.hid hjn
        clear hjn hcells hh hc4 hr2
        go_wp2_with fail
        refine hjn'.out.mono ?_
        rintro e w1 ⟨rfl, hb4⟩
        have hb5 := Lib.hid (hb'.out.trans (hb4.mono hzb))
        clear hjn' hb4
        go_wp2_with fail
        go_ret
        exact ⟨rfl, hb5.out⟩
end Go.Proofs.YteeopjgfiojoiaaDoor
namespace Go.Proofs.YteeopjgfiojoiaaDoor
open Go Go.RowKit SN

theorem pt_awake : pt (⟨#[97, 42, 91, 98, 45, 100, 93]⟩ : ByteArray).data.toList = [oneP 97, ⟨3, 0⟩, ⟨1, rng 98 100⟩] := by decide +kernel
theorem txt_awake : ptxt [oneP 97, ⟨3, 0⟩, ⟨1, rng 98 100⟩] = [91, 54, 49, 93, 32, 42, 32, 91, 54, 50, 45, 54, 52, 93] := by decide +kernel
theorem awake6_any {N : Nat} {E : Nat → Addr} (w : World) (hE : Errs N E w) (hN : N ≤ w.heap.size) :
    Calls Tryd.prog 38 #[] w fun e w' => e = .returned (.bool true) ∧ Below w.heap.size w w' := by
  have hE' := Lib.hid hE
  have hcv := Lib.run_convert_bytes_const (P := Tryd.prog) w 36 5 #[.int .u8 97, .int .u8 42, .int .u8 91, .int .u8 98, .int .u8 45, .int .u8 100, .int .u8 93] 7 7 Tryd.underlying36 Tryd.underlying5
  clear hE
  simp only [List.size_toArray, List.length_cons, List.length_nil] at hcv
  go_enter Tryd.func38, Tryd.ntmps38
  go_wp2_with fail
  have hn := heap_alloc_new w (.cells #[.int .u8 97, .int .u8 42, .int .u8 91, .int .u8 98, .int .u8 45, .int .u8 100, .int .u8 93] 5 (7, 8))
  have hS : HasB (w.alloc (.cells #[.int .u8 97, .int .u8 42, .int .u8 91, .int .u8 98, .int .u8 45, .int .u8 100, .int .u8 93] 5 (7, 8))) (some ⟨w.heap.size, 0, none⟩) ⟨#[97, 42, 91, 98, 45, 100, 93]⟩ := by
    refine .inr ⟨_, 0, rfl, fun i hi => ?_, by simp⟩
    have hi' : i < 7 := hi
    have h7 : i = 0 ∨ i = 1 ∨ i = 2 ∨ i = 3 ∨ i = 4 ∨ i = 5 ∨ i = 6 := by omega
    rcases h7 with rfl | rfl | rfl | rfl | rfl | rfl | rfl <;> (rw [cell_of_row _ _ _ _ _ _ hn]; rfl)
  have hb := parse_any (N := N) (E := E) (some ⟨w.heap.size, 0, none⟩) ⟨#[97, 42, 91, 98, 45, 100, 93]⟩ 7 _ hS (by decide) (by decide) (hE'.out.alloc _ hN) (by simp; omega)
  rw [pt_awake] at hb
  clear hn hS
  refine hb.mono ?_
  clear hb hcv
  rintro e w3 ⟨B, rfl, hI, b3⟩
  have z3 := b3.size
  simp only [World.size_alloc] at z3
  have x3 := ((Below.refl w.heap.size w).alloc (Nat.le_refl _) (.cells #[.int .u8 97, .int .u8 42, .int .u8 91, .int .u8 98, .int .u8 45, .int .u8 100, .int .u8 93] 5 (7, 8))).trans (b3.mono (by simp))
  have x3' := Lib.hid x3
  have ht := ptext_any B _ [oneP 97, ⟨3, 0⟩, ⟨1, rng 98 100⟩] w3 hI (by decide) (by rw [← pt_awake]; exact pt_ok _)
  rw [txt_awake] at ht
  have ht' := Lib.hid ht
  clear ht hI b3 x3
  go_wp2_with fail
  refine ht'.out.mono ?_
  rintro e w4 ⟨rfl, b4⟩
  have x4 := Lib.hid (x3'.out.trans (b4.mono (by omega)))
  clear b4
  go_wp2_with fail
  go_ret
  exact ⟨rfl, x4.out⟩
theorem plain_nil (w : World) : Calls Tryd.prog 45 #[.pointer none] w fun e w' => e = .returned (.tuple #[.string ⟨#[]⟩, .bool false]) ∧ w' = w := by
  go_enter Tryd.func45, Tryd.ntmps45
  go_wp2
  go_ret2
  exact ⟨rfl, rfl⟩
theorem gnil_any {N : Nat} {E : Nat → Addr} (w : World) (hE : Errs N E w) (hN : N ≤ w.heap.size) :
    Calls Tryd.prog 13 #[] w fun e w' => e = .returned (.bool true) ∧ Below w.heap.size w w' := by
  have hE' := Lib.hid hE
  clear hE
  go_enter Tryd.func13, Tryd.ntmps13
  go_wp2_with (first | (go_at_call 45; refine (plain_nil _).mono ?_; rintro e w' ⟨rfl, rfl⟩) | (go_at_call 41; refine (pieces_nil _).mono ?_; rintro e w' ⟨rfl, rfl⟩) | (go_at_call 42; refine (ptext_nil _).mono ?_; rintro e w' ⟨rfl, rfl⟩) | (go_at_call 38; refine (awake6_any (N := N) (E := E) _ hE'.out hN).mono ?_; rintro e w' ⟨rfl, hb⟩))
  go_ret
  exact ⟨rfl, hb⟩
end Go.Proofs.YteeopjgfiojoiaaDoor
