/- A law for statements that draw their order and hold calls that make memory. No conditions of its own. -/
import Derived.Orders
import Derived.RegionTactic
import Derived.BigCall
import Derived.WalkKit
import Derived.Test.YtfnaooplpofgiaaGreatDoorKErr
namespace Go.Proofs.YtfnaooplpofgiaaGreatDoor
open Go

/-- A frame with the values u in the slots of a list (slot, number). -/
def putL : List (Option Tmp × Nat) → (Nat → Value) → Act → Act
  | [], _, a => a
  | (d, i) :: r, u, a => putL r u (a.put d (u i))
def ownAt (ds : List (Option Tmp × Nat)) (t : Tmp) : Option Nat := (ds.find? fun x => x.1 == some t).map (·.2)
theorem put_size (a : Act) (d : Option Tmp) (v : Value) : (a.put d v).tmps.size = a.tmps.size := by cases d <;> simp [Act.put]
theorem put_defers' (a : Act) (d : Option Tmp) (v : Value) : (a.put d v).defers = a.defers := by cases d <;> rfl
theorem put_at (a : Act) (d : Option Tmp) (v : Value) (t : Nat) : (a.put d v).tmps[t]? = if d = some t ∧ t < a.tmps.size then some v else a.tmps[t]? := by
  cases d with
  | none => simp [Act.put]
  | some e =>
    simp only [Act.put, Option.some.injEq, Array.getElem?_setIfInBounds]
    by_cases h : e = t
    · subst h
      by_cases hl : e < a.tmps.size
      · simp [hl]
      · simp [hl]
    · simp [h]
theorem putL_spec (u : Nat → Value) : ∀ (ds : List (Option Tmp × Nat)) (a : Act), (∀ x ∈ ds, ∀ y ∈ ds, x.1 = y.1 → x.1 ≠ none → x.2 = y.2) →
    (putL ds u a).defers = a.defers ∧ (putL ds u a).tmps.size = a.tmps.size ∧
    ∀ t, (putL ds u a).tmps[t]? = match ownAt ds t with | some i => if t < a.tmps.size then some (u i) else none | none => a.tmps[t]?
  | [], a, _ => ⟨rfl, rfl, fun _ => rfl⟩
  | (d, i) :: r, a, hd => by
    obtain ⟨h1, h2, h3⟩ := putL_spec u r (a.put d (u i)) fun x hx y hy => hd x (List.mem_cons_of_mem _ hx) y (List.mem_cons_of_mem _ hy)
    refine ⟨h1.trans (put_defers' _ _ _), h2.trans (put_size _ _ _), fun t => ?_⟩
    show (putL r u (a.put d (u i))).tmps[t]? = _
    rw [h3 t, put_size, put_at]
    unfold ownAt
    rw [List.find?_cons]
    cases hf : r.find? fun x => x.1 == some t with
    | some x =>
      simp only [Option.map_some]
      by_cases he : d = some t
      · have hx := List.find?_some hf
        have hm := List.mem_of_find?_eq_some hf
        have := hd (d, i) (List.mem_cons_self ..) x (List.mem_cons_of_mem _ hm) (by rw [he]; simpa using (by simpa using hx : x.1 = some t).symm) (by rw [he]; simp)
        simp [he, ← this]
      · have : (d == some t) = false := by simpa using he
        simp [this]
    | none =>
      simp only [Option.map_none]
      by_cases he : d = some t
      · subst he
        by_cases hl : t < a.tmps.size
        · simp [hl]
        · simp [hl]
      · have : (d == some t) = false := by simpa using he
        simp [this, he]
/-- The operations of the plan, with their slots. -/
def planOf (ops : Array Oper) (D : Nat → Bool) : List (Option Tmp × Nat) := ((List.range ops.size).filter D).filterMap fun i => (ops[i]?).map fun o => (o.dst, i)
/-- Does an operation look at the slot of another? -/
def looksOn (ops : Array Oper) (o : Oper) (j : Nat) : Bool := match (ops[j]?).bind (·.dst) with | some t => (o.looksAt ops).contains t | none => false
section
variable {P : Program} {ops : Array Oper} {Q : Exit → Act → World → Prop} {md : Region.Mode}
/-- The closed checks: edges go back; what an operation looks at it waits for; slots differ; whatever stands outside the plan waits for all of it. -/
def planOk (md : Region.Mode) (ops : Array Oper) (D : Nat → Bool) : Bool :=
  Region.noSelect ops &&
  ((List.range ops.size).all fun i => match ops[i]? with
    | none => false
    | some o =>
      (o.after.all fun e => !Region.binds md e || decide (e.on < i)) &&
      ((List.range ops.size).all fun j => (!(D i && D j && looksOn ops o j)) || (o.after.any fun e => Region.binds md e && e.on == j)) &&
      ((List.range ops.size).all fun j => i == j || match ops[j]? with | some o2 => o.dst == none || !(D i && D j) || o.dst != o2.dst | none => true) &&
      (D i || (List.range ops.size).all fun j => !D j || o.after.any fun e => Region.binds md e && e.on == j))
end
theorem eval_congr {a b : Act} {o : Oper} (ops : Array Oper) (h : ∀ t ∈ o.looksAt ops, a.tmps[t]? = b.tmps[t]?) : ∀ x ∈ o.op.operands, a.eval x = b.eval x := by
  intro x hx
  cases x with
  | tmp t =>
    have ht : t ∈ o.looksAt ops := List.mem_append_left _ (List.mem_filterMap.2 ⟨.tmp t, by simpa using hx, rfl⟩)
    have := h t ht
    simp only [Act.eval, Array.getD_eq_getD_getElem?, this]
  | _ => rfl
theorem wanted_congr {a b : Act} {o : Oper} (ops : Array Oper) (h : ∀ t ∈ o.looksAt ops, a.tmps[t]? = b.tmps[t]?) : Region.wanted o (yielded ops a.tmps) = Region.wanted o (yielded ops b.tmps) := by
  unfold Region.wanted
  cases hg : o.guard with
  | none => rfl
  | some gw =>
    obtain ⟨g, want⟩ := gw
    have hy : yielded ops a.tmps g = yielded ops b.tmps g := by
      unfold yielded
      cases ht : (ops[g]?).bind (·.dst) with
      | none => rfl
      | some t =>
        have := h t (List.mem_append_right _ (by simp [hg, ht]))
        simp only [Option.bind_some, this]
    simp only [hy]
theorem put_inj {a b : Act} (hs : a.tmps.size = b.tmps.size) {d : Option Tmp} {v v' : Value} (h : b.put d v = b.put d v') : a.put d v = a.put d v' := by
  cases d with
  | none => rfl
  | some t =>
    by_cases hl : t < b.tmps.size
    · have := congrArg (fun x : Act => x.tmps[t]?) h
      simp [Act.put, hl] at this
      rw [this]
    · simp [Act.put, Array.setIfInBounds, hs, hl]
/-- From the plan's frame to the frame at hand. -/
theorem wp_move {P : Program} {ops : Array Oper} {o : Oper} {a b : Act} {w : World} {G : Value → World → Prop} {K : Act → World → Prop} {Q : Exit → Act → World → Prop} (hsel : ∀ cs b, o.op ≠ .select cs b) (hs : a.tmps.size = b.tmps.size) (h : ∀ t ∈ o.looksAt ops, a.tmps[t]? = b.tmps[t]?)
    (hb : o.wp P b w (fun a' w' => ∃ v, a' = b.put o.dst v ∧ G v w') (fun _ _ _ => False)) (hk : ∀ v w', G v w' → K (a.put o.dst v) w') : o.wp P a w K Q := by
  unfold Oper.wp at *
  rw [execOp_congr o hsel (eval_congr ops h)]
  generalize (execOp b.eval o).run P w = r at *
  have fix : ∀ v w', (∃ v', b.put o.dst v = b.put o.dst v' ∧ G v' w') → K (a.put o.dst v) w' := fun v w' ⟨v', e, g⟩ => by
    rw [put_inj hs e]; exact hk _ _ g
  cases r with
  | ok n w' =>
    cases n <;> simp only [Oper.upon] at hb ⊢
    case value u => exact fix u w' hb
    case skip => exact fix undef w' hb
    case defer d =>
      obtain ⟨v', e, -⟩ := hb
      have := congrArg Act.defers e
      rw [put_defers', put_defers'] at this
      exact absurd this (by simp)
    case enter f args =>
      refine Calls.mono hb fun e w'' he => ?_
      cases e with
      | returned u => exact fix u w'' he
      | panicked c => exact he.elim
      | outgrown => obtain ⟨_, _, h⟩ := he; exact h.elim
    case row row args => exact Rows.mono hb fun u w'' he => fix u w'' he
  | halt x w' => cases x <;> simp only [Oper.upon] at hb ⊢
theorem filter_lt {α : Type} {p p' : α → Bool} : ∀ l : List α, (∀ x ∈ l, p' x = true → p x = true) → (∃ x ∈ l, p x = true ∧ p' x = false) → (l.filter p').length < (l.filter p).length
  | [], _, ⟨_, h, _⟩ => by cases h
  | y :: l, h, ⟨x, hx, h1, h2⟩ => by
    have hle : (l.filter p').length ≤ (l.filter p).length := by
      clear h1 h2 hx
      induction l with
      | nil => exact Nat.le_refl _
      | cons z l ih =>
        have ih := ih (fun x hx => h x (by
          rcases List.mem_cons.1 hx with rfl | hx
          · exact List.mem_cons_self ..
          · exact List.mem_cons_of_mem _ (List.mem_cons_of_mem _ hx)))
        have hz := h z (List.mem_cons_of_mem _ (List.mem_cons_self ..))
        cases hp' : p' z <;> cases hp : p z <;> simp [hp, hp']
        · exact ih
        · omega
        · rw [hz hp'] at hp; cases hp
        · exact ih
    rcases List.mem_cons.1 hx with rfl | hx
    · simp [h1, h2]; omega
    · have ih := filter_lt l (fun x hx => h x (List.mem_cons_of_mem _ hx)) ⟨x, hx, h1, h2⟩
      have hy := h y (List.mem_cons_self ..)
      cases hp' : p' y <;> cases hp : p y <;> simp [hp, hp']
      · exact ih
      · omega
      · rw [hy hp'] at hp; cases hp
      · exact ih
theorem wpAny_more {P : Program} {ops : Array Oper} {Q : Exit → Act → World → Prop} {md : Region.Mode} : ∀ (f : Nat) (listed : Array Bool) (a : Act) (w : World), wpAny P md ops Q f listed a w → wpAny P md ops Q (f + 1) listed a w
  | 0, _, _, _, h => ⟨fun _ => h.2, fun i hi => by rw [h.1] at hi; cases hi⟩
  | _ + 1, _, _, _, h => ⟨h.1, fun i hi => wpOp_mono (fun a w => wpAny_more _ _ a w) (h.2 i hi)⟩
theorem wpAny_many {P : Program} {ops : Array Oper} {Q : Exit → Act → World → Prop} {md : Region.Mode} {f g : Nat} (hg : f ≤ g) {listed : Array Bool} {a : Act} {w : World} (h : wpAny P md ops Q f listed a w) : wpAny P md ops Q g listed a w := by
  induction hg with
  | refl => exact h
  | step _ ih => exact wpAny_more _ _ _ _ ih
section
variable {P : Program} {ops : Array Oper} {Q : Exit → Act → World → Prop} {md : Region.Mode} {D : Nat → Bool} {a0 : Act} {I : World → Prop} {St : World → World → Prop} {R : Nat → Value → World → Prop}
/-- Where the walk stands when just these have come up. -/
structure PSt (ops : Array Oper) (D : Nat → Bool) (a0 : Act) (I : World → Prop) (R : Nat → Value → World → Prop) (listed : Array Bool) (u : Nat → Value) (a : Act) (w : World) : Prop where
  size : listed.size = ops.size
  sub : ∀ i : Nat, listed.getD i false = true → D i = true
  defers : a.defers = a0.defers
  tsz : a.tmps.size = a0.tmps.size
  at1 : ∀ (i : Nat) (o : Oper) (t : Tmp), ops[i]? = some o → listed.getD i false = true → o.dst = some t → t < a0.tmps.size → a.tmps[t]? = some (u i)
  at2 : ∀ t : Tmp, (∀ (i : Nat) (o : Oper), ops[i]? = some o → listed.getD i false = true → o.dst ≠ some t) → a.tmps[t]? = a0.tmps[t]?
  rel : ∀ i : Nat, listed.getD i false = true → R i (u i) w
  inv : I w
theorem planOk_spec (h : planOk md ops D = true) :
    (∀ (j : Nat) (o : Oper) (cs : Array SelectCase) (b : Bool), ops[j]? = some o → o.op ≠ .select cs b) ∧
    ∀ (i : Nat) (o : Oper), ops[i]? = some o →
      (∀ e ∈ o.after, Region.binds md e = true → e.on < i) ∧
      (∀ j, j < ops.size → D i = true → D j = true → looksOn ops o j = true → ∃ e ∈ o.after, Region.binds md e = true ∧ e.on = j) ∧
      (∀ (j : Nat) (o2 : Oper), ops[j]? = some o2 → i ≠ j → D i = true → D j = true → o.dst ≠ none → o.dst ≠ o2.dst) ∧
      (D i = false → ∀ j, j < ops.size → D j = true → ∃ e ∈ o.after, Region.binds md e = true ∧ e.on = j) := by
  unfold planOk at h
  rw [Bool.and_eq_true] at h
  refine ⟨fun j o cs b => Region.noSelect_spec h.1 j o cs b, fun i o ho => ?_⟩
  have hi : i < ops.size := (Array.getElem?_eq_some_iff.1 ho).1
  have h2 := List.all_eq_true.1 h.2 i (List.mem_range.2 hi)
  rw [ho] at h2
  simp only [Bool.and_eq_true] at h2
  obtain ⟨⟨⟨c1, c2⟩, c3⟩, c4⟩ := h2
  refine ⟨fun e he hb => ?_, fun j hj hdi hdj hl => ?_, fun j o2 ho2 hne hdi hdj hn => ?_, fun hdi j hj hdj => ?_⟩
  · have := Array.all_eq_true_iff_forall_mem.1 c1 e he
    simpa [hb] using this
  · have := List.all_eq_true.1 c2 j (List.mem_range.2 hj)
    simp only [hdi, hdj, hl, Bool.and_self, Bool.not_true, Bool.false_or] at this
    obtain ⟨k, hk, hh⟩ := Array.any_eq_true.1 this
    simp only [Bool.and_eq_true, beq_iff_eq] at hh
    exact ⟨o.after[k], Array.getElem_mem hk, hh⟩
  · have hj : j < ops.size := (Array.getElem?_eq_some_iff.1 ho2).1
    have := List.all_eq_true.1 c3 j (List.mem_range.2 hj)
    rw [ho2] at this
    simp only [hdi, hdj] at this
    simpa [hne, hn] using this
  · rw [hdi, Bool.false_or] at c4
    have := List.all_eq_true.1 c4 j (List.mem_range.2 hj)
    simp only [hdj, Bool.not_true, Bool.false_or] at this
    obtain ⟨k, hk, hh⟩ := Array.any_eq_true.1 this
    simp only [Bool.and_eq_true, beq_iff_eq] at hh
    exact ⟨o.after[k], Array.getElem_mem hk, hh⟩
end
section
variable {P : Program} {ops : Array Oper} {Q : Exit → Act → World → Prop} {md : Region.Mode} {D : Nat → Bool} {a0 : Act} {I : World → Prop} {St : World → World → Prop} {R : Nat → Value → World → Prop}
theorem plan_mem {t : Tmp} {i : Nat} : (some t, i) ∈ planOf ops D ↔ ∃ o, ops[i]? = some o ∧ D i = true ∧ o.dst = some t := by
  unfold planOf
  simp only [List.mem_filterMap, List.mem_filter, List.mem_range, Option.map_eq_some_iff, Prod.mk.injEq]
  constructor
  · rintro ⟨j, ⟨_, hd⟩, o, ho, hdst, rfl⟩
    exact ⟨o, ho, hd, hdst⟩
  · rintro ⟨o, ho, hd, hdst⟩
    exact ⟨i, ⟨(Array.getElem?_eq_some_iff.1 ho).1, hd⟩, o, ho, hdst, rfl⟩
theorem plan_own (hok : planOk md ops D = true) {t : Tmp} {i : Nat} {o : Oper} (ho : ops[i]? = some o) (hd : D i = true) (hdst : o.dst = some t) : ownAt (planOf ops D) t = some i := by
  unfold ownAt
  have hm : (some t, i) ∈ planOf ops D := plan_mem.2 ⟨o, ho, hd, hdst⟩
  cases hf : (planOf ops D).find? fun x => x.1 == some t with
  | none =>
    have := List.find?_eq_none.1 hf _ hm
    simp at this
  | some x =>
    obtain ⟨d, j⟩ := x
    have hx : d = some t := by simpa using List.find?_some hf
    subst hx
    obtain ⟨o2, ho2, hd2, hdst2⟩ := plan_mem.1 (List.mem_of_find?_eq_some hf)
    by_cases hij : i = j
    · subst hij; rfl
    · have := ((planOk_spec hok).2 i o ho).2.2.1 j o2 ho2 hij hd hd2 (by rw [hdst]; simp)
      rw [hdst, hdst2] at this
      exact absurd rfl this
theorem plan_own_none {t : Tmp} (h : ∀ (i : Nat) (o : Oper), ops[i]? = some o → D i = true → o.dst ≠ some t) : ownAt (planOf ops D) t = none := by
  unfold ownAt
  cases hf : (planOf ops D).find? fun x => x.1 == some t with
  | none => rfl
  | some x =>
    obtain ⟨d, j⟩ := x
    have hx : d = some t := by simpa using List.find?_some hf
    subst hx
    obtain ⟨o2, ho2, hd2, hdst2⟩ := plan_mem.1 (List.mem_of_find?_eq_some hf)
    exact absurd hdst2 (h j o2 ho2 hd2)
theorem plan_frame (hok : planOk md ops D = true) (u : Nat → Value) : (putL (planOf ops D) u a0).defers = a0.defers ∧ (putL (planOf ops D) u a0).tmps.size = a0.tmps.size ∧
    ∀ t, (putL (planOf ops D) u a0).tmps[t]? = match ownAt (planOf ops D) t with | some i => if t < a0.tmps.size then some (u i) else none | none => a0.tmps[t]? := by
  refine putL_spec u _ a0 fun x hx y hy he hn => ?_
  obtain ⟨d, i⟩ := x
  obtain ⟨d2, j⟩ := y
  cases d with
  | none => exact absurd rfl hn
  | some t =>
    have hd : d2 = some t := he.symm
    subst hd
    obtain ⟨o, ho, h1, h2⟩ := plan_mem.1 hx
    obtain ⟨o', ho', h1', h2'⟩ := plan_mem.1 hy
    have e := plan_own hok ho h1 h2
    rw [plan_own hok ho' h1' h2'] at e
    exact (Option.some.inj e).symm
/-- What an operation that may come up looks at is the plan's frame. -/
theorem PSt.looks (hok : planOk md ops D = true) {listed : Array Bool} {u : Nat → Value} {a : Act} {w : World} (h : PSt ops D a0 I R listed u a w) {i : Nat} {o : Oper} (ho : ops[i]? = some o) (hd : D i = true)
    (hr : ∀ e ∈ o.after, Region.binds md e = true → listed.getD e.on false = true) : ∀ t ∈ o.looksAt ops, a.tmps[t]? = (putL (planOf ops D) u a0).tmps[t]? := by
  intro t ht
  obtain ⟨-, -, hf⟩ := plan_frame (a0 := a0) hok u
  rw [hf t]
  by_cases hex : ∃ (j : Nat) (o2 : Oper), ops[j]? = some o2 ∧ D j = true ∧ o2.dst = some t
  · obtain ⟨j, o2, ho2, hdj, hdst⟩ := hex
    rw [plan_own hok ho2 hdj hdst]
    have hl : looksOn ops o j = true := by unfold looksOn; simp [ho2, hdst, ht]
    obtain ⟨e, he, hb, hej⟩ := ((planOk_spec hok).2 i o ho).2.1 j (Array.getElem?_eq_some_iff.1 ho2).1 hd hdj hl
    have hlj := hr e he hb
    rw [hej] at hlj
    show a.tmps[t]? = if t < a0.tmps.size then some (u j) else none
    split
    next hlt => exact h.at1 j o2 t ho2 hlj hdst hlt
    next hge => exact Array.getElem?_eq_none (by rw [h.tsz]; exact Nat.le_of_not_lt hge)
  · rw [plan_own_none fun j o2 ho2 hdj hdst => hex ⟨j, o2, ho2, hdj, hdst⟩]
    exact h.at2 t fun j o2 ho2 hl hdst => hex ⟨j, o2, ho2, h.sub j hl, hdst⟩
theorem PSt.whole (hok : planOk md ops D = true) {listed : Array Bool} {u : Nat → Value} {a : Act} {w : World} (h : PSt ops D a0 I R listed u a w) (hall : ∀ i, i < ops.size → D i = true → listed.getD i false = true) : a = putL (planOf ops D) u a0 := by
  obtain ⟨h1, h2, hf⟩ := plan_frame (a0 := a0) hok u
  have ht : a.tmps = (putL (planOf ops D) u a0).tmps := by
    apply Array.ext_getElem?
    intro t
    rw [hf t]
    by_cases hex : ∃ (j : Nat) (o2 : Oper), ops[j]? = some o2 ∧ D j = true ∧ o2.dst = some t
    · obtain ⟨j, o2, ho2, hdj, hdst⟩ := hex
      rw [plan_own hok ho2 hdj hdst]
      show a.tmps[t]? = if t < a0.tmps.size then some (u j) else none
      split
      next hlt => exact h.at1 j o2 t ho2 (hall j (Array.getElem?_eq_some_iff.1 ho2).1 hdj) hdst hlt
      next hge => exact Array.getElem?_eq_none (by rw [h.tsz]; exact Nat.le_of_not_lt hge)
    · rw [plan_own_none fun j o2 ho2 hdj hdst => hex ⟨j, o2, ho2, hdj, hdst⟩]
      exact h.at2 t fun j o2 ho2 hl hdst => hex ⟨j, o2, ho2, h.sub j hl, hdst⟩
  cases a
  cases hb : putL (planOf ops D) u a0
  rw [hb] at ht h1
  simp only at ht
  have hd := h.defers
  simp only at hd h1
  rw [ht, hd, h1]
/-- What each operation owes: in the plan's frame, in every world that keeps I and in which what it looks at is as claimed. -/
def PlanOb (P : Program) (ops : Array Oper) (D : Nat → Bool) (a0 : Act) (I : World → Prop) (St : World → World → Prop) (R : Nat → Value → World → Prop) (i : Nat) (o : Oper) : Prop :=
  ∀ (u : Nat → Value) (W : World), I W → (∀ j, j < ops.size → D j = true → looksOn ops o j = true → R j (u j) W) →
    if Region.wanted o (yielded ops (putL (planOf ops D) u a0).tmps) = true then
      ∀ K : Act → World → Prop, (∀ v W', R i v W' → I W' → St W W' → K ((putL (planOf ops D) u a0).put o.dst v) W') → o.wp P (putL (planOf ops D) u a0) W K (fun _ _ _ => False)
    else ∀ W', W' = W → R i undef W' ∧ St W W'
theorem getD_set_true' {listed : Array Bool} {i j : Nat} (hi : i < listed.size) : (listed.setIfInBounds i true).getD j false = true ↔ j = i ∨ listed.getD j false = true := by
  by_cases h : i = j
  · subst h; simp [hi]
  · rw [getD_set_ne false h]
    constructor
    · exact .inr
    · rintro (e | e)
      · exact absurd e.symm h
      · exact e
theorem PSt.next (hok : planOk md ops D = true) (hst : ∀ j v W W', R j v W → St W W' → R j v W') {listed : Array Bool} {u : Nat → Value} {a : Act} {w w' : World} (h : PSt ops D a0 I R listed u a w) {i : Nat} {o : Oper} (ho : ops[i]? = some o) (hd : D i = true) (hun : listed.getD i true = false)
    {v : Value} (hr : R i v w') (hi : I w') (hs : St w w') : PSt ops D a0 I R (listed.setIfInBounds i true) (fun j => if j = i then v else u j) (a.put o.dst v) w' := by
  have hlt : i < listed.size := by rw [h.size]; exact (Array.getElem?_eq_some_iff.1 ho).1
  have hnl : listed.getD i false = false := by simpa [hlt] using hun
  refine ⟨by simp [h.size], fun j hj => ?_, (put_defers' _ _ _).trans h.defers, (put_size _ _ _).trans h.tsz, fun j o2 t ho2 hj hdst ht => ?_, fun t hn => ?_, fun j hj => ?_, hi⟩
  · rcases (getD_set_true' hlt).1 hj with rfl | hj
    · exact hd
    · exact h.sub j hj
  · rw [put_at]
    rcases (getD_set_true' hlt).1 hj with rfl | hj
    · obtain rfl : o = o2 := Option.some.inj (ho.symm.trans ho2)
      rw [if_pos ⟨hdst, by rw [h.tsz]; exact ht⟩, if_pos rfl]
    · have hij : i ≠ j := fun e => by subst e; rw [hnl] at hj; cases hj
      have hne : o.dst ≠ some t := fun e => by
        have := ((planOk_spec hok).2 i o ho).2.2.1 j o2 ho2 hij hd (h.sub j hj) (by rw [e]; simp)
        rw [e, hdst] at this
        exact this rfl
      rw [if_neg (fun e => hne e.1), if_neg (Ne.symm hij)]
      exact h.at1 j o2 t ho2 hj hdst ht
  · rw [put_at]
    have hne : o.dst ≠ some t := hn i o ho ((getD_set_true' hlt).2 (.inl rfl))
    rw [if_neg (fun e => hne e.1)]
    exact h.at2 t fun j o2 ho2 hj => hn j o2 ho2 ((getD_set_true' hlt).2 (.inr hj))
  · rcases (getD_set_true' hlt).1 hj with rfl | hj'
    · simp only [if_true]; exact hr
    · have hij : j ≠ i := fun e => by subst e; rw [hnl] at hj'; cases hj'
      simp only [if_neg hij]
      exact hst j _ _ _ (h.rel j hj') hs
def unl (ops : Array Oper) (D : Nat → Bool) (listed : Array Bool) : Nat := ((List.range ops.size).filter fun i => D i && !listed.getD i false).length
def listedOf (ops : Array Oper) (D : Nat → Bool) : Array Bool := ((List.range ops.size).map D).toArray
theorem plan_go (hok : planOk md ops D = true) (hst : ∀ j v W W', R j v W → St W W' → R j v W') (hob : ∀ (i : Nat) (o : Oper), ops[i]? = some o → D i = true → PlanOb P ops D a0 I St R i o) (fD : Nat)
    (hend : ∀ u W, I W → (∀ j, j < ops.size → D j = true → R j (u j) W) → wpAny P md ops Q fD (listedOf ops D) (putL (planOf ops D) u a0) W) :
    ∀ (fuel : Nat) (listed : Array Bool) (u : Nat → Value) (a : Act) (w : World), fD + unl ops D listed ≤ fuel → PSt ops D a0 I R listed u a w → wpAny P md ops Q fuel listed a w := by
  intro fuel
  induction fuel with
  | zero =>
    intro listed u a w hf h
    by_cases hall : ∀ i, i < ops.size → D i = true → listed.getD i false = true
    · have he : listed = listedOf ops D := by
        apply Array.ext
        · simp [listedOf, h.size]
        · intro i h1 h2
          simp only [listedOf, List.getElem_toArray, List.getElem_map, List.getElem_range]
          have hi : i < ops.size := by rw [← h.size]; exact h1
          cases hd : D i
          · cases hl : listed[i]
            · rfl
            · have := h.sub i (by simp [h1, hl]); rw [hd] at this; cases this
          · have := hall i hi hd
            simpa [h1] using this
      rw [h.whole hok hall, he]
      exact wpAny_many (by omega) (hend u w h.inv fun j hj hd => h.rel j (hall j hj hd))
    · exfalso
      simp only [Classical.not_forall] at hall
      obtain ⟨i, hi, hd, hl⟩ := hall
      have : 0 < unl ops D listed := List.length_pos_iff_exists_mem.2 ⟨i, List.mem_filter.2 ⟨List.mem_range.2 hi, by simp [hd]; simpa using hl⟩⟩
      omega
  | succ fuel ih =>
    intro listed u a w hf h
    by_cases hall : ∀ i, i < ops.size → D i = true → listed.getD i false = true
    · have he : listed = listedOf ops D := by
        apply Array.ext
        · simp [listedOf, h.size]
        · intro i h1 h2
          simp only [listedOf, List.getElem_toArray, List.getElem_map, List.getElem_range]
          have hi : i < ops.size := by rw [← h.size]; exact h1
          cases hd : D i
          · cases hl : listed[i]
            · rfl
            · have := h.sub i (by simp [h1, hl]); rw [hd] at this; cases this
          · have := hall i hi hd
            simpa [h1] using this
      rw [h.whole hok hall, he]
      exact wpAny_many (by omega) (hend u w h.inv fun j hj hd => h.rel j (hall j hj hd))
    · simp only [Classical.not_forall] at hall
      obtain ⟨i0, hi0, hd0, hl0⟩ := hall
      refine ⟨fun hr => ?_, fun i hi => ?_⟩
      · -- the least one that has not come up may come up
        exfalso
        have key : ∀ k, ∀ i, i ≤ k → i < ops.size → listed.getD i false = false → False := by
          intro k
          induction k with
          | zero =>
            intro i hik hi hl
            have hmem : i ∈ Region.ready md ops listed := by
              rw [mem_ready]
              refine ⟨by simpa [h.size ▸ hi] using hl, ops[i], by simp [hi], fun e he hb => ?_⟩
              have := ((planOk_spec hok).2 i ops[i] (by simp [hi])).1 e he hb
              omega
            rw [hr] at hmem; cases hmem
          | succ k ihk =>
            intro i hik hi hl
            have hmem : i ∈ Region.ready md ops listed := by
              rw [mem_ready]
              refine ⟨by simpa [h.size ▸ hi] using hl, ops[i], by simp [hi], fun e he hb => ?_⟩
              have hlt := ((planOk_spec hok).2 i ops[i] (by simp [hi])).1 e he hb
              cases hle : listed.getD e.on false with
              | true => rfl
              | false => exact (ihk e.on (by omega) (by omega) hle).elim
            rw [hr] at hmem; cases hmem
        exact key i0 i0 (Nat.le_refl _) hi0 (by simpa using hl0)
      · obtain ⟨hun, o, ho, hafter⟩ := mem_ready.1 hi
        have hi' : i < ops.size := (Array.getElem?_eq_some_iff.1 ho).1
        cases hd : D i with
        | false =>
          obtain ⟨e, he, hb, hej⟩ := ((planOk_spec hok).2 i o ho).2.2.2 hd i0 hi0 hd0
          have := hafter e he hb
          rw [hej] at this
          exact absurd this hl0
        | true =>
          have hlook := h.looks hok ho hd hafter
          have hu : unl ops D (listed.setIfInBounds i true) < unl ops D listed := by
            have hlt : i < listed.size := by rw [h.size]; exact hi'
            refine filter_lt _ (fun x _ hx => ?_) ⟨i, List.mem_range.2 hi', ?_, ?_⟩
            · simp only [Bool.and_eq_true, Bool.not_eq_true'] at hx ⊢
              refine ⟨hx.1, ?_⟩
              cases hlx : listed.getD x false with
              | false => rfl
              | true => rw [(getD_set_true' hlt).2 (.inr hlx)] at hx; exact absurd hx.2 (by simp)
            · have : listed.getD i false = false := by simpa [hlt] using hun
              rw [hd, this]; rfl
            · rw [(getD_set_true' hlt).2 (.inl rfl)]; simp
          have hR : ∀ j, j < ops.size → D j = true → looksOn ops o j = true → R j (u j) w := fun j hj hdj hl => by
            obtain ⟨e, he, hb, hej⟩ := ((planOk_spec hok).2 i o ho).2.1 j hj hd hdj hl
            have := hafter e he hb
            rw [hej] at this
            exact h.rel j this
          have hob1 := hob i o ho hd u w h.inv hR
          have hsz : a.tmps.size = (putL (planOf ops D) u a0).tmps.size := h.tsz.trans (plan_frame (a0 := a0) hok u).2.1.symm
          unfold wpOp
          rw [ho]
          simp only []
          rw [wanted_congr ops hlook]
          split
          next hw =>
            rw [if_pos hw] at hob1
            refine .inl (wp_move (G := fun v w' => R i v w' ∧ I w' ∧ St w w') ((planOk_spec hok).1 i o · · ho) hsz hlook (hob1 _ fun v W' h1 h2 h3 => ⟨v, rfl, h1, h2, h3⟩) fun v w' ⟨h1, h2, h3⟩ => ?_)
            exact ih _ _ _ _ (by omega) (h.next hok hst ho hd hun h1 h2 h3)
          next hw =>
            rw [if_neg hw] at hob1
            obtain ⟨h1, h3⟩ := hob1 w rfl
            exact ih _ _ _ _ (by omega) (h.next hok hst ho hd hun h1 h.inv h3)
/-- A region that draws its order, by a plan. -/
theorem wp_region_plan {id : Nat} {w : World} (D : Nat → Bool) (I : World → Prop) (St : World → World → Prop) (R : Nat → Value → World → Prop) (fD : Nat) (hm : P.follows .mixedOrders = true) (hok : planOk .any ops D = true) (hfD : decide (fD + unl ops D (Array.replicate ops.size false) ≤ ops.size) = true)
    (hst : ∀ j v W W', R j v W → St W W' → R j v W') (h0 : I w.drew) (hob : ∀ (i : Nat) (o : Oper), ops[i]? = some o → D i = true → PlanOb P ops D a0 I St R i o)
    (hend : ∀ u W, I W → (∀ j, j < ops.size → D j = true → R j (u j) W) → wpAny P .any ops Q fD (listedOf ops D) (putL (planOf ops D) u a0) W) : (Code.region id ops true).wp P Q a0 w := by
  refine wp_region_any hm (plan_go hok hst hob fD hend _ _ (fun _ => undef) _ _ (of_decide_eq_true hfD) ⟨by simp, fun i hi => ?_, rfl, rfl, fun i o t _ hi => ?_, fun t _ => rfl, fun i hi => ?_, h0⟩)
  all_goals
    exfalso
    rcases Nat.lt_or_ge i ops.size with h | h
    · simp [h] at hi
    · simp [h] at hi
end
/-- The operations of a region of a function. -/
def regionIn (id : Nat) : Code → Option (Array Oper)
  | .region i ops _ => if i == id then some ops else none
  | .seq a b => (regionIn id a).or (regionIn id b)
  | .cond _ a b => (regionIn id a).or (regionIn id b)
  | .block _ a => regionIn id a
  | .loop a => regionIn id a
  | .scope a => regionIn id a
  | .rangeFunc _ _ a b => (regionIn id a).or (regionIn id b)
  | _ => none
def regionOps (f : Func) (id : Nat) : Array Oper := ((f.body.bind (regionIn id)).getD #[])
theorem wp_region_swap {P : Program} {id : Nat} {o o' : Array Oper} {d : Bool} {Q : Exit → Act → World → Prop} {a : Act} {w : World} (h : o' = o) (hw : (Code.region id o' d).wp P Q a w) : (Code.region id o d).wp P Q a w := h ▸ hw
section
variable {P : Program} {ops : Array Oper} {D : Nat → Bool} {a0 : Act} {u : Nat → Value}
theorem plan_eval (hok : planOk .any ops D = true) {j : Nat} {t : Tmp} (hj : (ops[j]?).bind (·.dst) = some t) (hd : D j = true) (ht : t < a0.tmps.size) : (putL (planOf ops D) u a0).eval (.tmp t) = u j := by
  obtain ⟨o, ho, hdst⟩ := Option.bind_eq_some_iff.1 hj
  have h := (plan_frame (a0 := a0) hok u).2.2 t
  rw [plan_own hok ho hd hdst] at h
  simp only [if_pos ht] at h
  simp only [Act.eval, Array.getD_eq_getD_getElem?, h, Option.getD_some]
theorem plan_eval0 (hok : planOk .any ops D = true) {t : Tmp} (h0 : ownAt (planOf ops D) t = none) : (putL (planOf ops D) u a0).eval (.tmp t) = a0.eval (.tmp t) := by
  have h := (plan_frame (a0 := a0) hok u).2.2 t
  rw [h0] at h
  simp only [Act.eval, Array.getD_eq_getD_getElem?, h]
theorem plan_free {o : Oper} (h : o.guard = none) (a : Act) : Region.wanted o (yielded ops a.tmps) = true := by unfold Region.wanted; rw [h]
theorem plan_wanted {o : Oper} {g : Nat} {want b : Bool} {t : Tmp} {a : Act} (h : o.guard = some (g, want)) (hg : (ops[g]?).bind (·.dst) = some t) (hv : a.eval (.tmp t) = .bool b) : Region.wanted o (yielded ops a.tmps) = (some b == some want) := by
  unfold Region.wanted yielded
  rw [h]
  simp only [hg, Option.bind_some]
  have : a.tmps[t]? = some (.bool b) := by
    simp only [Act.eval, Array.getD_eq_getD_getElem?] at hv
    cases he : a.tmps[t]? with
    | none => rw [he] at hv; cases hv
    | some x => rw [he] at hv; exact congrArg some hv
  rw [this]
theorem ob_op {i : Nat} {o : Oper} {op : Op} {dst : Option Tmp} {g : Option (Nat × Bool)} (ho : ops[i]? = some o) (hp : (ops[i]?).map (fun o => (o.op, o.dst, o.guard)) = some (op, dst, g)) : o.op = op ∧ o.dst = dst ∧ o.guard = g := by
  rw [ho] at hp
  simp only [Option.map_some, Option.some.injEq, Prod.mk.injEq] at hp
  exact hp
theorem ob_look {i j : Nat} {o : Oper} (ho : ops[i]? = some o) (hl : (ops[i]?).map (fun o => looksOn ops o j) = some true) : looksOn ops o j = true := by
  rw [ho] at hl
  exact Option.some.inj hl
end
section
variable {P : Program} {o : Oper} {a : Act} {w : World} {K : Act → World → Prop} {Q : Exit → Act → World → Prop}
theorem opw_move {x : Operand} {v : Value} (ho : o.op = .move x) (hx : a.eval x = v) (h : K (a.put o.dst v) w) : o.wp P a w K Q := by
  unfold Oper.wp execOp; simp only [ho]; rw [hx]; exact h
theorem opw_assign {x : Operand} {v : Value} (ho : o.op = .assign x) (hx : a.eval x = v) (h : K (a.put o.dst v) w) : o.wp P a w K Q := by
  unfold Oper.wp execOp; simp only [ho]; rw [hx]; exact h
theorem opw_run {v : Value} {w' : World} (h : (execOp a.eval o).run P w = .ok (.value v) w') (hk : K (a.put o.dst v) w') : o.wp P a w K Q := by
  unfold Oper.wp; rw [h]; exact hk
theorem run_enter {f : FuncId} {fn : Func} (hf : P.funcs[f]? = some fn) (hname : (fn.name == "runtime.NumGoroutine") = false) (hb : fn.body.isSome = true) (args : Array Value) (w : World) : (callFunc f args).run P w = .ok (.enter f args) w := by
  have h1 : fn.name ≠ "runtime.NumGoroutine" := by simpa using hname
  obtain ⟨c, hc⟩ := Option.isSome_iff_exists.1 hb
  simp [callFunc, hf, h1, hc]
theorem opw_call {f : FuncId} {xs : Array Operand} {ts : Array TypeId} {vs : Array Value} {fn : Func} {R : Ending → World → Prop} (ho : o.op = .call { callee := .value (.func f), args := xs, argTypes := ts }) (hx : xs.map a.eval = vs)
    (hf : P.funcs[f]? = some fn) (hname : (fn.name == "runtime.NumGoroutine") = false) (hb : fn.body.isSome = true) (hc : Calls P f vs w R)
    (hr : ∀ e w', R e w' → ∃ v, e = .returned v ∧ K (a.put o.dst v) w') : o.wp P a w K Q := by
  obtain ⟨dst, op, ty, pos, after, guard⟩ := o
  simp only at ho
  subst ho
  unfold Oper.wp
  rw [execOp_call_go, hx]
  simp only [Array.empty_append, Array.append_empty]
  rw [run_enter hf hname hb]
  refine Calls.mono hc fun e w' h => ?_
  obtain ⟨v, rfl, hk⟩ := hr e w' h
  exact hk
theorem opw_pick {x y z : Operand} {b : Bool} {v : Value} (ho : o.op = .pick x y z) (hx : a.eval x = .bool b) (hv : (if b then a.eval y else a.eval z) = v) (h : K (a.put o.dst v) w) : o.wp P a w K Q := by
  refine opw_run (v := v) (w' := w) ?_ h
  unfold execOp
  simp only [ho, hx, asBool, Sem.run_bind, Sem.run_pure, Result.andThen_ok]
  rw [hv]
theorem opw_bin {op : BinOp} {t s : TypeId} {x y : Operand} {v1 v2 v : Value} (ho : o.op = .binOp op t x y s) (hx : a.eval x = v1) (hy : a.eval y = v2) (hg : (eqGuard op t x y v1 v2).run P w = .ok () w) (hr : (binOp op t v1 v2).run P w = .ok v w) (h : K (a.put o.dst v) w) : o.wp P a w K Q := by
  refine opw_run (v := v) (w' := w) ?_ h
  unfold execOp
  simp only [ho, hx, hy, Sem.run_bind, hg, hr, Result.andThen_ok, Sem.run_pure]
theorem opw_convert {s d : TypeId} {x : Operand} {v1 v : Value} (ho : o.op = .convert s d x) (hx : a.eval x = v1) (hr : (convert s d v1).run P w = .ok v w) (h : K (a.put o.dst v) w) : o.wp P a w K Q := by
  refine opw_run (v := v) (w' := w) ?_ h
  unfold execOp
  simp only [ho, hx, Sem.run_bind, hr, Result.andThen_ok, Sem.run_pure]
theorem opw_build {t : TypeId} {ps : Array (Nat × Operand)} {vs : Array (Nat × Value)} {v : Value} (ho : o.op = .build t ps) (hx : (ps.map fun (i, x) => (i, a.eval x)) = vs) (hr : (Instr.build t vs).run P w = .ok v w) (h : K (a.put o.dst v) w) : o.wp P a w K Q := by
  refine opw_run (v := v) (w' := w) ?_ h
  unfold execOp
  simp only [ho, hx, Sem.run_bind, hr, Result.andThen_ok, Sem.run_pure]
theorem opw_buildSlice {t : TypeId} {n : Nat} {ps : Array (Nat × Operand)} {vs : Array (Nat × Value)} {v : Value} {w' : World} (ho : o.op = .buildSlice t n ps) (hx : (ps.map fun (i, x) => (i, a.eval x)) = vs) (hr : (Instr.buildSlice t n vs).run P w = .ok v w') (h : K (a.put o.dst v) w') : o.wp P a w K Q := by
  refine opw_run (v := v) (w' := w') ?_ h
  unfold execOp
  simp only [ho, hx, Sem.run_bind, hr, Result.andThen_ok, Sem.run_pure]
theorem opw_len {x : Operand} {ts : Array TypeId} {v1 v : Value} (ho : o.op = .call { callee := .builtin .len, args := #[x], argTypes := ts }) (hx : a.eval x = v1) (hr : ∀ ty, (Builtin.len_ ts ty #[v1]).run P w = .ok v w) (h : K (a.put o.dst v) w) : o.wp P a w K Q := by
  obtain ⟨dst, op, ty, pos, after, guard⟩ := o
  simp only at ho
  subst ho
  refine opw_run (v := v) (w' := w) ?_ h
  rw [BigFrame.execOp_builtin, BigFrame.builtin_len]
  simp only [List.map_toArray, List.map_cons, List.map_nil, hx, Sem.run_bind, hr, Result.andThen_ok, Sem.run_pure]
end
end Go.Proofs.YtfnaooplpofgiaaGreatDoor
namespace Go.Proofs.YtfnaooplpofgiaaGreatDoor
open Go Go.RowKit SN

/-- What is claimed of an operation's value. -/
inductive Claim where
  | val (v : Value)
  | any (p : Value → World → Prop) (h : ∀ v W W', p v W → Below W.heap.size W W' → p v W')
def Claim.holds : Claim → Value → World → Prop
  | .val x, v, _ => v = x
  | .any p _, v, W => p v W
def Claim.tup3 (x y : Value) (p : Value → World → Prop) (hp : ∀ v W W', p v W → Below W.heap.size W W' → p v W') : Claim :=
  .any (fun t W => ∃ v, t = .tuple #[x, y, v] ∧ p v W) fun _ W W' ⟨v, e, h⟩ hb => ⟨v, e, hp v W W' h hb⟩
def cl (cs : List Claim) (j : Nat) (v : Value) (W : World) : Prop := ∃ c, cs[j]? = some c ∧ c.holds v W
theorem cl_st (cs : List Claim) (j : Nat) (v : Value) (W W' : World) (h : cl cs j v W) (hs : Below W.heap.size W W') : cl cs j v W' := by
  obtain ⟨c, hc, h⟩ := h
  refine ⟨c, hc, ?_⟩
  cases c with
  | val x => exact h
  | any p hp => exact hp _ _ _ h hs
/-- The world as the statement goes on. -/
def Inv (base : Nat) (w0 W : World) : Prop := Below base w0 W ∧ base ≤ W.heap.size
def Stp (W W' : World) : Prop := Below W.heap.size W W'
theorem Inv.step {base : Nat} {w0 W W' : World} (h : Inv base w0 W) (hs : Below W.heap.size W W') : Inv base w0 W' := ⟨h.1.trans (hs.mono h.2), Nat.le_trans h.2 hs.size⟩
def upto (n : Nat) : Nat → Bool := fun j => decide (j < n)
def PO (ops : Array Oper) (n : Nat) (a0 : Act) (base : Nat) (w0 : World) (cs : List Claim) (i : Nat) : Prop :=
  ∀ o, ops[i]? = some o → PlanOb Tryz.prog ops (upto n) a0 (Inv base w0) Stp (cl cs) i o
def slotOk (ops : Array Oper) (n sz i j : Nat) (t : Tmp) : Bool :=
  decide (j < ops.size) && decide (j < n) && decide (t < sz) && ((ops[j]?).bind (·.dst) == some t) && ((ops[i]?).map (fun o => looksOn ops o j) == some true)
section
variable {ops : Array Oper} {n : Nat} {a0 : Act} {u : Nat → Value} {cs : List Claim} {W : World} {i j : Nat} {o : Oper} {t : Tmp}
theorem ev_cl (hok : planOk .any ops (upto n) = true) (hR : ∀ j, j < ops.size → upto n j = true → looksOn ops o j = true → cl cs j (u j) W) (ho : ops[i]? = some o) (hs : slotOk ops n a0.tmps.size i j t = true) : (putL (planOf ops (upto n)) u a0).eval (.tmp t) = u j ∧ cl cs j (u j) W := by
  unfold slotOk at hs
  simp only [Bool.and_eq_true, beq_iff_eq, decide_eq_true_eq] at hs
  obtain ⟨⟨⟨⟨h1, h2⟩, h3⟩, h4⟩, h5⟩ := hs
  exact ⟨plan_eval hok h4 (decide_eq_true h2) h3, hR j h1 (decide_eq_true h2) (ob_look ho h5)⟩
theorem ev_val {v : Value} (hok : planOk .any ops (upto n) = true) (hR : ∀ j, j < ops.size → upto n j = true → looksOn ops o j = true → cl cs j (u j) W) (ho : ops[i]? = some o) (hs : slotOk ops n a0.tmps.size i j t = true) (hc : cs[j]? = some (.val v)) : (putL (planOf ops (upto n)) u a0).eval (.tmp t) = v := by
  obtain ⟨e, c, h1, h2⟩ := ev_cl hok hR ho hs
  rw [hc] at h1
  cases h1
  exact e.trans h2
theorem ev_base (hok : planOk .any ops (upto n) = true) (h : ownAt (planOf ops (upto n)) t = none) {v : Value} (hv : a0.eval (.tmp t) = v) : (putL (planOf ops (upto n)) u a0).eval (.tmp t) = v := (plan_eval0 hok h).trans hv
theorem wanted_yes {g : Nat} {want : Bool} (h : o.guard = some (g, want)) (hg : (ops[g]?).bind (·.dst) = some t) {a : Act} (hv : a.eval (.tmp t) = .bool want) : Region.wanted o (yielded ops a.tmps) = true := by
  rw [plan_wanted h hg hv]; simp
theorem wanted_no {g : Nat} {want : Bool} (h : o.guard = some (g, want)) (hg : (ops[g]?).bind (·.dst) = some t) {a : Act} (hv : a.eval (.tmp t) = .bool (!want)) : ¬Region.wanted o (yielded ops a.tmps) = true := by
  rw [plan_wanted h hg hv]; cases want <;> simp
end
/-- Each operation keeps its claim: then the statement ends with all claims true. -/
theorem wp_plan_cl {id : Nat} {ops : Array Oper} {a0 : Act} {base : Nat} {w0 : World} {Q : Exit → Act → World → Prop} (n fD : Nat) (cs : List Claim) (hok : planOk .any ops (upto n) = true) (hfD : decide (fD + unl ops (upto n) (Array.replicate ops.size false) ≤ ops.size) = true) (hb : base ≤ w0.heap.size)
    (hob : ∀ i, i < n → PO ops n a0 base w0 cs i)
    (hend : ∀ u W, Below base w0 W → base ≤ W.heap.size → (∀ j, j < ops.size → j < n → cl cs j (u j) W) → wpAny Tryz.prog .any ops Q fD (listedOf ops (upto n)) (putL (planOf ops (upto n)) u a0) W) : (Code.region id ops true).wp Tryz.prog Q a0 w0 :=
  wp_region_plan (upto n) (Inv base w0) Stp (cl cs) fD (by kernel_rfl) hok hfD (cl_st cs) ⟨(Below.refl base w0).drew, hb⟩ (fun i o ho hd => hob i (of_decide_eq_true hd) o ho)
    (fun u W hI hR => hend u W hI.1 hI.2 fun j hj hn => hR j hj (decide_eq_true hn))
section
variable {o : Oper} {a : Act} {w : World} {K : Act → World → Prop} {Q : Exit → Act → World → Prop}
theorem opw_index {x y : Operand} {b f n c k : Nat} (hk : k < n) (ho : o.op = .indexAddr 22 x y) (hx : a.eval x = .slice (some ⟨b, f, none⟩) n c) (hy : a.eval y = .int .i64 k) (h : K (a.put o.dst (.pointer (some ⟨b, f + k, none⟩))) w) : o.wp Tryz.prog a w K Q :=
  opw_run (by
    have hu := Tryz.underlying22
    have h1 : (0 : Int) ≤ (k : Int) ∧ (k : Int) < (n : Int) := ⟨by omega, by omega⟩
    unfold execOp
    simp only [ho, hx, hy]
    go_simp) h
theorem opw_load_str {x : Operand} {B k : Nat} {s : ByteArray} (ho : o.op = .load 9 x) (hx : a.eval x = .pointer (some ⟨B, k, none⟩)) (hS : w.cell? ⟨B, k, none⟩ = some (.string s)) (h : K (a.put o.dst (.string s)) w) : o.wp Tryz.prog a w K Q :=
  opw_run (by have hu := Tryz.underlying9; unfold execOp; simp only [ho, hx]; go_simp) h
theorem opw_extract {x : Operand} {xs : Array Value} {i : Nat} {v : Value} (ho : o.op = .extract x i) (hx : a.eval x = .tuple xs) (hv : xs[i]? = some v) (h : K (a.put o.dst v) w) : o.wp Tryz.prog a w K Q :=
  opw_run (by unfold execOp; simp only [ho, hx]; simp [Instr.extract, hv]) h
end
end Go.Proofs.YtfnaooplpofgiaaGreatDoor
