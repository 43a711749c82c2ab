/- A statement that draws its order and ends with the store of a set, by a plan. Its conditions stand with it. -/
import Derived.Test.YteeopjgfiojoiaaDoorPlan2
namespace Go.Proofs.YteeopjgfiojoiaaDoor
open Go Go.RowKit SN

/-- All operations but the last keep their claims; the last one stores a set into a block that lies there. -/
theorem wp_plan_store {id : Nat} {ops : Array Oper} {a0 : Act} {base : Nat} {w0 : World} {Q : Exit → Act → World → Prop} (n fD : Nat) (cs : List Claim) (hok : planOk .any ops (upto n) = true) (hfD : decide (fD + 1 + unl ops (upto n) (Array.replicate ops.size false) ≤ ops.size) = true) (hb : base ≤ w0.heap.size)
    (hob : ∀ i, i < n → PO ops n a0 base w0 cs i) (hsz : decide (n ≤ ops.size) = true) (p q : Tmp) (B T V jq : Nat)
    (hrd : Region.ready .any ops (listedOf ops (upto n)) = [n])
    (hop : (ops[n]?).map (fun o => (o.op, o.dst, o.guard)) = some (.store 24 (.tmp p) (.tmp q), none, none))
    (hp0 : ownAt (planOf ops (upto n)) p = none) (hp : a0.eval (.tmp p) = .pointer (some ⟨B, 0, none⟩))
    (hq0 : (ops[jq]?).bind (·.dst) = some q) (hq1 : jq < n) (hq2 : q < a0.tmps.size) (hq3 : cs[jq]? = some (.val (sv V)))
    (hB : B < base) (hS : IsSet 24 w0 B T)
    (hfin : ∀ (a : Act) (W : World), Q .normal a W → wpAny Tryd.prog .any ops Q fD ((listedOf ops (upto n)).setIfInBounds n true) a W)
    (hend : ∀ u W, w0.grownBy W (some B) → IsSet 24 W B V → base ≤ W.heap.size → Q .normal (putL (planOf ops (upto n)) u a0) W)
    (hbase : base = w0.heap.size) : (Code.region id ops true).wp Tryd.prog Q a0 w0 := by
  refine wp_plan_cl n (fD + 1) cs hok hfD hb hob fun u W hI1 hI2 hR => ?_
  have hR' : ∀ j, j < n → cl cs j (u j) W := fun j hj => hR j (Nat.lt_of_lt_of_le hj (of_decide_eq_true hsz)) hj
  have hx1 : (putL (planOf ops (upto n)) u a0).eval (.tmp p) = .pointer (some ⟨B, 0, none⟩) := (plan_eval0 hok hp0).trans hp
  have eq : u jq = sv V := by
    obtain ⟨c, hc, h⟩ := hR' jq hq1
    rw [hq3] at hc
    cases hc
    exact h
  have hx2 : (putL (planOf ops (upto n)) u a0).eval (.tmp q) = sv V := (plan_eval hok (j := jq) hq0 (decide_eq_true hq1) hq2).trans eq
  have hSW : IsSet 24 W B T := hS.below hI1 hB
  refine ⟨fun h => (by rw [hrd] at h; cases h), fun i hi => ?_⟩
  rw [hrd, List.mem_singleton] at hi
  subst hi
  cases ho : ops[i]? with
  | none => rw [ho] at hop; cases hop
  | some o =>
    rw [ho] at hop
    simp only [Option.map_some, Option.some.injEq, Prod.mk.injEq] at hop
    obtain ⟨e1, e2, e3⟩ := hop
    unfold wpOp
    rw [ho]
    simp only []
    rw [if_pos (plan_free e3 _)]
    refine .inl (wp_store_row 24 (.tmp p) (.tmp q) e1 B (sc V) hx1 hx2 24 (sc T) hSW (by rw [size24]; rfl) rfl (by simp [sc, Value.oneCell']) ?_)
    have hput : ∀ a : Act, a.put none undef = a := fun _ => rfl
    rw [e2, hput]
    have hz1 : (W.setRow B (sc V)).heap.size = W.heap.size := by simp
    refine hfin _ _ (hend u _ ⟨hI1.os, hI1.tape, hI1.output, by rw [hz1]; exact hI1.size, fun k hk hne => ?_⟩ (setRow_heap W B _ _ _ _ hSW) (by rw [hz1]; exact hI2))
    rw [setRow_other W B k _ (fun e => hne (by rw [e])), hI1.block k (by omega)]
end Go.Proofs.YteeopjgfiojoiaaDoor
