/- GlobPlain: the law returns true at every call, and what the caller holds reads as it did; the errors' variables as the program's text lays them. No conditions beyond the row's own. -/
import Derived.Test.YteeopjgfiojoiaaDoorCards
import Derived.Test.YteeopjgfiojoiaaDoorTie
import Derived.Test.YteeopjgfiojoiaaDoorWPlain
import Derived.Test.YteeopjgfiojoiaaDoorOpn
import Derived.Test.YteeopjgfiojoiaaDoorLaidT
import Derived.Test.YteeopjgfiojoiaaDoorBulk
import Derived.Test.YteeopjgfiojoiaaDoorLaid
import Derived.WalkKit
import Derived.ProofKit
import Derived.OpenShut
import Derived.Deep.DeepHandedRow
import Derived.Deep.DeepWitnessRowRef
import Derived.SevenTiedAt
namespace Go.Proofs.YteeopjgfiojoiaaDoor
open Go.ChangeShapes Go.WideShapes Go.ChangeAt Go.RowKit
open Go.ChangeMaps (open_string shut_string)

theorem globPlain_own : ownKnob Tryd.prog.godebug = none := by kernel_rfl
theorem globPlain_met (os : Os) : laidMetH Tryd.prog Rows.globPlainUptoRow.laid ((World.doorLaid Tryd.prog 415 os).forCall (fun _ _ => 0) ⟨#[], #[.slice none 0 0, .string ByteArray.empty], []⟩).memory :=
  laidMetH_of_parts3 (fuel := 8) (laidMet_of_run' 8 (by kernel_rfl) (by kernel_rfl)) (by kernel_rfl) (by kernel_rfl)
theorem globPlain_reads (os : Os) {H : Type} (enc : TypeId × Value → H) : ∃ places, DataW.whole enc Tryd.prog ((World.doorLaid Tryd.prog 415 os).forCall (fun _ _ => 0) ⟨#[], #[.slice none 0 0, .string ByteArray.empty], []⟩).memory Tryd.f16.params.toList Rows.globPlainSpec.vars false (#[Value.slice none 0 0, Value.string ByteArray.empty]).toList 8 = some ([.nil, .lit (.string [])], [], places) :=
  ⟨[], by kernel_rfl⟩
set_option maxRecDepth 100000 in
theorem globPlain_lifted (os : Os) (started : os.Started) (H : Type) (enc : TypeId × Value → H) (F : Stop.Interp) :
    ReturnsInHanded {} Tryd.checked os 16 .any ((Rows.OpenSpec.upto Rows.globPlainSpec).preRow enc Tryd.prog Tryd.f16 Rows.globPlainUptoRow.domain false Rows.globPlainUptoRow.laid) (((Rows.OpenSpec.upto Rows.globPlainSpec).at F).post enc Tryd.prog Tryd.f16 false true false false) := by
  obtain ⟨places, hx⟩ := globPlain_reads os enc
  refine returnsInHanded_of_row (C := Tryd.checked) (s := Rows.OpenSpec.upto Rows.globPlainSpec) globPlain_own started (by kernel_rfl) Tryd.func16
    (witness_row_atRef (enc := enc) (C := Tryd.checked) false (World.doorLaid Tryd.prog 415 os) #[.slice none 0 0, .string ByteArray.empty] rfl (by kernel_rfl) (by kernel_rfl) (by kernel_rfl)
      (OpenSpec.preRow_of_cond 8 hx (by kernel_rfl) (fun k hk => by cases hk; kernel_rfl) (by kernel_rfl) (globPlain_met os))) ?_
  intro W base args ds gs before hval hW c1 c2 c3 hL hsh _
  have hk : Rows.uptoSmall H (ds ++ gs) = true := by first | exact c1 _ rfl | exact c2 _ rfl | exact c3 _ rfl
  have hW' := hW
  obtain ⟨p, q, hA0, hV, rfl, hfz, hnd⟩ := hW
  have hA : DataW.TrodAll enc Tryd.prog W 0 (fun _ => true) true Tryd.f16.params.toList args.toList ds p := hA0
  rw [Tryd.params16] at hA hval
  obtain ⟨v0, vs0, d0, ds0, p0, q0, hargs, rfl, rfl, h0, r0⟩ := trodAll_cons hA
  obtain ⟨v1, vs1, d1, ds1, p1, q1, rfl, rfl, rfl, h1, r1⟩ := trodAll_cons r0
  obtain ⟨rfl, rfl, rfl⟩ := trodAll_nil r1
  obtain rfl : args = #[v0, v1] := by cases args; simp_all
  obtain ⟨rfl, rfl⟩ := trodVars_none hV
  have k0 := h0
  obtain ⟨a0, s0, cap0, rfl, hc0, hm0, hB0, hn0⟩ := open_bs (hval 0 36 v0 rfl rfl) h0
  unfold maxLen at hm0
  obtain ⟨x1, rfl, rfl, rfl, wx1⟩ := open_string Tryd.underlying9 (hval 1 9 v1 rfl rfl) h1
  clear hA0
  simp only [List.append_nil] at hW'
  have hlt := fun x hx => hW'.lt x hx
  obtain ⟨E, hE⟩ := errs_of_laid (show laidMet Tryd.prog sentinels W ∧ handlesMet Tryd.prog [("errors.errorType", Rows.laid_errors_errorType)] W from hL).1 hsh
  have hT := errT_of_laid (show laidMet Tryd.prog sentinels W ∧ handlesMet Tryd.prog [("errors.errorType", Rows.laid_errors_errorType)] W from hL).2
  have hu0 := Nat.le_trans (bulk_bs k0) (bulk_bound hk (d := d0) (by simp))
  have hu1 : x1.size ≤ 1048576 := by
    have h := Nat.le_trans (bulk_str (H := H) x1.data.toList) (bulk_bound hk (d := .lit (.string x1.data.toList)) (by simp))
    simpa using h
  refine (gplaw_any a0 s0 cap0 x1 hu1 W hB0 hc0 hE hT (Nat.le_refl _)).mono fun e W' ⟨he, hg⟩ => ?_
  subst he
  exact ⟨_, rfl, post_below (pa := p0 ++ ([] ++ [])) (pv := []) hW' (fun _ _ _ => trodAll_cons_mk (shut_bool Tryd.underlying4 _) trodAll_mk0) (fun _ hsp => (trodAll_cons_mk (shut_bs k0 hg (fun x hx => hlt x (by simp [hx])) (fun x hx => hsp x (by simp [hx]))) (trodAll_cons_mk (shut_string Tryd.underlying9 wx1) trodAll_mk0))) (fun _ _ => rfl) (by simp)
    hg (ok_one (by kernel_rfl) rfl (okWide_bool_mk Tryd.underlying4 _))⟩
theorem globPlain_said : Rows.GlobPlainUptoSaid :=
  OpenClaim.holds_of_cond 16 Tryd.f16 rfl rfl rfl rfl rfl rfl rfl ⟨rfl, rfl, rfl, rfl, rfl⟩ rfl rfl rfl rfl rfl (by kernel_rfl) Tryd.func16 (by kernel_rfl)
    (of_decide_eq_true (by kernel_rfl)) (by unfold Func.isWrapper; first | (rw [if_pos (by decide +kernel)]; kernel_rfl) | (rw [if_neg (by decide +kernel)]; exact ⟨rfl, rfl⟩))
    (fun os started H enc _ F => by rw [OpenClaim.pre_eq_preRow]; exact globPlain_lifted os started H enc F)
/-- No parameter wants a stand-in; the program's own looks: what the card asks. -/
theorem globPlain_plain (f : FuncId) (fn : Func) (hf : Tryd.pinned.checked.prog.funcNamed "pidgin/pidginlaw6.GlobPlain" = some f) (hfn : Tryd.pinned.checked.prog.funcs[f]? = some fn) :
    true = Tryd.pinned.checked.prog.looks [] ∧ ∀ (j : Nat) t, fn.params[j]? = some t → Tryd.pinned.checked.prog.wantsStandIn t = false := by
  obtain rfl : f = 16 := Option.some.inj ((show Tryd.prog.funcNamed "pidgin/pidginlaw6.GlobPlain" = some 16 by kernel_rfl).symm.trans hf) |>.symm
  obtain rfl : fn = Tryd.f16 := (Option.some.inj (Tryd.func16.symm.trans hfn)).symm
  refine ⟨by kernel_rfl, fun j t ht => ?_⟩
  rw [Tryd.params16] at ht
  have hm := Array.mem_of_getElem? ht
  simp only [List.mem_toArray, List.mem_cons, List.not_mem_nil, or_false] at hm
  rcases hm with rfl | rfl
  · exact (show Tryd.prog.wantsStandIn 36 = false by kernel_rfl)
  · exact (show Tryd.prog.wantsStandIn 9 = false by kernel_rfl)
theorem globPlain_holds : Rows.GlobPlainUptoCardSaid :=
  Claim7.holds_tied_plain_at .later [] _ _ _ _ globPlain_said (fun _ h => by cases h) (by kernel_rfl) (fun _ h => by cases h) globPlainUpto_row_tie rfl ⟨rfl, rfl⟩ (by kernel_rfl) rfl globPlain_plain (by kernel_rfl)
#print axioms globPlain_holds
end Go.Proofs.YteeopjgfiojoiaaDoor
