/- TestEvals: the law returns true at every call, and what the caller holds reads as it did; the errors' variables as the program's text lays them. No conditions beyond the row's own. -/
import Derived.Test.YtfnaooplpofgiaaGreatDoorCards
import Derived.Test.YtfnaooplpofgiaaGreatDoorTie
import Derived.Test.YtfnaooplpofgiaaGreatDoorKTEv
import Derived.Test.YtfnaooplpofgiaaGreatDoorKOpS
import Derived.Test.YtfnaooplpofgiaaGreatDoorKLaidT
import Derived.Test.YtfnaooplpofgiaaGreatDoorKLaid
import Derived.Test.YtfnaooplpofgiaaGreatDoorKOpn
import Derived.Lay
import Derived.WalkKit
import Derived.ProofKit
import Derived.OpenShut
import Derived.Deep.DeepHandedRow
import Derived.Deep.DeepWitnessRowRef
import Derived.SevenTiedAt
namespace Go.Proofs.YtfnaooplpofgiaaGreatDoor
open Go.ChangeShapes Go.WideShapes Go.ChangeAt Go.RowKit
open Go.ChangeMaps (open_string shut_string)

theorem testEvals_own : ownKnob Tryz.prog.godebug = none := by kernel_rfl
theorem testEvals_met (os : Os) : laidMetH Tryz.prog Rows.testEvalsRow.laid (((World.doorLaid Tryz.prog 425 os).layVars Tryz.prog [("unicode/utf8.first", Rows.laid_unicode_utf8_first)]).forCall (fun _ _ => 0) ⟨#[], #[.slice none 0 0], []⟩).memory :=
  laidMetH_of_parts3 (fuel := 8) (laidMet_of_run' 8 (by kernel_rfl) (by kernel_rfl)) (by kernel_rfl) (by kernel_rfl)
theorem testEvals_reads (os : Os) {H : Type} (enc : TypeId × Value → H) : ∃ places, DataW.whole enc Tryz.prog (((World.doorLaid Tryz.prog 425 os).layVars Tryz.prog [("unicode/utf8.first", Rows.laid_unicode_utf8_first)]).forCall (fun _ _ => 0) ⟨#[], #[.slice none 0 0], []⟩).memory Tryz.f6.params.toList Rows.testEvalsSpec.vars false (#[Value.slice none 0 0]).toList 8 = some ([.nil], [], places) :=
  ⟨[], by kernel_rfl⟩
set_option maxRecDepth 100000 in
theorem testEvals_lifted (os : Os) (started : os.Started) (H : Type) (enc : TypeId × Value → H) (F : Stop.Interp) :
    ReturnsInHanded {} Tryz.checked os 6 .any ((OpenSpec.ofChange Rows.testEvalsSpec).preRow enc Tryz.prog Tryz.f6 Rows.testEvalsRow.domain false Rows.testEvalsRow.laid) (((OpenSpec.ofChange Rows.testEvalsSpec).at F).post enc Tryz.prog Tryz.f6 false true false false) := by
  obtain ⟨places, hx⟩ := testEvals_reads os enc
  refine returnsInHanded_of_row (C := Tryz.checked) (s := OpenSpec.ofChange Rows.testEvalsSpec) testEvals_own started (by kernel_rfl) Tryz.func6
    (witness_row_atRef (enc := enc) (C := Tryz.checked) false ((World.doorLaid Tryz.prog 425 os).layVars Tryz.prog [("unicode/utf8.first", Rows.laid_unicode_utf8_first)]) #[.slice none 0 0] (World.layVars_os _ _ _) (by kernel_rfl) (by kernel_rfl) (by kernel_rfl)
      (OpenSpec.preRow_of_cond 8 hx (by kernel_rfl) (fun k hk => by cases hk) (by kernel_rfl) (testEvals_met os))) ?_
  intro W base args ds gs before hval hW _ _ _ hL hsh _
  have hW' := hW
  obtain ⟨p, q, hA0, hV, rfl, hfz, hnd⟩ := hW
  have hA : DataW.TrodAll enc Tryz.prog W 0 (fun _ => true) true Tryz.f6.params.toList args.toList ds p := hA0
  rw [Tryz.params6] at hA hval
  obtain ⟨v0, vs0, d0, ds0, p0, q0, hargs, rfl, rfl, h0, r0⟩ := trodAll_cons hA
  obtain ⟨rfl, rfl, rfl⟩ := trodAll_nil r0
  obtain rfl : args = #[v0] := by cases args; simp_all
  obtain ⟨rfl, rfl⟩ := trodVars_none hV
  have k0 := h0
  obtain ⟨l0, hR0⟩ := open_ops (hval 0 22 v0 rfl rfl) h0
  clear hA0
  simp only [List.append_nil] at hW'
  have hlt := fun x hx => hW'.lt x hx
  have hLp := parts_of_laid (show Rows.testEvalsRow.laid.filter keepErr = _ from by kernel_rfl) hL
  obtain ⟨E, hE⟩ := errs_of_laid hLp.1
  have hT := errT_of_laid hLp.2
  refine (tevals_any v0 l0 W hE hT (maxL_of hsh) (Nat.le_refl _) hR0).mono fun e W' ⟨he, hg⟩ => ?_
  subst he
  exact ⟨_, rfl, post_below (pa := p0 ++ []) (pv := []) hW' (fun _ _ _ => trodAll_cons_mk (shut_bool Tryz.underlying4 _) trodAll_mk0) (fun _ hsp => (trodAll_cons_mk (shut_ops k0 hg (fun x hx => hlt x (by simp [hx])) (fun x hx => hsp x (by simp [hx]))) trodAll_mk0)) (fun _ _ => rfl) (by simp)
    hg (ok_one (by kernel_rfl) rfl (okWide_bool_mk Tryz.underlying4 _))⟩
theorem testEvals_said : Rows.TestEvalsSaid :=
  OpenClaim.holds_of_cond 6 Tryz.f6 rfl rfl rfl rfl rfl rfl rfl ⟨rfl, rfl, rfl, rfl, rfl⟩ rfl rfl rfl rfl rfl (by kernel_rfl) Tryz.func6 (by kernel_rfl)
    (of_decide_eq_true (by kernel_rfl)) (by unfold Func.isWrapper; first | (rw [if_pos (by decide +kernel)]; kernel_rfl) | (rw [if_neg (by decide +kernel)]; exact ⟨rfl, rfl⟩))
    (fun os started H enc _ F => by rw [OpenClaim.pre_eq_preRow]; exact testEvals_lifted os started H enc F)
/-- No parameter wants a stand-in; the program's own looks: what the card asks. -/
theorem testEvals_plain (f : FuncId) (fn : Func) (hf : Tryz.pinned.checked.prog.funcNamed "pidgin/pidginlaw18.TestEvals" = some f) (hfn : Tryz.pinned.checked.prog.funcs[f]? = some fn) :
    true = Tryz.pinned.checked.prog.looks [] ∧ ∀ (j : Nat) t, fn.params[j]? = some t → Tryz.pinned.checked.prog.wantsStandIn t = false := by
  obtain rfl : f = 6 := Option.some.inj ((show Tryz.prog.funcNamed "pidgin/pidginlaw18.TestEvals" = some 6 by kernel_rfl).symm.trans hf) |>.symm
  obtain rfl : fn = Tryz.f6 := (Option.some.inj (Tryz.func6.symm.trans hfn)).symm
  refine ⟨by kernel_rfl, fun j t ht => ?_⟩
  rw [Tryz.params6] at ht
  have hm := Array.mem_of_getElem? ht
  simp only [List.mem_toArray, List.mem_cons, List.not_mem_nil, or_false] at hm
  rcases hm with rfl
  · exact (show Tryz.prog.wantsStandIn 22 = false by kernel_rfl)
theorem testEvals_holds : Rows.TestEvalsCardSaid :=
  Claim7.holds_tied_plain_at .later [] _ _ _ _ testEvals_said (fun _ h => by cases h) (by kernel_rfl) (fun _ h => by cases h) testEvals_row_tie rfl ⟨rfl, rfl⟩ (by kernel_rfl) rfl testEvals_plain (by kernel_rfl)
#print axioms testEvals_holds
end Go.Proofs.YtfnaooplpofgiaaGreatDoor
