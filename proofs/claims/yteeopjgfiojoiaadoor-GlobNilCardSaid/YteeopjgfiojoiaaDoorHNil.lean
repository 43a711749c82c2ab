/- GlobNil: the law returns true at every call, and what the caller holds reads as it did; the errors' variables as the program's text lays them. No conditions beyond the row's own. -/
import Derived.Test.YteeopjgfiojoiaaDoorCards
import Derived.Test.YteeopjgfiojoiaaDoorTie
import Derived.Test.YteeopjgfiojoiaaDoorWNil
import Derived.Test.YteeopjgfiojoiaaDoorLaid
import Derived.Test.YteeopjgfiojoiaaDoorShut
import Derived.WalkKit
import Derived.ProofKit
import Derived.OpenShut
import Derived.Deep.DeepHandedRow
import Derived.Deep.DeepWitnessRowRef
import Derived.SevenTiedAt
namespace Go.Proofs.YteeopjgfiojoiaaDoor
open Go.ChangeShapes Go.WideShapes Go.ChangeAt Go.RowKit
open Go.ChangeMaps (open_string shut_string)

theorem globNil_own : ownKnob Tryd.prog.godebug = none := by kernel_rfl
theorem globNil_met (os : Os) : laidMetH Tryd.prog Rows.globNilRow.laid ((World.doorLaid Tryd.prog 415 os).forCall (fun _ _ => 0) ⟨#[], #[], []⟩).memory :=
  laidMetH_of_parts3 (fuel := 8) (laidMet_of_run' 8 (by kernel_rfl) (by kernel_rfl)) (by kernel_rfl) (by kernel_rfl)
theorem globNil_reads (os : Os) {H : Type} (enc : TypeId × Value → H) : ∃ places, DataW.whole enc Tryd.prog ((World.doorLaid Tryd.prog 415 os).forCall (fun _ _ => 0) ⟨#[], #[], []⟩).memory Tryd.f13.params.toList Rows.globNilSpec.vars false ((#[] : Array Value)).toList 8 = some ([], [], places) :=
  ⟨[], by kernel_rfl⟩
set_option maxRecDepth 100000 in
theorem globNil_lifted (os : Os) (started : os.Started) (H : Type) (enc : TypeId × Value → H) (F : Stop.Interp) :
    ReturnsInHanded {} Tryd.checked os 13 .any ((OpenSpec.ofChange Rows.globNilSpec).preRow enc Tryd.prog Tryd.f13 Rows.globNilRow.domain false Rows.globNilRow.laid) (((OpenSpec.ofChange Rows.globNilSpec).at F).post enc Tryd.prog Tryd.f13 false true false false) := by
  obtain ⟨places, hx⟩ := globNil_reads os enc
  refine returnsInHanded_of_row (C := Tryd.checked) (s := OpenSpec.ofChange Rows.globNilSpec) globNil_own started (by kernel_rfl) Tryd.func13
    (witness_row_atRef (enc := enc) (C := Tryd.checked) false (World.doorLaid Tryd.prog 415 os) #[] rfl (by kernel_rfl) (by kernel_rfl) (by kernel_rfl)
      (OpenSpec.preRow_of_cond 8 hx (by kernel_rfl) (fun k hk => by cases hk) (by kernel_rfl) (globNil_met os))) ?_
  intro W base args ds gs before hval hW _ _ _ hL hsh _
  have hW' := hW
  obtain ⟨p, q, hA0, hV, rfl, hfz, hnd⟩ := hW
  have hA : DataW.TrodAll enc Tryd.prog W 0 (fun _ => true) true Tryd.f13.params.toList args.toList ds p := hA0
  rw [Tryd.params13] at hA hval
  obtain ⟨hargs, rfl, rfl⟩ := trodAll_nil hA
  obtain rfl : args = #[] := by cases args; simp_all
  obtain ⟨rfl, rfl⟩ := trodVars_none hV
  clear hA0
  simp only [List.append_nil] at hW'
  obtain ⟨E, hE⟩ := errs_of_laid hL hsh
  refine (gnil_any W hE (Nat.le_refl _)).mono fun e W' ⟨he, hg⟩ => ?_
  subst he
  exact ⟨_, rfl, post_below (pa := []) (pv := []) hW' (fun _ _ _ => trodAll_cons_mk (shut_bool Tryd.underlying4 _) trodAll_mk0) (fun _ _ => trodAll_mk0) (fun _ _ => rfl) rfl
    hg (ok_one (by kernel_rfl) rfl (okWide_bool_mk Tryd.underlying4 _))⟩
theorem globNil_said : Rows.GlobNilSaid :=
  OpenClaim.holds_of_cond 13 Tryd.f13 rfl rfl rfl rfl rfl rfl rfl ⟨rfl, rfl, rfl, rfl, rfl⟩ rfl rfl rfl rfl rfl (by kernel_rfl) Tryd.func13 (by kernel_rfl)
    (of_decide_eq_true (by kernel_rfl)) (by unfold Func.isWrapper; first | (rw [if_pos (by decide +kernel)]; kernel_rfl) | (rw [if_neg (by decide +kernel)]; exact ⟨rfl, rfl⟩))
    (fun os started H enc _ F => by rw [OpenClaim.pre_eq_preRow]; exact globNil_lifted os started H enc F)
/-- No parameter wants a stand-in; the program's own looks: what the card asks. -/
theorem globNil_plain (f : FuncId) (fn : Func) (hf : Tryd.pinned.checked.prog.funcNamed "pidgin/pidginlaw6.GlobNil" = some f) (hfn : Tryd.pinned.checked.prog.funcs[f]? = some fn) :
    true = Tryd.pinned.checked.prog.looks [] ∧ ∀ (j : Nat) t, fn.params[j]? = some t → Tryd.pinned.checked.prog.wantsStandIn t = false := by
  obtain rfl : f = 13 := Option.some.inj ((show Tryd.prog.funcNamed "pidgin/pidginlaw6.GlobNil" = some 13 by kernel_rfl).symm.trans hf) |>.symm
  obtain rfl : fn = Tryd.f13 := (Option.some.inj (Tryd.func13.symm.trans hfn)).symm
  refine ⟨by kernel_rfl, fun j t ht => ?_⟩
  rw [Tryd.params13] at ht
  simp at ht
theorem globNil_holds : Rows.GlobNilCardSaid :=
  Claim7.holds_tied_plain_at .later [] _ _ _ _ globNil_said (fun _ h => by cases h) (by kernel_rfl) (fun _ h => by cases h) globNil_row_tie rfl ⟨rfl, rfl⟩ (by kernel_rfl) rfl globNil_plain (by kernel_rfl)
#print axioms globNil_holds
end Go.Proofs.YteeopjgfiojoiaaDoor
