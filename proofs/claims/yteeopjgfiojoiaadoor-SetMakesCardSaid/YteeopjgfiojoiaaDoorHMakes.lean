/- SetMakes: the law returns true at every call, and what the caller holds reads as it did; the errors' variables as the program's text lays them. No conditions beyond the row's own. -/
import Derived.Test.YteeopjgfiojoiaaDoorCards
import Derived.Test.YteeopjgfiojoiaaDoorTie
import Derived.Test.YteeopjgfiojoiaaDoorWMakes
import Derived.Test.YteeopjgfiojoiaaDoorOpenSet
import Derived.Test.YteeopjgfiojoiaaDoorLaid
import Derived.Test.YteeopjgfiojoiaaDoorShut
import Derived.WalkKit
import Derived.ProofKit
import Derived.OpenShut
import Derived.Deep.DeepHandedRow
import Derived.Deep.DeepWitnessRowRef
import Derived.SevenTiedAt
namespace Go.Proofs.YteeopjgfiojoiaaDoor
open Go.ChangeShapes Go.WideShapes Go.ChangeAt Go.RowKit
open Go.ChangeMaps (open_string shut_string)

theorem setMakes_own : ownKnob Tryd.prog.godebug = none := by kernel_rfl
theorem setMakes_met (os : Os) : laidMetH Tryd.prog Rows.setMakesRow.laid ((World.doorLaid Tryd.prog 415 os).forCall (fun _ _ => 0) ⟨#[], #[.string ByteArray.empty, .int .u8 0, .int .u8 0, .agg #[.int .u64 0, .int .u64 0, .int .u64 0, .int .u64 0], .agg #[.int .u64 0, .int .u64 0, .int .u64 0, .int .u64 0]], []⟩).memory :=
  laidMetH_of_parts3 (fuel := 8) (laidMet_of_run' 8 (by kernel_rfl) (by kernel_rfl)) (by kernel_rfl) (by kernel_rfl)
theorem setMakes_reads (os : Os) {H : Type} (enc : TypeId × Value → H) : ∃ places, DataW.whole enc Tryd.prog ((World.doorLaid Tryd.prog 415 os).forCall (fun _ _ => 0) ⟨#[], #[.string ByteArray.empty, .int .u8 0, .int .u8 0, .agg #[.int .u64 0, .int .u64 0, .int .u64 0, .int .u64 0], .agg #[.int .u64 0, .int .u64 0, .int .u64 0, .int .u64 0]], []⟩).memory Tryd.f4.params.toList Rows.setMakesSpec.vars false (#[Value.string ByteArray.empty, Value.int .u8 0, Value.int .u8 0, Value.agg #[.int .u64 0, .int .u64 0, .int .u64 0, .int .u64 0], Value.agg #[.int .u64 0, .int .u64 0, .int .u64 0, .int .u64 0]]).toList 8 = some ([.lit (.string []), .lit (.int .u8 0), .lit (.int .u8 0), .agg [.lit (.int .u64 0), .lit (.int .u64 0), .lit (.int .u64 0), .lit (.int .u64 0)], .agg [.lit (.int .u64 0), .lit (.int .u64 0), .lit (.int .u64 0), .lit (.int .u64 0)]], [], places) :=
  ⟨[], by kernel_rfl⟩
set_option maxRecDepth 100000 in
theorem setMakes_lifted (os : Os) (started : os.Started) (H : Type) (enc : TypeId × Value → H) (F : Stop.Interp) :
    ReturnsInHanded {} Tryd.checked os 4 .any ((OpenSpec.ofChange Rows.setMakesSpec).preRow enc Tryd.prog Tryd.f4 Rows.setMakesRow.domain false Rows.setMakesRow.laid) (((OpenSpec.ofChange Rows.setMakesSpec).at F).post enc Tryd.prog Tryd.f4 false true false false) := by
  obtain ⟨places, hx⟩ := setMakes_reads os enc
  refine returnsInHanded_of_row (C := Tryd.checked) (s := OpenSpec.ofChange Rows.setMakesSpec) setMakes_own started (by kernel_rfl) Tryd.func4
    (witness_row_atRef (enc := enc) (C := Tryd.checked) false (World.doorLaid Tryd.prog 415 os) #[.string ByteArray.empty, .int .u8 0, .int .u8 0, .agg #[.int .u64 0, .int .u64 0, .int .u64 0, .int .u64 0], .agg #[.int .u64 0, .int .u64 0, .int .u64 0, .int .u64 0]] rfl (by kernel_rfl) (by kernel_rfl) (by kernel_rfl)
      (OpenSpec.preRow_of_cond 8 hx (by kernel_rfl) (fun k hk => by cases hk) (by kernel_rfl) (setMakes_met os))) ?_
  intro W base args ds gs before hval hW _ _ _ hL hsh _
  have hW' := hW
  obtain ⟨p, q, hA0, hV, rfl, hfz, hnd⟩ := hW
  have hA : DataW.TrodAll enc Tryd.prog W 0 (fun _ => true) true Tryd.f4.params.toList args.toList ds p := hA0
  rw [Tryd.params4] at hA hval
  obtain ⟨v0, vs0, d0, ds0, p0, q0, hargs, rfl, rfl, h0, r0⟩ := trodAll_cons hA
  obtain ⟨v1, vs1, d1, ds1, p1, q1, rfl, rfl, rfl, h1, r1⟩ := trodAll_cons r0
  obtain ⟨v2, vs2, d2, ds2, p2, q2, rfl, rfl, rfl, h2, r2⟩ := trodAll_cons r1
  obtain ⟨v3, vs3, d3, ds3, p3, q3, rfl, rfl, rfl, h3, r3⟩ := trodAll_cons r2
  obtain ⟨v4, vs4, d4, ds4, p4, q4, rfl, rfl, rfl, h4, r4⟩ := trodAll_cons r3
  obtain ⟨rfl, rfl, rfl⟩ := trodAll_nil r4
  obtain rfl : args = #[v0, v1, v2, v3, v4] := by cases args; simp_all
  obtain ⟨rfl, rfl⟩ := trodVars_none hV
  obtain ⟨x0, rfl, rfl, rfl, wx0⟩ := open_string Tryd.underlying9 (hval 0 9 v0 rfl rfl) h0
  obtain ⟨x1, rfl, rfl, rfl, wx1⟩ := open_int Tryd.underlying5 (hval 1 5 v1 rfl rfl) h1
  have bd1 := bounds_u8 wx1
  obtain ⟨n1, hn1⟩ := Int.eq_ofNat_of_zero_le bd1.1
  have bn1 : n1 < 256 := by omega
  subst hn1
  obtain ⟨x2, rfl, rfl, rfl, wx2⟩ := open_int Tryd.underlying5 (hval 2 5 v2 rfl rfl) h2
  have bd2 := bounds_u8 wx2
  obtain ⟨n2, hn2⟩ := Int.eq_ofNat_of_zero_le bd2.1
  have bn2 : n2 < 256 := by omega
  subst hn2
  obtain ⟨S3, hS3, rfl, rfl, rfl⟩ := open_set (hval 3 24 v3 rfl rfl) h3
  obtain ⟨S4, hS4, rfl, rfl, rfl⟩ := open_set (hval 4 24 v4 rfl rfl) h4
  clear hA0
  simp only [List.append_nil] at hW'
  obtain ⟨E, hE⟩ := errs_of_laid hL hsh
  refine (makes_any x0 n1 n2 S3 S4 wx0 bn1 bn2 hS3 hS4 W hE (Nat.le_refl _)).mono fun e W' ⟨he, hg⟩ => ?_
  subst he
  exact ⟨_, rfl, post_below (pa := []) (pv := []) hW' (fun _ _ _ => trodAll_cons_mk (shut_bool Tryd.underlying4 _) trodAll_mk0) (fun _ _ => (trodAll_cons_mk (shut_string Tryd.underlying9 wx0) (trodAll_cons_mk (shut_int Tryd.underlying5 wx1) (trodAll_cons_mk (shut_int Tryd.underlying5 wx2) (trodAll_cons_mk (shut_set S3) (trodAll_cons_mk (shut_set S4) trodAll_mk0)))))) (fun _ _ => rfl) rfl
    hg (ok_one (by kernel_rfl) rfl (okWide_bool_mk Tryd.underlying4 _))⟩
theorem setMakes_said : Rows.SetMakesSaid :=
  OpenClaim.holds_of_cond 4 Tryd.f4 rfl rfl rfl rfl rfl rfl rfl ⟨rfl, rfl, rfl, rfl, rfl⟩ rfl rfl rfl rfl rfl (by kernel_rfl) Tryd.func4 (by kernel_rfl)
    (of_decide_eq_true (by kernel_rfl)) (by unfold Func.isWrapper; first | (rw [if_pos (by decide +kernel)]; kernel_rfl) | (rw [if_neg (by decide +kernel)]; exact ⟨rfl, rfl⟩))
    (fun os started H enc _ F => by rw [OpenClaim.pre_eq_preRow]; exact setMakes_lifted os started H enc F)
/-- No parameter wants a stand-in; the program's own looks: what the card asks. -/
theorem setMakes_plain (f : FuncId) (fn : Func) (hf : Tryd.pinned.checked.prog.funcNamed "pidgin/pidginlaw5.SetMakes" = some f) (hfn : Tryd.pinned.checked.prog.funcs[f]? = some fn) :
    true = Tryd.pinned.checked.prog.looks [] ∧ ∀ (j : Nat) t, fn.params[j]? = some t → Tryd.pinned.checked.prog.wantsStandIn t = false := by
  obtain rfl : f = 4 := Option.some.inj ((show Tryd.prog.funcNamed "pidgin/pidginlaw5.SetMakes" = some 4 by kernel_rfl).symm.trans hf) |>.symm
  obtain rfl : fn = Tryd.f4 := (Option.some.inj (Tryd.func4.symm.trans hfn)).symm
  refine ⟨by kernel_rfl, fun j t ht => ?_⟩
  rw [Tryd.params4] at ht
  have hm := Array.mem_of_getElem? ht
  simp only [List.mem_toArray, List.mem_cons, List.not_mem_nil, or_false] at hm
  rcases hm with rfl | rfl | rfl | rfl | rfl
  · exact (show Tryd.prog.wantsStandIn 9 = false by kernel_rfl)
  · exact (show Tryd.prog.wantsStandIn 5 = false by kernel_rfl)
  · exact (show Tryd.prog.wantsStandIn 5 = false by kernel_rfl)
  · exact (show Tryd.prog.wantsStandIn 24 = false by kernel_rfl)
  · exact (show Tryd.prog.wantsStandIn 24 = false by kernel_rfl)
theorem setMakes_holds : Rows.SetMakesCardSaid :=
  Claim7.holds_tied_plain_at .later [] _ _ _ _ setMakes_said (fun _ h => by cases h) (by kernel_rfl) (fun _ h => by cases h) setMakes_row_tie rfl ⟨rfl, rfl⟩ (by kernel_rfl) rfl setMakes_plain (by kernel_rfl)
#print axioms setMakes_holds
end Go.Proofs.YteeopjgfiojoiaaDoor
