/- Arguments opened and shut: []byte; sets; the row's post from 'Below'. No conditions beyond the row's own. -/
import Derived.Test.YtfnaooplpofgiaaGreatDoorKB
import Derived.ProofKit
import Derived.OpenShut
import Derived.WideKeyArgs
import Derived.Carry
import Derived.Laws.IdiomArrays
import Derived.Test.YtfnaooplpofgiaaGreatDoorBas
namespace Go.Proofs.YtfnaooplpofgiaaGreatDoor
open Go Go.RowKit SN
open Go.ChangeShapes Go.WideShapes

theorem cells_u8 : Tryz.prog.cellsOf 5 = 1 := by kernel_rfl
theorem laid_out : laidOutB Tryz.prog = true := by kernel_rfl
set_option maxRecDepth 100000 in
theorem open_bs {H : Type} {enc : TypeId × Value → H} {w : World} {r : Reach} {b0 : Nat} {v : Value} {d : DataW H} {ps : List MemPlace}
    (hval : Value.okWide Tryz.prog w r b0 62 v) (hd : DataW.Trod enc Tryz.prog w 0 (fun _ => true) true 62 v d ps) :
    ∃ (p : Option Addr) (s : ByteArray) (cap : Nat), v = .slice p s.size cap ∧ s.size ≤ cap ∧ cap ≤ maxLen ∧ HasB w p s ∧ (p = none → cap = 0) := by
  obtain ⟨a1, len, cap, rfl⟩ := okWide_slice Tryz.underlying62 hval
  obtain ⟨fuel, hf⟩ := hd
  rcases open_ints Tryz.underlying62 Tryz.underlying5 cells_u8 hf with ⟨hcs, -⟩ | ⟨a, len', cap', zs, hcs, -, hl, hm, hz, -, hcell, hwz⟩
  · simp [Value.cells] at hcs
    obtain ⟨rfl, rfl, rfl⟩ := hcs
    exact ⟨none, ByteArray.empty, 0, rfl, Nat.le_refl _, Nat.zero_le _, .inl rfl, fun _ => rfl⟩
  · simp [Value.cells] at hcs
    obtain ⟨rfl, rfl, rfl⟩ := hcs
    simp only [if_true] at hz
    obtain ⟨s, hsd⟩ : ∃ s : ByteArray, s = ⟨((zs.take len).map fun n => UInt8.ofNat n.toNat).toArray⟩ := ⟨_, rfl⟩
    have hlen : s.size = len := by
      rw [hsd]
      show ((zs.take len).map _).toArray.size = _
      simp; omega
    refine ⟨some a, s, cap, by rw [hlen], by omega, hm, ?_, fun h => by cases h⟩
    by_cases h0 : len = 0
    · exact .inl (by omega)
    · obtain ⟨ab, ao, spot⟩ := a
      have hspot : spot = none := by simpa [Addr.add] using World.cell?_spot (hcell 0 (by omega))
      subst hspot
      refine .inr ⟨ab, ao, rfl, fun j hj => ?_, World.block_lt_of_cell? w _ (hcell 0 (by omega))⟩
      have hj' : j < len := by omega
      have hcj := hcell j (by omega)
      rw [Addr.add_lit] at hcj
      rw [hcj]
      have hb := range_u8 hwz j
      have e : zs.getD j 0 = zs[j]'(by omega) := by simp [List.getD, List.getElem?_eq_getElem (show j < zs.length by omega)]
      rw [← List.getD_eq_getElem?_getD, e] at hb
      rw [e]
      have e2 : s[j] = UInt8.ofNat (zs[j]'(by omega)).toNat := by
        subst hsd
        show ((zs.take len).map _).toArray[j] = _
        simp
      rw [e2]
      congr 2
      simp only [UInt8.toNat_ofNat']
      omega
theorem shut_bs {H : Type} {enc : TypeId × Value → H} {W W' : World} {v : Value} {d : DataW H} {ps : List MemPlace} {sp : Nat → Bool}
    (h : DataW.Trod enc Tryz.prog W 0 (fun _ => true) true 62 v d ps) (hb : Below W.heap.size W W') (hlt : ∀ x ∈ ps, x.block < W.heap.size) (hs : ∀ x ∈ ps, sp x.block = true) :
    DataW.Trod enc Tryz.prog W' 0 sp true 62 v d ps :=
  WideElems.Trod_stays laid_out (by kernel_rfl) (of_decide_eq_true (by kernel_rfl)) h (fun x hx => hb.same (hlt x hx)) hs
end Go.Proofs.YtfnaooplpofgiaaGreatDoor
namespace Go.Proofs.YtfnaooplpofgiaaGreatDoor
open Go Go.RowKit SN
open Go.ChangeShapes Go.WideShapes

end Go.Proofs.YtfnaooplpofgiaaGreatDoor
namespace Go.Proofs.YtfnaooplpofgiaaGreatDoor
open Go Go.ChangeShapes Go.WideShapes Go.ChangeAt Go.RowKit

theorem post_below {H : Type} {enc : TypeId × Value → H} {P : Program} {f : Func} {s : ChangeSpec} {apart fresh handsOn again : Bool} {W W' : World} {args : Array Value} {v : Value} {ds gs : List (DataW H)} {before pa pv : List MemPlace}
    (hW : DataW.Whole enc P f.params.toList s.vars apart W args.toList ds gs before)
    (hres : ∀ (b : Nat) (sp : Nat → Bool) (hd : Bool), DataW.TrodAll enc P W' b sp hd f.resultTypes.toList (v.resultList f.resultTypes.size) (s.fn H (ds ++ gs)).results [])
    (hargs : ∀ sp : Nat → Bool, (∀ p ∈ before, sp p.block = true) → DataW.TrodAll enc P W' 0 sp true f.params.toList args.toList (s.fn H (ds ++ gs)).args pa)
    (hvars : ∀ sp : Nat → Bool, (∀ p ∈ before, sp p.block = true) → DataW.TrodVars enc P W' sp s.vars (s.fn H (ds ++ gs)).vars pv)
    (hps : before = pa ++ pv) (hb : Below W.heap.size W W')
    (hok : ∀ (j : Nat) (t : TypeId) (r : Value), f.resultTypes[j]? = some t → (v.resultList f.resultTypes.size)[j]? = some r → Value.okWide P W' .any 0 t r) :
    s.post enc P f apart fresh handsOn again W args v W' := by
  have hold : ∀ p ∈ before, (fun b => decide (b < W.heap.size)) p.block = true := fun p hp => by simpa using hW.lt p hp
  refine ⟨ds, gs, before, [], pa, pv, hW, hres _ _ _, hargs _ hold, hvars _ hold, World.keptBut_mono (fun p hp => ⟨hp, ?_⟩) (hb.frame (· ∈ before)), fun _ => ?_⟩
  · rw [hps, List.mem_append] at hp
    exact Or.inr hp
  · have hW2 := hW
    obtain ⟨_, _, _, _, _, hz, hn⟩ := hW
    refine ⟨hok, _, _, ([] ++ pa) ++ pv, ⟨[] ++ pa, pv, trodAll_append (hargs _ (fun _ _ => rfl)) (hres _ _ _), hvars _ (fun _ _ => rfl), rfl, ?_, ?_⟩, ?_⟩
    · intro b off hp
      have hp' : MemPlace.cell b off ∈ before := by rw [hps]; simpa using hp
      rw [hb.frozen (p := ⟨b, off, none⟩) (hW2.lt _ hp')]
      exact hz b off hp'
    · intro ha
      have := hn ha
      rw [hps] at this
      simpa using this
    · intro p hp _
      rw [hps]
      simpa using hp
end Go.Proofs.YtfnaooplpofgiaaGreatDoor
