/- The document's Clean: a path's parts. No conditions. -/
import Derived.Test.YtfnaooplpofgiaaGreatDoorKTr
import Derived.WalkMore
import Derived.OwnWalk
import Derived.Handy
import Derived.Outline
namespace Go.Proofs.YtfnaooplpofgiaaGreatDoor
open Go Go.RowKit SN

/-- The parts of what stands behind, the first of them begun. -/
def splA : List UInt8 → List UInt8 → List (List UInt8)
  | cur, [] => [cur]
  | cur, b :: l => if b = 47 then cur :: splA [] l else splA (cur ++ [b]) l
theorem splA_spl : ∀ (l cur h : List UInt8) (t : List (List UInt8)), spl l = h :: t → splA cur l = (cur ++ h) :: t
  | [], cur, h, t, e => by
    cases e
    show [cur] = [cur ++ []]
    rw [List.append_nil]
  | b :: l, cur, h, t, e => by
    obtain ⟨h2, t2, e2⟩ := spl_ne l
    by_cases hb : b = 47
    · unfold splA
      rw [if_pos hb]
      rw [spl, if_pos hb] at e
      injection e with e1 e3
      rw [splA_spl l [] h2 t2 e2, ← e1, List.append_nil, ← e3, e2]
      rfl
    · unfold splA
      rw [if_neg hb, splA_spl l (cur ++ [b]) h2 t2 e2]
      rw [spl_cons hb l h2 t2 e2] at e
      injection e with e1 e3
      rw [← e1, ← e3]
      simp
theorem splA_nil (l : List UInt8) : splA [] l = spl l := by
  obtain ⟨h, t, e⟩ := spl_ne l
  rw [splA_spl l [] h t e, e]
  rfl
/- FROM HERE ON PRINTED BY gen-krcln.py -/
/-- What the loop keeps: what is still to come makes the parts of the whole. -/
def RInv (s : ByteArray) (F : List (List UInt8)) (k fr : Nat) (L : List ByteArray) : Prop :=
  if k ≤ s.size then (splA (s.extract fr k).data.toList (s.data.toList.drop k)).foldl cstep (L.map (·.data.toList)) = F else L.map (·.data.toList) = F
theorem one_new (w : World) (x : Value) (t : TypeId) : ∀ (j : Nat) u, [x][j]? = some u → (w.alloc (.cells #[x] t)).cell? ((⟨w.heap.size, 0, none⟩ : Addr).add j) = some u := by
  intro j u hj
  match j, hj with
  | 0, hj => cases hj; exact row_cell (heap_alloc_new w _) rfl
theorem ext_list (s : ByteArray) (a b : Nat) : (s.extract a b).data.toList = (s.data.toList.drop a).take (b - a) := by
  rw [ByteArray.data_extract, Array.toList_extract, List.extract_eq_take_drop]
theorem ext_snoc (s : ByteArray) (a k : Nat) (ha : a ≤ k) (hk : k < s.size) : (s.extract a (k + 1)).data.toList = (s.extract a k).data.toList ++ [s[k]] := by
  have hl : s.data.toList.length = s.size := by simp
  rw [ext_list, ext_list, show k + 1 - a = (k - a) + 1 by omega, List.take_succ_eq_append_getElem (by rw [List.length_drop]; omega)]
  congr 2
  rw [List.getElem_drop]
  simp [show a + (k - a) = k by omega]
  rfl
theorem drop_byte (s : ByteArray) (k : Nat) (hk : k < s.size) : s.data.toList.drop k = s[k] :: s.data.toList.drop (k + 1) := by
  have hl : s.data.toList.length = s.size := by simp
  rw [List.drop_eq_getElem_cons (by omega)]
  rfl
theorem inv_cont {s : ByteArray} {F : List (List UInt8)} {k fr : Nat} {L : List ByteArray} (h : RInv s F k fr L) (hf : fr ≤ k) (hk : k < s.size) (hc : s[k] ≠ 47) : RInv s F (k + 1) fr L := by
  unfold RInv at h ⊢
  rw [if_pos (by omega)] at h ⊢
  rw [drop_byte s k hk, splA, if_neg hc] at h
  rw [ext_snoc s fr k hf hk]
  exact h
theorem inv_slash {s : ByteArray} {F : List (List UInt8)} {k fr : Nat} {L : List ByteArray} (h : RInv s F k fr L) (hk : k < s.size) (hc : s[k] = 47) : RInv s F (k + 1) (k + 1) (cstepB L (s.extract fr k)) := by
  unfold RInv at h ⊢
  rw [if_pos (by omega)] at h ⊢
  rw [drop_byte s k hk, splA, if_pos hc] at h
  rw [cstepB_map, ext_list s (k + 1) (k + 1), Nat.sub_self, List.take_zero]
  exact h
theorem inv_end {s : ByteArray} {F : List (List UInt8)} {fr : Nat} {L : List ByteArray} (h : RInv s F s.size fr L) : RInv s F (s.size + 1) (s.size + 1) (cstepB L (s.extract fr s.size)) := by
  have hl : s.data.toList.length = s.size := by simp
  unfold RInv at h ⊢
  rw [if_pos (Nat.le_refl _), List.drop_eq_nil_of_le (by omega)] at h
  rw [if_neg (by omega), cstepB_map]
  exact h
set_option maxHeartbeats 1000000 in
set_option maxRecDepth 100000 in
theorem rclean_short (s : ByteArray) (w : World) (h : s.size = 0) : Calls Tryz.prog 63 #[.string s] w (ClnR w none) := by
  have he := (show s.toList.isEmpty = true by
    have hl : s.data.toList.length = s.size := by simp
    rw [Lib.toList_data, List.isEmpty_iff]
    exact List.eq_nil_of_length_eq_zero (by omega))
  go_enter Tryz.func63, Tryz.ntmps63
  go_wp2_with fail
  go_ret2
  exact ⟨Below.refl _ _, rfl⟩
set_option maxHeartbeats 1000000 in
set_option maxRecDepth 100000 in
theorem rclean_long (s : ByteArray) (w : World) (h : 256 < s.size) : Calls Tryz.prog 63 #[.string s] w (ClnR w none) := by
  have he := (show s.toList.isEmpty = false by
    have hl : s.data.toList.length = s.size := by simp
    rw [Lib.toList_data]
    cases hx : s.data.toList with
    | nil => rw [hx] at hl; simp at hl; omega
    | cons a b => rfl)
  have hI : (256 : Int) < (s.size : Int) := by omega
  go_enter Tryz.func63, Tryz.ntmps63
  go_wp2_with fail
  go_ret2
  exact ⟨Below.refl _ _, rfl⟩
set_option maxHeartbeats 4000000 in
set_option maxRecDepth 100000 in
theorem rclean_core (s : ByteArray) (w0 : World) (h1 : 1 ≤ s.size) (h256 : s.size ≤ 256) :
    Calls Tryz.prog 63 #[.string s] w0 (ClnR w0 (if (0 : UInt8) ∈ s.data.toList then none else if ∀ t ∈ cleanL (spl s.data.toList), t.length ≤ 64 then some (cleanL (spl s.data.toList)) else none)) := by
  have hl : s.data.toList.length = s.size := by simp
  have he : s.toList.isEmpty = false := by
    rw [Lib.toList_data]
    cases hx : s.data.toList with
    | nil => rw [hx] at hl; simp at hl; omega
    | cons a b => rfl
  have i2 : ¬ (256 : Int) < (s.size : Int) := by omega
  obtain ⟨F, hF⟩ : ∃ F, F = cleanL (spl s.data.toList) := ⟨_, rfl⟩
  rw [← hF]
  have hFl : F.length ≤ 300 := by
    have h2 := cfold_len (spl s.data.toList) []
    have h3 := spl_len s.data.toList
    rw [hF]; unfold cleanL; simp at h2; omega
  have hstart : RInv s F 0 0 [] := by
    unfold RInv
    rw [if_pos (Nat.zero_le _), ext_list, List.take_zero, List.drop_zero, splA_nil]
    exact hF.symm
  have hst := Lib.hid hstart
  clear hF hstart
  obtain ⟨R, hR⟩ : ∃ R, R = (if (0 : UInt8) ∈ s.data.toList then none else if ∀ t ∈ F, t.length ≤ 64 then some F else none) := ⟨_, rfl⟩
  rw [← hR]
  have hR' := Lib.hid hR
  clear hR
  obtain ⟨Post, hPost⟩ : ∃ Post : Ending → World → Prop, Post = ClnR w0 R := ⟨_, rfl⟩
  rw [← hPost]
  have hP := Lib.hid hPost
  clear hPost
  obtain ⟨i0, hi0, hz0, hz1, hz2⟩ := info_parts info_str
  go_enter Tryz.func63, Tryz.ntmps63
  go_wp2_with fail
  go_loopw [4, 5, 6] (fun v f i wr => ∃ (k fr : Nat) (L : List ByteArray) (u : Value), k ≤ s.size + 1 ∧ fr ≤ k ∧ u = v ∧ f = .int .i64 fr ∧ i = .int .i64 k ∧ Hid (RInv s F k fr L) ∧ Hid (∀ j, j < k → s.data.toList[j]? ≠ some 0) ∧ Hid (Below w0.heap.size w0 wr) ∧ Hid (OwnS wr w0.heap.size v L) ∧ L.length ≤ k ∧ w0.heap.size ≤ wr.heap.size) (fun _ _ i _ => s.size + 1 - (intOf i).toNat)
  case atStart => exact ⟨0, 0, [], _, Nat.zero_le _, Nat.le_refl _, rfl, rfl, rfl, hst, Lib.hid fun j h => absurd h (by omega), Lib.hid (Below.refl _ _), Lib.hid (OwnS.nil _ _), Nat.le_refl _, Nat.le_refl _⟩
  case round =>
    obtain ⟨k, fr, L, v, hk, hfr, rfl, rfl, rfl, hinv, hzz, hbl, hown, hLk, hsz⟩ := hrel
    by_cases hkk : k ≤ s.size
    · have hkI : (k : Int) ≤ (s.size : Int) := by omega
      by_cases hlt : k < s.size
      · have hltI : (k : Int) < (s.size : Int) := by omega
        have hgt : s.data.toList[k]? = some s[k] := by rw [Array.getElem?_toList]; exact Array.getElem?_eq_getElem hlt
        by_cases c0 : s[k].toNat = 0
        · have hmem : (0 : UInt8) ∈ s.data.toList := List.mem_of_getElem? (hgt.trans (by rw [UInt8.toNat_inj.1 (show s[k].toNat = (0 : UInt8).toNat from c0)]))
          have hRn := Lib.hid (show R = none by rw [hR'.out, if_pos hmem])
          clear hmem hgt hR'
          go_wp2_with fail
          rw [hP.out, hRn.out]
          exact ⟨hbl.out, rfl⟩
        · have c0I : ¬ (s[k].toNat : Int) = 0 := by omega
          have hz' := Lib.hid (show ∀ j, j < k + 1 → s.data.toList[j]? ≠ some 0 from fun j hj => by
            by_cases e : j = k
            · subst e; rw [hgt]; intro e; injection e with e; exact c0 (by rw [e]; rfl)
            · exact hzz.out j (by omega))
          clear hgt
          by_cases c47 : s[k].toNat = 47
          · have c47I : (s[k].toNat : Int) = 47 := by omega
            have hv47 : s[k] = 47 := UInt8.toNat_inj.1 (show s[k].toNat = (47 : UInt8).toNat from c47)
            have hnext := Lib.hid (inv_slash hinv.out hlt hv47)
            clear hv47 hinv hst hR' hP
            have hkI0 : (0 : Int) ≤ (fr : Int) ∧ (fr : Int) ≤ (k : Int) := ⟨by omega, by omega⟩
            obtain ⟨sk, hsk⟩ : ∃ sk, sk = s.extract fr k := ⟨_, rfl⟩
            have hsk' := Lib.hid hsk
            by_cases e0 : sk.data.toList.isEmpty = true
            · have he : sk.toList.isEmpty = true := by rw [Lib.toList_data]; exact e0
              have hstep := Lib.hid (show cstepB L sk = L by unfold cstepB; rw [e0]; rfl)
              rw [hsk] at he
              clear e0 hsk
              go_wp2_with fail
              case roundEnd =>
                refine ⟨⟨k + 1, k + 1, L, _, by omega, Nat.le_refl _, rfl, rfl, rfl, Lib.hid (by have := hnext.out; rwa [← hsk'.out, hstep.out] at this), hz', hbl, hown, (by omega), hsz⟩, ?_⟩
                simp [intOf] <;> omega
            · have he : sk.toList.isEmpty = false := by rw [Lib.toList_data]; simpa using e0
              by_cases e1 : (sk.data.toList == [46]) = true
              · have e1' := bytes_eq e1
                have hstep := Lib.hid (show cstepB L sk = L by rw [e1']; rfl)
                have hx : s.extract fr k = ⟨#[46]⟩ := by rw [← hsk]; exact e1'
                clear e0 e1 he hsk e1'
                go_wp2_with fail
                case roundEnd =>
                  refine ⟨⟨k + 1, k + 1, L, _, by omega, Nat.le_refl _, rfl, rfl, rfl, Lib.hid (by have := hnext.out; rwa [← hsk'.out, hstep.out] at this), hz', hbl, hown, (by omega), hsz⟩, ?_⟩
                  simp [intOf] <;> omega
              · have f1 : (sk.toList == [46]) = false := beq_no e1
                by_cases e2 : (sk.data.toList == [46, 46]) = true
                · have e2' := bytes_eq e2
                  have hstep := Lib.hid (show cstepB L sk = L.dropLast by rw [e2']; rfl)
                  have hx : s.extract fr k = ⟨#[46, 46]⟩ := by rw [← hsk]; exact e2'
                  clear e0 e1 e2 he f1 hsk e2'
                  rcases hown.out.shape with ⟨rfl, rfl⟩ | ⟨g, cp, rfl, hg, hgl, hlc, hcm, hRw⟩
                  · go_wp2_with fail
                    case roundEnd =>
                      refine ⟨⟨k + 1, k + 1, [], _, by omega, Nat.le_refl _, rfl, rfl, rfl, Lib.hid (by have := hnext.out; rwa [← hsk'.out, hstep.out] at this), hz', hbl, hown, (by simp), hsz⟩, ?_⟩
                      simp [intOf] <;> omega
                  · have hcut := Lib.hid hown.out.cut
                    by_cases hl0 : L.length = 0
                    · rw [hl0] at hown hcut hlc ⊢
                      go_wp2_with fail
                      case roundEnd =>
                        refine ⟨⟨k + 1, k + 1, L.dropLast, _, by omega, Nat.le_refl _, rfl, rfl, rfl, Lib.hid (by have := hnext.out; rwa [← hsk'.out, hstep.out] at this), hz', hbl, hcut, (by rw [List.length_dropLast]; omega), hsz⟩, ?_⟩
                        simp [intOf] <;> omega
                    · have hm : ((L.length : Nat) : Int) - 1 = ((L.length - 1 : Nat) : Int) := by omega
                      have hm1 : (0 : Int) ≤ ((L.length - 1 : Nat) : Int) := by omega
                      have hm2 : ((L.length - 1 : Nat) : Int) ≤ (cp : Int) := by omega
                      go_wp2_with fail
                      case roundEnd =>
                        refine ⟨⟨k + 1, k + 1, L.dropLast, _, by omega, Nat.le_refl _, rfl, rfl, rfl, Lib.hid (by have := hnext.out; rwa [← hsk'.out, hstep.out] at this), hz', hbl, hcut, (by rw [List.length_dropLast]; omega), hsz⟩, ?_⟩
                        simp [intOf] <;> omega
                · have f2 : (sk.toList == [46, 46]) = false := beq_no e2
                  have hstep := Lib.hid (show cstepB L sk = L ++ [sk] by unfold cstepB; rw [show sk.data.toList.isEmpty = false by simpa using e0, show (sk.data.toList == [46]) = false by simpa using e1, if_neg (by simp), if_neg e2])
                  rw [hsk] at he f1 f2
                  clear e0 e1 e2
                  have hown0 : (wr.alloc (.cells #[.string (s.extract fr k)] 9)).ownsRow w0.heap.size 9 1 v L.length (sV L) := hown.out.grown (w' := wr.alloc (.cells #[.string (s.extract fr k)] 9)) (World.grownBy_alloc wr _ none) (fun g e => by cases e)
                  have hvs := Lib.hid (show ∀ g, v.ownBlock = some g → w0.heap.size ≤ g by
                    intro g hg
                    rcases hown.out.shape with ⟨rfl, -⟩ | ⟨g', cp, rfl, hg', -⟩
                    · cases hg
                    · have e : g' = g := by injection hg
                      omega)
                  have hs1 : sV (L ++ [sk]) = sV L ++ [.string (s.extract fr k)] := by rw [hsk]; simp [sV]
                  have hs1' := Lib.hid hs1
                  clear hs1 hsk
                  go_wp2_with (at_builtin; refine wpList_append_own _ rfl _ _ 22 rfl w0.heap.size 9 i0 (.string ByteArray.empty) 1 16 Tryz.underlying22 hi0 hz0 hz1 hz2 rfl (by decide) v L.length (sV L) rfl hown0 ⟨wr.heap.size, 0, none⟩ 1 1 [.string (s.extract fr k)] rfl rfl (one_new wr _ _) (by simp [Value.oneCell']) (by unfold maxLen; omega) (by omega) (by simp; omega) ?_)
                  intro v' w' hown1 hgrow hnil
                  have h1' := Lib.hid (show OwnS w' w0.heap.size v' (L ++ [sk]) by unfold OwnS; rw [hs1'.out, List.length_append]; exact hown1)
                  have hb1 := Lib.hid ((hbl.out.alloc (by omega) (.cells #[.string (s.extract fr k)] 9)).grown hgrow (by simp; omega) (fun j hj => hvs.out _ hj))
                  have hz1 : w0.heap.size ≤ w'.heap.size := by have := hgrow.size; simp at this; omega
                  clear hown1 hgrow hown0 hnil
                  go_wp2_with fail
                  case roundEnd =>
                    refine ⟨⟨k + 1, k + 1, L ++ [sk], _, by omega, Nat.le_refl _, rfl, rfl, rfl, Lib.hid (by have := hnext.out; rwa [← hsk'.out, hstep.out] at this), hz', hb1, h1', (by simp; omega), hz1⟩, ?_⟩
                    simp [intOf] <;> omega
          · have c47I : ¬ (s[k].toNat : Int) = 47 := by omega
            have hnext := Lib.hid (inv_cont hinv.out hfr hlt (fun e => c47 (by rw [e]; rfl)))
            clear hinv
            go_wp2_with fail
            case roundEnd =>
              refine ⟨⟨k + 1, fr, L, _, by omega, by omega, rfl, rfl, rfl, hnext, hz', hbl, hown, by omega, hsz⟩, ?_⟩
              simp [intOf]; omega
      · have hke : k = s.size := by omega
        subst hke
        have hltI : ¬ ((s.size : Nat) : Int) < (s.size : Int) := by omega
        have hz' := Lib.hid (show ∀ j, j < s.size + 1 → s.data.toList[j]? ≠ some 0 from fun j hj => by
          by_cases e : j = s.size
          · rw [e, List.getElem?_eq_none (by omega)]; intro e; cases e
          · exact hzz.out j (by omega))
        have hnext := Lib.hid (inv_end hinv.out)
        clear hinv hst hR' hP
        have hkI0 : (0 : Int) ≤ (fr : Int) ∧ (fr : Int) ≤ (s.size : Int) := ⟨by omega, by omega⟩
        obtain ⟨sk, hsk⟩ : ∃ sk, sk = s.extract fr s.size := ⟨_, rfl⟩
        have hsk' := Lib.hid hsk
        by_cases e0 : sk.data.toList.isEmpty = true
        · have he : sk.toList.isEmpty = true := by rw [Lib.toList_data]; exact e0
          have hstep := Lib.hid (show cstepB L sk = L by unfold cstepB; rw [e0]; rfl)
          rw [hsk] at he
          clear e0 hsk
          go_wp2_with fail
          case roundEnd =>
            refine ⟨⟨s.size + 1, s.size + 1, L, _, by omega, Nat.le_refl _, rfl, rfl, rfl, Lib.hid (by have := hnext.out; rwa [← hsk'.out, hstep.out] at this), hz', hbl, hown, (by omega), hsz⟩, ?_⟩
            simp [intOf] <;> omega
        · have he : sk.toList.isEmpty = false := by rw [Lib.toList_data]; simpa using e0
          by_cases e1 : (sk.data.toList == [46]) = true
          · have e1' := bytes_eq e1
            have hstep := Lib.hid (show cstepB L sk = L by rw [e1']; rfl)
            have hx : s.extract fr s.size = ⟨#[46]⟩ := by rw [← hsk]; exact e1'
            clear e0 e1 he hsk e1'
            go_wp2_with fail
            case roundEnd =>
              refine ⟨⟨s.size + 1, s.size + 1, L, _, by omega, Nat.le_refl _, rfl, rfl, rfl, Lib.hid (by have := hnext.out; rwa [← hsk'.out, hstep.out] at this), hz', hbl, hown, (by omega), hsz⟩, ?_⟩
              simp [intOf] <;> omega
          · have f1 : (sk.toList == [46]) = false := beq_no e1
            by_cases e2 : (sk.data.toList == [46, 46]) = true
            · have e2' := bytes_eq e2
              have hstep := Lib.hid (show cstepB L sk = L.dropLast by rw [e2']; rfl)
              have hx : s.extract fr s.size = ⟨#[46, 46]⟩ := by rw [← hsk]; exact e2'
              clear e0 e1 e2 he f1 hsk e2'
              rcases hown.out.shape with ⟨rfl, rfl⟩ | ⟨g, cp, rfl, hg, hgl, hlc, hcm, hRw⟩
              · go_wp2_with fail
                case roundEnd =>
                  refine ⟨⟨s.size + 1, s.size + 1, [], _, by omega, Nat.le_refl _, rfl, rfl, rfl, Lib.hid (by have := hnext.out; rwa [← hsk'.out, hstep.out] at this), hz', hbl, hown, (by simp), hsz⟩, ?_⟩
                  simp [intOf] <;> omega
              · have hcut := Lib.hid hown.out.cut
                by_cases hl0 : L.length = 0
                · rw [hl0] at hown hcut hlc ⊢
                  go_wp2_with fail
                  case roundEnd =>
                    refine ⟨⟨s.size + 1, s.size + 1, L.dropLast, _, by omega, Nat.le_refl _, rfl, rfl, rfl, Lib.hid (by have := hnext.out; rwa [← hsk'.out, hstep.out] at this), hz', hbl, hcut, (by rw [List.length_dropLast]; omega), hsz⟩, ?_⟩
                    simp [intOf] <;> omega
                · have hm : ((L.length : Nat) : Int) - 1 = ((L.length - 1 : Nat) : Int) := by omega
                  have hm1 : (0 : Int) ≤ ((L.length - 1 : Nat) : Int) := by omega
                  have hm2 : ((L.length - 1 : Nat) : Int) ≤ (cp : Int) := by omega
                  go_wp2_with fail
                  case roundEnd =>
                    refine ⟨⟨s.size + 1, s.size + 1, L.dropLast, _, by omega, Nat.le_refl _, rfl, rfl, rfl, Lib.hid (by have := hnext.out; rwa [← hsk'.out, hstep.out] at this), hz', hbl, hcut, (by rw [List.length_dropLast]; omega), hsz⟩, ?_⟩
                    simp [intOf] <;> omega
            · have f2 : (sk.toList == [46, 46]) = false := beq_no e2
              have hstep := Lib.hid (show cstepB L sk = L ++ [sk] by unfold cstepB; rw [show sk.data.toList.isEmpty = false by simpa using e0, show (sk.data.toList == [46]) = false by simpa using e1, if_neg (by simp), if_neg e2])
              rw [hsk] at he f1 f2
              clear e0 e1 e2
              have hown0 : (wr.alloc (.cells #[.string (s.extract fr s.size)] 9)).ownsRow w0.heap.size 9 1 v L.length (sV L) := hown.out.grown (w' := wr.alloc (.cells #[.string (s.extract fr s.size)] 9)) (World.grownBy_alloc wr _ none) (fun g e => by cases e)
              have hvs := Lib.hid (show ∀ g, v.ownBlock = some g → w0.heap.size ≤ g by
                intro g hg
                rcases hown.out.shape with ⟨rfl, -⟩ | ⟨g', cp, rfl, hg', -⟩
                · cases hg
                · have e : g' = g := by injection hg
                  omega)
              have hs1 : sV (L ++ [sk]) = sV L ++ [.string (s.extract fr s.size)] := by rw [hsk]; simp [sV]
              have hs1' := Lib.hid hs1
              clear hs1 hsk
              go_wp2_with (at_builtin; refine wpList_append_own _ rfl _ _ 22 rfl w0.heap.size 9 i0 (.string ByteArray.empty) 1 16 Tryz.underlying22 hi0 hz0 hz1 hz2 rfl (by decide) v L.length (sV L) rfl hown0 ⟨wr.heap.size, 0, none⟩ 1 1 [.string (s.extract fr s.size)] rfl rfl (one_new wr _ _) (by simp [Value.oneCell']) (by unfold maxLen; omega) (by omega) (by simp; omega) ?_)
              intro v' w' hown1 hgrow hnil
              have h1' := Lib.hid (show OwnS w' w0.heap.size v' (L ++ [sk]) by unfold OwnS; rw [hs1'.out, List.length_append]; exact hown1)
              have hb1 := Lib.hid ((hbl.out.alloc (by omega) (.cells #[.string (s.extract fr s.size)] 9)).grown hgrow (by simp; omega) (fun j hj => hvs.out _ hj))
              have hz1 : w0.heap.size ≤ w'.heap.size := by have := hgrow.size; simp at this; omega
              clear hown1 hgrow hown0 hnil
              go_wp2_with fail
              case roundEnd =>
                refine ⟨⟨s.size + 1, s.size + 1, L ++ [sk], _, by omega, Nat.le_refl _, rfl, rfl, rfl, Lib.hid (by have := hnext.out; rwa [← hsk'.out, hstep.out] at this), hz', hb1, h1', (by simp; omega), hz1⟩, ?_⟩
                simp [intOf] <;> omega
    · have hke : k = s.size + 1 := by omega
      subst hke
      have hkI : ¬ ((s.size + 1 : Nat) : Int) ≤ (s.size : Int) := by omega
      have hLF : L.map (·.data.toList) = F := by have := hinv.out; unfold RInv at this; rwa [if_neg (by omega)] at this
      have h0m : ¬ (0 : UInt8) ∈ s.data.toList := fun hm => by
        obtain ⟨j, hj⟩ := List.getElem?_of_mem hm
        have hjl : j < s.data.toList.length := by
          by_cases h : j < s.data.toList.length
          · exact h
          · rw [List.getElem?_eq_none (by omega)] at hj; cases hj
        exact hzz.out j (by omega) hj
      have hRn := Lib.hid (show R = if ∀ t ∈ F, t.length ≤ 64 then some F else none by rw [hR'.out, if_neg h0m])
      have hLF' := Lib.hid hLF
      clear hinv hst hR' hzz h0m hLF
      rcases hown.out.shape with ⟨rfl, rfl⟩ | ⟨g, cp, rfl, hg, hgl, hlc, hcm, hRw⟩
      · go_wp2_with fail
        refine wp_loop_rounds 1 ?_
        rw [rounds_succ]
        go_wp2_with fail
        rw [hP.out, hRn.out]
        refine ⟨hbl.out, ?_⟩
        rw [if_pos (by rw [← hLF'.out]; simp)]
        exact ⟨_, [], rfl, hLF'.out, none, 0, rfl, Nat.le_refl _, .inl rfl⟩
      · have hRw' := Lib.hid hRw
        clear hRw hown
        go_wp2_with fail
        go_loopw [67] (fun i wr2 => ∃ (j : Nat), j ≤ L.length ∧ i = .int .i64 j ∧ wr2 = wr ∧ Hid (∀ i t, i < j → L[i]? = some t → t.size ≤ 64)) (fun i _ => L.length - (intOf i).toNat)
        case atStart => exact ⟨0, Nat.zero_le _, rfl, rfl, Lib.hid fun i t h => absurd h (by omega)⟩
        case round =>
          obtain ⟨j, hj, rfl, rfl, hsm⟩ := hrel
          by_cases hjj : j < L.length
          · have hld := hRw'.out j L[j] (List.getElem?_eq_getElem hjj)
            rw [Nat.zero_add] at hld
            have hjI : (j : Int) < (L.length : Int) := by omega
            have hget := Lib.hid (List.getElem?_eq_getElem hjj)
            generalize L[j] = sj at hld hget
            by_cases hz : sj.size ≤ 64
            · have hzI : ¬ (64 : Int) < (sj.size : Int) := by omega
              go_wp2_with fail
              case roundEnd =>
                refine ⟨⟨j + 1, by omega, rfl, trivial, Lib.hid fun i t hi ht => ?_⟩, ?_⟩
                · by_cases h : i = j
                  · subst h; have := hget.out; rw [this] at ht; cases ht; exact hz
                  · exact hsm.out i t (by omega) ht
                · simp [intOf]; omega
            · have hzI : (64 : Int) < (sj.size : Int) := by omega
              go_wp2_with fail
              rw [hP.out, hRn.out]
              refine ⟨hbl.out, ?_⟩
              rw [if_neg (fun h => hz (by have := h sj.data.toList (by rw [← hLF'.out]; exact List.mem_map.2 ⟨sj, List.mem_of_getElem? hget.out, rfl⟩); simpa using this))]
              rfl
          · have hje : j = L.length := by omega
            subst hje
            have hjI : ¬ ((L.length : Nat) : Int) < (L.length : Int) := by omega
            have hall := Lib.hid (show ∀ t ∈ F, t.length ≤ 64 from fun t ht => by
              rw [← hLF'.out] at ht
              obtain ⟨x, hx, rfl⟩ := List.mem_map.1 ht
              obtain ⟨i, hi, rfl⟩ := List.getElem_of_mem hx
              have := hsm.out i _ hi (List.getElem?_eq_getElem hi)
              simpa using this)
            go_wp2_with fail
            rw [hP.out, hRn.out]
            refine ⟨hbl.out, ?_⟩
            rw [if_pos hall.out]
            exact ⟨_, L, rfl, hLF'.out, _, cp, rfl, hlc, .inr ⟨g, rfl, hgl, hRw'.out⟩⟩
/-- The document's Clean at every text. -/
theorem rclean_any (s : ByteArray) (w : World) : Calls Tryz.prog 63 #[.string s] w (ClnR w (cleanP s.data.toList)) := by
  have hl : s.data.toList.length = s.size := by simp
  unfold cleanP
  rw [hl]
  by_cases h1 : s.size < 1
  · rw [if_pos (.inl h1)]; exact rclean_short s w (by omega)
  by_cases h2 : 256 < s.size
  · rw [if_pos (.inr (.inl h2))]; exact rclean_long s w h2
  have hc := rclean_core s w (by omega) (by omega)
  by_cases h0 : (0 : UInt8) ∈ s.data.toList
  · rw [if_pos (.inr (.inr h0))]; rwa [if_pos h0] at hc
  rw [if_neg (fun h => h.elim h1 (fun h => h.elim h2 h0))]
  rwa [if_neg h0] at hc
end Go.Proofs.YtfnaooplpofgiaaGreatDoor
