/- What the two trees of files() tell of a path, in plain words. No program runs. -/
import Derived.Test.YtfnaooplpofgiaaGreatDoorKTc
import Derived.Test.YtfnaooplpofgiaaGreatDoorKRSt
namespace Go.Proofs.YtfnaooplpofgiaaGreatDoor
open Go Go.RowKit SN

/-- The tree: d, d/g, e, f. -/
def statF : List (List UInt8) → Option (Bool × Nat)
  | [] => some (true, 3)
  | [s] => if [100] == s then some (true, 1) else if [102] == s then some (false, 1) else if [101] == s then some (false, 0) else none
  | [s, u] => if [100] == s then (if [103] == u then some (false, 3) else none) else none
  | _ => none
theorem statF_one (s : List UInt8) : statF [s] = if [100] == s then some (true, 1) else if [102] == s then some (false, 1) else if [101] == s then some (false, 0) else none := rfl
theorem statF_two (s u : List UInt8) : statF [s, u] = if [100] == s then (if [103] == u then some (false, 3) else none) else none := rfl
def fileS (p : List UInt8) : Option (Bool × Nat) := (cleanP p).bind statF
theorem lookE_cons (x : ByteArray × Nat) (l : List (ByteArray × Nat)) (s : List UInt8) : lookE (x :: l) s = if x.1.data.toList == s then some x.2 else lookE l s := by
  unfold lookE
  by_cases h : (x.1.data.toList == s) = true
  · rw [List.find?_cons_of_pos (by exact h), if_pos h]; rfl
  · rw [List.find?_cons_of_neg (by exact h), if_neg h]
theorem statP_files {T : Nat → Option Nd} {r n1 n2 n3 n4 : Nat} {rl rm dl dm m2 m3 m4 : Nat} (hr : T r = some ⟨true, rl, rm, [(⟨#[100]⟩, n1), (⟨#[102]⟩, n2), (⟨#[101]⟩, n4)]⟩) (h1 : T n1 = some ⟨true, dl, dm, [(⟨#[103]⟩, n3)]⟩) (h2 : T n2 = some ⟨false, 1, m2, []⟩) (h3 : T n3 = some ⟨false, 3, m3, []⟩) (h4 : T n4 = some ⟨false, 0, m4, []⟩) (p : List UInt8) : statP T r p = fileS p := by
  have hw : ∀ s l, walkT T none [] (some r) (s :: l) = walkT T (some r) s (if [100] == s then some n1 else if [102] == s then some n2 else if [101] == s then some n4 else none) l := fun s l => by
    rw [walk_dir hr rfl]
    simp only [lookE_cons]
    rfl
  unfold statP findP fileS
  cases hc : cleanP p with
  | none => rfl
  | some L =>
    show (match (match walkT T none [] (some r) L with | none => Sum.inl 16 | some x => Sum.inr x : Nat ⊕ (Option Nat × List UInt8 × Option Nat)) with
      | .inr (_, _, some B) => (T B).map fun nd => (nd.dir, if nd.dir then nd.ents.length else nd.len)
      | _ => none) = statF L
    match L with
    | [] => simp [walkT, hr, statF]
    | [s] =>
      rw [hw, statF_one]
      by_cases a1 : ([100] == s) = true
      · rw [if_pos a1, if_pos a1]; simp [walkT, h1]
      · rw [if_neg a1, if_neg a1]
        by_cases a2 : ([102] == s) = true
        · rw [if_pos a2, if_pos a2]; simp [walkT, h2]
        · rw [if_neg a2, if_neg a2]
          by_cases a3 : ([101] == s) = true
          · rw [if_pos a3, if_pos a3]; simp [walkT, h4]
          · rw [if_neg a3, if_neg a3]; rfl
    | s :: u :: l =>
      rw [hw]
      by_cases a1 : ([100] == s) = true
      · rw [if_pos a1, walk_dir h1 rfl]
        simp only [lookE_cons]
        match l with
        | [] =>
          rw [statF_two, if_pos a1]
          by_cases b1 : ([103] == u) = true
          · have b1' : (({ data := #[103] } : ByteArray).data.toList == u) = true := b1
            rw [if_pos b1', if_pos b1]; simp [walkT, h3]
          · have b1' : ¬ (({ data := #[103] } : ByteArray).data.toList == u) = true := b1
            rw [if_neg b1', if_neg b1]; rfl
        | v :: l =>
          have e : statF (s :: u :: v :: l) = none := rfl
          rw [e]
          by_cases b1 : (({ data := #[103] } : ByteArray).data.toList == u) = true
          · rw [if_pos b1, walk_file h3 rfl]
          · rw [if_neg b1]; rfl
      · rw [if_neg a1]
        have e : statF (s :: u :: l) = none := by
          match l with
          | [] => rw [statF_two, if_neg a1]
          | v :: l => rfl
        rw [e]
        by_cases a2 : ([102] == s) = true
        · rw [if_pos a2, walk_file h2 rfl]
        · rw [if_neg a2]
          by_cases a3 : ([101] == s) = true
          · rw [if_pos a3, walk_file h4 rfl]
          · rw [if_neg a3]; rfl
/-! No part of a path has a slash in it. -/
theorem spl_free : ∀ (p : List UInt8), ∀ s ∈ spl p, (47 : UInt8) ∉ s
  | [], s, h => by
    have : s = [] := by simpa [spl] using h
    rw [this]; simp
  | b :: l, s, h => by
    have ih := spl_free l
    unfold spl at h
    split at h
    · rcases List.mem_cons.1 h with rfl | h
      · simp
      · exact ih s h
    · next hb =>
      obtain ⟨x, t, e⟩ := spl_ne l
      rw [e] at h ih
      rcases List.mem_cons.1 h with rfl | h
      · have := ih x (List.mem_cons_self ..)
        intro hm
        rcases List.mem_cons.1 hm with h1 | h1
        · exact hb h1.symm
        · exact this h1
      · exact ih s (List.mem_cons_of_mem _ h)
theorem cfold_free : ∀ (l out : List (List UInt8)), (∀ s ∈ l, (47 : UInt8) ∉ s) → (∀ s ∈ out, (47 : UInt8) ∉ s) → ∀ s ∈ l.foldl cstep out, (47 : UInt8) ∉ s
  | [], _, _, ho => ho
  | x :: l, out, hl, ho => by
    refine cfold_free l (cstep out x) (fun s hs => hl s (List.mem_cons_of_mem _ hs)) fun s hs => ?_
    unfold cstep at hs
    split at hs
    · exact ho s hs
    · split at hs
      · exact ho s ((List.dropLast_sublist _).mem hs)
      · rcases List.mem_append.1 hs with hs | hs
        · exact ho s hs
        · rw [List.mem_singleton.1 hs]; exact hl x (List.mem_cons_self ..)
theorem cleanP_free {p : List UInt8} {L : List (List UInt8)} (h : cleanP p = some L) : ∀ s ∈ L, (47 : UInt8) ∉ s := by
  unfold cleanP at h
  split at h
  · cases h
  · split at h
    · cases h; exact cfold_free _ _ (spl_free p) (by simp)
    · cases h
/-! The document's tree. -/
def lookF (b0 n1 n2 n3 n4 : Nat) (s : List UInt8) : Option Nat := if [47, 101] == s then some n4 else if [47, 100, 47, 103] == s then some n3 else if [47, 102] == s then some n2 else if [47, 100] == s then some n1 else if [] == s then some b0 else none
structure FilD (L : DRow) (D : Nat → Option DN) (b0 n1 n2 n3 n4 : Nat) : Prop where
  hl : ∀ s, lookE L s = lookF b0 n1 n2 n3 n4 s
  h0 : D b0 = some ⟨true, 0⟩
  h1 : D n1 = some ⟨true, 0⟩
  h2 : D n2 = some ⟨false, 1⟩
  h3 : D n3 = some ⟨false, 3⟩
  h4 : D n4 = some ⟨false, 0⟩
  k0 : hasKid L [] = true
  k1 : hasKid L [47, 100] = true
section
variable {L : DRow} {D : Nat → Option DN} {b0 n1 n2 n3 n4 : Nat}
theorem FilD.nd (h : FilD L D b0 n1 n2 n3 n4) (s : List UInt8) : (lookE L s).bind D = if [47, 101] == s then some ⟨false, 0⟩ else if [47, 100, 47, 103] == s then some ⟨false, 3⟩ else if [47, 102] == s then some ⟨false, 1⟩ else if [47, 100] == s then some ⟨true, 0⟩ else if [] == s then some ⟨true, 0⟩ else none := by
  rw [h.hl]
  unfold lookF
  split
  · exact h.h4
  · split
    · exact h.h3
    · split
      · exact h.h2
      · split
        · exact h.h1
        · split
          · exact h.h0
          · rfl
theorem dirAt_bind (L : DRow) (D : Nat → Option DN) (s : List UInt8) : dirAt L D s = match (lookE L s).bind D with | none => false | some nd => nd.dir := by
  unfold dirAt
  cases lookE L s with
  | none => rfl
  | some B => rfl
theorem FilD.root (h : FilD L D b0 n1 n2 n3 n4) : dirAt L D [] = true := by
  rw [dirAt_bind, h.nd]; rfl
theorem FilD.dir1 (h : FilD L D b0 n1 n2 n3 n4) {s : List UInt8} (hs : ([100] == s) = false) : dirAt L D (47 :: s) = false := by
  rw [dirAt_bind, h.nd]
  have e : ([47, 100] == 47 :: s) = false := by rw [List.cons_beq_cons, hs, Bool.and_false]
  rw [e]
  split
  · split at * <;> simp_all
  · next nd hx =>
    split at hx
    · cases hx; rfl
    · split at hx
      · cases hx; rfl
      · split at hx
        · cases hx; rfl
        · have e2 : (([] : List UInt8) == 47 :: s) = false := rfl
          rw [e2] at hx
          simp at hx
theorem FilD.dir2 (h : FilD L D b0 n1 n2 n3 n4) (u : List UInt8) : dirAt L D (47 :: 100 :: 47 :: u) = false := by
  rw [dirAt_bind, h.nd]
  by_cases e : ([47, 100, 47, 103] == 47 :: 100 :: 47 :: u) = true
  · rw [if_neg (by simp), if_pos e]
  · rw [if_neg (by simp), if_neg e, if_neg (by simp), if_neg (by simp), if_neg (by simp)]
theorem join1 (s : List UInt8) : joinD [s] = 47 :: s := by simp [joinD]
theorem join2 (s u : List UInt8) : joinD [s, u] = 47 :: (s ++ 47 :: u) := by simp [joinD]
theorem statD_files (h : FilD L D b0 n1 n2 n3 n4) (p : List UInt8) : statD L D p = (fileS p).map fun x => ⟨x.1, if x.1 then 0 else x.2⟩ := by
  unfold statD placeD fileS
  cases hc : cleanP p with
  | none => rfl
  | some F =>
    have hfree := cleanP_free hc
    show (match (if wayOk L D F F.length then Sum.inr (joinD F, joinD (F.take (F.length - 1))) else Sum.inl 16 : Nat ⊕ (List UInt8 × List UInt8)) with
      | .inl _ => none
      | .inr (q, _) => (lookE L q).bind D) = (statF F).map _
    match F, hfree with
    | [], _ =>
      have e : wayOk L D [] 0 = true := rfl
      rw [show ([] : List (List UInt8)).length = 0 from rfl, if_pos e]
      show (lookE L []).bind D = _
      rw [h.nd]
      rfl
    | [s], hfree =>
      have e : wayOk L D [s] 1 = true := by
        rw [wayOk_succ]
        show (true && dirAt L D []) = true
        rw [h.root]; rfl
      rw [show [s].length = 1 from rfl, if_pos e]
      show (lookE L (joinD [s])).bind D = _
      rw [join1, h.nd]
      have hs := hfree s (List.mem_singleton.2 rfl)
      have c1 : ([47, 101] == 47 :: s) = ([101] == s) := by rw [List.cons_beq_cons]; rfl
      have c2 : ([47, 102] == 47 :: s) = ([102] == s) := by rw [List.cons_beq_cons]; rfl
      have c3 : ([47, 100] == 47 :: s) = ([100] == s) := by rw [List.cons_beq_cons]; rfl
      have c4 : ([47, 100, 47, 103] == 47 :: s) = false := by
        rw [Bool.eq_false_iff]
        intro hx
        have := eq_of_beq hx
        injection this with _ hx
        rw [← hx] at hs
        exact hs (by simp)
      have c5 : (([] : List UInt8) == 47 :: s) = false := rfl
      rw [c1, c2, c3, c4, c5]
      rw [statF_one]
      by_cases a1 : ([101] == s) = true
      · obtain rfl := eq_of_beq a1; rfl
      · rw [if_neg a1]
        by_cases a2 : ([102] == s) = true
        · obtain rfl := eq_of_beq a2; rfl
        · rw [if_neg a2]
          by_cases a3 : ([100] == s) = true
          · obtain rfl := eq_of_beq a3; rfl
          · rw [if_neg a3, if_neg a3, if_neg a2, if_neg a1]
            rfl
    | s :: u :: l, _ =>
      by_cases a1 : ([100] == s) = true
      · obtain rfl := eq_of_beq a1
        match l with
        | [] =>
          have e : wayOk L D [[100], u] 2 = true := by
            rw [wayOk_succ, wayOk_succ]
            show ((true && dirAt L D []) && dirAt L D (joinD [[100]])) = true
            rw [h.root, join1, dirAt_bind, h.nd]; rfl
          rw [show [[100], u].length = 2 from rfl, if_pos e]
          show (lookE L (joinD [[100], u])).bind D = _
          rw [join2, h.nd]
          show (if [47, 101] == 47 :: 100 :: 47 :: u then _ else if [47, 100, 47, 103] == 47 :: 100 :: 47 :: u then _ else _) = _
          have c4 : ([47, 100, 47, 103] == 47 :: 100 :: 47 :: u) = ([103] == u) := by rw [List.cons_beq_cons, List.cons_beq_cons, List.cons_beq_cons]; rfl
          rw [if_neg (by simp), c4]
          rw [statF_two, if_pos (show (([100] : List UInt8) == [100]) = true from rfl)]
          by_cases b1 : ([103] == u) = true
          · rw [if_pos b1, if_pos b1]; rfl
          · rw [if_neg b1, if_neg b1, if_neg (by simp), if_neg (by simp), if_neg (by simp)]; rfl
        | v :: l =>
          have e : wayOk L D ([100] :: u :: v :: l) ([100] :: u :: v :: l).length = false := by
            refine wayOk_no (j := 2) ?_ (by simp only [List.length_cons]; omega)
            show dirAt L D (joinD [[100], u]) = false
            rw [join2]
            exact h.dir2 u
          rw [if_neg (by rw [e]; decide)]
          rfl
      · have e : wayOk L D (s :: u :: l) (s :: u :: l).length = false := by
          refine wayOk_no (j := 1) ?_ (by simp only [List.length_cons]; omega)
          show dirAt L D (joinD [s]) = false
          rw [join1]
          exact h.dir1 (by simpa using a1)
        rw [if_neg (by rw [e]; decide)]
        match l with
        | [] => rw [statF_two, if_neg a1]; rfl
        | v :: l => rfl
theorem FilD.kid (h : FilD L D b0 n1 n2 n3 n4) : ∀ p B nd, lookE L p = some B → D B = some nd → nd.dir = true → hasKid L p = true := by
  intro p B nd hB hD hd
  have e := h.nd p
  rw [hB] at e
  change D B = _ at e
  rw [hD] at e
  by_cases a1 : ([47, 101] == p) = true
  · rw [if_pos a1] at e; cases e; cases hd
  rw [if_neg a1] at e
  by_cases a2 : ([47, 100, 47, 103] == p) = true
  · rw [if_pos a2] at e; cases e; cases hd
  rw [if_neg a2] at e
  by_cases a3 : ([47, 102] == p) = true
  · rw [if_pos a3] at e; cases e; cases hd
  rw [if_neg a3] at e
  by_cases a4 : ([47, 100] == p) = true
  · rw [← eq_of_beq a4]; exact h.k1
  rw [if_neg a4] at e
  by_cases a5 : (([] : List UInt8) == p) = true
  · rw [← eq_of_beq a5]; exact h.k0
  rw [if_neg a5] at e
  cases e
end
end Go.Proofs.YtfnaooplpofgiaaGreatDoor
