/- Walks over package set: the reader's ranged hands on what the plain law says. Conditions as the item's. -/
import Derived.Test.YteeopjgfiojoiaaDoorRng2
namespace Go.Proofs.YteeopjgfiojoiaaDoor
open Go Go.RowKit SN

/-- The item's cells, as the plain law names it. -/
def itv : It → Nat → Array Value
  | .err _ _, f => itc true 0 0 f
  | .byte c _, f => itc true (c.toNat : Int) (ofL [c]) f
  | .cls S _, f => itc false 0 S f
theorem ranged_any {N : Nat} {E : Nat → Addr} (B : Nat) (p : Option Addr) (cap f : Nat) (lang : Int) (s : ByteArray) (w : World) (x : It) (at' : Nat) (hx : (∃ c, x = .byte c at') ∨ ∃ S, x = .cls S at') (hR : IsR w B p s.size cap at' lang) (hS : HasB w p s) (hp : ∀ b o, p = some ⟨b, o, none⟩ → b ≠ B) (hs : s.size < 4294967281) (hat : at' ≤ s.size) (hcap : s.size ≤ cap)
    (hN : N ≤ B) (hE : Errs N E w) :
    Calls Tryd.prog 74 #[.pointer (some ⟨B, 0, none⟩), .agg (itv x f)] w (RgPost E w B p s cap lang (ranged s.data.toList (lang == 2) x f)) := by
  have hsz : s.data.toList.length = s.size := by simp
  rcases hx with ⟨c, rfl⟩ | ⟨S, rfl⟩
  · simp only [ranged, itv]
    cases h45 : isL s.data.toList at' 45 with
    | false =>
      simp only [Bool.not_false, Bool.true_or, ↓reduceIte]
      exact ranged_k1 B p cap at' f lang s w hR hS hp hs hat hcap c h45
    | true =>
      cases h93 : isL s.data.toList (at' + 1) 93 with
      | true =>
        simp only [Bool.not_true, Bool.false_or, Bool.true_or, ↓reduceIte]
        exact ranged_k2 B p cap at' f lang s w hR hS hp hs hat hcap c h45 h93
      | false =>
        by_cases hm : s.data.toList.length ≤ at' + 1
        · simp only [Bool.not_true, Bool.false_or, decide_eq_true hm, ↓reduceIte]
          exact ranged_k3 B p cap at' f lang s w hR hS hp hs hat hcap c h45 h93 (by omega)
        · simp only [Bool.not_true, Bool.false_or, decide_eq_false hm, Bool.false_eq_true, ↓reduceIte]
          cases hit : item s.data.toList (lang == 2) (at' + 1) with
          | err code pos => exact (ranged_err B p cap at' f lang s w hR hS hp hs hat hcap hN hE c h45 h93 (by omega) code pos hit).mono fun _ _ ⟨v, h⟩ => ⟨_, v, h⟩
          | cls S2 next => exact (ranged_second B p cap at' f lang s w hR hS hp hs hat hcap hN hE c h45 h93 (by omega) S2 next hit).mono fun _ _ ⟨v, h⟩ => ⟨_, v, h⟩
          | byte d next =>
            simp only []
            by_cases hdc : d.toNat < c.toNat
            · rw [if_pos hdc]
              exact (ranged_less B p cap at' f lang s w hR hS hp hs hat hcap hN hE c h45 h93 (by omega) d next hit hdc).mono fun _ _ ⟨v, h⟩ => ⟨_, v, h⟩
            · rw [if_neg hdc]
              exact ranged_range B p cap at' f lang s w hR hS hp hs hat hcap hN hE c h45 h93 (by omega) d next hit hdc
  · exact ranged_cls B p cap at' f lang s w hR hS hp hs hat hcap S
end Go.Proofs.YteeopjgfiojoiaaDoor
