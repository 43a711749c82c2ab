/- The reader of a bracket in memory, and its question: which byte stands here? A walk; its conditions are the reader's own places. -/
import Derived.Test.YteeopjgfiojoiaaDoorSetC0
import Derived.Lib.SlBytesRow
import Derived.Deep.RegionWith
import Derived.BigQuiet
namespace Go.Proofs.YteeopjgfiojoiaaDoor
open Go Go.RowKit SN

/-- A byte slice whose bytes are those of s. -/
def HasB (w : World) (p : Option Addr) (s : ByteArray) : Prop := s.size = 0 ∨ ∃ b o, p = some ⟨b, o, none⟩ ∧ Lib.Bytes w b o s ∧ b < w.heap.size
/-- The reader lies in block B. -/
def IsR (w : World) (B : Nat) (p : Option Addr) (n cap at' : Nat) (lang : Int) : Prop := w.heap[B]? = some (.cells #[.slice p n cap, .int .i64 at', .int .i64 lang] 91 (0, 0))
def isB (s : ByteArray) (i : Nat) (c : Int) : Bool := (s.data.toList[i]?).any fun b => (b.toNat : Int) == c
set_option maxHeartbeats 1000000 in
set_option maxRecDepth 100000 in
theorem is_any (B : Nat) (p : Option Addr) (cap at' : Nat) (lang : Int) (s : ByteArray) (k : Int) (c : Int) (w : World) (hR : IsR w B p s.size cap at' lang) (hS : HasB w p s) (hk0 : 0 ≤ k) (hk : k ≤ 1) (hat : at' < 2 ^ 61) (hs : s.size < 2 ^ 61) :
    Calls Tryd.prog 72 #[.pointer (some ⟨B, 0, none⟩), .int .i64 k, .int .u8 c] w fun e w' => e = .returned (.bool (isB s (at' + k.toNat) c)) ∧ ∃ q, w' = w.drewN q := by
  have c0 : w.cell? ⟨B, 0, none⟩ = some (.slice p s.size cap) := row_cell hR rfl
  have c1 : w.cell? ⟨B, 1, none⟩ = some (.int .i64 at') := row_cell hR rfl
  have c2 : w.cell? ⟨B, 2, none⟩ = some (.int .i64 lang) := row_cell hR rfl
  clear hR
  have hw : (at' : Int) + k = ((at' + k.toNat : Nat) : Int) := by omega
  generalize at' + k.toNat = m at *
  by_cases h : m < s.size
  · have hd : decide ((m : Int) < (s.size : Int)) = true := by simp; omega
    obtain h0 | ⟨b, o, rfl, hb, -⟩ := hS
    · omega
    have hcell := hb m h
    have hix : (s.data.toList[m]?).any (fun b => (b.toNat : Int) == c) = (((s[m]).toNat : Int) == c) := by
      have : s.data.toList[m]? = some s[m] := by simp [ByteArray.getElem_eq_getElem_data]
      rw [this]; rfl
    unfold isB
    rw [hix]
    go_enter Tryd.func72, Tryd.ntmps72
    go_wp2_with fail
    go_quiet (fail)
    go_wp2_with fail
    go_ret
    exact ⟨rfl, _, rfl⟩
  · have hd : decide ((m : Int) < (s.size : Int)) = false := by simp; omega
    have hix : (s.data.toList[m]?).any (fun b => (b.toNat : Int) == c) = false := by
      have : s.data.toList[m]? = none := by simp; omega
      rw [this]; rfl
    unfold isB
    rw [hix]
    go_enter Tryd.func72, Tryd.ntmps72
    go_wp2_with fail
    go_quiet (fail)
    go_wp2_with fail
    go_ret
    exact ⟨rfl, _, rfl⟩
theorem is_val (B : Nat) (p : Option Addr) (cap at' : Nat) (lang : Int) (s : ByteArray) (k : Int) (c : Int) (v : Bool) (w : World) (hR : IsR w B p s.size cap at' lang) (hS : HasB w p s) (hk0 : 0 ≤ k) (hk : k ≤ 1) (hat : at' < 2 ^ 61) (hs : s.size < 2 ^ 61) (hv : isB s (at' + k.toNat) c = v) :
    Calls Tryd.prog 72 #[.pointer (some ⟨B, 0, none⟩), .int .i64 k, .int .u8 c] w fun e w' => e = .returned (.bool v) ∧ ∃ q, w' = w.drewN q := by
  subst hv
  exact is_any B p cap at' lang s k c w hR hS hk0 hk hat hs
theorem IsR.drewN {w : World} {B : Nat} {p : Option Addr} {n cap at' : Nat} {lang : Int} (h : IsR w B p n cap at' lang) (q : Nat) : IsR (w.drewN q) B p n cap at' lang := h
theorem HasB.drewN {w : World} {p : Option Addr} {s : ByteArray} (h : HasB w p s) (q : Nat) : HasB (w.drewN q) p s := by
  rcases h with h | ⟨b, o, hp, hb, hl⟩
  · exact .inl h
  · exact .inr ⟨b, o, hp, hb.drewN q, hl⟩
theorem IsR.keep {w w' : World} {B : Nat} {p : Option Addr} {n cap at' : Nat} {lang : Int} (h : IsR w B p n cap at' lang) (hb : w'.heap[B]? = w.heap[B]?) : IsR w' B p n cap at' lang := by unfold IsR; rw [hb]; exact h
theorem HasB.keep {w w' : World} {p : Option Addr} {s : ByteArray} (h : HasB w p s) (hb : ∀ b o, p = some ⟨b, o, none⟩ → b < w.heap.size → w'.heap[b]? = w.heap[b]?) (hz : w.heap.size ≤ w'.heap.size) : HasB w' p s := by
  rcases h with h | ⟨b, o, hp, hc, hl⟩
  · exact .inl h
  · exact .inr ⟨b, o, hp, fun i hi => by rw [World.cell?_of_block (w := w) (by exact hb b o hp hl)]; exact hc i hi, by omega⟩
end Go.Proofs.YteeopjgfiojoiaaDoor
