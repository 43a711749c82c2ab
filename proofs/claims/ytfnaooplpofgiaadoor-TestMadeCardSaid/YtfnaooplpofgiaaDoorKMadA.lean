/- TestMade at every path, every data, a directory or a file. Conditions: the errors' variables hold their values; the library's variable of lengths a number. -/
import Derived.Test.YtfnaooplpofgiaaDoorKMade
import Derived.Test.YtfnaooplpofgiaaDoorShelf
import Derived.WalkMore
import Derived.OwnWalk
import Derived.Handy
import Derived.Outline
namespace Go.Proofs.YtfnaooplpofgiaaDoor
open Go Go.RowKit SN

theorem maxL_of {W : World} (hsh : W.ShapedOpen Tryd.prog) : MaxL W.heap.size W := by
  obtain ⟨m, hm⟩ := Tryd.laysM146.s1_3 W hsh
  exact ⟨⟨m, hm⟩, World.block_lt_of_cell? W _ hm⟩
set_option maxHeartbeats 1000000 in
set_option maxRecDepth 100000 in
theorem made_long (path data : ByteArray) (p : Option Addr) (cap : Nat) (d : Bool) (w : World) (h : 1000 < data.size) :
    Calls Tryd.prog 5 #[.string path, .slice p data.size cap, .bool d] w fun e w' => e = .returned (.bool true) ∧ Below w.heap.size w w' := by
  have hdI : (1000 : Int) < (data.size : Int) := by omega
  go_enter Tryd.func5, Tryd.ntmps5
  go_wp2_with fail
  refine (awake18_any _).mono ?_
  rintro e w1 ⟨rfl, b1⟩
  have b2 := ((Below.refl w.heap.size w).alloc (Nat.le_refl _) (.cells #[.string path] 9)).trans (b1.mono (by simp))
  clear b1
  go_wp2_with fail
  go_ret
  exact ⟨rfl, b2⟩
theorem made_any {N : Nat} {E : Nat → Addr} (path data : ByteArray) (p : Option Addr) (cap : Nat) (d : Bool) (w : World) (hS : HasB w p data) (hnil : p = none → cap = 0) (hcap : data.size ≤ cap) (hE : Errs N E w) (hM : MaxL N w) (hN : N ≤ w.heap.size) :
    Calls Tryd.prog 5 #[.string path, .slice p data.size cap, .bool d] w fun e w' => e = .returned (.bool true) ∧ Below w.heap.size w w' := by
  by_cases h : 1000 < data.size
  · exact made_long path data p cap d w h
  · cases d with
    | true => exact made_dir path data p cap w hE hM hN (by omega)
    | false =>
      by_cases h0 : 0 < data.size
      · exact made_some path data p cap w hE hM hN (by omega) hS hnil hcap h0
      · exact made_none path data p cap w hE hM hN (by omega) hS hnil hcap h0
end Go.Proofs.YtfnaooplpofgiaaDoor
