/- errors.Is and fault.Is at the errors that the package makes. The conditions: the error, the sentinels lie in memory. -/
import Derived.Test.YteeopjgfiojoiaaDoorErr
import Derived.Handy
import Derived.LaidEql
import Derived.Stop.Asserts
import Derived.RowKitTokens
namespace Go.Proofs.YteeopjgfiojoiaaDoor
open Go Go.RowKit SN

open Go.Extern.Stop Go.Stop Go.Extern
theorem isTypeOf (v : Value) (w : World) : (Extern.ReflectliteType.typeOf #[.iface 167 v]).run Tryd.prog w = .ok (.iface 145 (.agg #[.pointer (some ⟨23, 167, none⟩)])) w := by kernel_rfl
theorem isComparable (w : World) : ((Extern.ReflectliteType.method fun t => do Extern.Rtype.noPackHeld "Comparable" t; (fun a => Value.bool a.comparable) <$> typeInfo t) #[.agg #[.pointer (some ⟨23, 167, none⟩)]]).run Tryd.prog w = .ok (.bool true) w := by kernel_rfl
theorem isComp : (Tryd.prog.info? 167).map (·.comparable) = some true := by kernel_rfl
theorem isSize : (Tryd.prog.info? 185).map (·.size) = some 1 := by kernel_rfl
theorem noIsE (v : Value) (xT : TypeId) (w : World) : (Instr.typeAssert (.iface 167 v) xT 158 true).run Tryd.prog w = .ok (.tuple #[.nilIface, .bool false]) w := run_typeAssert_lacksB Tryd.underlying158 (by kernel_rfl) (by kernel_rfl) v xT w
theorem noUnwrapE (v : Value) (xT : TypeId) (w : World) : (Instr.typeAssert (.iface 167 v) xT 152 true).run Tryd.prog w = .ok (.tuple #[.nilIface, .bool false]) w := run_typeAssert_lacksB Tryd.underlying152 (by kernel_rfl) (by kernel_rfl) v xT w
theorem noUnwrapsE (v : Value) (xT : TypeId) (w : World) : (Instr.typeAssert (.iface 167 v) xT 154 true).run Tryd.prog w = .ok (.tuple #[.nilIface, .bool false]) w := run_typeAssert_lacksB Tryd.underlying154 (by kernel_rfl) (by kernel_rfl) v xT w
theorem noIsP (v : Value) (xT : TypeId) (w : World) : (Instr.typeAssert (.iface 106 v) xT 158 true).run Tryd.prog w = .ok (.tuple #[.nilIface, .bool false]) w := run_typeAssert_lacksB Tryd.underlying158 (by kernel_rfl) (by kernel_rfl) v xT w
theorem noIsS (v : Value) (xT : TypeId) (w : World) : (Instr.typeAssert (.iface 111 v) xT 158 true).run Tryd.prog w = .ok (.tuple #[.nilIface, .bool false]) w := run_typeAssert_lacksB Tryd.underlying158 (by kernel_rfl) (by kernel_rfl) v xT w
theorem hasUnwrapP (v : Value) (xT : TypeId) (w : World) : (Instr.typeAssert (.iface 106 v) xT 152 true).run Tryd.prog w = .ok (.tuple #[.iface 106 v, .bool true]) w := run_typeAssert_hasB Tryd.underlying152 (by kernel_rfl) v xT w
theorem hasUnwrapS (v : Value) (xT : TypeId) (w : World) : (Instr.typeAssert (.iface 111 v) xT 152 true).run Tryd.prog w = .ok (.tuple #[.iface 111 v, .bool true]) w := run_typeAssert_hasB Tryd.underlying152 (by kernel_rfl) v xT w
set_option maxHeartbeats 2000000 in
set_option maxRecDepth 100000 in
theorem is_same (S P : Nat) (a : Addr) (lang pos : Int) (w : World) (h1 : w.heap[S]? = some (.cells #[.iface 106 (.pointer (some ⟨P, 0, none⟩)), .int .i64 lang] 114 (0, 0))) (h2 : w.heap[P]? = some (.cells #[.iface 167 (.pointer (some a)), .int .i64 pos] 110 (0, 0))) :
    Calls Tryd.prog 77 #[.iface 111 (.pointer (some ⟨S, 0, none⟩)), .iface 167 (.pointer (some a))] w fun e w' => e = .returned (.bool true) ∧ w = w' := by
  obtain ⟨i, hi, hcmp⟩ := Option.map_eq_some_iff.1 isComp
  obtain ⟨j, hj, hjs⟩ := Option.map_eq_some_iff.1 isSize
  have c1 : w.cell? ⟨S, 0, none⟩ = some (.iface 106 (.pointer (some ⟨P, 0, none⟩))) := row_cell h1 rfl
  have c2 : w.cell? ⟨P, 0, none⟩ = some (.iface 167 (.pointer (some a))) := row_cell h2 rfl
  clear h1 h2
  have h8 := @run_callFunc_extern Tryd.prog 85 _ Extern.ReflectliteType.typeOf Tryd.func85 (by kernel_rfl) (by kernel_rfl) (by kernel_rfl) (by kernel_rfl)
  have h32 := @run_callFunc_extern Tryd.prog 125 _ (Extern.ReflectliteType.method fun t => do Extern.Rtype.noPackHeld "Comparable" t; pure (.bool (← typeInfo t).comparable)) Tryd.func125 (by kernel_rfl) (by kernel_rfl) (by kernel_rfl) (by kernel_rfl)
  have tT := isTypeOf
  have cT := isComparable
  have nE := noIsE
  have uE := noUnwrapE
  have vE := noUnwrapsE
  have nP := noIsP
  have nS := noIsS
  have uP := hasUnwrapP
  have uS := hasUnwrapS
  have heq := run_eql_iface_ptr_same (P := Tryd.prog) w a Tryd.underlying46 Tryd.underlying167 hi hcmp hj
  have ht1 := run_eql_iface_types (P := Tryd.prog) 111 167 (.pointer (some ⟨S, 0, none⟩)) (.pointer (some a)) Tryd.underlying46 (by decide) w
  have ht2 := run_eql_iface_types (P := Tryd.prog) 106 167 (.pointer (some ⟨P, 0, none⟩)) (.pointer (some a)) Tryd.underlying46 (by decide) w
  go_enter Tryd.func77, Tryd.ntmps77
  go_wp2
  refine wp_loop_rounds 3 ?_
  rw [rounds_succ]
  go_wp2
  rw [rounds_succ]
  go_wp2
  rw [rounds_succ]
  go_wp2
  go_ret
  exact ⟨rfl, rfl⟩
set_option maxHeartbeats 2000000 in
set_option maxRecDepth 100000 in
theorem is_other (S P : Nat) (a b : Addr) (ca cb : Array Value) (ta tb : TypeId) (hne : a ≠ b) (lang pos : Int) (w : World) (ha : w.heap[a.block]? = some (.cells ca ta (0, 0))) (hb : w.heap[b.block]? = some (.cells cb tb (0, 0))) (h1 : w.heap[S]? = some (.cells #[.iface 106 (.pointer (some ⟨P, 0, none⟩)), .int .i64 lang] 114 (0, 0))) (h2 : w.heap[P]? = some (.cells #[.iface 167 (.pointer (some a)), .int .i64 pos] 110 (0, 0))) :
    Calls Tryd.prog 77 #[.iface 111 (.pointer (some ⟨S, 0, none⟩)), .iface 167 (.pointer (some b))] w fun e w' => e = .returned (.bool false) ∧ w = w' := by
  obtain ⟨i, hi, hcmp⟩ := Option.map_eq_some_iff.1 isComp
  obtain ⟨j, hj, hjs⟩ := Option.map_eq_some_iff.1 isSize
  have c1 : w.cell? ⟨S, 0, none⟩ = some (.iface 106 (.pointer (some ⟨P, 0, none⟩))) := row_cell h1 rfl
  have c2 : w.cell? ⟨P, 0, none⟩ = some (.iface 167 (.pointer (some a))) := row_cell h2 rfl
  clear h1 h2
  have h8 := @run_callFunc_extern Tryd.prog 85 _ Extern.ReflectliteType.typeOf Tryd.func85 (by kernel_rfl) (by kernel_rfl) (by kernel_rfl) (by kernel_rfl)
  have h32 := @run_callFunc_extern Tryd.prog 125 _ (Extern.ReflectliteType.method fun t => do Extern.Rtype.noPackHeld "Comparable" t; pure (.bool (← typeInfo t).comparable)) Tryd.func125 (by kernel_rfl) (by kernel_rfl) (by kernel_rfl) (by kernel_rfl)
  have tT := isTypeOf
  have cT := isComparable
  have nE := noIsE
  have uE := noUnwrapE
  have vE := noUnwrapsE
  have nP := noIsP
  have nS := noIsS
  have uP := hasUnwrapP
  have uS := hasUnwrapS
  have heq := run_eql_iface_ptr_other (P := Tryd.prog) w Tryd.underlying46 Tryd.underlying167 hi hcmp hj (by rw [hjs]; decide) hne ha hb
  have ht1 := run_eql_iface_types (P := Tryd.prog) 111 167 (.pointer (some ⟨S, 0, none⟩)) (.pointer (some b)) Tryd.underlying46 (by decide) w
  have ht2 := run_eql_iface_types (P := Tryd.prog) 106 167 (.pointer (some ⟨P, 0, none⟩)) (.pointer (some b)) Tryd.underlying46 (by decide) w
  go_enter Tryd.func77, Tryd.ntmps77
  go_wp2
  refine wp_loop_rounds 3 ?_
  rw [rounds_succ]
  go_wp2
  rw [rounds_succ]
  go_wp2
  rw [rounds_succ]
  go_wp2
  go_ret
  exact ⟨rfl, rfl⟩
/-- fault.Is: has the error this code? -/
theorem fis_any {N : Nat} {E : Nat → Addr} {w : World} (hE : Errs N E w) {v : Value} {c : Nat} {pos lang : Int} (hv : IsErr w E v c pos lang) (hc1 : 1 ≤ c) (hc2 : c ≤ 21) (k : Nat) (hk1 : 1 ≤ k) (hk2 : k ≤ 21) :
    Calls Tryd.prog 68 #[v, .int .i64 k] w fun e w' => e = .returned (.bool (decide (k = c))) ∧ w = w' := by
  obtain ⟨S, P, rfl, h1, h2⟩ := hv
  have hof := Lib.hid (of_any (N := N) (E := E) hE k hk1 hk2)
  have his : Calls Tryd.prog 77 #[.iface 111 (.pointer (some ⟨S, 0, none⟩)), .iface 167 (.pointer (some (E k)))] w fun e w' => e = .returned (.bool (decide (k = c))) ∧ w = w' := by
    by_cases h : k = c
    · subst h
      rw [decide_eq_true rfl]
      exact is_same S P _ lang pos w h1 h2
    · rw [decide_eq_false h]
      obtain ⟨ca, ta, ha⟩ := hE.blk c hc1 hc2
      obtain ⟨cb, tb, hb⟩ := hE.blk k hk1 hk2
      exact is_other S P (E c) (E k) ca cb ta tb (fun e => h (hE.inj _ _ hc1 hc2 hk1 hk2 e).symm) lang pos w ha hb h1 h2
  have his' := Lib.hid his
  clear his h1 h2 hE
  go_enter Tryd.func68, Tryd.ntmps68
  go_wp2_with (first | (go_at_call 63; refine hof.out.mono ?_; rintro e w' ⟨rfl, rfl⟩) | (go_at_call 77; refine his'.out.mono ?_; rintro e w' ⟨rfl, rfl⟩))
  go_ret
  exact ⟨rfl, rfl⟩
end Go.Proofs.YteeopjgfiojoiaaDoor
