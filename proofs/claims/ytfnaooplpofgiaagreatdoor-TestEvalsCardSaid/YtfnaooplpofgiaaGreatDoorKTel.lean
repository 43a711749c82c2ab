/- errors.Is, errors.As and fault.Tell at the errors of the package's making. Conditions: the error, the sentinels and errors.errorType lie in memory. -/
import Derived.Test.YtfnaooplpofgiaaGreatDoorKErr
import Derived.Handy
import Derived.LaidEql
import Derived.Stop.Asserts
import Derived.RowKitTokens
namespace Go.Proofs.YtfnaooplpofgiaaGreatDoor
open Go Go.RowKit SN

open Go.Extern.Stop Go.Stop Go.Extern
theorem isTypeOf (v : Value) (w : World) : (Extern.ReflectliteType.typeOf #[.iface 184 v]).run Tryz.prog w = .ok (.iface 127 (.agg #[.pointer (some ⟨25, 184, none⟩)])) w := by kernel_rfl
theorem isComparable (w : World) : ((Extern.ReflectliteType.method fun t => do Extern.Rtype.noPackHeld "Comparable" t; (fun a => Value.bool a.comparable) <$> typeInfo t) #[.agg #[.pointer (some ⟨25, 184, none⟩)]]).run Tryz.prog w = .ok (.bool true) w := by kernel_rfl
theorem isComp : (Tryz.prog.info? 184).map (·.comparable) = some true := by kernel_rfl
theorem isSize : (Tryz.prog.info? 205).map (·.size) = some 1 := by kernel_rfl
theorem noIsE (v : Value) (xT : TypeId) (w : World) : (Instr.typeAssert (.iface 184 v) xT 150 true).run Tryz.prog w = .ok (.tuple #[.nilIface, .bool false]) w := run_typeAssert_lacksB Tryz.underlying150 (by kernel_rfl) (by kernel_rfl) v xT w
theorem noUnwrapE (v : Value) (xT : TypeId) (w : World) : (Instr.typeAssert (.iface 184 v) xT 134 true).run Tryz.prog w = .ok (.tuple #[.nilIface, .bool false]) w := run_typeAssert_lacksB Tryz.underlying134 (by kernel_rfl) (by kernel_rfl) v xT w
theorem noUnwrapsE (v : Value) (xT : TypeId) (w : World) : (Instr.typeAssert (.iface 184 v) xT 136 true).run Tryz.prog w = .ok (.tuple #[.nilIface, .bool false]) w := run_typeAssert_lacksB Tryz.underlying136 (by kernel_rfl) (by kernel_rfl) v xT w
theorem noIsP (v : Value) (xT : TypeId) (w : World) : (Instr.typeAssert (.iface 48 v) xT 150 true).run Tryz.prog w = .ok (.tuple #[.nilIface, .bool false]) w := run_typeAssert_lacksB Tryz.underlying150 (by kernel_rfl) (by kernel_rfl) v xT w
theorem noIsS (v : Value) (xT : TypeId) (w : World) : (Instr.typeAssert (.iface 53 v) xT 150 true).run Tryz.prog w = .ok (.tuple #[.nilIface, .bool false]) w := run_typeAssert_lacksB Tryz.underlying150 (by kernel_rfl) (by kernel_rfl) v xT w
theorem hasUnwrapP (v : Value) (xT : TypeId) (w : World) : (Instr.typeAssert (.iface 48 v) xT 134 true).run Tryz.prog w = .ok (.tuple #[.iface 48 v, .bool true]) w := run_typeAssert_hasB Tryz.underlying134 (by kernel_rfl) v xT w
theorem hasUnwrapS (v : Value) (xT : TypeId) (w : World) : (Instr.typeAssert (.iface 53 v) xT 134 true).run Tryz.prog w = .ok (.tuple #[.iface 53 v, .bool true]) w := run_typeAssert_hasB Tryz.underlying134 (by kernel_rfl) v xT w
set_option maxHeartbeats 2000000 in
set_option maxRecDepth 100000 in
theorem is_same (S P : Nat) (a : Addr) (lang pos : Int) (w : World) (h1 : w.heap[S]? = some (.cells #[.iface 48 (.pointer (some ⟨P, 0, none⟩)), .int .i64 lang] 56 (0, 0))) (h2 : w.heap[P]? = some (.cells #[.iface 184 (.pointer (some a)), .int .i64 pos] 52 (0, 0))) :
    Calls Tryz.prog 38 #[.iface 53 (.pointer (some ⟨S, 0, none⟩)), .iface 184 (.pointer (some a))] w fun e w' => e = .returned (.bool true) ∧ w = w' := by
  obtain ⟨i, hi, hcmp⟩ := Option.map_eq_some_iff.1 isComp
  obtain ⟨j, hj, hjs⟩ := Option.map_eq_some_iff.1 isSize
  have c1 : w.cell? ⟨S, 0, none⟩ = some (.iface 48 (.pointer (some ⟨P, 0, none⟩))) := row_cell h1 rfl
  have c2 : w.cell? ⟨P, 0, none⟩ = some (.iface 184 (.pointer (some a))) := row_cell h2 rfl
  clear h1 h2
  have h8 := @run_callFunc_extern Tryz.prog 58 _ Extern.ReflectliteType.typeOf Tryz.func58 (by kernel_rfl) (by kernel_rfl) (by kernel_rfl) (by kernel_rfl)
  have h32 := @run_callFunc_extern Tryz.prog 138 _ (Extern.ReflectliteType.method fun t => do Extern.Rtype.noPackHeld "Comparable" t; pure (.bool (← typeInfo t).comparable)) Tryz.func138 (by kernel_rfl) (by kernel_rfl) (by kernel_rfl) (by kernel_rfl)
  have tT := isTypeOf
  have cT := isComparable
  have nE := noIsE
  have uE := noUnwrapE
  have vE := noUnwrapsE
  have nP := noIsP
  have nS := noIsS
  have uP := hasUnwrapP
  have uS := hasUnwrapS
  have heq := run_eql_iface_ptr_same (P := Tryz.prog) w a Tryz.underlying24 Tryz.underlying184 hi hcmp hj
  have ht1 := run_eql_iface_types (P := Tryz.prog) 53 184 (.pointer (some ⟨S, 0, none⟩)) (.pointer (some a)) Tryz.underlying24 (by decide) w
  have ht2 := run_eql_iface_types (P := Tryz.prog) 48 184 (.pointer (some ⟨P, 0, none⟩)) (.pointer (some a)) Tryz.underlying24 (by decide) w
  go_enter Tryz.func38, Tryz.ntmps38
  go_wp2
  refine wp_loop_rounds 3 ?_
  rw [rounds_succ]
  go_wp2
  rw [rounds_succ]
  go_wp2
  rw [rounds_succ]
  go_wp2
  go_ret
  exact ⟨rfl, rfl⟩
set_option maxHeartbeats 2000000 in
set_option maxRecDepth 100000 in
theorem is_other (S P : Nat) (a b : Addr) (ca cb : Array Value) (ta tb : TypeId) (hne : a ≠ b) (lang pos : Int) (w : World) (ha : w.heap[a.block]? = some (.cells ca ta (0, 0))) (hb : w.heap[b.block]? = some (.cells cb tb (0, 0))) (h1 : w.heap[S]? = some (.cells #[.iface 48 (.pointer (some ⟨P, 0, none⟩)), .int .i64 lang] 56 (0, 0))) (h2 : w.heap[P]? = some (.cells #[.iface 184 (.pointer (some a)), .int .i64 pos] 52 (0, 0))) :
    Calls Tryz.prog 38 #[.iface 53 (.pointer (some ⟨S, 0, none⟩)), .iface 184 (.pointer (some b))] w fun e w' => e = .returned (.bool false) ∧ w = w' := by
  obtain ⟨i, hi, hcmp⟩ := Option.map_eq_some_iff.1 isComp
  obtain ⟨j, hj, hjs⟩ := Option.map_eq_some_iff.1 isSize
  have c1 : w.cell? ⟨S, 0, none⟩ = some (.iface 48 (.pointer (some ⟨P, 0, none⟩))) := row_cell h1 rfl
  have c2 : w.cell? ⟨P, 0, none⟩ = some (.iface 184 (.pointer (some a))) := row_cell h2 rfl
  clear h1 h2
  have h8 := @run_callFunc_extern Tryz.prog 58 _ Extern.ReflectliteType.typeOf Tryz.func58 (by kernel_rfl) (by kernel_rfl) (by kernel_rfl) (by kernel_rfl)
  have h32 := @run_callFunc_extern Tryz.prog 138 _ (Extern.ReflectliteType.method fun t => do Extern.Rtype.noPackHeld "Comparable" t; pure (.bool (← typeInfo t).comparable)) Tryz.func138 (by kernel_rfl) (by kernel_rfl) (by kernel_rfl) (by kernel_rfl)
  have tT := isTypeOf
  have cT := isComparable
  have nE := noIsE
  have uE := noUnwrapE
  have vE := noUnwrapsE
  have nP := noIsP
  have nS := noIsS
  have uP := hasUnwrapP
  have uS := hasUnwrapS
  have heq := run_eql_iface_ptr_other (P := Tryz.prog) w Tryz.underlying24 Tryz.underlying184 hi hcmp hj (by rw [hjs]; decide) hne ha hb
  have ht1 := run_eql_iface_types (P := Tryz.prog) 53 184 (.pointer (some ⟨S, 0, none⟩)) (.pointer (some b)) Tryz.underlying24 (by decide) w
  have ht2 := run_eql_iface_types (P := Tryz.prog) 48 184 (.pointer (some ⟨P, 0, none⟩)) (.pointer (some b)) Tryz.underlying24 (by decide) w
  go_enter Tryz.func38, Tryz.ntmps38
  go_wp2
  refine wp_loop_rounds 3 ?_
  rw [rounds_succ]
  go_wp2
  rw [rounds_succ]
  go_wp2
  rw [rounds_succ]
  go_wp2
  go_ret
  exact ⟨rfl, rfl⟩
/-- fault.Is: has the error this code? -/
theorem fis_any {N : Nat} {E : Nat → Addr} {w : World} (hE : Errs N E w) {v : Value} {c : Nat} {pos lang : Int} (hv : IsErr w E v c pos lang) (hc1 : 1 ≤ c) (hc2 : c ≤ 21) (k : Nat) (hk1 : 1 ≤ k) (hk2 : k ≤ 21) :
    Calls Tryz.prog 18 #[v, .int .i64 k] w fun e w' => e = .returned (.bool (decide (k = c))) ∧ w = w' := by
  obtain ⟨S, P, rfl, h1, h2⟩ := hv
  have hof := Lib.hid (of_any (N := N) (E := E) hE k hk1 hk2)
  have his : Calls Tryz.prog 38 #[.iface 53 (.pointer (some ⟨S, 0, none⟩)), .iface 184 (.pointer (some (E k)))] w fun e w' => e = .returned (.bool (decide (k = c))) ∧ w = w' := by
    by_cases h : k = c
    · subst h
      rw [decide_eq_true rfl]
      exact is_same S P _ lang pos w h1 h2
    · rw [decide_eq_false h]
      obtain ⟨ca, ta, ha⟩ := hE.blk c hc1 hc2
      obtain ⟨cb, tb, hb⟩ := hE.blk k hk1 hk2
      exact is_other S P (E c) (E k) ca cb ta tb (fun e => h (hE.inj _ _ hc1 hc2 hk1 hk2 e).symm) lang pos w ha hb h1 h2
  have his' := Lib.hid his
  clear his h1 h2 hE
  go_enter Tryz.func18, Tryz.ntmps18
  go_wp2_with (first | (go_at_call 28; refine hof.out.mono ?_; rintro e w' ⟨rfl, rfl⟩) | (go_at_call 38; refine his'.out.mono ?_; rintro e w' ⟨rfl, rfl⟩))
  go_ret
  exact ⟨rfl, rfl⟩
end Go.Proofs.YtfnaooplpofgiaaGreatDoor
namespace Go.Proofs.YtfnaooplpofgiaaGreatDoor
open Go Go.RowKit SN
open Go.Extern.Stop Go.Stop Go.Extern
theorem rlm (z : Sem Value) (f : TypeId → Addr → Nat → Nat → Sem Value) (v : Value) :
    ReflectliteValue.method z f #[v] = (do match ← ReflectliteValue.parts v with | none => z | some (t, a, fl) => f t a fl (fl % 32)) := rfl
theorem rls (v x : Value) : ReflectliteValue.set #[v, x] = (do
    let (some (dst, a, fl), some (src, b, _)) := (← ReflectliteValue.parts v, ← ReflectliteValue.parts x)
      | unsupported (.noEntry "extern/(internal/reflectlite.Value).Set.zeroValue")
    if fl / ReflectliteValue.flagAddr % 2 == 0 then unsupported (.noEntry "extern/(internal/reflectlite.Value).Set.unaddressable")
    let val ← loadVar src b
    if ← Rtype.directlyAssignable dst src then storeVar dst a val
    else if ← Rtype.implements dst src then
      if (← Rtype.kind src) == 20 then
        match val with
        | .nilIface => unsupported (.noEntry "extern/reflectlite: a nil value of one interface type handed on as a value of another")
        | _ => storeVar dst a val
      else storeVar dst a (.iface src val)
    else panicString ("reflectlite.Set: value of type " ++ (← Rtype.spelt src) ++ " is not assignable to type " ++ (← Rtype.spelt dst))
    pure (.tuple #[])) := rfl
theorem noAsP (v : Value) (xT : TypeId) (w : World) : (Instr.typeAssert (.iface 48 v) xT 131 true).run Tryz.prog w = .ok (.tuple #[.nilIface, .bool false]) w := run_typeAssert_lacksB Tryz.underlying131 (by kernel_rfl) (by kernel_rfl) v xT w
theorem noAsS (v : Value) (xT : TypeId) (w : World) : (Instr.typeAssert (.iface 53 v) xT 131 true).run Tryz.prog w = .ok (.tuple #[.nilIface, .bool false]) w := run_typeAssert_lacksB Tryz.underlying131 (by kernel_rfl) (by kernel_rfl) v xT w
theorem valueOfPPP (t : Addr) (w : World) : (ReflectliteValue.unpack (.iface 50 (.pointer (some t)))).run Tryz.prog w
    = .ok (.agg #[.pointer (some ⟨25, 50, none⟩), .pointer (some ⟨w.heap.size, 0, none⟩), .int .u64 150]) (w.alloc (.cells #[.pointer (some t)] 50)) := by kernel_rfl
theorem typePPP (a : Addr) (w : World) : (ReflectliteValue.methodAny (ReflectliteValue.valueError "reflectlite.Value.Type" 0) (fun t _ _ _ => ReflectliteType.toType t) #[.agg #[.pointer (some ⟨25, 50, none⟩), .pointer (some a), .int .u64 150]]).run Tryz.prog w
    = .ok (.iface 127 (.agg #[.pointer (some ⟨25, 50, none⟩)])) w := by kernel_rfl
theorem kindPPP (w : World) : ((ReflectliteType.abiMethod fun t => (fun a : Nat => Value.int IntKind.u8 (a : Int)) <$> Rtype.kind t) #[.pointer (some ⟨25, 50, none⟩)]).run Tryz.prog w = .ok (.int .u8 22) w := by kernel_rfl
theorem kindPP (w : World) : ((ReflectliteType.abiMethod fun t => (fun a : Nat => Value.int IntKind.u8 (a : Int)) <$> Rtype.kind t) #[.pointer (some ⟨25, 48, none⟩)]).run Tryz.prog w = .ok (.int .u8 22) w := by kernel_rfl
theorem partsPPP (a : Addr) (w : World) : (ReflectliteValue.parts (.agg #[.pointer (some ⟨25, 50, none⟩), .pointer (some a), .int .u64 150])).run Tryz.prog w = .ok (some (50, a, 150)) w := by kernel_rfl
theorem isNilPPP (a p : Addr) (W : World) (ha : W.cell? a = some (.pointer (some p))) :
    (ReflectliteValue.method (ReflectliteValue.valueError "reflectlite.Value.IsNil" 0) ReflectliteValue.isNil #[.agg #[.pointer (some ⟨25, 50, none⟩), .pointer (some a), .int .u64 150]]).run Tryz.prog W = .ok (.bool false) W := by
  rw [rlm]
  simp only [Sem.run_bind, partsPPP, Result.andThen]
  simp [ReflectliteValue.isNil, loadVar, isAgg, underlying, Tryz.underlying50, ha, Result.andThen]
theorem elemPPP (w : World) : (ReflectliteType.method ReflectliteType.elem #[.agg #[.pointer (some ⟨25, 50, none⟩)]]).run Tryz.prog w = .ok (.iface 127 (.agg #[.pointer (some ⟨25, 48, none⟩)])) w := by kernel_rfl
theorem implementsPP (w : World) : (ReflectliteType.relation "Implements" ReflectliteType.implements_ #[.agg #[.pointer (some ⟨25, 48, none⟩)], .iface 127 (.agg #[.pointer (some ⟨25, 24, none⟩)])]).run Tryz.prog w = .ok (.bool true) w := by kernel_rfl
theorem typeOfPP (v : Value) (w : World) : (ReflectliteType.typeOf #[.iface 48 v]).run Tryz.prog w = .ok (.iface 127 (.agg #[.pointer (some ⟨25, 48, none⟩)])) w := by kernel_rfl
theorem assignPP (w : World) : (ReflectliteType.relation "AssignableTo" ReflectliteType.assignableTo #[.agg #[.pointer (some ⟨25, 48, none⟩)], .iface 127 (.agg #[.pointer (some ⟨25, 48, none⟩)])]).run Tryz.prog w = .ok (.bool true) w := by kernel_rfl
theorem valueOfPP (e : Addr) (w : World) : (ReflectliteValue.unpack (.iface 48 (.pointer (some e)))).run Tryz.prog w
    = .ok (.agg #[.pointer (some ⟨25, 48, none⟩), .pointer (some ⟨w.heap.size, 0, none⟩), .int .u64 150]) (w.alloc (.cells #[.pointer (some e)] 48)) := by kernel_rfl
theorem elemOfPPP (w : World) : (Rtype.elem? 50).run Tryz.prog w = .ok (some 48) w := by kernel_rfl
theorem mkPP (p : Addr) (w : World) : (ReflectliteValue.mk 48 p ReflectliteValue.flagAddr).run Tryz.prog w = .ok (.agg #[.pointer (some ⟨25, 48, none⟩), .pointer (some p), .int .u64 406]) w := by kernel_rfl
theorem elemVPPP (a p : Addr) (W : World) (ha : W.cell? a = some (.pointer (some p))) :
    (ReflectliteValue.method (ReflectliteValue.valueError "reflectlite.Value.Elem" 0) ReflectliteValue.elem #[.agg #[.pointer (some ⟨25, 50, none⟩), .pointer (some a), .int .u64 150]]).run Tryz.prog W
      = .ok (.agg #[.pointer (some ⟨25, 48, none⟩), .pointer (some p), .int .u64 406]) W := by
  rw [rlm]
  simp only [Sem.run_bind, partsPPP, Result.andThen]
  simp [ReflectliteValue.elem, loadVar, isAgg, underlying, Tryz.underlying50, ha, Result.andThen, elemOfPPP, mkPP]
theorem partsPaP (a : Addr) (w : World) : (ReflectliteValue.parts (.agg #[.pointer (some ⟨25, 48, none⟩), .pointer (some a), .int .u64 406])).run Tryz.prog w = .ok (some (48, a, 406)) w := by kernel_rfl
theorem partsPP (a : Addr) (w : World) : (ReflectliteValue.parts (.agg #[.pointer (some ⟨25, 48, none⟩), .pointer (some a), .int .u64 150])).run Tryz.prog w = .ok (some (48, a, 150)) w := by kernel_rfl
theorem directPP (w : World) : (Rtype.directlyAssignable 48 48).run Tryz.prog w = .ok true w := by kernel_rfl
theorem setPP (ta b e : Addr) (old : Value) (W : World) (hb : W.cell? b = some (.pointer (some e))) (ht : W.cell? ta = some old) (hf : W.frozen? ta = false) :
    (ReflectliteValue.set #[.agg #[.pointer (some ⟨25, 48, none⟩), .pointer (some ta), .int .u64 406], .agg #[.pointer (some ⟨25, 48, none⟩), .pointer (some b), .int .u64 150]]).run Tryz.prog W
      = .ok (.tuple #[]) (W.setCell ta (.pointer (some e))) := by
  rw [rls]
  simp only [Sem.run_bind, partsPaP, partsPP, Result.andThen]
  simp [ReflectliteValue.flagAddr, loadVar, isAgg, underlying, Tryz.underlying48, hb, Result.andThen, directPP, storeVar, Value.cells, storeCells, Addr.add]
  rw [run_store Tryz.prog W ta _ _ (by rfl)]
  simp [ht, hf]
theorem valueOfPPS (t : Addr) (w : World) : (ReflectliteValue.unpack (.iface 54 (.pointer (some t)))).run Tryz.prog w
    = .ok (.agg #[.pointer (some ⟨25, 54, none⟩), .pointer (some ⟨w.heap.size, 0, none⟩), .int .u64 150]) (w.alloc (.cells #[.pointer (some t)] 54)) := by kernel_rfl
theorem typePPS (a : Addr) (w : World) : (ReflectliteValue.methodAny (ReflectliteValue.valueError "reflectlite.Value.Type" 0) (fun t _ _ _ => ReflectliteType.toType t) #[.agg #[.pointer (some ⟨25, 54, none⟩), .pointer (some a), .int .u64 150]]).run Tryz.prog w
    = .ok (.iface 127 (.agg #[.pointer (some ⟨25, 54, none⟩)])) w := by kernel_rfl
theorem kindPPS (w : World) : ((ReflectliteType.abiMethod fun t => (fun a : Nat => Value.int IntKind.u8 (a : Int)) <$> Rtype.kind t) #[.pointer (some ⟨25, 54, none⟩)]).run Tryz.prog w = .ok (.int .u8 22) w := by kernel_rfl
theorem kindPS (w : World) : ((ReflectliteType.abiMethod fun t => (fun a : Nat => Value.int IntKind.u8 (a : Int)) <$> Rtype.kind t) #[.pointer (some ⟨25, 53, none⟩)]).run Tryz.prog w = .ok (.int .u8 22) w := by kernel_rfl
theorem partsPPS (a : Addr) (w : World) : (ReflectliteValue.parts (.agg #[.pointer (some ⟨25, 54, none⟩), .pointer (some a), .int .u64 150])).run Tryz.prog w = .ok (some (54, a, 150)) w := by kernel_rfl
theorem isNilPPS (a p : Addr) (W : World) (ha : W.cell? a = some (.pointer (some p))) :
    (ReflectliteValue.method (ReflectliteValue.valueError "reflectlite.Value.IsNil" 0) ReflectliteValue.isNil #[.agg #[.pointer (some ⟨25, 54, none⟩), .pointer (some a), .int .u64 150]]).run Tryz.prog W = .ok (.bool false) W := by
  rw [rlm]
  simp only [Sem.run_bind, partsPPS, Result.andThen]
  simp [ReflectliteValue.isNil, loadVar, isAgg, underlying, Tryz.underlying54, ha, Result.andThen]
theorem elemPPS (w : World) : (ReflectliteType.method ReflectliteType.elem #[.agg #[.pointer (some ⟨25, 54, none⟩)]]).run Tryz.prog w = .ok (.iface 127 (.agg #[.pointer (some ⟨25, 53, none⟩)])) w := by kernel_rfl
theorem implementsPS (w : World) : (ReflectliteType.relation "Implements" ReflectliteType.implements_ #[.agg #[.pointer (some ⟨25, 53, none⟩)], .iface 127 (.agg #[.pointer (some ⟨25, 24, none⟩)])]).run Tryz.prog w = .ok (.bool true) w := by kernel_rfl
theorem typeOfPS (v : Value) (w : World) : (ReflectliteType.typeOf #[.iface 53 v]).run Tryz.prog w = .ok (.iface 127 (.agg #[.pointer (some ⟨25, 53, none⟩)])) w := by kernel_rfl
theorem assignPS (w : World) : (ReflectliteType.relation "AssignableTo" ReflectliteType.assignableTo #[.agg #[.pointer (some ⟨25, 53, none⟩)], .iface 127 (.agg #[.pointer (some ⟨25, 53, none⟩)])]).run Tryz.prog w = .ok (.bool true) w := by kernel_rfl
theorem valueOfPS (e : Addr) (w : World) : (ReflectliteValue.unpack (.iface 53 (.pointer (some e)))).run Tryz.prog w
    = .ok (.agg #[.pointer (some ⟨25, 53, none⟩), .pointer (some ⟨w.heap.size, 0, none⟩), .int .u64 150]) (w.alloc (.cells #[.pointer (some e)] 53)) := by kernel_rfl
theorem elemOfPPS (w : World) : (Rtype.elem? 54).run Tryz.prog w = .ok (some 53) w := by kernel_rfl
theorem mkPS (p : Addr) (w : World) : (ReflectliteValue.mk 53 p ReflectliteValue.flagAddr).run Tryz.prog w = .ok (.agg #[.pointer (some ⟨25, 53, none⟩), .pointer (some p), .int .u64 406]) w := by kernel_rfl
theorem elemVPPS (a p : Addr) (W : World) (ha : W.cell? a = some (.pointer (some p))) :
    (ReflectliteValue.method (ReflectliteValue.valueError "reflectlite.Value.Elem" 0) ReflectliteValue.elem #[.agg #[.pointer (some ⟨25, 54, none⟩), .pointer (some a), .int .u64 150]]).run Tryz.prog W
      = .ok (.agg #[.pointer (some ⟨25, 53, none⟩), .pointer (some p), .int .u64 406]) W := by
  rw [rlm]
  simp only [Sem.run_bind, partsPPS, Result.andThen]
  simp [ReflectliteValue.elem, loadVar, isAgg, underlying, Tryz.underlying54, ha, Result.andThen, elemOfPPS, mkPS]
theorem partsPaS (a : Addr) (w : World) : (ReflectliteValue.parts (.agg #[.pointer (some ⟨25, 53, none⟩), .pointer (some a), .int .u64 406])).run Tryz.prog w = .ok (some (53, a, 406)) w := by kernel_rfl
theorem partsPS (a : Addr) (w : World) : (ReflectliteValue.parts (.agg #[.pointer (some ⟨25, 53, none⟩), .pointer (some a), .int .u64 150])).run Tryz.prog w = .ok (some (53, a, 150)) w := by kernel_rfl
theorem directPS (w : World) : (Rtype.directlyAssignable 53 53).run Tryz.prog w = .ok true w := by kernel_rfl
theorem setPS (ta b e : Addr) (old : Value) (W : World) (hb : W.cell? b = some (.pointer (some e))) (ht : W.cell? ta = some old) (hf : W.frozen? ta = false) :
    (ReflectliteValue.set #[.agg #[.pointer (some ⟨25, 53, none⟩), .pointer (some ta), .int .u64 406], .agg #[.pointer (some ⟨25, 53, none⟩), .pointer (some b), .int .u64 150]]).run Tryz.prog W
      = .ok (.tuple #[]) (W.setCell ta (.pointer (some e))) := by
  rw [rls]
  simp only [Sem.run_bind, partsPaS, partsPS, Result.andThen]
  simp [ReflectliteValue.flagAddr, loadVar, isAgg, underlying, Tryz.underlying53, hb, Result.andThen, directPS, storeVar, Value.cells, storeCells, Addr.add]
  rw [run_store Tryz.prog W ta _ _ (by rfl)]
  simp [ht, hf]
theorem assignSP (w : World) : (ReflectliteType.relation "AssignableTo" ReflectliteType.assignableTo #[.agg #[.pointer (some ⟨25, 53, none⟩)], .iface 127 (.agg #[.pointer (some ⟨25, 48, none⟩)])]).run Tryz.prog w = .ok (.bool false) w := by kernel_rfl
set_option maxHeartbeats 4000000 in
set_option maxRecDepth 100000 in
theorem as_spoken (e t : Addr) (old : Value) (w : World) (hg : w.cell? ⟨0, 0, none⟩ = some (.iface 127 (.agg #[.pointer (some ⟨25, 24, none⟩)]))) (ht0 : w.cell? t = some old) (hf0 : w.frozen? t = false) :
    Calls Tryz.prog 19 #[.iface 53 (.pointer (some e)), .iface 54 (.pointer (some t))] w fun ev w' => ev = .returned (.bool true) ∧ w' = ((((w.alloc (.cells #[.pointer (some t)] 54)).alloc (.cells #[.pointer (some ⟨25, 54, none⟩), .pointer (some ⟨w.heap.size, 0, none⟩), .int .u64 150] 79)).alloc (.cells #[.pointer (some ⟨25, 54, none⟩), .pointer (some ⟨w.heap.size, 0, none⟩), .int .u64 150] 79)).alloc (.cells #[.pointer (some e)] 53)).setCell t (.pointer (some e)) := by
  have h6 := @run_callFunc_extern Tryz.prog 39 _ (fun args => ReflectliteValue.unpack (args.getD 0 (.tuple #[]))) Tryz.func39 (by kernel_rfl) (by kernel_rfl) (by kernel_rfl) (by kernel_rfl)
  have h7 := @run_callFunc_extern Tryz.prog 40 _ (ReflectliteValue.methodAny (ReflectliteValue.valueError "reflectlite.Value.Type" 0) (fun t _ _ _ => ReflectliteType.toType t)) Tryz.func40 (by kernel_rfl) (by kernel_rfl) (by kernel_rfl) (by kernel_rfl)
  have h8 := @run_callFunc_extern Tryz.prog 41 _ (ReflectliteValue.method (ReflectliteValue.valueError "reflectlite.Value.IsNil" 0) ReflectliteValue.isNil) Tryz.func41 (by kernel_rfl) (by kernel_rfl) (by kernel_rfl) (by kernel_rfl)
  have h27 := @run_callFunc_extern Tryz.prog 123 _ (ReflectliteType.abiMethod fun t => do pure (.int .u8 (← Rtype.kind t))) Tryz.func123 (by kernel_rfl) (by kernel_rfl) (by kernel_rfl) (by kernel_rfl)
  have h37 := @run_callFunc_extern Tryz.prog 139 _ (ReflectliteType.method ReflectliteType.elem) Tryz.func139 (by kernel_rfl) (by kernel_rfl) (by kernel_rfl) (by kernel_rfl)
  have h38 := @run_callFunc_extern Tryz.prog 140 _ (ReflectliteType.relation "Implements" ReflectliteType.implements_) Tryz.func140 (by kernel_rfl) (by kernel_rfl) (by kernel_rfl) (by kernel_rfl)
  have h10 := @run_callFunc_extern Tryz.prog 58 _ ReflectliteType.typeOf Tryz.func58 (by kernel_rfl) (by kernel_rfl) (by kernel_rfl) (by kernel_rfl)
  have h35 := @run_callFunc_extern Tryz.prog 137 _ (ReflectliteType.relation "AssignableTo" ReflectliteType.assignableTo) Tryz.func137 (by kernel_rfl) (by kernel_rfl) (by kernel_rfl) (by kernel_rfl)
  have h11 := @run_callFunc_extern Tryz.prog 60 _ (ReflectliteValue.method (ReflectliteValue.valueError "reflectlite.Value.Elem" 0) ReflectliteValue.elem) Tryz.func60 (by kernel_rfl) (by kernel_rfl) (by kernel_rfl) (by kernel_rfl)
  have h12 := @run_callFunc_extern Tryz.prog 61 _ ReflectliteValue.set Tryz.func61 (by kernel_rfl) (by kernel_rfl) (by kernel_rfl) (by kernel_rfl)
  have k0 := typeOfPS
  have k1 := assignPS
  have k2 := valueOfPS
  have k3 := valueOfPPS
  have k4 := typePPS
  have k5 := kindPPS
  have k6 := kindPS
  have k7 := elemPPS
  have k8 := implementsPS
  have n8 := isNilPPS ⟨w.heap.size, 0, none⟩ t ((w.alloc (.cells #[.pointer (some t)] 54)).alloc (.cells #[.pointer (some ⟨25, 54, none⟩), .pointer (some ⟨w.heap.size, 0, none⟩), .int .u64 150] 79)) (by simp)
  have hlt : 0 < w.heap.size := World.block_lt_of_cell? w _ hg
  have hg2 : ((w.alloc (.cells #[.pointer (some t)] 54)).alloc (.cells #[.pointer (some ⟨25, 54, none⟩), .pointer (some ⟨w.heap.size, 0, none⟩), .int .u64 150] 79)).cell? ⟨0, 0, none⟩ = some (.iface 127 (.agg #[.pointer (some ⟨25, 24, none⟩)])) := by
    rw [World.cell?_alloc_lt _ _ ⟨0, 0, none⟩ (by first | (simp; omega) | simp), World.cell?_alloc_lt _ _ ⟨0, 0, none⟩ hlt]; exact hg
  have htl : t.block < w.heap.size := World.block_lt_of_cell? w _ ht0
  have el := elemVPPS ⟨w.heap.size, 0, none⟩ t (((w.alloc (.cells #[.pointer (some t)] 54)).alloc (.cells #[.pointer (some ⟨25, 54, none⟩), .pointer (some ⟨w.heap.size, 0, none⟩), .int .u64 150] 79)).alloc (.cells #[.pointer (some ⟨25, 54, none⟩), .pointer (some ⟨w.heap.size, 0, none⟩), .int .u64 150] 79)) (by rw [World.cell?_alloc_lt _ _ ⟨w.heap.size, 0, none⟩ (by simp; omega)]; simp)
  have st := setPS t ⟨w.heap.size + 1 + 1 + 1, 0, none⟩ e old ((((w.alloc (.cells #[.pointer (some t)] 54)).alloc (.cells #[.pointer (some ⟨25, 54, none⟩), .pointer (some ⟨w.heap.size, 0, none⟩), .int .u64 150] 79)).alloc (.cells #[.pointer (some ⟨25, 54, none⟩), .pointer (some ⟨w.heap.size, 0, none⟩), .int .u64 150] 79)).alloc (.cells #[.pointer (some e)] 53))
    (by rw [World.cell?_alloc_at _ _ _ _ (by simp)]; rfl)
    (by rw [World.cell?_alloc_lt _ _ t (by simp; omega), World.cell?_alloc_lt _ _ t (by simp; omega), World.cell?_alloc_lt _ _ t (by simp; omega), World.cell?_alloc_lt _ _ t htl]; exact ht0)
    (by rw [World.frozen?_alloc_old _ _ t (by simp; omega), World.frozen?_alloc_old _ _ t (by simp; omega), World.frozen?_alloc_old _ _ t (by simp; omega), World.frozen?_alloc_old _ _ t (Nat.ne_of_lt htl)]; exact hf0)
  go_enter Tryz.func19, Tryz.ntmps19
  go_wp2
  refine wp_loop_rounds 1 ?_
  rw [rounds_succ]
  go_wp2
  go_ret
  exact ⟨rfl, rfl⟩
theorem valueOfPPW (t : Addr) (w : World) : (ReflectliteValue.unpack (.iface 64 (.pointer (some t)))).run Tryz.prog w
    = .ok (.agg #[.pointer (some ⟨25, 64, none⟩), .pointer (some ⟨w.heap.size, 0, none⟩), .int .u64 150]) (w.alloc (.cells #[.pointer (some t)] 64)) := by kernel_rfl
theorem typePPW (a : Addr) (w : World) : (ReflectliteValue.methodAny (ReflectliteValue.valueError "reflectlite.Value.Type" 0) (fun t _ _ _ => ReflectliteType.toType t) #[.agg #[.pointer (some ⟨25, 64, none⟩), .pointer (some a), .int .u64 150]]).run Tryz.prog w
    = .ok (.iface 127 (.agg #[.pointer (some ⟨25, 64, none⟩)])) w := by kernel_rfl
theorem kindPPW (w : World) : ((ReflectliteType.abiMethod fun t => (fun a : Nat => Value.int IntKind.u8 (a : Int)) <$> Rtype.kind t) #[.pointer (some ⟨25, 64, none⟩)]).run Tryz.prog w = .ok (.int .u8 22) w := by kernel_rfl
theorem kindPW (w : World) : ((ReflectliteType.abiMethod fun t => (fun a : Nat => Value.int IntKind.u8 (a : Int)) <$> Rtype.kind t) #[.pointer (some ⟨25, 42, none⟩)]).run Tryz.prog w = .ok (.int .u8 22) w := by kernel_rfl
theorem partsPPW (a : Addr) (w : World) : (ReflectliteValue.parts (.agg #[.pointer (some ⟨25, 64, none⟩), .pointer (some a), .int .u64 150])).run Tryz.prog w = .ok (some (64, a, 150)) w := by kernel_rfl
theorem isNilPPW (a p : Addr) (W : World) (ha : W.cell? a = some (.pointer (some p))) :
    (ReflectliteValue.method (ReflectliteValue.valueError "reflectlite.Value.IsNil" 0) ReflectliteValue.isNil #[.agg #[.pointer (some ⟨25, 64, none⟩), .pointer (some a), .int .u64 150]]).run Tryz.prog W = .ok (.bool false) W := by
  rw [rlm]
  simp only [Sem.run_bind, partsPPW, Result.andThen]
  simp [ReflectliteValue.isNil, loadVar, isAgg, underlying, Tryz.underlying64, ha, Result.andThen]
theorem elemPPW (w : World) : (ReflectliteType.method ReflectliteType.elem #[.agg #[.pointer (some ⟨25, 64, none⟩)]]).run Tryz.prog w = .ok (.iface 127 (.agg #[.pointer (some ⟨25, 42, none⟩)])) w := by kernel_rfl
theorem implementsPW (w : World) : (ReflectliteType.relation "Implements" ReflectliteType.implements_ #[.agg #[.pointer (some ⟨25, 42, none⟩)], .iface 127 (.agg #[.pointer (some ⟨25, 24, none⟩)])]).run Tryz.prog w = .ok (.bool true) w := by kernel_rfl
theorem typeOfPW (v : Value) (w : World) : (ReflectliteType.typeOf #[.iface 42 v]).run Tryz.prog w = .ok (.iface 127 (.agg #[.pointer (some ⟨25, 42, none⟩)])) w := by kernel_rfl
theorem assignPW (w : World) : (ReflectliteType.relation "AssignableTo" ReflectliteType.assignableTo #[.agg #[.pointer (some ⟨25, 42, none⟩)], .iface 127 (.agg #[.pointer (some ⟨25, 42, none⟩)])]).run Tryz.prog w = .ok (.bool true) w := by kernel_rfl
theorem valueOfPW (e : Addr) (w : World) : (ReflectliteValue.unpack (.iface 42 (.pointer (some e)))).run Tryz.prog w
    = .ok (.agg #[.pointer (some ⟨25, 42, none⟩), .pointer (some ⟨w.heap.size, 0, none⟩), .int .u64 150]) (w.alloc (.cells #[.pointer (some e)] 42)) := by kernel_rfl
theorem elemOfPPW (w : World) : (Rtype.elem? 64).run Tryz.prog w = .ok (some 42) w := by kernel_rfl
theorem mkPW (p : Addr) (w : World) : (ReflectliteValue.mk 42 p ReflectliteValue.flagAddr).run Tryz.prog w = .ok (.agg #[.pointer (some ⟨25, 42, none⟩), .pointer (some p), .int .u64 406]) w := by kernel_rfl
theorem elemVPPW (a p : Addr) (W : World) (ha : W.cell? a = some (.pointer (some p))) :
    (ReflectliteValue.method (ReflectliteValue.valueError "reflectlite.Value.Elem" 0) ReflectliteValue.elem #[.agg #[.pointer (some ⟨25, 64, none⟩), .pointer (some a), .int .u64 150]]).run Tryz.prog W
      = .ok (.agg #[.pointer (some ⟨25, 42, none⟩), .pointer (some p), .int .u64 406]) W := by
  rw [rlm]
  simp only [Sem.run_bind, partsPPW, Result.andThen]
  simp [ReflectliteValue.elem, loadVar, isAgg, underlying, Tryz.underlying64, ha, Result.andThen, elemOfPPW, mkPW]
theorem partsPaW (a : Addr) (w : World) : (ReflectliteValue.parts (.agg #[.pointer (some ⟨25, 42, none⟩), .pointer (some a), .int .u64 406])).run Tryz.prog w = .ok (some (42, a, 406)) w := by kernel_rfl
theorem partsPW (a : Addr) (w : World) : (ReflectliteValue.parts (.agg #[.pointer (some ⟨25, 42, none⟩), .pointer (some a), .int .u64 150])).run Tryz.prog w = .ok (some (42, a, 150)) w := by kernel_rfl
theorem directPW (w : World) : (Rtype.directlyAssignable 42 42).run Tryz.prog w = .ok true w := by kernel_rfl
theorem setPW (ta b e : Addr) (old : Value) (W : World) (hb : W.cell? b = some (.pointer (some e))) (ht : W.cell? ta = some old) (hf : W.frozen? ta = false) :
    (ReflectliteValue.set #[.agg #[.pointer (some ⟨25, 42, none⟩), .pointer (some ta), .int .u64 406], .agg #[.pointer (some ⟨25, 42, none⟩), .pointer (some b), .int .u64 150]]).run Tryz.prog W
      = .ok (.tuple #[]) (W.setCell ta (.pointer (some e))) := by
  rw [rls]
  simp only [Sem.run_bind, partsPaW, partsPW, Result.andThen]
  simp [ReflectliteValue.flagAddr, loadVar, isAgg, underlying, Tryz.underlying42, hb, Result.andThen, directPW, storeVar, Value.cells, storeCells, Addr.add]
  rw [run_store Tryz.prog W ta _ _ (by rfl)]
  simp [ht, hf]
set_option maxHeartbeats 4000000 in
set_option maxRecDepth 100000 in
theorem as_wrong (e t : Addr) (old : Value) (w : World) (hg : w.cell? ⟨0, 0, none⟩ = some (.iface 127 (.agg #[.pointer (some ⟨25, 24, none⟩)]))) (ht0 : w.cell? t = some old) (hf0 : w.frozen? t = false) :
    Calls Tryz.prog 19 #[.iface 42 (.pointer (some e)), .iface 64 (.pointer (some t))] w fun ev w' => ev = .returned (.bool true) ∧ w' = ((((w.alloc (.cells #[.pointer (some t)] 64)).alloc (.cells #[.pointer (some ⟨25, 64, none⟩), .pointer (some ⟨w.heap.size, 0, none⟩), .int .u64 150] 79)).alloc (.cells #[.pointer (some ⟨25, 64, none⟩), .pointer (some ⟨w.heap.size, 0, none⟩), .int .u64 150] 79)).alloc (.cells #[.pointer (some e)] 42)).setCell t (.pointer (some e)) := by
  have h6 := @run_callFunc_extern Tryz.prog 39 _ (fun args => ReflectliteValue.unpack (args.getD 0 (.tuple #[]))) Tryz.func39 (by kernel_rfl) (by kernel_rfl) (by kernel_rfl) (by kernel_rfl)
  have h7 := @run_callFunc_extern Tryz.prog 40 _ (ReflectliteValue.methodAny (ReflectliteValue.valueError "reflectlite.Value.Type" 0) (fun t _ _ _ => ReflectliteType.toType t)) Tryz.func40 (by kernel_rfl) (by kernel_rfl) (by kernel_rfl) (by kernel_rfl)
  have h8 := @run_callFunc_extern Tryz.prog 41 _ (ReflectliteValue.method (ReflectliteValue.valueError "reflectlite.Value.IsNil" 0) ReflectliteValue.isNil) Tryz.func41 (by kernel_rfl) (by kernel_rfl) (by kernel_rfl) (by kernel_rfl)
  have h27 := @run_callFunc_extern Tryz.prog 123 _ (ReflectliteType.abiMethod fun t => do pure (.int .u8 (← Rtype.kind t))) Tryz.func123 (by kernel_rfl) (by kernel_rfl) (by kernel_rfl) (by kernel_rfl)
  have h37 := @run_callFunc_extern Tryz.prog 139 _ (ReflectliteType.method ReflectliteType.elem) Tryz.func139 (by kernel_rfl) (by kernel_rfl) (by kernel_rfl) (by kernel_rfl)
  have h38 := @run_callFunc_extern Tryz.prog 140 _ (ReflectliteType.relation "Implements" ReflectliteType.implements_) Tryz.func140 (by kernel_rfl) (by kernel_rfl) (by kernel_rfl) (by kernel_rfl)
  have h10 := @run_callFunc_extern Tryz.prog 58 _ ReflectliteType.typeOf Tryz.func58 (by kernel_rfl) (by kernel_rfl) (by kernel_rfl) (by kernel_rfl)
  have h35 := @run_callFunc_extern Tryz.prog 137 _ (ReflectliteType.relation "AssignableTo" ReflectliteType.assignableTo) Tryz.func137 (by kernel_rfl) (by kernel_rfl) (by kernel_rfl) (by kernel_rfl)
  have h11 := @run_callFunc_extern Tryz.prog 60 _ (ReflectliteValue.method (ReflectliteValue.valueError "reflectlite.Value.Elem" 0) ReflectliteValue.elem) Tryz.func60 (by kernel_rfl) (by kernel_rfl) (by kernel_rfl) (by kernel_rfl)
  have h12 := @run_callFunc_extern Tryz.prog 61 _ ReflectliteValue.set Tryz.func61 (by kernel_rfl) (by kernel_rfl) (by kernel_rfl) (by kernel_rfl)
  have k0 := typeOfPW
  have k1 := assignPW
  have k2 := valueOfPW
  have k3 := valueOfPPW
  have k4 := typePPW
  have k5 := kindPPW
  have k6 := kindPW
  have k7 := elemPPW
  have k8 := implementsPW
  have n8 := isNilPPW ⟨w.heap.size, 0, none⟩ t ((w.alloc (.cells #[.pointer (some t)] 64)).alloc (.cells #[.pointer (some ⟨25, 64, none⟩), .pointer (some ⟨w.heap.size, 0, none⟩), .int .u64 150] 79)) (by simp)
  have hlt : 0 < w.heap.size := World.block_lt_of_cell? w _ hg
  have hg2 : ((w.alloc (.cells #[.pointer (some t)] 64)).alloc (.cells #[.pointer (some ⟨25, 64, none⟩), .pointer (some ⟨w.heap.size, 0, none⟩), .int .u64 150] 79)).cell? ⟨0, 0, none⟩ = some (.iface 127 (.agg #[.pointer (some ⟨25, 24, none⟩)])) := by
    rw [World.cell?_alloc_lt _ _ ⟨0, 0, none⟩ (by first | (simp; omega) | simp), World.cell?_alloc_lt _ _ ⟨0, 0, none⟩ hlt]; exact hg
  have htl : t.block < w.heap.size := World.block_lt_of_cell? w _ ht0
  have el := elemVPPW ⟨w.heap.size, 0, none⟩ t (((w.alloc (.cells #[.pointer (some t)] 64)).alloc (.cells #[.pointer (some ⟨25, 64, none⟩), .pointer (some ⟨w.heap.size, 0, none⟩), .int .u64 150] 79)).alloc (.cells #[.pointer (some ⟨25, 64, none⟩), .pointer (some ⟨w.heap.size, 0, none⟩), .int .u64 150] 79)) (by rw [World.cell?_alloc_lt _ _ ⟨w.heap.size, 0, none⟩ (by simp; omega)]; simp)
  have st := setPW t ⟨w.heap.size + 1 + 1 + 1, 0, none⟩ e old ((((w.alloc (.cells #[.pointer (some t)] 64)).alloc (.cells #[.pointer (some ⟨25, 64, none⟩), .pointer (some ⟨w.heap.size, 0, none⟩), .int .u64 150] 79)).alloc (.cells #[.pointer (some ⟨25, 64, none⟩), .pointer (some ⟨w.heap.size, 0, none⟩), .int .u64 150] 79)).alloc (.cells #[.pointer (some e)] 42))
    (by rw [World.cell?_alloc_at _ _ _ _ (by simp)]; rfl)
    (by rw [World.cell?_alloc_lt _ _ t (by simp; omega), World.cell?_alloc_lt _ _ t (by simp; omega), World.cell?_alloc_lt _ _ t (by simp; omega), World.cell?_alloc_lt _ _ t htl]; exact ht0)
    (by rw [World.frozen?_alloc_old _ _ t (by simp; omega), World.frozen?_alloc_old _ _ t (by simp; omega), World.frozen?_alloc_old _ _ t (by simp; omega), World.frozen?_alloc_old _ _ t (Nat.ne_of_lt htl)]; exact hf0)
  go_enter Tryz.func19, Tryz.ntmps19
  go_wp2
  refine wp_loop_rounds 1 ?_
  rw [rounds_succ]
  go_wp2
  go_ret
  exact ⟨rfl, rfl⟩
set_option maxHeartbeats 4000000 in
set_option maxRecDepth 100000 in
theorem as_placed (S e t : Addr) (old : Value) (w : World) (hg : w.cell? ⟨0, 0, none⟩ = some (.iface 127 (.agg #[.pointer (some ⟨25, 24, none⟩)]))) (hS : S.spot = none) (hS0 : w.cell? S = some (.iface 48 (.pointer (some e)))) (ht0 : w.cell? t = some old) (hf0 : w.frozen? t = false) :
    Calls Tryz.prog 19 #[.iface 53 (.pointer (some S)), .iface 50 (.pointer (some t))] w fun ev w' => ev = .returned (.bool true) ∧ w' = ((((w.alloc (.cells #[.pointer (some t)] 50)).alloc (.cells #[.pointer (some ⟨25, 50, none⟩), .pointer (some ⟨w.heap.size, 0, none⟩), .int .u64 150] 79)).alloc (.cells #[.pointer (some ⟨25, 50, none⟩), .pointer (some ⟨w.heap.size, 0, none⟩), .int .u64 150] 79)).alloc (.cells #[.pointer (some e)] 48)).setCell t (.pointer (some e)) := by
  have h6 := @run_callFunc_extern Tryz.prog 39 _ (fun args => ReflectliteValue.unpack (args.getD 0 (.tuple #[]))) Tryz.func39 (by kernel_rfl) (by kernel_rfl) (by kernel_rfl) (by kernel_rfl)
  have h7 := @run_callFunc_extern Tryz.prog 40 _ (ReflectliteValue.methodAny (ReflectliteValue.valueError "reflectlite.Value.Type" 0) (fun t _ _ _ => ReflectliteType.toType t)) Tryz.func40 (by kernel_rfl) (by kernel_rfl) (by kernel_rfl) (by kernel_rfl)
  have h8 := @run_callFunc_extern Tryz.prog 41 _ (ReflectliteValue.method (ReflectliteValue.valueError "reflectlite.Value.IsNil" 0) ReflectliteValue.isNil) Tryz.func41 (by kernel_rfl) (by kernel_rfl) (by kernel_rfl) (by kernel_rfl)
  have h27 := @run_callFunc_extern Tryz.prog 123 _ (ReflectliteType.abiMethod fun t => do pure (.int .u8 (← Rtype.kind t))) Tryz.func123 (by kernel_rfl) (by kernel_rfl) (by kernel_rfl) (by kernel_rfl)
  have h37 := @run_callFunc_extern Tryz.prog 139 _ (ReflectliteType.method ReflectliteType.elem) Tryz.func139 (by kernel_rfl) (by kernel_rfl) (by kernel_rfl) (by kernel_rfl)
  have h38 := @run_callFunc_extern Tryz.prog 140 _ (ReflectliteType.relation "Implements" ReflectliteType.implements_) Tryz.func140 (by kernel_rfl) (by kernel_rfl) (by kernel_rfl) (by kernel_rfl)
  have h10 := @run_callFunc_extern Tryz.prog 58 _ ReflectliteType.typeOf Tryz.func58 (by kernel_rfl) (by kernel_rfl) (by kernel_rfl) (by kernel_rfl)
  have h35 := @run_callFunc_extern Tryz.prog 137 _ (ReflectliteType.relation "AssignableTo" ReflectliteType.assignableTo) Tryz.func137 (by kernel_rfl) (by kernel_rfl) (by kernel_rfl) (by kernel_rfl)
  have h11 := @run_callFunc_extern Tryz.prog 60 _ (ReflectliteValue.method (ReflectliteValue.valueError "reflectlite.Value.Elem" 0) ReflectliteValue.elem) Tryz.func60 (by kernel_rfl) (by kernel_rfl) (by kernel_rfl) (by kernel_rfl)
  have h12 := @run_callFunc_extern Tryz.prog 61 _ ReflectliteValue.set Tryz.func61 (by kernel_rfl) (by kernel_rfl) (by kernel_rfl) (by kernel_rfl)
  have k0 := typeOfPS
  have k1 := assignPP
  have k2 := valueOfPP
  have k3 := valueOfPPP
  have k4 := typePPP
  have k5 := kindPPP
  have k6 := kindPP
  have k7 := elemPPP
  have k8 := implementsPP
  have k9 := typeOfPP
  have k10 := assignSP
  have k11 := noAsS
  have k12 := hasUnwrapS
  have n8 := isNilPPP ⟨w.heap.size, 0, none⟩ t ((w.alloc (.cells #[.pointer (some t)] 50)).alloc (.cells #[.pointer (some ⟨25, 50, none⟩), .pointer (some ⟨w.heap.size, 0, none⟩), .int .u64 150] 79)) (by simp)
  have hlt : 0 < w.heap.size := World.block_lt_of_cell? w _ hg
  have hg2 : ((w.alloc (.cells #[.pointer (some t)] 50)).alloc (.cells #[.pointer (some ⟨25, 50, none⟩), .pointer (some ⟨w.heap.size, 0, none⟩), .int .u64 150] 79)).cell? ⟨0, 0, none⟩ = some (.iface 127 (.agg #[.pointer (some ⟨25, 24, none⟩)])) := by
    rw [World.cell?_alloc_lt _ _ ⟨0, 0, none⟩ (by first | (simp; omega) | simp), World.cell?_alloc_lt _ _ ⟨0, 0, none⟩ hlt]; exact hg
  have htl : t.block < w.heap.size := World.block_lt_of_cell? w _ ht0
  have el := elemVPPP ⟨w.heap.size, 0, none⟩ t (((w.alloc (.cells #[.pointer (some t)] 50)).alloc (.cells #[.pointer (some ⟨25, 50, none⟩), .pointer (some ⟨w.heap.size, 0, none⟩), .int .u64 150] 79)).alloc (.cells #[.pointer (some ⟨25, 50, none⟩), .pointer (some ⟨w.heap.size, 0, none⟩), .int .u64 150] 79)) (by rw [World.cell?_alloc_lt _ _ ⟨w.heap.size, 0, none⟩ (by simp; omega)]; simp)
  have st := setPP t ⟨w.heap.size + 1 + 1 + 1, 0, none⟩ e old ((((w.alloc (.cells #[.pointer (some t)] 50)).alloc (.cells #[.pointer (some ⟨25, 50, none⟩), .pointer (some ⟨w.heap.size, 0, none⟩), .int .u64 150] 79)).alloc (.cells #[.pointer (some ⟨25, 50, none⟩), .pointer (some ⟨w.heap.size, 0, none⟩), .int .u64 150] 79)).alloc (.cells #[.pointer (some e)] 48))
    (by rw [World.cell?_alloc_at _ _ _ _ (by simp)]; rfl)
    (by rw [World.cell?_alloc_lt _ _ t (by simp; omega), World.cell?_alloc_lt _ _ t (by simp; omega), World.cell?_alloc_lt _ _ t (by simp; omega), World.cell?_alloc_lt _ _ t htl]; exact ht0)
    (by rw [World.frozen?_alloc_old _ _ t (by simp; omega), World.frozen?_alloc_old _ _ t (by simp; omega), World.frozen?_alloc_old _ _ t (by simp; omega), World.frozen?_alloc_old _ _ t (Nat.ne_of_lt htl)]; exact hf0)
  have hSl : S.block < w.heap.size := World.block_lt_of_cell? w _ hS0
  obtain ⟨Sb, So, Ss⟩ := S
  simp only at hS hSl
  subst hS
  have hS3 : (((w.alloc (.cells #[.pointer (some t)] 50)).alloc (.cells #[.pointer (some ⟨25, 50, none⟩), .pointer (some ⟨w.heap.size, 0, none⟩), .int .u64 150] 79)).alloc (.cells #[.pointer (some ⟨25, 50, none⟩), .pointer (some ⟨w.heap.size, 0, none⟩), .int .u64 150] 79)).cell? ⟨Sb, So, none⟩ = some (.iface 48 (.pointer (some e))) := by
    rw [World.cell?_alloc_lt _ _ ⟨Sb, So, none⟩ (by simp; omega), World.cell?_alloc_lt _ _ ⟨Sb, So, none⟩ (by simp; omega), World.cell?_alloc_lt _ _ ⟨Sb, So, none⟩ hSl]; exact hS0
  go_enter Tryz.func19, Tryz.ntmps19
  go_wp2
  refine wp_loop_rounds 2 ?_
  rw [rounds_succ]
  go_wp2
  rw [rounds_succ]
  go_wp2
  go_ret
  exact ⟨rfl, rfl⟩
end Go.Proofs.YtfnaooplpofgiaaGreatDoor
namespace Go.Proofs.YtfnaooplpofgiaaGreatDoor
open Go Go.RowKit SN

/-- A fault lies in block B. -/
def fc (c p l : Int) : Array Value := #[.int .i64 c, .int .i64 p, .int .i64 l]
def fv (c p l : Int) : Value := .agg #[.int .i64 c, .int .i64 p, .int .i64 l]
def IsF (w : World) (B : Nat) (c p l : Int) : Prop := w.heap[B]? = some (.cells (fc c p l) 28 (0, 0))
theorem size3 : (Tryz.prog.info? 28).map (·.size) = some 3 := by kernel_rfl
section
variable {ops : Array Oper} {Q : Exit → Act → World → Prop} {a : Act} {w : World} {rest : List Oper} {o : Oper}
theorem load_flt (hgd : o.guard = none) (x : Operand) (ho : o.op = .load 28 x) (B : Nat) (hx : a.eval x = .pointer (some ⟨B, 0, none⟩)) (c p l : Int)
    (h : IsF w B c p l) (hk : wpList Tryz.prog ops Q rest (a.put o.dst (fv c p l)) w) : wpList Tryz.prog ops Q (o :: rest) a w :=
  wpList_load_row hgd 28 x ho B hx 28 (fc c p l) (0, 0) _ h Tryz.underlying28 (by rfl) (by rw [size3]; rfl) hk
theorem store_flt (hgd : o.guard = none) (hd : o.dst = none) (x y : Operand) (ho : o.op = .store 28 x y) (B : Nat) (c p l c0 p0 l0 : Int) (hx : a.eval x = .pointer (some ⟨B, 0, none⟩)) (hy : a.eval y = fv c p l) (h : IsF w B c0 p0 l0)
    (hk : ∀ w', IsF w' B c p l → w.grownBy w' (some B) → w'.heap.size = w.heap.size → wpList Tryz.prog ops Q rest a w') : wpList Tryz.prog ops Q (o :: rest) a w := by
  have hp : a.put o.dst undef = a := by rw [hd]; rfl
  refine wpList_store_row hgd 28 x y ho B (fc c p l) hx hy 28 (fc c0 p0 l0) h (by rw [size3]; rfl) rfl (by simp [fc, Value.oneCell']) (by rw [hp]; exact hk _ (setRow_heap w B _ _ _ _ h) ⟨rfl, rfl, rfl, by simp, fun k _ hk => setRow_other w B k _ (fun e => hk (by rw [e]))⟩ (by simp))
end
theorem ret_flt {fn : Func} {p : Tmp} {R : Ending → World → Prop} {a : Act} {w : World} {B : Nat} {c q l : Int} (h : fn.results = #[.cell p 28]) (hd : a.defers = []) (hp : a.tmps.getD p undef = .pointer (some ⟨B, 0, none⟩))
    (hS : IsF w B c q l) (hR : R (.returned (fv c q l)) w) : bodyPost Tryz.prog fn R .ret a w :=
  bodyPost_ret (results_cell_row h a.tmps w B 28 (fc c q l) (0, 0) _ hp hS Tryz.underlying28 (by rfl) size3) hd hR
/-- The variable errors.errorType holds the type 'error'. -/
def ErrT (N : Nat) (w : World) : Prop := w.cell? ⟨0, 0, none⟩ = some (.iface 127 (.agg #[.pointer (some ⟨25, 24, none⟩)])) ∧ 0 < N
theorem ErrT.below {N M : Nat} {w w' : World} (h : ErrT N w) (hb : Below M w w') (hN : N ≤ M) : ErrT N w' := ⟨(hb.cell (p := ⟨0, 0, none⟩) (Nat.lt_of_lt_of_le h.2 hN)).trans h.1, h.2⟩
theorem grown_as (w : World) (t : Nat) (o1 o2 o3 o4 : Obj) (v old : Value) (TY : TypeId) (ht : w.heap[t]? = some (.cells #[old] TY (0, 0))) :
    w.grownBy (((((w.alloc o1).alloc o2).alloc o3).alloc o4).setCell ⟨t, 0, none⟩ v) (some t) ∧ (((((w.alloc o1).alloc o2).alloc o3).alloc o4).setCell ⟨t, 0, none⟩ v).heap[t]? = some (.cells #[v] TY (0, 0)) := by
  have hl := row_lt ht
  have h4 : ((((w.alloc o1).alloc o2).alloc o3).alloc o4).heap[t]? = some (.cells #[old] TY (0, 0)) := row_alloc (row_alloc (row_alloc (row_alloc ht _) _) _) _
  refine ⟨⟨rfl, rfl, rfl, by simp [World.setCell]; omega, fun k hk hne => ?_⟩, ?_⟩
  · rw [Below.heap_setCell _ _ _ _ (fun e => hne (by rw [e])), Below.heap_alloc _ _ _ (by simp; omega), Below.heap_alloc _ _ _ (by simp; omega), Below.heap_alloc _ _ _ (by simp; omega), Below.heap_alloc _ _ _ hk]
  · have := row_set h4 0 v
    simpa using this
theorem row_grown {w w' : World} {B : Nat} {o : Obj} {row : Option Nat} (h : w.heap[B]? = some o) (hg : w.grownBy w' row) (hB : some B ≠ row) : w'.heap[B]? = some o := by rw [hg.block B (row_lt h) hB]; exact h
theorem asP_any {N : Nat} (S P pb : Nat) (lang : Int) (w : World) (hT : ErrT N w) (h1 : w.heap[S]? = some (.cells #[.iface 48 (.pointer (some ⟨P, 0, none⟩)), .int .i64 lang] 56 (0, 0))) (ht : w.heap[pb]? = some (.cells #[.pointer none] 48 (0, 0))) :
    Calls Tryz.prog 19 #[.iface 53 (.pointer (some ⟨S, 0, none⟩)), .iface 50 (.pointer (some ⟨pb, 0, none⟩))] w fun ev w' => ev = .returned (.bool true) ∧ w.grownBy w' (some pb) ∧ w'.heap[pb]? = some (.cells #[.pointer (some ⟨P, 0, none⟩)] 48 (0, 0)) := by
  refine (as_placed ⟨S, 0, none⟩ ⟨P, 0, none⟩ ⟨pb, 0, none⟩ (.pointer none) w hT.1 rfl (row_cell h1 rfl) (row_cell ht rfl) (row_free ht 0)).mono ?_
  rintro e w' ⟨rfl, rfl⟩
  obtain ⟨a, b⟩ := grown_as w pb _ _ _ _ (.pointer (some ⟨P, 0, none⟩)) (.pointer none) 48 ht
  exact ⟨rfl, a, b⟩
theorem asS_any {N : Nat} (S pb : Nat) (w : World) (hT : ErrT N w) (ht : w.heap[pb]? = some (.cells #[.pointer none] 53 (0, 0))) :
    Calls Tryz.prog 19 #[.iface 53 (.pointer (some ⟨S, 0, none⟩)), .iface 54 (.pointer (some ⟨pb, 0, none⟩))] w fun ev w' => ev = .returned (.bool true) ∧ w.grownBy w' (some pb) ∧ w'.heap[pb]? = some (.cells #[.pointer (some ⟨S, 0, none⟩)] 53 (0, 0)) := by
  refine (as_spoken ⟨S, 0, none⟩ ⟨pb, 0, none⟩ (.pointer none) w hT.1 (row_cell ht rfl) (row_free ht 0)).mono ?_
  rintro e w' ⟨rfl, rfl⟩
  obtain ⟨a, b⟩ := grown_as w pb _ _ _ _ (.pointer (some ⟨S, 0, none⟩)) (.pointer none) 53 ht
  exact ⟨rfl, a, b⟩
theorem tell_nil (w : World) : Calls Tryz.prog 9 #[.nilIface] w fun e w' => e = .returned (fv 0 0 0) ∧ Below w.heap.size w w' := by
  go_enter Tryz.func9, Tryz.ntmps9
  go_wp2
  refine ret_flt rfl rfl rfl (c := 0) (q := 0) (l := 0) (heap_alloc_new w _) ⟨rfl, (Below.refl _ _).alloc (Nat.le_refl _) _⟩
set_option maxHeartbeats 4000000 in
set_option maxRecDepth 100000 in
theorem tell_err {N : Nat} {E : Nat → Addr} (w : World) (hE : Errs N E w) (hT : ErrT N w) (hN : N ≤ w.heap.size) {v : Value} {c : Nat} {pos lang : Int} (hv : IsErr w E v c pos lang) (hc1 : 1 ≤ c) (hc2 : c ≤ 21) :
    Calls Tryz.prog 9 #[v] w fun e w' => e = .returned (fv c pos lang) ∧ Below w.heap.size w w' := by
  have hv' := Lib.hid hv
  have hE' := Lib.hid hE
  have hT' := Lib.hid hT
  obtain ⟨S, P, rfl, h1, h2⟩ := hv
  have h1' := Lib.hid h1
  have h2' := Lib.hid h2
  have hS := row_lt h1
  have hP := row_lt h2
  clear hE hT h1 h2
  go_enter Tryz.func9, Tryz.ntmps9
  go_wp2_with fail
  have i1 : IsF ((w.alloc (.cells #[.int .i64 0, .int .i64 0, .int .i64 0] 28)).alloc (.cells #[.int .i64 22, .int .i64 0, .int .i64 0] 28)) w.heap.size 0 0 0 := row_alloc (heap_alloc_new w _) _
  have i2 : IsF ((w.alloc (.cells #[.int .i64 0, .int .i64 0, .int .i64 0] 28)).alloc (.cells #[.int .i64 22, .int .i64 0, .int .i64 0] 28)) (w.heap.size + 1) 22 0 0 := by
    have h := heap_alloc_new (w.alloc (.cells #[.int .i64 0, .int .i64 0, .int .i64 0] 28)) (.cells #[.int .i64 22, .int .i64 0, .int .i64 0] 28)
    rw [World.size_alloc] at h
    exact h
  have i3 := ((Below.refl w.heap.size w).alloc (Nat.le_refl _) (.cells #[.int .i64 0, .int .i64 0, .int .i64 0] 28)).alloc (by simp) (.cells #[.int .i64 22, .int .i64 0, .int .i64 0] 28)
  have i1' := Lib.hid i1
  have i2' := Lib.hid i2
  have i3' := Lib.hid i3
  clear i1 i2 i3
  go_loopw [4] (fun i wr => ∃ (k : Nat) (cd : Int), k ≤ 21 ∧ i = .int .i64 k ∧ cd = (if k < c then (c : Int) else 22) ∧ IsF wr w.heap.size 0 0 0 ∧ IsF wr (w.heap.size + 1) cd 0 0 ∧ Below w.heap.size w wr ∧ wr.heap.size = w.heap.size + 2) (fun i _ => (intOf i).toNat)
  case atStart => exact ⟨21, 22, Nat.le_refl _, rfl, by rw [if_neg (by omega)], i1'.out, i2'.out, i3'.out, by simp⟩
  case round =>
    clear i1' i2' i3'
    obtain ⟨k, cd, hk, rfl, hcd, j1, j2, j3, j4⟩ := hrel
    have hcd' := Lib.hid hcd
    have j1' := Lib.hid j1
    have j2' := Lib.hid j2
    have j3' := Lib.hid j3
    have j4' := Lib.hid j4
    have hz := j4
    clear hcd j1 j3 j4
    by_cases hk0 : 1 ≤ k
    · have hfis := Lib.hid (fis_any (hE'.out.below j3'.out hN) (hv'.out.below j3'.out (Nat.le_refl _)) hc1 hc2 k hk0 hk)
      have hw : IntKind.i64.wrap ((k : Int) - 1) = ((k - 1 : Nat) : Int) := by rw [IntKind.wrap_i64]; omega
      have hcell : wr.cell? ⟨w.heap.size + 1, 0, none⟩ = some (.int .i64 cd) := row_cell j2 rfl
      have hfree := row_free j2 0
      by_cases hkc : k = c
      case pos =>
        subst hkc
        rw [decide_eq_true rfl] at hfis
        clear j2 hz
        go_wp2_with (go_at_call 18; refine hfis.out.mono ?_; rintro e w' ⟨rfl, rfl⟩)
        go_round
        case rel =>
          refine ⟨k - 1, (k : Int), by omega, rfl, by rw [if_pos (by omega)], row_set_other j1'.out (by omega) _ _, ?_, j3'.out.setCell (p := ⟨w.heap.size + 1, 0, none⟩) (by simp) _, by simpa [World.setCell] using j4'.out⟩
          have h := row_set j2'.out 0 (.int .i64 (k : Int))
          exact h
        case measure => simp [intOf]; omega
      case neg =>
        rw [decide_eq_false hkc] at hfis
        have hkc' := Lib.hid hkc
        clear j2 hz hkc
        go_wp2_with (go_at_call 18; refine hfis.out.mono ?_; rintro e w' ⟨rfl, rfl⟩)
        go_round
        case rel => exact ⟨k - 1, cd, by omega, rfl, by rw [hcd'.out]; have := hkc'.out; by_cases h : k < c <;> simp [h] <;> omega, j1'.out, j2'.out, j3'.out, j4'.out⟩
        case measure => simp [intOf]; omega
    · have hke : k = 0 := by omega
      subst hke
      have hcd2 : cd = (c : Int) := by rw [hcd'.out, if_pos (by omega)]
      subst hcd2
      clear hk hk0 hz j2
      have g1 := h1'.out
      have g2 := row_below (row_lt h1'.out |> fun _ => h1'.out) j3'.out hS
      have g3 := row_below h2'.out j3'.out hP
      have hP1 := heap_alloc_new wr (.cells #[.pointer none] 48)
      have q1 := row_alloc j1'.out (.cells #[.pointer none] 48)
      have q2 := row_alloc j2'.out (.cells #[.pointer none] 48)
      have q3 := j3'.out.alloc (by rw [j4'.out]; omega) (.cells #[.pointer none] 48)
      have q4 : (wr.alloc (.cells #[.pointer none] 48)).heap.size = w.heap.size + 3 := by rw [World.size_alloc, j4'.out]
      have hz := j4'.out
      generalize hW1 : wr.alloc (.cells #[.pointer none] 48) = W1 at hP1 q1 q2 q3 q4
      have hW1' := Lib.hid hW1
      have q1' := Lib.hid q1
      have q2' := Lib.hid q2
      have q3' := Lib.hid q3
      have q4' := Lib.hid q4
      have hP1' := Lib.hid hP1
      clear q1 q2 q3 q4 hP1 hW1 g1 g2 g3
      have hPb : wr.heap.size = w.heap.size + 2 := j4'.out
      have hPb' := Lib.hid hPb
      have hpl : w.heap.size + 1 < wr.heap.size := by omega
      clear hz hPb
      go_wp2_with fail
      rw [hW1'.out]
      refine (asP_any (N := N) S P wr.heap.size lang W1 (hT'.out.below q3'.out hN) (row_below h1'.out q3'.out hS) hP1'.out).mono ?_
      rintro e w2 ⟨rfl, g2, hp2⟩
      have hw1s := q4'.out
      have a1 := row_grown q1'.out g2 (by intro e; injection e with e; omega)
      have a2 := row_grown q2'.out g2 (by intro e; injection e with e; omega)
      have a3 := q3'.out.grown g2 (by omega) (fun j hj => by cases hj; omega)
      have a4 := g2.size
      have aP := row_below h2'.out a3 hP
      have cP : w2.cell? ⟨P, 1, none⟩ = some (.int .i64 pos) := row_cell aP rfl
      have cp : w2.cell? ⟨wr.heap.size, 0, none⟩ = some (.pointer (some ⟨P, 0, none⟩)) := row_cell hp2 rfl
      have cF : w2.cell? ⟨w.heap.size + 1, 1, none⟩ = some (.int .i64 0) := row_cell a2 rfl
      have fF := row_free a2 1
      have a1' := Lib.hid a1
      have a2' := Lib.hid a2
      have a3' := Lib.hid a3
      have a4' : w.heap.size + 3 ≤ w2.heap.size := by omega
      clear a1 a2 a3 a4 aP g2 hp2 hw1s
      go_wp2_with fail
      clear cP cp cF fF
      have b1 := row_alloc (row_set_other a1'.out (show w.heap.size ≠ w.heap.size + 1 by omega) 1 (.int .i64 pos)) (.cells #[.pointer none] 53)
      have b2 : IsF ((w2.setCell ⟨w.heap.size + 1, 1, none⟩ (.int .i64 pos)).alloc (.cells #[.pointer none] 53)) (w.heap.size + 1) c pos 0 := row_alloc (row_set a2'.out 1 (.int .i64 pos)) _
      have b3 := (a3'.out.setCell (p := ⟨w.heap.size + 1, 1, none⟩) (by simp) (.int .i64 pos)).alloc (by simp [World.setCell]; omega) (.cells #[.pointer none] 53)
      have b4 : ((w2.setCell ⟨w.heap.size + 1, 1, none⟩ (.int .i64 pos)).alloc (.cells #[.pointer none] 53)).heap.size = w2.heap.size + 1 := by simp [World.setCell]
      have b5 := heap_alloc_new (w2.setCell ⟨w.heap.size + 1, 1, none⟩ (.int .i64 pos)) (.cells #[.pointer none] 53)
      have b6 : (w2.setCell ⟨w.heap.size + 1, 1, none⟩ (.int .i64 pos)).heap.size = w2.heap.size := by simp [World.setCell]
      rw [b6] at b5
      generalize hW3 : (w2.setCell ⟨w.heap.size + 1, 1, none⟩ (.int .i64 pos)).alloc (.cells #[.pointer none] 53) = W3 at b1 b2 b3 b4 b5
      refine (asS_any (N := N) S w2.heap.size W3 (hT'.out.below b3 hN) b5).mono ?_
      rintro e w4 ⟨rfl, g4, hs4⟩
      have d1 := row_grown b1 g4 (by intro e; injection e with e; omega)
      have d2 := row_grown b2 g4 (by intro e; injection e with e; omega)
      have d3 := b3.grown g4 (by omega) (fun j hj => by cases hj; omega)
      have aS := row_below h1'.out d3 hS
      have cS : w4.cell? ⟨S, 1, none⟩ = some (.int .i64 lang) := row_cell aS rfl
      have cp : w4.cell? ⟨w2.heap.size, 0, none⟩ = some (.pointer (some ⟨S, 0, none⟩)) := row_cell hs4 rfl
      have cF : w4.cell? ⟨w.heap.size + 1, 2, none⟩ = some (.int .i64 0) := row_cell d2 rfl
      have fF := row_free d2 2
      have e1 : IsF (w4.setCell ⟨w.heap.size + 1, 2, none⟩ (.int .i64 lang)) w.heap.size 0 0 0 := row_set_other d1 (by omega) _ _
      have e2 : IsF (w4.setCell ⟨w.heap.size + 1, 2, none⟩ (.int .i64 lang)) (w.heap.size + 1) c pos lang := row_set d2 2 (.int .i64 lang)
      have e3 := d3.setCell (p := ⟨w.heap.size + 1, 2, none⟩) (by simp) (.int .i64 lang)
      have e4 := row_lt d2
      have e1' := Lib.hid e1
      have e2' := Lib.hid e2
      have e3' := Lib.hid e3
      clear b1 b2 b3 b4 b5 b6 d1 d2 d3 aS g4 hs4 e1 e2 e3 hW3
      go_wp2_with (first | (refine load_flt rfl _ rfl _ rfl _ _ _ e2'.out ?_) | (refine store_flt rfl rfl _ _ rfl _ _ _ _ _ _ _ rfl rfl e1'.out ?_; intro w6 hF6 g6 z6))
      refine ret_flt rfl rfl rfl hF6 ⟨rfl, ?_⟩
      exact e3'.out.grown g6 (by simp [World.setCell]; omega) (fun j hj => by cases hj; exact Nat.le_refl _)
end Go.Proofs.YtfnaooplpofgiaaGreatDoor
