/- errors.As at the errors that the package makes: a *placed, a *spoken. Their conditions stand with each: the target's variable, the error's cells, the variable errors.errorType. -/
import Derived.Test.YteeopjgfiojoiaaDoorFis
namespace Go.Proofs.YteeopjgfiojoiaaDoor
open Go Go.RowKit SN
open Go.Extern.Stop Go.Stop Go.Extern
theorem rlm (z : Sem Value) (f : TypeId → Addr → Nat → Nat → Sem Value) (v : Value) :
    ReflectliteValue.method z f #[v] = (do match ← ReflectliteValue.parts v with | none => z | some (t, a, fl) => f t a fl (fl % 32)) := rfl
theorem rls (v x : Value) : ReflectliteValue.set #[v, x] = (do
    let (some (dst, a, fl), some (src, b, _)) := (← ReflectliteValue.parts v, ← ReflectliteValue.parts x)
      | unsupported (.noEntry "extern/(internal/reflectlite.Value).Set.zeroValue")
    if fl / ReflectliteValue.flagAddr % 2 == 0 then unsupported (.noEntry "extern/(internal/reflectlite.Value).Set.unaddressable")
    let val ← loadVar src b
    if ← Rtype.directlyAssignable dst src then storeVar dst a val
    else if ← Rtype.implements dst src then
      if (← Rtype.kind src) == 20 then
        match val with
        | .nilIface => unsupported (.noEntry "extern/reflectlite: a nil value of one interface type handed on as a value of another")
        | _ => storeVar dst a val
      else storeVar dst a (.iface src val)
    else panicString ("reflectlite.Set: value of type " ++ (← Rtype.spelt src) ++ " is not assignable to type " ++ (← Rtype.spelt dst))
    pure (.tuple #[])) := rfl
theorem noAsP (v : Value) (xT : TypeId) (w : World) : (Instr.typeAssert (.iface 106 v) xT 149 true).run Tryd.prog w = .ok (.tuple #[.nilIface, .bool false]) w := run_typeAssert_lacksB Tryd.underlying149 (by kernel_rfl) (by kernel_rfl) v xT w
theorem noAsS (v : Value) (xT : TypeId) (w : World) : (Instr.typeAssert (.iface 111 v) xT 149 true).run Tryd.prog w = .ok (.tuple #[.nilIface, .bool false]) w := run_typeAssert_lacksB Tryd.underlying149 (by kernel_rfl) (by kernel_rfl) v xT w
theorem valueOfPPP (t : Addr) (w : World) : (ReflectliteValue.unpack (.iface 108 (.pointer (some t)))).run Tryd.prog w
    = .ok (.agg #[.pointer (some ⟨23, 108, none⟩), .pointer (some ⟨w.heap.size, 0, none⟩), .int .u64 150]) (w.alloc (.cells #[.pointer (some t)] 108)) := by kernel_rfl
theorem typePPP (a : Addr) (w : World) : (ReflectliteValue.methodAny (ReflectliteValue.valueError "reflectlite.Value.Type" 0) (fun t _ _ _ => ReflectliteType.toType t) #[.agg #[.pointer (some ⟨23, 108, none⟩), .pointer (some a), .int .u64 150]]).run Tryd.prog w
    = .ok (.iface 145 (.agg #[.pointer (some ⟨23, 108, none⟩)])) w := by kernel_rfl
theorem kindPPP (w : World) : ((ReflectliteType.abiMethod fun t => (fun a : Nat => Value.int IntKind.u8 (a : Int)) <$> Rtype.kind t) #[.pointer (some ⟨23, 108, none⟩)]).run Tryd.prog w = .ok (.int .u8 22) w := by kernel_rfl
theorem kindPP (w : World) : ((ReflectliteType.abiMethod fun t => (fun a : Nat => Value.int IntKind.u8 (a : Int)) <$> Rtype.kind t) #[.pointer (some ⟨23, 106, none⟩)]).run Tryd.prog w = .ok (.int .u8 22) w := by kernel_rfl
theorem partsPPP (a : Addr) (w : World) : (ReflectliteValue.parts (.agg #[.pointer (some ⟨23, 108, none⟩), .pointer (some a), .int .u64 150])).run Tryd.prog w = .ok (some (108, a, 150)) w := by kernel_rfl
theorem isNilPPP (a p : Addr) (W : World) (ha : W.cell? a = some (.pointer (some p))) :
    (ReflectliteValue.method (ReflectliteValue.valueError "reflectlite.Value.IsNil" 0) ReflectliteValue.isNil #[.agg #[.pointer (some ⟨23, 108, none⟩), .pointer (some a), .int .u64 150]]).run Tryd.prog W = .ok (.bool false) W := by
  rw [rlm]
  simp only [Sem.run_bind, partsPPP, Result.andThen]
  simp [ReflectliteValue.isNil, loadVar, isAgg, underlying, Tryd.underlying108, ha, Result.andThen]
theorem elemPPP (w : World) : (ReflectliteType.method ReflectliteType.elem #[.agg #[.pointer (some ⟨23, 108, none⟩)]]).run Tryd.prog w = .ok (.iface 145 (.agg #[.pointer (some ⟨23, 106, none⟩)])) w := by kernel_rfl
theorem implementsPP (w : World) : (ReflectliteType.relation "Implements" ReflectliteType.implements_ #[.agg #[.pointer (some ⟨23, 106, none⟩)], .iface 145 (.agg #[.pointer (some ⟨23, 46, none⟩)])]).run Tryd.prog w = .ok (.bool true) w := by kernel_rfl
theorem typeOfPP (v : Value) (w : World) : (ReflectliteType.typeOf #[.iface 106 v]).run Tryd.prog w = .ok (.iface 145 (.agg #[.pointer (some ⟨23, 106, none⟩)])) w := by kernel_rfl
theorem assignPP (w : World) : (ReflectliteType.relation "AssignableTo" ReflectliteType.assignableTo #[.agg #[.pointer (some ⟨23, 106, none⟩)], .iface 145 (.agg #[.pointer (some ⟨23, 106, none⟩)])]).run Tryd.prog w = .ok (.bool true) w := by kernel_rfl
theorem valueOfPP (e : Addr) (w : World) : (ReflectliteValue.unpack (.iface 106 (.pointer (some e)))).run Tryd.prog w
    = .ok (.agg #[.pointer (some ⟨23, 106, none⟩), .pointer (some ⟨w.heap.size, 0, none⟩), .int .u64 150]) (w.alloc (.cells #[.pointer (some e)] 106)) := by kernel_rfl
theorem elemOfPPP (w : World) : (Rtype.elem? 108).run Tryd.prog w = .ok (some 106) w := by kernel_rfl
theorem mkPP (p : Addr) (w : World) : (ReflectliteValue.mk 106 p ReflectliteValue.flagAddr).run Tryd.prog w = .ok (.agg #[.pointer (some ⟨23, 106, none⟩), .pointer (some p), .int .u64 406]) w := by kernel_rfl
theorem elemVPPP (a p : Addr) (W : World) (ha : W.cell? a = some (.pointer (some p))) :
    (ReflectliteValue.method (ReflectliteValue.valueError "reflectlite.Value.Elem" 0) ReflectliteValue.elem #[.agg #[.pointer (some ⟨23, 108, none⟩), .pointer (some a), .int .u64 150]]).run Tryd.prog W
      = .ok (.agg #[.pointer (some ⟨23, 106, none⟩), .pointer (some p), .int .u64 406]) W := by
  rw [rlm]
  simp only [Sem.run_bind, partsPPP, Result.andThen]
  simp [ReflectliteValue.elem, loadVar, isAgg, underlying, Tryd.underlying108, ha, Result.andThen, elemOfPPP, mkPP]
theorem partsPaP (a : Addr) (w : World) : (ReflectliteValue.parts (.agg #[.pointer (some ⟨23, 106, none⟩), .pointer (some a), .int .u64 406])).run Tryd.prog w = .ok (some (106, a, 406)) w := by kernel_rfl
theorem partsPP (a : Addr) (w : World) : (ReflectliteValue.parts (.agg #[.pointer (some ⟨23, 106, none⟩), .pointer (some a), .int .u64 150])).run Tryd.prog w = .ok (some (106, a, 150)) w := by kernel_rfl
theorem directPP (w : World) : (Rtype.directlyAssignable 106 106).run Tryd.prog w = .ok true w := by kernel_rfl
theorem setPP (ta b e : Addr) (old : Value) (W : World) (hb : W.cell? b = some (.pointer (some e))) (ht : W.cell? ta = some old) (hf : W.frozen? ta = false) :
    (ReflectliteValue.set #[.agg #[.pointer (some ⟨23, 106, none⟩), .pointer (some ta), .int .u64 406], .agg #[.pointer (some ⟨23, 106, none⟩), .pointer (some b), .int .u64 150]]).run Tryd.prog W
      = .ok (.tuple #[]) (W.setCell ta (.pointer (some e))) := by
  rw [rls]
  simp only [Sem.run_bind, partsPaP, partsPP, Result.andThen]
  simp [ReflectliteValue.flagAddr, loadVar, isAgg, underlying, Tryd.underlying106, hb, Result.andThen, directPP, storeVar, Value.cells, storeCells, Addr.add]
  rw [run_store Tryd.prog W ta _ _ (by rfl)]
  simp [ht, hf]
theorem valueOfPPS (t : Addr) (w : World) : (ReflectliteValue.unpack (.iface 112 (.pointer (some t)))).run Tryd.prog w
    = .ok (.agg #[.pointer (some ⟨23, 112, none⟩), .pointer (some ⟨w.heap.size, 0, none⟩), .int .u64 150]) (w.alloc (.cells #[.pointer (some t)] 112)) := by kernel_rfl
theorem typePPS (a : Addr) (w : World) : (ReflectliteValue.methodAny (ReflectliteValue.valueError "reflectlite.Value.Type" 0) (fun t _ _ _ => ReflectliteType.toType t) #[.agg #[.pointer (some ⟨23, 112, none⟩), .pointer (some a), .int .u64 150]]).run Tryd.prog w
    = .ok (.iface 145 (.agg #[.pointer (some ⟨23, 112, none⟩)])) w := by kernel_rfl
theorem kindPPS (w : World) : ((ReflectliteType.abiMethod fun t => (fun a : Nat => Value.int IntKind.u8 (a : Int)) <$> Rtype.kind t) #[.pointer (some ⟨23, 112, none⟩)]).run Tryd.prog w = .ok (.int .u8 22) w := by kernel_rfl
theorem kindPS (w : World) : ((ReflectliteType.abiMethod fun t => (fun a : Nat => Value.int IntKind.u8 (a : Int)) <$> Rtype.kind t) #[.pointer (some ⟨23, 111, none⟩)]).run Tryd.prog w = .ok (.int .u8 22) w := by kernel_rfl
theorem partsPPS (a : Addr) (w : World) : (ReflectliteValue.parts (.agg #[.pointer (some ⟨23, 112, none⟩), .pointer (some a), .int .u64 150])).run Tryd.prog w = .ok (some (112, a, 150)) w := by kernel_rfl
theorem isNilPPS (a p : Addr) (W : World) (ha : W.cell? a = some (.pointer (some p))) :
    (ReflectliteValue.method (ReflectliteValue.valueError "reflectlite.Value.IsNil" 0) ReflectliteValue.isNil #[.agg #[.pointer (some ⟨23, 112, none⟩), .pointer (some a), .int .u64 150]]).run Tryd.prog W = .ok (.bool false) W := by
  rw [rlm]
  simp only [Sem.run_bind, partsPPS, Result.andThen]
  simp [ReflectliteValue.isNil, loadVar, isAgg, underlying, Tryd.underlying112, ha, Result.andThen]
theorem elemPPS (w : World) : (ReflectliteType.method ReflectliteType.elem #[.agg #[.pointer (some ⟨23, 112, none⟩)]]).run Tryd.prog w = .ok (.iface 145 (.agg #[.pointer (some ⟨23, 111, none⟩)])) w := by kernel_rfl
theorem implementsPS (w : World) : (ReflectliteType.relation "Implements" ReflectliteType.implements_ #[.agg #[.pointer (some ⟨23, 111, none⟩)], .iface 145 (.agg #[.pointer (some ⟨23, 46, none⟩)])]).run Tryd.prog w = .ok (.bool true) w := by kernel_rfl
theorem typeOfPS (v : Value) (w : World) : (ReflectliteType.typeOf #[.iface 111 v]).run Tryd.prog w = .ok (.iface 145 (.agg #[.pointer (some ⟨23, 111, none⟩)])) w := by kernel_rfl
theorem assignPS (w : World) : (ReflectliteType.relation "AssignableTo" ReflectliteType.assignableTo #[.agg #[.pointer (some ⟨23, 111, none⟩)], .iface 145 (.agg #[.pointer (some ⟨23, 111, none⟩)])]).run Tryd.prog w = .ok (.bool true) w := by kernel_rfl
theorem valueOfPS (e : Addr) (w : World) : (ReflectliteValue.unpack (.iface 111 (.pointer (some e)))).run Tryd.prog w
    = .ok (.agg #[.pointer (some ⟨23, 111, none⟩), .pointer (some ⟨w.heap.size, 0, none⟩), .int .u64 150]) (w.alloc (.cells #[.pointer (some e)] 111)) := by kernel_rfl
theorem elemOfPPS (w : World) : (Rtype.elem? 112).run Tryd.prog w = .ok (some 111) w := by kernel_rfl
theorem mkPS (p : Addr) (w : World) : (ReflectliteValue.mk 111 p ReflectliteValue.flagAddr).run Tryd.prog w = .ok (.agg #[.pointer (some ⟨23, 111, none⟩), .pointer (some p), .int .u64 406]) w := by kernel_rfl
theorem elemVPPS (a p : Addr) (W : World) (ha : W.cell? a = some (.pointer (some p))) :
    (ReflectliteValue.method (ReflectliteValue.valueError "reflectlite.Value.Elem" 0) ReflectliteValue.elem #[.agg #[.pointer (some ⟨23, 112, none⟩), .pointer (some a), .int .u64 150]]).run Tryd.prog W
      = .ok (.agg #[.pointer (some ⟨23, 111, none⟩), .pointer (some p), .int .u64 406]) W := by
  rw [rlm]
  simp only [Sem.run_bind, partsPPS, Result.andThen]
  simp [ReflectliteValue.elem, loadVar, isAgg, underlying, Tryd.underlying112, ha, Result.andThen, elemOfPPS, mkPS]
theorem partsPaS (a : Addr) (w : World) : (ReflectliteValue.parts (.agg #[.pointer (some ⟨23, 111, none⟩), .pointer (some a), .int .u64 406])).run Tryd.prog w = .ok (some (111, a, 406)) w := by kernel_rfl
theorem partsPS (a : Addr) (w : World) : (ReflectliteValue.parts (.agg #[.pointer (some ⟨23, 111, none⟩), .pointer (some a), .int .u64 150])).run Tryd.prog w = .ok (some (111, a, 150)) w := by kernel_rfl
theorem directPS (w : World) : (Rtype.directlyAssignable 111 111).run Tryd.prog w = .ok true w := by kernel_rfl
theorem setPS (ta b e : Addr) (old : Value) (W : World) (hb : W.cell? b = some (.pointer (some e))) (ht : W.cell? ta = some old) (hf : W.frozen? ta = false) :
    (ReflectliteValue.set #[.agg #[.pointer (some ⟨23, 111, none⟩), .pointer (some ta), .int .u64 406], .agg #[.pointer (some ⟨23, 111, none⟩), .pointer (some b), .int .u64 150]]).run Tryd.prog W
      = .ok (.tuple #[]) (W.setCell ta (.pointer (some e))) := by
  rw [rls]
  simp only [Sem.run_bind, partsPaS, partsPS, Result.andThen]
  simp [ReflectliteValue.flagAddr, loadVar, isAgg, underlying, Tryd.underlying111, hb, Result.andThen, directPS, storeVar, Value.cells, storeCells, Addr.add]
  rw [run_store Tryd.prog W ta _ _ (by rfl)]
  simp [ht, hf]
theorem assignSP (w : World) : (ReflectliteType.relation "AssignableTo" ReflectliteType.assignableTo #[.agg #[.pointer (some ⟨23, 111, none⟩)], .iface 145 (.agg #[.pointer (some ⟨23, 106, none⟩)])]).run Tryd.prog w = .ok (.bool false) w := by kernel_rfl
set_option maxHeartbeats 4000000 in
set_option maxRecDepth 100000 in
theorem as_spoken (e t : Addr) (old : Value) (w : World) (hg : w.cell? ⟨10, 0, none⟩ = some (.iface 145 (.agg #[.pointer (some ⟨23, 46, none⟩)]))) (ht0 : w.cell? t = some old) (hf0 : w.frozen? t = false) :
    Calls Tryd.prog 69 #[.iface 111 (.pointer (some e)), .iface 112 (.pointer (some t))] w fun ev w' => ev = .returned (.bool true) ∧ w' = ((((w.alloc (.cells #[.pointer (some t)] 112)).alloc (.cells #[.pointer (some ⟨23, 112, none⟩), .pointer (some ⟨w.heap.size, 0, none⟩), .int .u64 150] 129)).alloc (.cells #[.pointer (some ⟨23, 112, none⟩), .pointer (some ⟨w.heap.size, 0, none⟩), .int .u64 150] 129)).alloc (.cells #[.pointer (some e)] 111)).setCell t (.pointer (some e)) := by
  have h6 := @run_callFunc_extern Tryd.prog 78 _ (fun args => ReflectliteValue.unpack (args.getD 0 (.tuple #[]))) Tryd.func78 (by kernel_rfl) (by kernel_rfl) (by kernel_rfl) (by kernel_rfl)
  have h7 := @run_callFunc_extern Tryd.prog 79 _ (ReflectliteValue.methodAny (ReflectliteValue.valueError "reflectlite.Value.Type" 0) (fun t _ _ _ => ReflectliteType.toType t)) Tryd.func79 (by kernel_rfl) (by kernel_rfl) (by kernel_rfl) (by kernel_rfl)
  have h8 := @run_callFunc_extern Tryd.prog 80 _ (ReflectliteValue.method (ReflectliteValue.valueError "reflectlite.Value.IsNil" 0) ReflectliteValue.isNil) Tryd.func80 (by kernel_rfl) (by kernel_rfl) (by kernel_rfl) (by kernel_rfl)
  have h27 := @run_callFunc_extern Tryd.prog 112 _ (ReflectliteType.abiMethod fun t => do pure (.int .u8 (← Rtype.kind t))) Tryd.func112 (by kernel_rfl) (by kernel_rfl) (by kernel_rfl) (by kernel_rfl)
  have h37 := @run_callFunc_extern Tryd.prog 126 _ (ReflectliteType.method ReflectliteType.elem) Tryd.func126 (by kernel_rfl) (by kernel_rfl) (by kernel_rfl) (by kernel_rfl)
  have h38 := @run_callFunc_extern Tryd.prog 127 _ (ReflectliteType.relation "Implements" ReflectliteType.implements_) Tryd.func127 (by kernel_rfl) (by kernel_rfl) (by kernel_rfl) (by kernel_rfl)
  have h10 := @run_callFunc_extern Tryd.prog 85 _ ReflectliteType.typeOf Tryd.func85 (by kernel_rfl) (by kernel_rfl) (by kernel_rfl) (by kernel_rfl)
  have h35 := @run_callFunc_extern Tryd.prog 124 _ (ReflectliteType.relation "AssignableTo" ReflectliteType.assignableTo) Tryd.func124 (by kernel_rfl) (by kernel_rfl) (by kernel_rfl) (by kernel_rfl)
  have h11 := @run_callFunc_extern Tryd.prog 87 _ (ReflectliteValue.method (ReflectliteValue.valueError "reflectlite.Value.Elem" 0) ReflectliteValue.elem) Tryd.func87 (by kernel_rfl) (by kernel_rfl) (by kernel_rfl) (by kernel_rfl)
  have h12 := @run_callFunc_extern Tryd.prog 88 _ ReflectliteValue.set Tryd.func88 (by kernel_rfl) (by kernel_rfl) (by kernel_rfl) (by kernel_rfl)
  have k0 := typeOfPS
  have k1 := assignPS
  have k2 := valueOfPS
  have k3 := valueOfPPS
  have k4 := typePPS
  have k5 := kindPPS
  have k6 := kindPS
  have k7 := elemPPS
  have k8 := implementsPS
  have n8 := isNilPPS ⟨w.heap.size, 0, none⟩ t ((w.alloc (.cells #[.pointer (some t)] 112)).alloc (.cells #[.pointer (some ⟨23, 112, none⟩), .pointer (some ⟨w.heap.size, 0, none⟩), .int .u64 150] 129)) (by simp)
  have hlt : 10 < w.heap.size := World.block_lt_of_cell? w _ hg
  have hg2 : ((w.alloc (.cells #[.pointer (some t)] 112)).alloc (.cells #[.pointer (some ⟨23, 112, none⟩), .pointer (some ⟨w.heap.size, 0, none⟩), .int .u64 150] 129)).cell? ⟨10, 0, none⟩ = some (.iface 145 (.agg #[.pointer (some ⟨23, 46, none⟩)])) := by
    rw [World.cell?_alloc_lt _ _ ⟨10, 0, none⟩ (by simp; omega), World.cell?_alloc_lt _ _ ⟨10, 0, none⟩ hlt]; exact hg
  have htl : t.block < w.heap.size := World.block_lt_of_cell? w _ ht0
  have el := elemVPPS ⟨w.heap.size, 0, none⟩ t (((w.alloc (.cells #[.pointer (some t)] 112)).alloc (.cells #[.pointer (some ⟨23, 112, none⟩), .pointer (some ⟨w.heap.size, 0, none⟩), .int .u64 150] 129)).alloc (.cells #[.pointer (some ⟨23, 112, none⟩), .pointer (some ⟨w.heap.size, 0, none⟩), .int .u64 150] 129)) (by rw [World.cell?_alloc_lt _ _ ⟨w.heap.size, 0, none⟩ (by simp; omega)]; simp)
  have st := setPS t ⟨w.heap.size + 1 + 1 + 1, 0, none⟩ e old ((((w.alloc (.cells #[.pointer (some t)] 112)).alloc (.cells #[.pointer (some ⟨23, 112, none⟩), .pointer (some ⟨w.heap.size, 0, none⟩), .int .u64 150] 129)).alloc (.cells #[.pointer (some ⟨23, 112, none⟩), .pointer (some ⟨w.heap.size, 0, none⟩), .int .u64 150] 129)).alloc (.cells #[.pointer (some e)] 111))
    (by rw [World.cell?_alloc_at _ _ _ _ (by simp)]; rfl)
    (by rw [World.cell?_alloc_lt _ _ t (by simp; omega), World.cell?_alloc_lt _ _ t (by simp; omega), World.cell?_alloc_lt _ _ t (by simp; omega), World.cell?_alloc_lt _ _ t htl]; exact ht0)
    (by rw [World.frozen?_alloc_old _ _ t (by simp; omega), World.frozen?_alloc_old _ _ t (by simp; omega), World.frozen?_alloc_old _ _ t (by simp; omega), World.frozen?_alloc_old _ _ t (Nat.ne_of_lt htl)]; exact hf0)
  go_enter Tryd.func69, Tryd.ntmps69
  go_wp2
  refine wp_loop_rounds 1 ?_
  rw [rounds_succ]
  go_wp2
  go_ret
  exact ⟨rfl, rfl⟩
set_option maxHeartbeats 4000000 in
set_option maxRecDepth 100000 in
theorem as_placed (S e t : Addr) (old : Value) (w : World) (hg : w.cell? ⟨10, 0, none⟩ = some (.iface 145 (.agg #[.pointer (some ⟨23, 46, none⟩)]))) (hS : S.spot = none) (hS0 : w.cell? S = some (.iface 106 (.pointer (some e)))) (ht0 : w.cell? t = some old) (hf0 : w.frozen? t = false) :
    Calls Tryd.prog 69 #[.iface 111 (.pointer (some S)), .iface 108 (.pointer (some t))] w fun ev w' => ev = .returned (.bool true) ∧ w' = ((((w.alloc (.cells #[.pointer (some t)] 108)).alloc (.cells #[.pointer (some ⟨23, 108, none⟩), .pointer (some ⟨w.heap.size, 0, none⟩), .int .u64 150] 129)).alloc (.cells #[.pointer (some ⟨23, 108, none⟩), .pointer (some ⟨w.heap.size, 0, none⟩), .int .u64 150] 129)).alloc (.cells #[.pointer (some e)] 106)).setCell t (.pointer (some e)) := by
  have h6 := @run_callFunc_extern Tryd.prog 78 _ (fun args => ReflectliteValue.unpack (args.getD 0 (.tuple #[]))) Tryd.func78 (by kernel_rfl) (by kernel_rfl) (by kernel_rfl) (by kernel_rfl)
  have h7 := @run_callFunc_extern Tryd.prog 79 _ (ReflectliteValue.methodAny (ReflectliteValue.valueError "reflectlite.Value.Type" 0) (fun t _ _ _ => ReflectliteType.toType t)) Tryd.func79 (by kernel_rfl) (by kernel_rfl) (by kernel_rfl) (by kernel_rfl)
  have h8 := @run_callFunc_extern Tryd.prog 80 _ (ReflectliteValue.method (ReflectliteValue.valueError "reflectlite.Value.IsNil" 0) ReflectliteValue.isNil) Tryd.func80 (by kernel_rfl) (by kernel_rfl) (by kernel_rfl) (by kernel_rfl)
  have h27 := @run_callFunc_extern Tryd.prog 112 _ (ReflectliteType.abiMethod fun t => do pure (.int .u8 (← Rtype.kind t))) Tryd.func112 (by kernel_rfl) (by kernel_rfl) (by kernel_rfl) (by kernel_rfl)
  have h37 := @run_callFunc_extern Tryd.prog 126 _ (ReflectliteType.method ReflectliteType.elem) Tryd.func126 (by kernel_rfl) (by kernel_rfl) (by kernel_rfl) (by kernel_rfl)
  have h38 := @run_callFunc_extern Tryd.prog 127 _ (ReflectliteType.relation "Implements" ReflectliteType.implements_) Tryd.func127 (by kernel_rfl) (by kernel_rfl) (by kernel_rfl) (by kernel_rfl)
  have h10 := @run_callFunc_extern Tryd.prog 85 _ ReflectliteType.typeOf Tryd.func85 (by kernel_rfl) (by kernel_rfl) (by kernel_rfl) (by kernel_rfl)
  have h35 := @run_callFunc_extern Tryd.prog 124 _ (ReflectliteType.relation "AssignableTo" ReflectliteType.assignableTo) Tryd.func124 (by kernel_rfl) (by kernel_rfl) (by kernel_rfl) (by kernel_rfl)
  have h11 := @run_callFunc_extern Tryd.prog 87 _ (ReflectliteValue.method (ReflectliteValue.valueError "reflectlite.Value.Elem" 0) ReflectliteValue.elem) Tryd.func87 (by kernel_rfl) (by kernel_rfl) (by kernel_rfl) (by kernel_rfl)
  have h12 := @run_callFunc_extern Tryd.prog 88 _ ReflectliteValue.set Tryd.func88 (by kernel_rfl) (by kernel_rfl) (by kernel_rfl) (by kernel_rfl)
  have k0 := typeOfPS
  have k1 := assignPP
  have k2 := valueOfPP
  have k3 := valueOfPPP
  have k4 := typePPP
  have k5 := kindPPP
  have k6 := kindPP
  have k7 := elemPPP
  have k8 := implementsPP
  have k9 := typeOfPP
  have k10 := assignSP
  have k11 := noAsS
  have k12 := hasUnwrapS
  have n8 := isNilPPP ⟨w.heap.size, 0, none⟩ t ((w.alloc (.cells #[.pointer (some t)] 108)).alloc (.cells #[.pointer (some ⟨23, 108, none⟩), .pointer (some ⟨w.heap.size, 0, none⟩), .int .u64 150] 129)) (by simp)
  have hlt : 10 < w.heap.size := World.block_lt_of_cell? w _ hg
  have hg2 : ((w.alloc (.cells #[.pointer (some t)] 108)).alloc (.cells #[.pointer (some ⟨23, 108, none⟩), .pointer (some ⟨w.heap.size, 0, none⟩), .int .u64 150] 129)).cell? ⟨10, 0, none⟩ = some (.iface 145 (.agg #[.pointer (some ⟨23, 46, none⟩)])) := by
    rw [World.cell?_alloc_lt _ _ ⟨10, 0, none⟩ (by simp; omega), World.cell?_alloc_lt _ _ ⟨10, 0, none⟩ hlt]; exact hg
  have htl : t.block < w.heap.size := World.block_lt_of_cell? w _ ht0
  have el := elemVPPP ⟨w.heap.size, 0, none⟩ t (((w.alloc (.cells #[.pointer (some t)] 108)).alloc (.cells #[.pointer (some ⟨23, 108, none⟩), .pointer (some ⟨w.heap.size, 0, none⟩), .int .u64 150] 129)).alloc (.cells #[.pointer (some ⟨23, 108, none⟩), .pointer (some ⟨w.heap.size, 0, none⟩), .int .u64 150] 129)) (by rw [World.cell?_alloc_lt _ _ ⟨w.heap.size, 0, none⟩ (by simp; omega)]; simp)
  have st := setPP t ⟨w.heap.size + 1 + 1 + 1, 0, none⟩ e old ((((w.alloc (.cells #[.pointer (some t)] 108)).alloc (.cells #[.pointer (some ⟨23, 108, none⟩), .pointer (some ⟨w.heap.size, 0, none⟩), .int .u64 150] 129)).alloc (.cells #[.pointer (some ⟨23, 108, none⟩), .pointer (some ⟨w.heap.size, 0, none⟩), .int .u64 150] 129)).alloc (.cells #[.pointer (some e)] 106))
    (by rw [World.cell?_alloc_at _ _ _ _ (by simp)]; rfl)
    (by rw [World.cell?_alloc_lt _ _ t (by simp; omega), World.cell?_alloc_lt _ _ t (by simp; omega), World.cell?_alloc_lt _ _ t (by simp; omega), World.cell?_alloc_lt _ _ t htl]; exact ht0)
    (by rw [World.frozen?_alloc_old _ _ t (by simp; omega), World.frozen?_alloc_old _ _ t (by simp; omega), World.frozen?_alloc_old _ _ t (by simp; omega), World.frozen?_alloc_old _ _ t (Nat.ne_of_lt htl)]; exact hf0)
  have hSl : S.block < w.heap.size := World.block_lt_of_cell? w _ hS0
  obtain ⟨Sb, So, Ss⟩ := S
  simp only at hS hSl
  subst hS
  have hS3 : (((w.alloc (.cells #[.pointer (some t)] 108)).alloc (.cells #[.pointer (some ⟨23, 108, none⟩), .pointer (some ⟨w.heap.size, 0, none⟩), .int .u64 150] 129)).alloc (.cells #[.pointer (some ⟨23, 108, none⟩), .pointer (some ⟨w.heap.size, 0, none⟩), .int .u64 150] 129)).cell? ⟨Sb, So, none⟩ = some (.iface 106 (.pointer (some e))) := by
    rw [World.cell?_alloc_lt _ _ ⟨Sb, So, none⟩ (by simp; omega), World.cell?_alloc_lt _ _ ⟨Sb, So, none⟩ (by simp; omega), World.cell?_alloc_lt _ _ ⟨Sb, So, none⟩ hSl]; exact hS0
  go_enter Tryd.func69, Tryd.ntmps69
  go_wp2
  refine wp_loop_rounds 2 ?_
  rw [rounds_succ]
  go_wp2
  rw [rounds_succ]
  go_wp2
  go_ret
  exact ⟨rfl, rfl⟩
end Go.Proofs.YteeopjgfiojoiaaDoor
