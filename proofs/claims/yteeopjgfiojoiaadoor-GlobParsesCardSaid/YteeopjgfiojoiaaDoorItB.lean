/- The reader's item, second part: classes; all together. Conditions as in the first part. -/
import Derived.Test.YteeopjgfiojoiaaDoorItA
import Derived.Test.YteeopjgfiojoiaaDoorSetC5
import Derived.Test.YteeopjgfiojoiaaDoorShelf
import Derived.Laws.IdiomStrings
namespace Go.Proofs.YteeopjgfiojoiaaDoor
open Go Go.RowKit SN

theorem tail_run (b o cap k : Nat) (s : ByteArray) (hk : k ≤ s.size) (hcap : s.size ≤ cap) :
    ∃ A : Addr, (∀ W : World, (Instr.slice 36 (.slice (some ⟨b, o, none⟩) s.size cap) (some (.int .i64 (k : Int))) none none).run Tryd.prog W = .ok (.slice (some A) (s.size - k) (cap - k)) W) ∧
      ∀ W : World, HasB W (some ⟨b, o, none⟩) s → (convert 36 9 (.slice (some A) (s.size - k) (cap - k))).run Tryd.prog W = .ok (.string ⟨(s.data.toList.drop k).toArray⟩) W := by
  have hz : ∀ w, (Go.sizeOf (Tryd.prog.elem 36)).run Tryd.prog w = .ok 1 w := fun _ => by kernel_rfl
  have ht : Tryd.prog.underlying 36 = some (.slice (Tryd.prog.elem 36)) := by kernel_rfl
  refine ⟨if cap = k then ⟨b, o, none⟩ else ⟨b, o + k, none⟩, fun W => ?_, fun W hS => ?_⟩
  · rw [run_slice_l W 36 _ _ _ ht .i64 _ (by omega) (by omega), hz]
    simp only [Result.andThen_ok, Int.toNat_natCast, sliced]
    split <;> simp_all [Addr.add]
  · have hl : s.size - k = (s.data.toList.drop k).length := by simp
    rw [hl]
    refine run_convert_bytes_back (P := Tryd.prog) W 36 9 5 _ (cap - k) (s.data.toList.drop k) Tryd.underlying36 Tryd.underlying5 Tryd.underlying9 fun j hj => ?_
    have hj' : j < s.size - k := by omega
    rw [if_neg (by omega)]
    rcases hS with h | ⟨b', o', e, hc, -⟩
    · omega
    · cases e
      have h := hc (k + j) (by omega)
      have e2 : (⟨b, o + k, none⟩ : Addr).add j = ⟨b, o + (k + j), none⟩ := by unfold Addr.add; split <;> simp <;> omega
      rw [e2, h]
      simp [ByteArray.getElem_eq_getElem_data]

theorem cut_val {N : Nat} {E : Nat → Addr} {w : World} (hE : Errs N E w) (l nm rest : List UInt8) (c : Bool) (hl : l.length < 4294967281) (hc : Lib.cut l [58, 93] = (nm, rest, c)) :
    Calls Tryd.prog 83 #[.string ⟨l.toArray⟩, .string ⟨#[58, 93]⟩] w fun e w' => e = .returned (.tuple #[.string ⟨nm.toArray⟩, .string ⟨rest.toArray⟩, .bool c]) ∧ ∃ n, w' = w.drewN n := by
  obtain ⟨m, hm⟩ := hE.ml
  have h := Tryd.strings_Cut ⟨l.toArray⟩ ⟨#[58, 93]⟩ m w (by show l.toArray.size < _; simpa using hl) hm
  have e : Lib.cut (⟨l.toArray⟩ : ByteArray).data.toList (⟨#[58, 93]⟩ : ByteArray).data.toList = (nm, rest, c) := hc
  rw [e] at h
  exact h
theorem itc_all (one : Bool) (b : Int) (S f : Nat) : ((itc one b S f).all fun v => v.oneCell') = true := by simp [itc, Value.oneCell']
theorem wrap_two (a n : Nat) (h : a + (n + 4) < 4611686018427387904) : wrap64 ((a : Int) + wrap64 ((n : Int) + 4)) = ((a + (n + 4) : Nat) : Int) := by
  rw [IntWalk.wrap64_in ((n : Int) + 4) (by omega), IntWalk.wrap64_in _ (by omega)]
  omega
theorem run_buildItem (S : Nat) (f : Nat) (w : World) : (Instr.build 120 #[(2, sv S), (3, .int .i64 (f : Int))]).run Tryd.prog w = .ok (.agg (itc false 0 S f)) w := by kernel_rfl
theorem build_item {ops : Array Oper} {Q : Exit → Act → World → Prop} {a : Act} {w : World} {rest : List Oper} {o : Oper} (hgd : o.guard = none) (x y : Operand) (ho : o.op = .build 120 #[(2, x), (3, y)]) (S f : Nat) (hx : a.eval x = sv S) (hy : a.eval y = .int .i64 (f : Int))
    (hk : wpList Tryd.prog ops Q rest (a.put o.dst (.agg (itc false 0 S f))) w) : wpList Tryd.prog ops Q (o :: rest) a w :=
  wpList_plain hgd fun K hK => by
    unfold Oper.wp execOp
    simp only [ho, List.map_toArray, List.map_cons, List.map_nil, hx, hy, Sem.run_bind, run_buildItem, Result.andThen_ok]
    exact hK _ _ hk
theorem class_yes (nm : List UInt8) (w : World) (S : Nat) (h : cls nm = some S) :
    Calls Tryd.prog 17 #[.string ⟨nm.toArray⟩] w fun e w' => e = .returned (.tuple #[sv S, .bool true]) ∧ Below w.heap.size w w' := by
  have hc := Class_any ⟨nm.toArray⟩ w
  rw [show (⟨nm.toArray⟩ : ByteArray).data.toList = nm from rfl, h] at hc
  exact hc
theorem class_no (nm : List UInt8) (w : World) (h : cls nm = none) :
    Calls Tryd.prog 17 #[.string ⟨nm.toArray⟩] w fun e w' => e = .returned (.tuple #[sv 0, .bool false]) ∧ Below w.heap.size w w' := by
  have hc := Class_any ⟨nm.toArray⟩ w
  rw [show (⟨nm.toArray⟩ : ByteArray).data.toList = nm from rfl, h] at hc
  exact hc

set_option maxHeartbeats 2000000 in
set_option maxRecDepth 100000 in
theorem item_named {N : Nat} {E : Nat → Addr} (S : Nat) (B : Nat) (p : Option Addr) (cap at' : Nat) (lang : Int) (s : ByteArray) (w : World) (hR : IsR w B p s.size cap at' lang) (hS : HasB w p s) (hs : s.size < 2 ^ 61) (hat : at' < s.size) (hcap : s.size ≤ cap)
    (hN : N ≤ B) (hE : Errs N E w) (hs4 : s.size < 4294967281) (h91 : isB s at' 91 = true) (h46 : isB s (at' + 1) 46 = false) (h61 : isB s (at' + 1) 61 = false) (h58 : isB s (at' + 1) 58 = true) (nm rest : List UInt8) (hcut : Lib.cut (s.data.toList.drop (at' + 2)) [58, 93] = (nm, rest, true)) (hcls : cls nm = some S) :
    Calls Tryd.prog 73 #[.pointer (some ⟨B, 0, none⟩)] w fun e w' => e = .returned (.tuple #[.agg (itc false 0 S at'), .nilIface]) ∧ w.grownBy w' (some B) ∧ IsR w' B p s.size cap (at' + (nm.length + 4)) lang := by
  obtain ⟨b, o, rfl, hcell, hbl⟩ := hasB_at hS hat
  have hlB : b ≠ B := bytes_ne hR hcell
  clear hcell
  have c1 : w.cell? ⟨B, 1, none⟩ = some (.int .i64 at') := row_cell hR rfl
  have c2 : w.cell? ⟨B, 2, none⟩ = some (.int .i64 lang) := row_cell hR rfl
  have c0 : w.cell? ⟨B, 0, none⟩ = some (.slice (some ⟨b, o, none⟩) s.size cap) := row_cell hR rfl
  have f1 := row_free hR 1
  have hl : B < w.heap.size := row_lt hR
  have hR' := Lib.hid hR
  have hS' := Lib.hid hS
  clear hR hS
  have hE' := Lib.hid hE
  clear hE
  go_enter Tryd.func73, Tryd.ntmps73
  go_wp2_with (first | (go_at_call 72; first | (refine (is_val B _ cap at' lang s _ _ true _ (by repeat (first | exact hR'.out | apply IsR.alloc | apply IsR.drewN)) (by repeat (first | exact hS'.out | apply HasB.alloc | apply HasB.drewN)) (by decide) (by decide) (by omega) (by omega) (by exact h91)).mono ?_; rintro e wX ⟨rfl, q, rfl⟩) | (refine (is_val B _ cap at' lang s _ _ false _ (by repeat (first | exact hR'.out | apply IsR.alloc | apply IsR.drewN)) (by repeat (first | exact hS'.out | apply HasB.alloc | apply HasB.drewN)) (by decide) (by decide) (by omega) (by omega) (by exact h46)).mono ?_; rintro e wX ⟨rfl, q, rfl⟩) | (refine (is_val B _ cap at' lang s _ _ false _ (by repeat (first | exact hR'.out | apply IsR.alloc | apply IsR.drewN)) (by repeat (first | exact hS'.out | apply HasB.alloc | apply HasB.drewN)) (by decide) (by decide) (by omega) (by omega) (by exact h61)).mono ?_; rintro e wX ⟨rfl, q, rfl⟩) | (refine (is_val B _ cap at' lang s _ _ true _ (by repeat (first | exact hR'.out | apply IsR.alloc | apply IsR.drewN)) (by repeat (first | exact hS'.out | apply HasB.alloc | apply HasB.drewN)) (by decide) (by decide) (by omega) (by omega) (by exact h58)).mono ?_; rintro e wX ⟨rfl, q, rfl⟩)))

  refine gen_world (fun W0 => Mid w W0 B (some ⟨b, o, none⟩) s cap at' at' lang ∧ Errs N E W0) ⟨Mid.start hR'.out hS'.out _, ((hE'.out.alloc _ (by omega)).alloc _ (by simp; omega)).drewN _⟩ ?_
  clear c0 c1 c2 f1
  intro W0 ⟨hM0, hE0⟩
  have d0 : W0.cell? ⟨B, 0, none⟩ = some (.slice (some ⟨b, o, none⟩) s.size cap) := row_cell hM0.1 rfl
  have d1 : W0.cell? ⟨B, 1, none⟩ = some (.int .i64 (at' : Nat)) := row_cell hM0.1 rfl
  have hk : at' + 2 ≤ s.size := by
    have := isL_lt h58
    simp at this
    omega
  obtain ⟨A, hsl0, hcv0⟩ := tail_run b o cap (at' + 2) s hk hcap
  have hcv : ∀ n, (convert 36 9 (.slice (some A) (s.size - (at' + 2)) (cap - (at' + 2)))).run Tryd.prog (W0.drewN n) = .ok (.string ⟨(s.data.toList.drop (at' + 2)).toArray⟩) (W0.drewN n) := fun n => hcv0 _ (hM0.2.1.drewN n)
  have hsl : ∀ W : World, (Instr.slice 36 (.slice (some ⟨b, o, none⟩) s.size cap) (some (.int .i64 ((at' : Int) + 2))) none none).run Tryd.prog W = .ok (.slice (some A) (s.size - (at' + 2)) (cap - (at' + 2))) W := fun W => by simpa using hsl0 W
  clear hcv0 hsl0
  have hll : (s.data.toList.drop (at' + 2)).length < 4294967281 := by simp; omega
  generalize s.data.toList.drop (at' + 2) = l at *
  have e2 : (at' : Int) + 2 ≤ (s.size : Int) := by omega
  have e3 : (0 : Int) ≤ (at' : Int) := by omega
  have e4 : (0 : Int) ≤ (at' : Int) + 2 := by omega
  have e6 : IntKind.i64.wrap ((at' : Int) + 2) = (at' : Int) + 2 := by simp [IntKind.wrap, IntKind.bits, IntKind.signed]; omega
  have hM' := Lib.hid hM0
  have hE' := Lib.hid hE0
  have hk' := Lib.hid hk
  have hcut' := Lib.hid hcut
  have hcls' := Lib.hid hcls
  clear hM0 hE0 hk hcut hcls
  go_quiet (((go_at_call 83; exact Calls.quiet_of (cut_val (N := N) (E := E) (hE'.out.drewN _) l nm rest true hll hcut'.out))))
  clear hcv hsl d0 d1 e2 e4 e6
  go_wp2_with fail
  refine (class_yes nm _ S hcls'.out).mono ?_
  rintro e w1 ⟨rfl, b1⟩
  have hM1 : Mid w w1 B (some ⟨b, o, none⟩) s cap at' at' lang := (hM'.out.drewN _).ext b1 (Nat.le_refl _)
  have hE1 : Errs N E w1 := (hE'.out.drewN _).below b1 (by have := hM'.out.2.2.2.2.2; show N ≤ W0.heap.size; omega)
  have z1 := hM1.2.2.2.2.2
  have hM1' := Lib.hid hM1
  have hE1' := Lib.hid hE1
  clear hM1 hE1 hM' hE' b1
  have n3 : ¬ B = w.heap.size + 1 := by omega
  have n4 : ¬ w.heap.size = w.heap.size + 1 := by omega
  have n5 : ¬ w.heap.size = B := by omega
  have n6 : ¬ w.heap.size + 1 = B := by omega
  have hl1 := row_lt hM1'.out.1
  go_wp2_with (first | (refine load_set rfl _ rfl _ rfl ?_; apply Exists.intro; apply And.intro; focus ((repeat' (first | (with_reducible assumption) | (with_reducible apply IsSet.zero'; first | (with_reducible rfl) | (simp only [World.size_alloc]; done)) | (with_reducible apply IsSet.new'; first | (with_reducible rfl) | (simp only [World.size_alloc]; done)) | (with_reducible apply IsSet.sv; first | (with_reducible rfl) | (simp only [World.size_alloc]; done)) | (with_reducible apply IsSet.viaG; with_reducible assumption) | (with_reducible apply IsSet.viaB; with_reducible assumption) | (with_reducible apply IsSet.drew) | (with_reducible apply IsSet.store4) | (with_reducible apply IsSet.set_other) | (with_reducible apply IsSet.alloc) | (simp only [World.size_alloc]; omega) | omega | (simp; omega) | (simp; done))); done)) | (refine build_item rfl _ _ rfl _ at' rfl rfl ?_) | ((refine store_set rfl rfl _ _ rfl _ _ rfl rfl ?_ ?_; (focus (apply Exists.intro; (repeat' (first | (with_reducible assumption) | (with_reducible apply IsSet.zero'; first | (with_reducible rfl) | (simp only [World.size_alloc]; done)) | (with_reducible apply IsSet.new'; first | (with_reducible rfl) | (simp only [World.size_alloc]; done)) | (with_reducible apply IsSet.sv; first | (with_reducible rfl) | (simp only [World.size_alloc]; done)) | (with_reducible apply IsSet.viaG; with_reducible assumption) | (with_reducible apply IsSet.viaB; with_reducible assumption) | (with_reducible apply IsSet.drew) | (with_reducible apply IsSet.store4) | (with_reducible apply IsSet.set_other) | (with_reducible apply IsSet.alloc) | (simp only [World.size_alloc]; omega) | omega | (simp; omega) | (simp; done))); done)); intro wX hX gX zX; (try simp only [World.size_alloc] at zX)); have bX : Below w1.heap.size w1 wX := Below.viaG1 gX ((Below.refl _ _).alloc (Nat.le_refl _) _) (by simp) (Nat.le_refl _); have hM3 := hM1'.out.ext bX (Nat.le_refl _); have hE3 := hE1'.out.below bX (by omega); have hlX := hX.lt; have d1 : wX.cell? ⟨B, 1, none⟩ = some (.int .i64 (at' : Nat)) := row_cell hM3.1 rfl; have f1 := row_free hM3.1 1; have hlB1 := row_lt hM3.1; have t6 : wX.cell? ⟨w.heap.size + 1, 6, none⟩ = some (.int .i64 (at' : Nat)) := row_cell hM3.2.2.1 rfl; have hM3' := Lib.hid hM3; have hE3' := Lib.hid hE3; clear hM3 hE3 bX gX) | (refine wpList_store_row rfl 120 _ _ rfl _ _ rfl rfl 120 _ (row_set_other hM3'.out.2.2.2.1 (by omega) _ _) (by kernel_rfl) rfl (itc_all _ _ _ _) ?_))

  have hcl := cut_len l [58, 93] (by rw [hcut'.out])
  rw [hcut'.out] at hcl
  simp only [List.length_cons, List.length_nil] at hcl
  have ew := wrap_two at' nm.length (by omega)
  rw [ew]
  have hM := hM3'.out
  refine ret_row2 _ rfl rfl rfl rfl (setRow_heap _ w.heap.size _ _ _ _ (row_set_other hM.2.2.2.1 (by omega) _ _)) Tryd.underlying120 (by kernel_rfl) ⟨rfl, ?_, ?_⟩
  · exact only_row (only_set hM.2.2.2.2.1 _ _ (.inl rfl) _) _ (Nat.le_refl _) _
  · show _ = _
    rw [setRow_other _ _ _ _ (by omega)]
    exact (row_set hM.1 1 _).trans (by rfl)

set_option maxHeartbeats 2000000 in
set_option maxRecDepth 100000 in
theorem item_noName {N : Nat} {E : Nat → Addr} (B : Nat) (p : Option Addr) (cap at' : Nat) (lang : Int) (s : ByteArray) (w : World) (hR : IsR w B p s.size cap at' lang) (hS : HasB w p s) (hs : s.size < 2 ^ 61) (hat : at' < s.size) (hcap : s.size ≤ cap)
    (hN : N ≤ B) (hE : Errs N E w) (hs4 : s.size < 4294967281) (h91 : isB s at' 91 = true) (h46 : isB s (at' + 1) 46 = false) (h61 : isB s (at' + 1) 61 = false) (h58 : isB s (at' + 1) 58 = true) (nm rest : List UInt8) (hcut : Lib.cut (s.data.toList.drop (at' + 2)) [58, 93] = (nm, rest, true)) (hcls : cls nm = none) :
    Calls Tryd.prog 73 #[.pointer (some ⟨B, 0, none⟩)] w fun e w' => ∃ v, e = .returned (.tuple #[.agg (itc true 0 0 at'), v]) ∧ IsErr w' E v 8 at' lang ∧ w.grownBy w' (some B) ∧ ∃ at2, IsR w' B p s.size cap at2 lang := by
  obtain ⟨b, o, rfl, hcell, hbl⟩ := hasB_at hS hat
  have hlB : b ≠ B := bytes_ne hR hcell
  clear hcell
  have c1 : w.cell? ⟨B, 1, none⟩ = some (.int .i64 at') := row_cell hR rfl
  have c2 : w.cell? ⟨B, 2, none⟩ = some (.int .i64 lang) := row_cell hR rfl
  have c0 : w.cell? ⟨B, 0, none⟩ = some (.slice (some ⟨b, o, none⟩) s.size cap) := row_cell hR rfl
  have f1 := row_free hR 1
  have hl : B < w.heap.size := row_lt hR
  have hR' := Lib.hid hR
  have hS' := Lib.hid hS
  clear hR hS
  have hE' := Lib.hid hE
  clear hE
  go_enter Tryd.func73, Tryd.ntmps73
  go_wp2_with (first | (go_at_call 72; first | (refine (is_val B _ cap at' lang s _ _ true _ (by repeat (first | exact hR'.out | apply IsR.alloc | apply IsR.drewN)) (by repeat (first | exact hS'.out | apply HasB.alloc | apply HasB.drewN)) (by decide) (by decide) (by omega) (by omega) (by exact h91)).mono ?_; rintro e wX ⟨rfl, q, rfl⟩) | (refine (is_val B _ cap at' lang s _ _ false _ (by repeat (first | exact hR'.out | apply IsR.alloc | apply IsR.drewN)) (by repeat (first | exact hS'.out | apply HasB.alloc | apply HasB.drewN)) (by decide) (by decide) (by omega) (by omega) (by exact h46)).mono ?_; rintro e wX ⟨rfl, q, rfl⟩) | (refine (is_val B _ cap at' lang s _ _ false _ (by repeat (first | exact hR'.out | apply IsR.alloc | apply IsR.drewN)) (by repeat (first | exact hS'.out | apply HasB.alloc | apply HasB.drewN)) (by decide) (by decide) (by omega) (by omega) (by exact h61)).mono ?_; rintro e wX ⟨rfl, q, rfl⟩) | (refine (is_val B _ cap at' lang s _ _ true _ (by repeat (first | exact hR'.out | apply IsR.alloc | apply IsR.drewN)) (by repeat (first | exact hS'.out | apply HasB.alloc | apply HasB.drewN)) (by decide) (by decide) (by omega) (by omega) (by exact h58)).mono ?_; rintro e wX ⟨rfl, q, rfl⟩)))

  refine gen_world (fun W0 => Mid w W0 B (some ⟨b, o, none⟩) s cap at' at' lang ∧ Errs N E W0) ⟨Mid.start hR'.out hS'.out _, ((hE'.out.alloc _ (by omega)).alloc _ (by simp; omega)).drewN _⟩ ?_
  clear c0 c1 c2 f1
  intro W0 ⟨hM0, hE0⟩
  have d0 : W0.cell? ⟨B, 0, none⟩ = some (.slice (some ⟨b, o, none⟩) s.size cap) := row_cell hM0.1 rfl
  have d1 : W0.cell? ⟨B, 1, none⟩ = some (.int .i64 (at' : Nat)) := row_cell hM0.1 rfl
  have hk : at' + 2 ≤ s.size := by
    have := isL_lt h58
    simp at this
    omega
  obtain ⟨A, hsl0, hcv0⟩ := tail_run b o cap (at' + 2) s hk hcap
  have hcv : ∀ n, (convert 36 9 (.slice (some A) (s.size - (at' + 2)) (cap - (at' + 2)))).run Tryd.prog (W0.drewN n) = .ok (.string ⟨(s.data.toList.drop (at' + 2)).toArray⟩) (W0.drewN n) := fun n => hcv0 _ (hM0.2.1.drewN n)
  have hsl : ∀ W : World, (Instr.slice 36 (.slice (some ⟨b, o, none⟩) s.size cap) (some (.int .i64 ((at' : Int) + 2))) none none).run Tryd.prog W = .ok (.slice (some A) (s.size - (at' + 2)) (cap - (at' + 2))) W := fun W => by simpa using hsl0 W
  clear hcv0 hsl0
  have hll : (s.data.toList.drop (at' + 2)).length < 4294967281 := by simp; omega
  generalize s.data.toList.drop (at' + 2) = l at *
  have e2 : (at' : Int) + 2 ≤ (s.size : Int) := by omega
  have e3 : (0 : Int) ≤ (at' : Int) := by omega
  have e4 : (0 : Int) ≤ (at' : Int) + 2 := by omega
  have e6 : IntKind.i64.wrap ((at' : Int) + 2) = (at' : Int) + 2 := by simp [IntKind.wrap, IntKind.bits, IntKind.signed]; omega
  have hM' := Lib.hid hM0
  have hE' := Lib.hid hE0
  have hk' := Lib.hid hk
  have hcut' := Lib.hid hcut
  have hcls' := Lib.hid hcls
  clear hM0 hE0 hk hcut hcls
  go_quiet (((go_at_call 83; exact Calls.quiet_of (cut_val (N := N) (E := E) (hE'.out.drewN _) l nm rest true hll hcut'.out))))
  clear hcv hsl d0 d1 e2 e4 e6
  go_wp2_with fail
  refine (class_no nm _ hcls'.out).mono ?_
  rintro e w1 ⟨rfl, b1⟩
  have hM1 : Mid w w1 B (some ⟨b, o, none⟩) s cap at' at' lang := (hM'.out.drewN _).ext b1 (Nat.le_refl _)
  have hE1 : Errs N E w1 := (hE'.out.drewN _).below b1 (by have := hM'.out.2.2.2.2.2; show N ≤ W0.heap.size; omega)
  have z1 := hM1.2.2.2.2.2
  have hM1' := Lib.hid hM1
  have hE1' := Lib.hid hE1
  clear hM1 hE1 hM' hE' b1
  have n3 : ¬ B = w.heap.size + 1 := by omega
  have n4 : ¬ w.heap.size = w.heap.size + 1 := by omega
  have n5 : ¬ w.heap.size = B := by omega
  have n6 : ¬ w.heap.size + 1 = B := by omega
  have hl1 := row_lt hM1'.out.1
  go_wp2_with (first | (refine load_set rfl _ rfl _ rfl ?_; apply Exists.intro; apply And.intro; focus ((repeat' (first | (with_reducible assumption) | (with_reducible apply IsSet.zero'; first | (with_reducible rfl) | (simp only [World.size_alloc]; done)) | (with_reducible apply IsSet.new'; first | (with_reducible rfl) | (simp only [World.size_alloc]; done)) | (with_reducible apply IsSet.sv; first | (with_reducible rfl) | (simp only [World.size_alloc]; done)) | (with_reducible apply IsSet.viaG; with_reducible assumption) | (with_reducible apply IsSet.viaB; with_reducible assumption) | (with_reducible apply IsSet.drew) | (with_reducible apply IsSet.store4) | (with_reducible apply IsSet.set_other) | (with_reducible apply IsSet.alloc) | (simp only [World.size_alloc]; omega) | omega | (simp; omega) | (simp; done))); done)) | (refine build_item rfl _ _ rfl _ at' rfl rfl ?_) | ((refine store_set rfl rfl _ _ rfl _ _ rfl rfl ?_ ?_; (focus (apply Exists.intro; (repeat' (first | (with_reducible assumption) | (with_reducible apply IsSet.zero'; first | (with_reducible rfl) | (simp only [World.size_alloc]; done)) | (with_reducible apply IsSet.new'; first | (with_reducible rfl) | (simp only [World.size_alloc]; done)) | (with_reducible apply IsSet.sv; first | (with_reducible rfl) | (simp only [World.size_alloc]; done)) | (with_reducible apply IsSet.viaG; with_reducible assumption) | (with_reducible apply IsSet.viaB; with_reducible assumption) | (with_reducible apply IsSet.drew) | (with_reducible apply IsSet.store4) | (with_reducible apply IsSet.set_other) | (with_reducible apply IsSet.alloc) | (simp only [World.size_alloc]; omega) | omega | (simp; omega) | (simp; done))); done)); intro wX hX gX zX; (try simp only [World.size_alloc] at zX)); have bX : Below w1.heap.size w1 wX := Below.viaG1 gX ((Below.refl _ _).alloc (Nat.le_refl _) _) (by simp) (Nat.le_refl _); have hM3 := hM1'.out.ext bX (Nat.le_refl _); have hE3 := hE1'.out.below bX (by omega); have hlX := hX.lt; have d1 : wX.cell? ⟨B, 1, none⟩ = some (.int .i64 (at' : Nat)) := row_cell hM3.1 rfl; have f1 := row_free hM3.1 1; have hlB1 := row_lt hM3.1; have t6 : wX.cell? ⟨w.heap.size + 1, 6, none⟩ = some (.int .i64 (at' : Nat)) := row_cell hM3.2.2.1 rfl; have hM3' := Lib.hid hM3; have hE3' := Lib.hid hE3; clear hM3 hE3 bX gX) | (refine wpList_store_row rfl 120 _ _ rfl _ _ rfl rfl 120 _ (row_set_other hM3'.out.2.2.2.1 (by omega) _ _) (by kernel_rfl) rfl (itc_all _ _ _ _) ?_))

  refine gen_world (fun W0 => Mid w W0 B (some ⟨b, o, none⟩) s cap at' at' lang ∧ Errs N E W0) ⟨hM3'.out, hE3'.out⟩ ?_
  clear d1 f1 t6 hX hM3' hE3' hlB1 hlX zX n4 n5 n6 n3 hl1 z1
  intro W0 ⟨⟨hR0, hS0, hi0, ho0, hg0, hz0⟩, hE0⟩
  clear hS0
  have d0 : W0.cell? ⟨B, 0, none⟩ = some (.slice (some ⟨b, o, none⟩) s.size cap) := row_cell hR0 rfl
  have d1 : W0.cell? ⟨B, 1, none⟩ = some (.int .i64 (at' : Nat)) := row_cell hR0 rfl
  have ti0 : W0.cell? ⟨w.heap.size + 1, 0, none⟩ = some (.bool true) := row_cell hi0 rfl
  have ti1 : W0.cell? ⟨w.heap.size + 1, 1, none⟩ = some (.int .u8 0) := row_cell hi0 rfl
  have ti2 : W0.cell? ⟨w.heap.size + 1, 2, none⟩ = some (.int .u64 0) := row_cell hi0 rfl
  have ti3 : W0.cell? ⟨w.heap.size + 1, 3, none⟩ = some (.int .u64 0) := row_cell hi0 rfl
  have ti4 : W0.cell? ⟨w.heap.size + 1, 4, none⟩ = some (.int .u64 0) := row_cell hi0 rfl
  have ti5 : W0.cell? ⟨w.heap.size + 1, 5, none⟩ = some (.int .u64 0) := row_cell hi0 rfl
  have ti6 : W0.cell? ⟨w.heap.size + 1, 6, none⟩ = some (.int .i64 (at' : Int)) := row_cell hi0 rfl
  have to0 : W0.cell? ⟨w.heap.size, 0, none⟩ = some (.bool false) := row_cell ho0 rfl
  have tof0 := row_free ho0 0
  have to1 : W0.cell? ⟨w.heap.size, 1, none⟩ = some (.int .u8 0) := row_cell ho0 rfl
  have tof1 := row_free ho0 1
  have to2 : W0.cell? ⟨w.heap.size, 2, none⟩ = some (.int .u64 0) := row_cell ho0 rfl
  have tof2 := row_free ho0 2
  have to3 : W0.cell? ⟨w.heap.size, 3, none⟩ = some (.int .u64 0) := row_cell ho0 rfl
  have tof3 := row_free ho0 3
  have to4 : W0.cell? ⟨w.heap.size, 4, none⟩ = some (.int .u64 0) := row_cell ho0 rfl
  have tof4 := row_free ho0 4
  have to5 : W0.cell? ⟨w.heap.size, 5, none⟩ = some (.int .u64 0) := row_cell ho0 rfl
  have tof5 := row_free ho0 5
  have to6 : W0.cell? ⟨w.heap.size, 6, none⟩ = some (.int .i64 0) := row_cell ho0 rfl
  have tof6 := row_free ho0 6
  have hR0' := Lib.hid hR0
  have hi0' := Lib.hid hi0
  have ho0' := Lib.hid ho0
  have hg0' := Lib.hid hg0
  have hE0' := Lib.hid hE0
  clear hR0 hi0 ho0 hg0 hE0
  have n1 : ¬ w.heap.size = B := by omega
  have n2 : ¬ w.heap.size = w.heap.size + 1 := by omega
  have hat2 : at' < 2 ^ 61 := by omega
  have l0 : w.heap.size < W0.heap.size := by omega
  have l1 : w.heap.size + 1 < W0.heap.size := by omega
  have lB : B < W0.heap.size := by omega
  go_region_held3 (fun w' => w'.cell? ⟨B, 1, none⟩ = some (.int .i64 (at' : Nat)) ∧ w'.cell? ⟨w.heap.size + 1, 0, none⟩ = some (.bool true) ∧ w'.cell? ⟨w.heap.size + 1, 1, none⟩ = some (.int .u8 0) ∧ w'.cell? ⟨w.heap.size + 1, 2, none⟩ = some (.int .u64 0) ∧ w'.cell? ⟨w.heap.size + 1, 3, none⟩ = some (.int .u64 0) ∧ w'.cell? ⟨w.heap.size + 1, 4, none⟩ = some (.int .u64 0) ∧ w'.cell? ⟨w.heap.size + 1, 5, none⟩ = some (.int .u64 0) ∧ w'.cell? ⟨w.heap.size + 1, 6, none⟩ = some (.int .i64 (at' : Int))) (go_keep)
    (first | (go_at_call 59; refine (fail_any (N := N) (E := E) (by repeat (first | exact hE0'.out | apply Errs.set_ | apply Errs.drew | omega)) B (some ⟨b, o, none⟩) s.size cap at' lang (by repeat (first | exact hR0'.out | apply IsR.set_ | apply IsR.drew | omega)) 8 (by decide) (by decide) _).mono ?_; rintro e w9 ⟨v, rfl, hv, b9⟩; have hT := (b9.block (w.heap.size + 1) (by simp; omega)).trans (by repeat (first | exact hi0'.out | refine row_set_other ?_ (by omega) _ _ | refine row_drew ?_)); have ui0 := row_cell (i := 0) hT rfl; have ui1 := row_cell (i := 1) hT rfl; have ui2 := row_cell (i := 2) hT rfl; have ui3 := row_cell (i := 3) hT rfl; have ui4 := row_cell (i := 4) hT rfl; have ui5 := row_cell (i := 5) hT rfl; have ui6 := row_cell (i := 6) hT rfl; have hR9 := (b9.block B (by simp; omega)).trans (by repeat (first | exact hR0'.out | refine row_set_other ?_ (by omega) _ _ | refine row_drew ?_)); have ur := row_cell (i := 1) hR9 rfl; clear hT hR9; first | (have hU := (b9.block w.heap.size (by simp; omega)).trans (by repeat (first | exact ho0'.out | refine row_set_other ?_ (by omega) _ _ | refine row_drew ?_)); have uo0 := row_cell (i := 0) hU rfl; have uf0 := row_free hU 0; have uo1 := row_cell (i := 1) hU rfl; have uf1 := row_free hU 1; have uo2 := row_cell (i := 2) hU rfl; have uf2 := row_free hU 2; have uo3 := row_cell (i := 3) hU rfl; have uf3 := row_free hU 3; have uo4 := row_cell (i := 4) hU rfl; have uf4 := row_free hU 4; have uo5 := row_cell (i := 5) hU rfl; have uf5 := row_free hU 5; have uo6 := row_cell (i := 6) hU rfl; have uf6 := row_free hU 6; clear hU) | skip))
  have ho9 := (b9.block w.heap.size (by show _ < W0.heap.size; omega)).trans ho0'.out
  refine gen_q _ (fun W2 => W2.heap[w.heap.size]? = some (.cells (itc true 0 0 at') 120 (0, 0)) ∧ IsErr W2 E v 8 at' lang ∧ w.grownBy W2 (some B) ∧ IsR W2 B (some ⟨b, o, none⟩) s.size cap at' lang) ?_ ?_
  · refine ⟨(row_set (row_set (row_set (row_set (row_set (row_set (row_set ho9 0 _) 1 _) 2 _) 3 _) 4 _) 5 _) 6 _).trans (by simp [itc, word_zero]), hv.keepT ho9 (by decide) (by decide) fun k _ hk => ?_, ?_, ?_⟩
    · iterate 7 (refine (Below.heap_setCell _ _ _ _ hk).trans ?_)
      rfl
    · iterate 7 (refine only_set ?_ _ _ (.inr (Nat.le_refl _)) _)
      exact only_then (w := W0.drew) (only_drewN hg0'.out 1) b9 (by show _ ≤ W0.heap.size; omega)
    · iterate 7 (refine IsR.set_ ?_ (by omega))
      exact hR0'.out.keep (b9.block B (by show _ < W0.heap.size; omega))
  clear hv b9 ho9 hg0' hR0' ho0' hi0' hE0' d0 d1 ti0 to0 tof0 ui0 uo0 uf0 ti1 to1 tof1 ui1 uo1 uf1 ti2 to2 tof2 ui2 uo2 uf2 ti3 to3 tof3 ui3 uo3 uf3 ti4 to4 tof4 ui4 uo4 uf4 ti5 to5 tof5 ui5 uo5 uf5 ti6 to6 tof6 ui6 uo6 uf6 ur
  intro W2 ⟨hU, hv, hg, hR⟩
  have hU' := Lib.hid hU
  have hv' := Lib.hid hv
  have hg' := Lib.hid hg
  have hR' := Lib.hid hR
  clear hU hv hg hR
  go_wp2_with fail
  exact ret_row2 _ rfl rfl rfl rfl hU'.out Tryd.underlying120 (by kernel_rfl) ⟨v, rfl, hv'.out, hg'.out, _, hR'.out⟩


set_option maxHeartbeats 2000000 in
set_option maxRecDepth 100000 in
theorem item_noEnd {N : Nat} {E : Nat → Addr} (B : Nat) (p : Option Addr) (cap at' : Nat) (lang : Int) (s : ByteArray) (w : World) (hR : IsR w B p s.size cap at' lang) (hS : HasB w p s) (hs : s.size < 2 ^ 61) (hat : at' < s.size) (hcap : s.size ≤ cap)
    (hN : N ≤ B) (hE : Errs N E w) (hs4 : s.size < 4294967281) (h91 : isB s at' 91 = true) (h46 : isB s (at' + 1) 46 = false) (h61 : isB s (at' + 1) 61 = false) (h58 : isB s (at' + 1) 58 = true) (nm rest : List UInt8) (hcut : Lib.cut (s.data.toList.drop (at' + 2)) [58, 93] = (nm, rest, false)) :
    Calls Tryd.prog 73 #[.pointer (some ⟨B, 0, none⟩)] w fun e w' => ∃ v, e = .returned (.tuple #[.agg (itc true 0 0 at'), v]) ∧ IsErr w' E v 8 at' lang ∧ w.grownBy w' (some B) ∧ ∃ at2, IsR w' B p s.size cap at2 lang := by
  obtain ⟨b, o, rfl, hcell, hbl⟩ := hasB_at hS hat
  have hlB : b ≠ B := bytes_ne hR hcell
  clear hcell
  have c1 : w.cell? ⟨B, 1, none⟩ = some (.int .i64 at') := row_cell hR rfl
  have c2 : w.cell? ⟨B, 2, none⟩ = some (.int .i64 lang) := row_cell hR rfl
  have c0 : w.cell? ⟨B, 0, none⟩ = some (.slice (some ⟨b, o, none⟩) s.size cap) := row_cell hR rfl
  have f1 := row_free hR 1
  have hl : B < w.heap.size := row_lt hR
  have hR' := Lib.hid hR
  have hS' := Lib.hid hS
  clear hR hS
  have hE' := Lib.hid hE
  clear hE
  go_enter Tryd.func73, Tryd.ntmps73
  go_wp2_with (first | (go_at_call 72; first | (refine (is_val B _ cap at' lang s _ _ true _ (by repeat (first | exact hR'.out | apply IsR.alloc | apply IsR.drewN)) (by repeat (first | exact hS'.out | apply HasB.alloc | apply HasB.drewN)) (by decide) (by decide) (by omega) (by omega) (by exact h91)).mono ?_; rintro e wX ⟨rfl, q, rfl⟩) | (refine (is_val B _ cap at' lang s _ _ false _ (by repeat (first | exact hR'.out | apply IsR.alloc | apply IsR.drewN)) (by repeat (first | exact hS'.out | apply HasB.alloc | apply HasB.drewN)) (by decide) (by decide) (by omega) (by omega) (by exact h46)).mono ?_; rintro e wX ⟨rfl, q, rfl⟩) | (refine (is_val B _ cap at' lang s _ _ false _ (by repeat (first | exact hR'.out | apply IsR.alloc | apply IsR.drewN)) (by repeat (first | exact hS'.out | apply HasB.alloc | apply HasB.drewN)) (by decide) (by decide) (by omega) (by omega) (by exact h61)).mono ?_; rintro e wX ⟨rfl, q, rfl⟩) | (refine (is_val B _ cap at' lang s _ _ true _ (by repeat (first | exact hR'.out | apply IsR.alloc | apply IsR.drewN)) (by repeat (first | exact hS'.out | apply HasB.alloc | apply HasB.drewN)) (by decide) (by decide) (by omega) (by omega) (by exact h58)).mono ?_; rintro e wX ⟨rfl, q, rfl⟩)))

  refine gen_world (fun W0 => Mid w W0 B (some ⟨b, o, none⟩) s cap at' at' lang ∧ Errs N E W0) ⟨Mid.start hR'.out hS'.out _, ((hE'.out.alloc _ (by omega)).alloc _ (by simp; omega)).drewN _⟩ ?_
  clear c0 c1 c2 f1
  intro W0 ⟨hM0, hE0⟩
  have d0 : W0.cell? ⟨B, 0, none⟩ = some (.slice (some ⟨b, o, none⟩) s.size cap) := row_cell hM0.1 rfl
  have d1 : W0.cell? ⟨B, 1, none⟩ = some (.int .i64 (at' : Nat)) := row_cell hM0.1 rfl
  have hk : at' + 2 ≤ s.size := by
    have := isL_lt h58
    simp at this
    omega
  obtain ⟨A, hsl0, hcv0⟩ := tail_run b o cap (at' + 2) s hk hcap
  have hcv : ∀ n, (convert 36 9 (.slice (some A) (s.size - (at' + 2)) (cap - (at' + 2)))).run Tryd.prog (W0.drewN n) = .ok (.string ⟨(s.data.toList.drop (at' + 2)).toArray⟩) (W0.drewN n) := fun n => hcv0 _ (hM0.2.1.drewN n)
  have hsl : ∀ W : World, (Instr.slice 36 (.slice (some ⟨b, o, none⟩) s.size cap) (some (.int .i64 ((at' : Int) + 2))) none none).run Tryd.prog W = .ok (.slice (some A) (s.size - (at' + 2)) (cap - (at' + 2))) W := fun W => by simpa using hsl0 W
  clear hcv0 hsl0
  have hll : (s.data.toList.drop (at' + 2)).length < 4294967281 := by simp; omega
  generalize s.data.toList.drop (at' + 2) = l at *
  have e2 : (at' : Int) + 2 ≤ (s.size : Int) := by omega
  have e3 : (0 : Int) ≤ (at' : Int) := by omega
  have e4 : (0 : Int) ≤ (at' : Int) + 2 := by omega
  have e6 : IntKind.i64.wrap ((at' : Int) + 2) = (at' : Int) + 2 := by simp [IntKind.wrap, IntKind.bits, IntKind.signed]; omega
  have hM' := Lib.hid hM0
  have hE' := Lib.hid hE0
  have hk' := Lib.hid hk
  have hcut' := Lib.hid hcut
  clear hM0 hE0 hk hcut
  go_quiet (((go_at_call 83; exact Calls.quiet_of (cut_val (N := N) (E := E) (hE'.out.drewN _) l nm rest false hll hcut'.out))))
  clear hcv hsl d0 d1 e2 e4 e6
  go_wp2_with fail
  refine (Class_any ⟨nm.toArray⟩ _).mono ?_
  rintro e w1 ⟨rfl, b1⟩
  have hM1 : Mid w w1 B (some ⟨b, o, none⟩) s cap at' at' lang := (hM'.out.drewN _).ext b1 (Nat.le_refl _)
  have hE1 : Errs N E w1 := (hE'.out.drewN _).below b1 (by have := hM'.out.2.2.2.2.2; show N ≤ W0.heap.size; omega)
  have z1 := hM1.2.2.2.2.2
  have hM1' := Lib.hid hM1
  have hE1' := Lib.hid hE1
  clear hM1 hE1 hM' hE' b1
  have n3 : ¬ B = w.heap.size + 1 := by omega
  have n4 : ¬ w.heap.size = w.heap.size + 1 := by omega
  have n5 : ¬ w.heap.size = B := by omega
  have n6 : ¬ w.heap.size + 1 = B := by omega
  have hl1 := row_lt hM1'.out.1
  go_wp2_with (first | (refine load_set rfl _ rfl _ rfl ?_; apply Exists.intro; apply And.intro; focus ((repeat' (first | (with_reducible assumption) | (with_reducible apply IsSet.zero'; first | (with_reducible rfl) | (simp only [World.size_alloc]; done)) | (with_reducible apply IsSet.new'; first | (with_reducible rfl) | (simp only [World.size_alloc]; done)) | (with_reducible apply IsSet.sv; first | (with_reducible rfl) | (simp only [World.size_alloc]; done)) | (with_reducible apply IsSet.viaG; with_reducible assumption) | (with_reducible apply IsSet.viaB; with_reducible assumption) | (with_reducible apply IsSet.drew) | (with_reducible apply IsSet.store4) | (with_reducible apply IsSet.set_other) | (with_reducible apply IsSet.alloc) | (simp only [World.size_alloc]; omega) | omega | (simp; omega) | (simp; done))); done)) | (refine build_item rfl _ _ rfl _ at' rfl rfl ?_) | ((refine store_set rfl rfl _ _ rfl _ _ rfl rfl ?_ ?_; (focus (apply Exists.intro; (repeat' (first | (with_reducible assumption) | (with_reducible apply IsSet.zero'; first | (with_reducible rfl) | (simp only [World.size_alloc]; done)) | (with_reducible apply IsSet.new'; first | (with_reducible rfl) | (simp only [World.size_alloc]; done)) | (with_reducible apply IsSet.sv; first | (with_reducible rfl) | (simp only [World.size_alloc]; done)) | (with_reducible apply IsSet.viaG; with_reducible assumption) | (with_reducible apply IsSet.viaB; with_reducible assumption) | (with_reducible apply IsSet.drew) | (with_reducible apply IsSet.store4) | (with_reducible apply IsSet.set_other) | (with_reducible apply IsSet.alloc) | (simp only [World.size_alloc]; omega) | omega | (simp; omega) | (simp; done))); done)); intro wX hX gX zX; (try simp only [World.size_alloc] at zX)); have bX : Below w1.heap.size w1 wX := Below.viaG1 gX ((Below.refl _ _).alloc (Nat.le_refl _) _) (by simp) (Nat.le_refl _); have hM3 := hM1'.out.ext bX (Nat.le_refl _); have hE3 := hE1'.out.below bX (by omega); have hlX := hX.lt; have d1 : wX.cell? ⟨B, 1, none⟩ = some (.int .i64 (at' : Nat)) := row_cell hM3.1 rfl; have f1 := row_free hM3.1 1; have hlB1 := row_lt hM3.1; have t6 : wX.cell? ⟨w.heap.size + 1, 6, none⟩ = some (.int .i64 (at' : Nat)) := row_cell hM3.2.2.1 rfl; have hM3' := Lib.hid hM3; have hE3' := Lib.hid hE3; clear hM3 hE3 bX gX) | (refine wpList_store_row rfl 120 _ _ rfl _ _ rfl rfl 120 _ (row_set_other hM3'.out.2.2.2.1 (by omega) _ _) (by kernel_rfl) rfl (itc_all _ _ _ _) ?_))

  refine gen_world (fun W0 => Mid w W0 B (some ⟨b, o, none⟩) s cap at' at' lang ∧ Errs N E W0) ⟨hM3'.out, hE3'.out⟩ ?_
  clear d1 f1 t6 hX hM3' hE3' hlB1 hlX zX n4 n5 n6 n3 hl1 z1
  intro W0 ⟨⟨hR0, hS0, hi0, ho0, hg0, hz0⟩, hE0⟩
  clear hS0
  have d0 : W0.cell? ⟨B, 0, none⟩ = some (.slice (some ⟨b, o, none⟩) s.size cap) := row_cell hR0 rfl
  have d1 : W0.cell? ⟨B, 1, none⟩ = some (.int .i64 (at' : Nat)) := row_cell hR0 rfl
  have ti0 : W0.cell? ⟨w.heap.size + 1, 0, none⟩ = some (.bool true) := row_cell hi0 rfl
  have ti1 : W0.cell? ⟨w.heap.size + 1, 1, none⟩ = some (.int .u8 0) := row_cell hi0 rfl
  have ti2 : W0.cell? ⟨w.heap.size + 1, 2, none⟩ = some (.int .u64 0) := row_cell hi0 rfl
  have ti3 : W0.cell? ⟨w.heap.size + 1, 3, none⟩ = some (.int .u64 0) := row_cell hi0 rfl
  have ti4 : W0.cell? ⟨w.heap.size + 1, 4, none⟩ = some (.int .u64 0) := row_cell hi0 rfl
  have ti5 : W0.cell? ⟨w.heap.size + 1, 5, none⟩ = some (.int .u64 0) := row_cell hi0 rfl
  have ti6 : W0.cell? ⟨w.heap.size + 1, 6, none⟩ = some (.int .i64 (at' : Int)) := row_cell hi0 rfl
  have to0 : W0.cell? ⟨w.heap.size, 0, none⟩ = some (.bool false) := row_cell ho0 rfl
  have tof0 := row_free ho0 0
  have to1 : W0.cell? ⟨w.heap.size, 1, none⟩ = some (.int .u8 0) := row_cell ho0 rfl
  have tof1 := row_free ho0 1
  have to2 : W0.cell? ⟨w.heap.size, 2, none⟩ = some (.int .u64 0) := row_cell ho0 rfl
  have tof2 := row_free ho0 2
  have to3 : W0.cell? ⟨w.heap.size, 3, none⟩ = some (.int .u64 0) := row_cell ho0 rfl
  have tof3 := row_free ho0 3
  have to4 : W0.cell? ⟨w.heap.size, 4, none⟩ = some (.int .u64 0) := row_cell ho0 rfl
  have tof4 := row_free ho0 4
  have to5 : W0.cell? ⟨w.heap.size, 5, none⟩ = some (.int .u64 0) := row_cell ho0 rfl
  have tof5 := row_free ho0 5
  have to6 : W0.cell? ⟨w.heap.size, 6, none⟩ = some (.int .i64 0) := row_cell ho0 rfl
  have tof6 := row_free ho0 6
  have hR0' := Lib.hid hR0
  have hi0' := Lib.hid hi0
  have ho0' := Lib.hid ho0
  have hg0' := Lib.hid hg0
  have hE0' := Lib.hid hE0
  clear hR0 hi0 ho0 hg0 hE0
  have n1 : ¬ w.heap.size = B := by omega
  have n2 : ¬ w.heap.size = w.heap.size + 1 := by omega
  have hat2 : at' < 2 ^ 61 := by omega
  have l0 : w.heap.size < W0.heap.size := by omega
  have l1 : w.heap.size + 1 < W0.heap.size := by omega
  have lB : B < W0.heap.size := by omega
  go_region_held3 (fun w' => w'.cell? ⟨B, 1, none⟩ = some (.int .i64 (at' : Nat)) ∧ w'.cell? ⟨w.heap.size + 1, 0, none⟩ = some (.bool true) ∧ w'.cell? ⟨w.heap.size + 1, 1, none⟩ = some (.int .u8 0) ∧ w'.cell? ⟨w.heap.size + 1, 2, none⟩ = some (.int .u64 0) ∧ w'.cell? ⟨w.heap.size + 1, 3, none⟩ = some (.int .u64 0) ∧ w'.cell? ⟨w.heap.size + 1, 4, none⟩ = some (.int .u64 0) ∧ w'.cell? ⟨w.heap.size + 1, 5, none⟩ = some (.int .u64 0) ∧ w'.cell? ⟨w.heap.size + 1, 6, none⟩ = some (.int .i64 (at' : Int))) (go_keep)
    (first | (go_at_call 59; refine (fail_any (N := N) (E := E) (by repeat (first | exact hE0'.out | apply Errs.set_ | apply Errs.drew | omega)) B (some ⟨b, o, none⟩) s.size cap at' lang (by repeat (first | exact hR0'.out | apply IsR.set_ | apply IsR.drew | omega)) 8 (by decide) (by decide) _).mono ?_; rintro e w9 ⟨v, rfl, hv, b9⟩; have hT := (b9.block (w.heap.size + 1) (by simp; omega)).trans (by repeat (first | exact hi0'.out | refine row_set_other ?_ (by omega) _ _ | refine row_drew ?_)); have ui0 := row_cell (i := 0) hT rfl; have ui1 := row_cell (i := 1) hT rfl; have ui2 := row_cell (i := 2) hT rfl; have ui3 := row_cell (i := 3) hT rfl; have ui4 := row_cell (i := 4) hT rfl; have ui5 := row_cell (i := 5) hT rfl; have ui6 := row_cell (i := 6) hT rfl; have hR9 := (b9.block B (by simp; omega)).trans (by repeat (first | exact hR0'.out | refine row_set_other ?_ (by omega) _ _ | refine row_drew ?_)); have ur := row_cell (i := 1) hR9 rfl; clear hT hR9; first | (have hU := (b9.block w.heap.size (by simp; omega)).trans (by repeat (first | exact ho0'.out | refine row_set_other ?_ (by omega) _ _ | refine row_drew ?_)); have uo0 := row_cell (i := 0) hU rfl; have uf0 := row_free hU 0; have uo1 := row_cell (i := 1) hU rfl; have uf1 := row_free hU 1; have uo2 := row_cell (i := 2) hU rfl; have uf2 := row_free hU 2; have uo3 := row_cell (i := 3) hU rfl; have uf3 := row_free hU 3; have uo4 := row_cell (i := 4) hU rfl; have uf4 := row_free hU 4; have uo5 := row_cell (i := 5) hU rfl; have uf5 := row_free hU 5; have uo6 := row_cell (i := 6) hU rfl; have uf6 := row_free hU 6; clear hU) | skip))
  have ho9 := (b9.block w.heap.size (by show _ < W0.heap.size; omega)).trans ho0'.out
  refine gen_q _ (fun W2 => W2.heap[w.heap.size]? = some (.cells (itc true 0 0 at') 120 (0, 0)) ∧ IsErr W2 E v 8 at' lang ∧ w.grownBy W2 (some B) ∧ IsR W2 B (some ⟨b, o, none⟩) s.size cap at' lang) ?_ ?_
  · refine ⟨(row_set (row_set (row_set (row_set (row_set (row_set (row_set ho9 0 _) 1 _) 2 _) 3 _) 4 _) 5 _) 6 _).trans (by simp [itc, word_zero]), hv.keepT ho9 (by decide) (by decide) fun k _ hk => ?_, ?_, ?_⟩
    · iterate 7 (refine (Below.heap_setCell _ _ _ _ hk).trans ?_)
      rfl
    · iterate 7 (refine only_set ?_ _ _ (.inr (Nat.le_refl _)) _)
      exact only_then (w := W0.drew) (only_drewN hg0'.out 1) b9 (by show _ ≤ W0.heap.size; omega)
    · iterate 7 (refine IsR.set_ ?_ (by omega))
      exact hR0'.out.keep (b9.block B (by show _ < W0.heap.size; omega))
  clear hv b9 ho9 hg0' hR0' ho0' hi0' hE0' d0 d1 ti0 to0 tof0 ui0 uo0 uf0 ti1 to1 tof1 ui1 uo1 uf1 ti2 to2 tof2 ui2 uo2 uf2 ti3 to3 tof3 ui3 uo3 uf3 ti4 to4 tof4 ui4 uo4 uf4 ti5 to5 tof5 ui5 uo5 uf5 ti6 to6 tof6 ui6 uo6 uf6 ur
  intro W2 ⟨hU, hv, hg, hR⟩
  have hU' := Lib.hid hU
  have hv' := Lib.hid hv
  have hg' := Lib.hid hg
  have hR' := Lib.hid hR
  clear hU hv hg hR
  go_wp2_with fail
  exact ret_row2 _ rfl rfl rfl rfl hU'.out Tryd.underlying120 (by kernel_rfl) ⟨v, rfl, hv'.out, hg'.out, _, hR'.out⟩

end Go.Proofs.YteeopjgfiojoiaaDoor
namespace Go.Proofs.YteeopjgfiojoiaaDoor
open Go Go.RowKit SN

/-- What an item's call leaves. -/
def ItemPost (E : Nat → Addr) (w : World) (B : Nat) (p : Option Addr) (s : ByteArray) (cap : Nat) (lang : Int) (at' : Nat) : It → Ending → World → Prop
  | .err code pos, e, w' => ∃ v, e = .returned (.tuple #[.agg (itc true 0 0 at'), v]) ∧ IsErr w' E v code pos lang ∧ w.grownBy w' (some B) ∧ ∃ at2, IsR w' B p s.size cap at2 lang
  | .byte c next, e, w' => e = .returned (.tuple #[.agg (itc true (c.toNat : Int) (ofL [c]) at'), .nilIface]) ∧ w.grownBy w' (some B) ∧ IsR w' B p s.size cap next lang
  | .cls S next, e, w' => e = .returned (.tuple #[.agg (itc false 0 S at'), .nilIface]) ∧ w.grownBy w' (some B) ∧ IsR w' B p s.size cap next lang
theorem isL_two {l : List UInt8} {i : Nat} {a b : Int} (h : isL l i a = true) (hne : a ≠ b) : isL l i b = false := by
  unfold isL at h ⊢
  cases hl : l[i]? with
  | none => rfl
  | some c =>
    rw [hl] at h
    simp at h ⊢
    omega
theorem itemOne_eq (s : ByteArray) (i : Nat) (hi : i < s.size) : itemOne s.data.toList i = .byte s[i] (i + 1) := by
  unfold itemOne
  have : s.data.toList[i]? = some s[i] := by simp [ByteArray.getElem_eq_getElem_data]
  rw [this]
  rfl
theorem item_any {N : Nat} {E : Nat → Addr} (B : Nat) (p : Option Addr) (cap at' : Nat) (lang : Int) (s : ByteArray) (w : World) (hR : IsR w B p s.size cap at' lang) (hS : HasB w p s) (hs : s.size < 4294967281) (hat : at' < s.size) (hcap : s.size ≤ cap)
    (hN : N ≤ B) (hE : Errs N E w) :
    Calls Tryd.prog 73 #[.pointer (some ⟨B, 0, none⟩)] w (ItemPost E w B p s cap lang at' (item s.data.toList (lang == 2) at')) := by
  have hs' : s.size < 2 ^ 61 := by omega
  have hsz : s.data.toList.length = s.size := by simp
  unfold item
  cases h91 : isL s.data.toList at' 91 with
  | false =>
    simp only [Bool.false_and, Bool.false_eq_true, ↓reduceIte]
    cases h92 : isL s.data.toList at' 92 with
    | false =>
      simp only [Bool.false_and, Bool.false_eq_true, ↓reduceIte, itemOne_eq s at' hat]
      exact item_plain1 B p cap at' lang s w hR hS hs' hat hcap h91 h92
    | true =>
      cases hg : (lang == 2) with
      | false =>
        simp only [Bool.and_false, Bool.false_eq_true, ↓reduceIte, itemOne_eq s at' hat]
        exact item_plain2 B p cap at' lang s w hR hS hs' hat hcap h91 h92 hg
      | true =>
        simp only [Bool.and_self, ↓reduceIte]
        by_cases hm : s.data.toList.length ≤ at' + 1
        · rw [if_pos hm, hsz]
          exact item_escEnd B p cap at' lang s w hR hS hs' hat hcap hN hE h91 h92 hg (by omega)
        · rw [if_neg hm, itemOne_eq s (at' + 1) (by omega)]
          exact item_esc B p cap at' lang s w hR hS hs' hat hcap h91 h92 hg (by omega)
  | true =>
    have h92 : isL s.data.toList at' 92 = false := isL_two h91 (by decide)
    simp only [Bool.true_and, h92, Bool.false_and]
    cases h46 : isL s.data.toList (at' + 1) 46 with
    | true =>
      simp only [Bool.true_or, ↓reduceIte]
      exact item_dot B p cap at' lang s w hR hS hs' hat hcap hN hE h91 h46
    | false =>
      cases h61 : isL s.data.toList (at' + 1) 61 with
      | true =>
        simp only [Bool.or_true, ↓reduceIte]
        exact item_eq B p cap at' lang s w hR hS hs' hat hcap hN hE h91 h46 h61
      | false =>
        simp only [Bool.or_self, Bool.false_eq_true, ↓reduceIte]
        cases h58 : isL s.data.toList (at' + 1) 58 with
        | false =>
          simp only [Bool.false_eq_true, ↓reduceIte, itemOne_eq s at' hat]
          exact item_plain3 B p cap at' lang s w hR hS hs' hat hcap h91 h46 h61 h58 h92
        | true =>
          simp only [↓reduceIte, itemCls]
          rcases hc : Lib.cut (s.data.toList.drop (at' + 2)) [58, 93] with ⟨nm, rest, c⟩
          cases c with
          | false => exact item_noEnd B p cap at' lang s w hR hS hs' hat hcap hN hE hs h91 h46 h61 h58 nm rest hc
          | true =>
            cases hcl : cls nm with
            | none =>
              simp only [itemCut, hcl]
              exact item_noName B p cap at' lang s w hR hS hs' hat hcap hN hE hs h91 h46 h61 h58 nm rest hc hcl
            | some S =>
              simp only [itemCut, hcl]
              exact item_named S B p cap at' lang s w hR hS hs' hat hcap hN hE hs h91 h46 h61 h58 nm rest hc hcl
end Go.Proofs.YteeopjgfiojoiaaDoor
