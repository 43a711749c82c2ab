/- The reader's loop, set.Bracket, pidginlaw5.awake. Conditions: the bytes and the errors' variables lie in memory; fewer than 4294967281 bytes. -/
import Derived.Test.YteeopjgfiojoiaaDoorRng
import Derived.Deep.DeepCutAuto
import Derived.OwnWalk
import Derived.Test.YteeopjgfiojoiaaDoorWal
import Derived.Lib.SlBytesConst
namespace Go.Proofs.YteeopjgfiojoiaaDoor
open Go Go.RowKit SN

/-- The place that the reader's block holds. -/
def atIn (w : World) (B : Nat) : Nat := match w.cell? ⟨B, 1, none⟩ with | some (.int _ n) => n.toNat | _ => 0
theorem atIn_eq {w : World} {B : Nat} {p : Option Addr} {n cap at' : Nat} {lang : Int} (h : IsR w B p n cap at' lang) : atIn w B = at' := by
  unfold atIn
  rw [row_cell (i := 1) h rfl]
  simp
/-- Inside 'read': the reader, its bytes, the result's block, the block of the set so far. -/
def DMid (w W : World) (B : Nat) (p : Option Addr) (s : ByteArray) (cap at' : Nat) (lang : Int) (S : Nat) : Prop :=
  IsR W B p s.size cap at' lang ∧ HasB W p s ∧ IsSet 24 W w.heap.size 0 ∧ IsSet 24 W (w.heap.size + 1) S ∧ w.grownBy W (some B) ∧ w.heap.size + 2 ≤ W.heap.size
section
variable {w W W' : World} {B : Nat} {p : Option Addr} {s : ByteArray} {cap at' : Nat} {lang : Int} {S : Nat}
theorem DMid.drewN (h : DMid w W B p s cap at' lang S) (q : Nat) : DMid w (W.drewN q) B p s cap at' lang S :=
  ⟨h.1, h.2.1.drewN q, h.2.2.1, h.2.2.2.1, only_drewN h.2.2.2.2.1 q, h.2.2.2.2.2⟩
theorem DMid.grown (h : DMid w W B p s cap at' lang S) (hB : B < w.heap.size) (hp : ∀ b o, p = some ⟨b, o, none⟩ → b ≠ B) (hg : W.grownBy W' (some B)) {m : Nat} (hR : IsR W' B p s.size cap m lang) : DMid w W' B p s cap m lang S := by
  obtain ⟨h1, h2, h3, h4, h5, h6⟩ := h
  refine ⟨hR, h2.keep (fun b o e hb => hg.block b hb (fun e2 => hp b o e (by injection e2))) hg.size, ?_, ?_, only_trans h5 hg, Nat.le_trans h6 hg.size⟩
  · exact h3.grown hg (fun e => by injection e; omega)
  · exact h4.grown hg (fun e => by injection e; omega)
theorem DMid.ext {M : Nat} (h : DMid w W B p s cap at' lang S) (hb : Below M W W') (hM : W.heap.size ≤ M) : DMid w W' B p s cap at' lang S := by
  obtain ⟨h1, h2, h3, h4, h5, h6⟩ := h
  exact ⟨row_below h1 hb (by have := row_lt h1; omega), h2.keep (fun b o _ hlt => hb.block b (by omega)) hb.size, h3.below hb (by omega), h4.below hb (by omega), only_then h5 hb (by omega), Nat.le_trans h6 hb.size⟩
theorem DMid.put (h : DMid w W B p s cap at' lang S) (hB : B < w.heap.size) (hp : ∀ b o, p = some ⟨b, o, none⟩ → b < w.heap.size) (hg : W.grownBy W' (some (w.heap.size + 1))) {T : Nat} (hT : IsSet 24 W' (w.heap.size + 1) T) : DMid w W' B p s cap at' lang T := by
  obtain ⟨h1, h2, h3, h4, h5, h6⟩ := h
  refine ⟨h1.keep (hg.block B (row_lt h1) (fun e => by injection e; omega)), h2.keep (fun b o e hb => hg.block b hb (fun e2 => by injection e2; have := hp b o e; omega)) hg.size, h3.grown hg (fun e => by injection e; omega), hT, only_set_block h5 hg (by omega), Nat.le_trans h6 hg.size⟩
theorem DMid.next (h : DMid w W B p s cap at' lang S) (hB : B < w.heap.size) (hp : ∀ b o, p = some ⟨b, o, none⟩ → b ≠ B) (m : Nat) (v : Value) (hv : v = .int .i64 (m : Int)) : DMid w (W.setCell ⟨B, 1, none⟩ v) B p s cap m lang S := by
  subst hv
  obtain ⟨h1, h2, h3, h4, h5, h6⟩ := h
  exact ⟨row_set h1 1 _, h2.keep (fun b o e hb => row_set_other rfl (hp b o e) _ _) (by simp [World.setCell]), h3.set_other (by omega) _ _, h4.set_other (by omega) _ _, only_set h5 _ _ (.inl rfl) _, by simpa [World.setCell] using h6⟩
end
/-- Where the loop will end. -/
def Goes (l : List UInt8) (glob first : Bool) (at' S : Nat) (R : Rg) : Prop := ∃ fuel, l.length < at' + fuel ∧ loop l glob fuel first at' S = R
theorem Goes.out {l : List UInt8} {glob first : Bool} {at' S : Nat} {R : Rg} (h : Goes l glob first at' S R) (ha : l.length ≤ at') : R = .err 8 l.length := by
  obtain ⟨fuel, hf, rfl⟩ := h
  cases fuel with
  | zero => rfl
  | succ n => simp [loop, ha]
theorem Goes.stop {l : List UInt8} {glob : Bool} {at' S : Nat} {R : Rg} (h : Goes l glob false at' S R) (ha : at' < l.length) (hc : isL l at' 93 = true) : R = .ok S at' := by
  obtain ⟨fuel, hf, rfl⟩ := h
  cases fuel with
  | zero => omega
  | succ n => simp [loop, Nat.not_le.2 ha, hc]
theorem Goes.step {l : List UInt8} {glob first : Bool} {at' S : Nat} {R : Rg} (h : Goes l glob first at' S R) (ha : at' < l.length) (hc : (!first && isL l at' 93) = false) :
    (∀ c p, step l glob at' = .err c p → R = .err c p) ∧ ∀ T n, step l glob at' = .ok T n → Goes l glob false n (S ||| T) R := by
  obtain ⟨fuel, hf, rfl⟩ := h
  cases fuel with
  | zero => omega
  | succ n =>
    refine ⟨fun c p hs => ?_, fun T m hs => ⟨n, ?_, ?_⟩⟩
    · simp [loop, Nat.not_le.2 ha, hc, hs]
    · have := (step_ok ha hs).1; omega
    · simp [loop, Nat.not_le.2 ha, hc, hs]
section
variable {ops : Array Oper} {Q : Exit → Act → World → Prop} {a : Act} {w : World} {rest : List Oper} {o : Oper}
theorem store_cells (hgd : o.guard = none) (hd : o.dst = none) (x y : Operand) (ho : o.op = .store 120 x y) (B : Nat) (cs : Array Value) (hcs : cs.size = 7 ∧ (cs.all fun v => v.oneCell') = true) (hx : a.eval x = .pointer (some ⟨B, 0, none⟩)) (hy : a.eval y = .agg cs)
    (h : ∃ old : Array Value, w.heap[B]? = some (.cells old 120 (0, 0)) ∧ old.size = 7)
    (hk : ∀ w', w'.heap[B]? = some (.cells cs 120 (0, 0)) → w.grownBy w' (some B) → w.heap.size ≤ w'.heap.size ∧ w'.heap.size ≤ w.heap.size → wpList Tryd.prog ops Q rest a w') : wpList Tryd.prog ops Q (o :: rest) a w := by
  obtain ⟨old, h, hold⟩ := h
  have hp : a.put o.dst undef = a := by rw [hd]; rfl
  have hi : (Tryd.prog.info? 120).map (·.size) = some cs.size := by rw [hcs.1]; kernel_rfl
  refine wpList_store_row hgd 120 x y ho B cs hx hy 120 old h hi (by rw [hold, hcs.1]) hcs.2 (by rw [hp]; exact hk _ (setRow_heap w B _ _ _ _ h) ⟨rfl, rfl, rfl, by simp, fun k _ hk => setRow_other w B k _ (fun e => hk (by rw [e]))⟩ (by simp))
theorem load_cells (hgd : o.guard = none) (x : Operand) (ho : o.op = .load 120 x) (B : Nat) (cs : Array Value) (hcs : cs.size = 7 ∧ (cs.all fun v => v.oneCell') = true) (hx : a.eval x = .pointer (some ⟨B, 0, none⟩)) (h : w.heap[B]? = some (.cells cs 120 (0, 0)))
    (hk : wpList Tryd.prog ops Q rest (a.put o.dst (.agg cs)) w) : wpList Tryd.prog ops Q (o :: rest) a w := by
  have hi : (Tryd.prog.info? 120).map (·.size) = some cs.size := by rw [hcs.1]; kernel_rfl
  exact wpList_load_row hgd 120 x ho B hx 120 cs (0, 0) _ h Tryd.underlying120 (by rfl) hi hk
end
theorem itv_ok (x : It) (f : Nat) : (itv x f).size = 7 ∧ ((itv x f).all fun v => v.oneCell') = true := by
  cases x <;> exact ⟨rfl, by simp [itv, itc, Value.oneCell']⟩
theorem itc_ok (one : Bool) (b : Int) (S f : Nat) : (itc one b S f).size = 7 ∧ ((itc one b S f).all fun v => v.oneCell') = true := ⟨rfl, by simp [itc, Value.oneCell']⟩
theorem item_some {E : Nat → Addr} {w w' : World} {B : Nat} {p : Option Addr} {s : ByteArray} {cap : Nat} {lang : Int} {at' n : Nat} {x : It} {e : Ending} (h : ItemPost E w B p s cap lang at' x e w') (hx : (∃ c, x = .byte c n) ∨ ∃ S, x = .cls S n) :
    e = .returned (.tuple #[.agg (itv x at'), .nilIface]) ∧ w.grownBy w' (some B) ∧ IsR w' B p s.size cap n lang := by
  rcases hx with ⟨c, rfl⟩ | ⟨S, rfl⟩ <;> exact h
theorem it_cases (i : It) : (∃ code pos, i = .err code pos) ∨ ∃ x n, i = x ∧ ((∃ c, x = It.byte c n) ∨ ∃ S, x = It.cls S n) := by
  cases i with
  | err c p => exact .inl ⟨c, p, rfl⟩
  | byte c n => exact .inr ⟨_, n, rfl, .inl ⟨c, rfl⟩⟩
  | cls S n => exact .inr ⟨_, n, rfl, .inr ⟨S, rfl⟩⟩
/-- Ahead of the loop. -/
def PMid (w W : World) (B : Nat) (p : Option Addr) (s : ByteArray) (cap at' : Nat) (lang : Int) : Prop :=
  IsR W B p s.size cap at' lang ∧ HasB W p s ∧ IsSet 24 W w.heap.size 0 ∧ w.grownBy W (some B) ∧ W.heap.size = w.heap.size + 1
set_option maxHeartbeats 4000000 in
set_option maxRecDepth 100000 in
theorem read_any {N : Nat} {E : Nat → Addr} (B : Nat) (p : Option Addr) (cap at' : Nat) (lang : Int) (s : ByteArray) (w : World) (hR : IsR w B p s.size cap at' lang) (hS : HasB w p s) (hp : 0 < s.size → ∀ b o, p = some ⟨b, o, none⟩ → b ≠ B ∧ b < w.heap.size) (hs : s.size < 4294967281) (hat : at' ≤ s.size) (hcap : s.size ≤ cap)
    (hN : N ≤ B) (hE : Errs N E w) :
    Calls Tryd.prog 60 #[.pointer (some ⟨B, 0, none⟩)] w (RgPost E w B p s cap lang (read s.data.toList (lang == 2) at')) := by
  have hl : B < w.heap.size := row_lt hR
  have hpB : 0 < s.size → ∀ b o, p = some ⟨b, o, none⟩ → b ≠ B := fun h b o e => (hp h b o e).1
  have hpl : 0 < s.size → ∀ b o, p = some ⟨b, o, none⟩ → b < w.heap.size := fun h b o e => (hp h b o e).2
  have c1 : w.cell? ⟨B, 1, none⟩ = some (.int .i64 at') := row_cell hR rfl
  have c2 : w.cell? ⟨B, 2, none⟩ = some (.int .i64 lang) := row_cell hR rfl
  have f1 := row_free hR 1
  have hR' := Lib.hid hR
  have hS' := Lib.hid hS
  have hE' := Lib.hid hE
  clear hR hS hE hp
  have hsz : s.data.toList.length = s.size := by simp
  have hsz' := Lib.hid hsz
  clear hsz
  obtain ⟨Post, hPost⟩ : ∃ P, P = RgPost E w B p s cap lang (read s.data.toList (lang == 2) at') := ⟨_, rfl⟩
  rw [← hPost]
  have hPost' := Lib.hid hPost
  clear hPost
  have hpB' := Lib.hid hpB
  have hpl' := Lib.hid hpl
  clear hpB hpl
  go_enter Tryd.func60, Tryd.ntmps60
  go_upto_region 1 with fail
  go_cut [4] (fun v W => v = .bool (turned s.data.toList (lang == 2) at') ∧ ∃ q, W = (w.alloc (.cells #[.int .u64 0, .int .u64 0, .int .u64 0, .int .u64 0] 24)).drewN q)
  case first =>
    cases h94 : isL s.data.toList at' 94 with
    | true =>
      have ht := Lib.hid (show true = turned s.data.toList (lang == 2) at' by simp [turned, h94])
      have h94' := Lib.hid h94
      clear h94
      go_wp2_with (first | (go_at_call 72; first | (refine (is_val B p cap at' lang s _ _ true _ (by repeat (first | exact hR'.out | apply IsR.alloc | apply IsR.drewN)) (by repeat (first | exact hS'.out | apply HasB.alloc | apply HasB.drewN)) (by decide) (by decide) (by omega) (by omega) (by exact h94'.out)).mono ?_; rintro e wX ⟨rfl, q, rfl⟩)))
      go_meet
      exact ⟨by rw [← ht.out], _, rfl⟩
    | false =>
      cases h33 : isL s.data.toList at' 33 with
      | false =>
        have ht := Lib.hid (show false = turned s.data.toList (lang == 2) at' by simp [turned, h94, h33])
        have h94' := Lib.hid h94
        have h33' := Lib.hid h33
        clear h94 h33
        go_wp2_with (first | (go_at_call 72; first | (refine (is_val B p cap at' lang s _ _ false _ (by repeat (first | exact hR'.out | apply IsR.alloc | apply IsR.drewN)) (by repeat (first | exact hS'.out | apply HasB.alloc | apply HasB.drewN)) (by decide) (by decide) (by omega) (by omega) (by exact h94'.out)).mono ?_; rintro e wX ⟨rfl, q, rfl⟩) | (refine (is_val B p cap at' lang s _ _ false _ (by repeat (first | exact hR'.out | apply IsR.alloc | apply IsR.drewN)) (by repeat (first | exact hS'.out | apply HasB.alloc | apply HasB.drewN)) (by decide) (by decide) (by omega) (by omega) (by exact h33'.out)).mono ?_; rintro e wX ⟨rfl, q, rfl⟩)))
        go_meet
        exact ⟨by rw [← ht.out], _, rfl⟩
      | true =>
        cases hg : (lang == 2) with
        | true =>
          have ht := Lib.hid (show true = turned s.data.toList (lang == 2) at' by simp [turned, h94, h33, hg])
          have h94' := Lib.hid h94
          have h33' := Lib.hid h33
          clear h94 h33
          go_wp2_with (first | (go_at_call 72; first | (refine (is_val B p cap at' lang s _ _ false _ (by repeat (first | exact hR'.out | apply IsR.alloc | apply IsR.drewN)) (by repeat (first | exact hS'.out | apply HasB.alloc | apply HasB.drewN)) (by decide) (by decide) (by omega) (by omega) (by exact h94'.out)).mono ?_; rintro e wX ⟨rfl, q, rfl⟩) | (refine (is_val B p cap at' lang s _ _ true _ (by repeat (first | exact hR'.out | apply IsR.alloc | apply IsR.drewN)) (by repeat (first | exact hS'.out | apply HasB.alloc | apply HasB.drewN)) (by decide) (by decide) (by omega) (by omega) (by exact h33'.out)).mono ?_; rintro e wX ⟨rfl, q, rfl⟩)))
          go_meet
          exact ⟨by rw [← ht.out], _, rfl⟩
        | false =>
          have ht := Lib.hid (show false = turned s.data.toList (lang == 2) at' by simp [turned, h94, h33, hg])
          have h94' := Lib.hid h94
          have h33' := Lib.hid h33
          clear h94 h33
          go_wp2_with (first | (go_at_call 72; first | (refine (is_val B p cap at' lang s _ _ false _ (by repeat (first | exact hR'.out | apply IsR.alloc | apply IsR.drewN)) (by repeat (first | exact hS'.out | apply HasB.alloc | apply HasB.drewN)) (by decide) (by decide) (by omega) (by omega) (by exact h94'.out)).mono ?_; rintro e wX ⟨rfl, q, rfl⟩) | (refine (is_val B p cap at' lang s _ _ true _ (by repeat (first | exact hR'.out | apply IsR.alloc | apply IsR.drewN)) (by repeat (first | exact hS'.out | apply HasB.alloc | apply HasB.drewN)) (by decide) (by decide) (by omega) (by omega) (by exact h33'.out)).mono ?_; rintro e wX ⟨rfl, q, rfl⟩)))
          go_meet
          exact ⟨by rw [← ht.out], _, rfl⟩
  case rest =>
    obtain ⟨rfl, q, rfl⟩ := hcut
    obtain ⟨T, hT⟩ : ∃ T, T = turned s.data.toList (lang == 2) at' := ⟨_, rfl⟩
    rw [← hT]
    have hTl : T = true → at' < s.size := fun e => by
      have hh := hsz'.out
      rw [hT] at e
      unfold turned at e
      simp only [Bool.or_eq_true, Bool.and_eq_true] at e
      rcases e with e | e
      · have := isL_lt e; omega
      · have := isL_lt e.1; omega
    have hT' := Lib.hid hT
    clear hT c2
    go_upto_if 23 with fail
    go_cut [] (fun W => PMid w W B p s cap (if T then at' + 1 else at') lang ∧ Errs N E W)
    case first =>
      have hMs : PMid w ((w.alloc (.cells #[.int .u64 0, .int .u64 0, .int .u64 0, .int .u64 0] 24)).drewN q) B p s cap at' lang :=
        ⟨(hR'.out.alloc _).drewN q, (hS'.out.alloc _).drewN q, (IsSet.zero _ w).drewN q, only_drewN (only_below ((Below.refl _ _).alloc (Nat.le_refl _) _)) q, by simp⟩
      have hEs : Errs N E ((w.alloc (.cells #[.int .u64 0, .int .u64 0, .int .u64 0, .int .u64 0] 24)).drewN q) := (hE'.out.alloc _ (by omega)).drewN q
      have hMs' := Lib.hid hMs
      have hEs' := Lib.hid hEs
      clear hMs hEs
      cases T with
      | true =>
        have hTl' := hTl rfl
        go_wp2_with fail
        go_meet
        obtain ⟨m1, m2, m3, m4, m5⟩ := hMs'.out
        exact ⟨⟨row_set m1 1 _, m2.keep (fun b o e hb => row_set_other rfl (hpB'.out (by omega) b o e) _ _) (by simp [World.setCell]), m3.set_other (by omega) _ _, only_set m4 _ _ (.inl rfl) _, by simp [World.setCell]⟩, hEs'.out.set_ hN⟩
      | false =>
        go_wp2_with fail
        go_meet
        exact ⟨hMs'.out, hEs'.out⟩
    case rest =>
      obtain ⟨⟨m1, m2, m3, m4, m5⟩, hE⟩ := hcut
      have ha0 : (if T then at' + 1 else at') ≤ s.size := by
        cases T with
        | true => have := hTl rfl; simp; omega
        | false => simpa using hat
      have hR0 : read s.data.toList (lang == 2) at' = match loop s.data.toList (lang == 2) (s.data.toList.length + 1) true (if T then at' + 1 else at') 0 with
          | .err c p => .err c p
          | .ok S n => .ok (if T then cmpl S else S) (n + 1) := by
        rw [hT'.out]; rfl
      have hG0 : Goes s.data.toList (lang == 2) true (if T then at' + 1 else at') 0 (loop s.data.toList (lang == 2) (s.data.toList.length + 1) true (if T then at' + 1 else at') 0) := ⟨_, by omega, rfl⟩
      generalize loop s.data.toList (lang == 2) (s.data.toList.length + 1) true (if T then at' + 1 else at') 0 = R at *
      generalize (if T then at' + 1 else at') = a0 at *
      have hMM : DMid w (wc.alloc (.cells #[.int .u64 0, .int .u64 0, .int .u64 0, .int .u64 0] 24)) B p s cap a0 lang 0 :=
        ⟨m1.alloc _, m2.alloc _, m3.alloc _, IsSet.zero' _ _ _ m5.symm, only_then m4 ((Below.refl _ _).alloc (Nat.le_refl _) _) (by omega), by simp; omega⟩
      have hEE : Errs N E (wc.alloc (.cells #[.int .u64 0, .int .u64 0, .int .u64 0, .int .u64 0] 24)) := hE.alloc _ (by omega)
      have hMM' := Lib.hid hMM
      have hEE' := Lib.hid hEE
      have hR0' := Lib.hid hR0
      have hG0' := Lib.hid hG0
      clear hMM hEE hR0 hG0 m1 m2 m3 m4 hE hT' hR' hS' hE' c1 f1
      go_wp2_with fail
      go_loopw [6] (fun fi wr => ∃ (f : Bool) (a S : Nat), fi = .bool f ∧ DMid w wr B p s cap a lang S ∧ Errs N E wr ∧ a ≤ s.size ∧ Goes s.data.toList (lang == 2) f a S R) (fun _ wr => s.size - atIn wr B)
      case atStart => exact ⟨true, a0, 0, rfl, hMM'.out, hEE'.out, ha0, hG0'.out⟩
      case round =>
        obtain ⟨f, a, S, rfl, hM, hE, ha, hgo⟩ := hrel
        have hEnd' := Lib.hid (show ∀ c q, R = .err c q → read s.data.toList (lang == 2) at' = .err c q from fun c q e => by rw [hR0'.out, e])
        have hOk' := Lib.hid (show ∀ U n, R = .ok U n → read s.data.toList (lang == 2) at' = .ok (if T then cmpl U else U) (n + 1) from fun U n e => by rw [hR0'.out, e])
        have hat61 : a < 2 ^ 61 := by omega
        have d0 : wr.cell? ⟨B, 0, none⟩ = some (.slice p s.size cap) := row_cell hM.1 rfl
        have d1 : wr.cell? ⟨B, 1, none⟩ = some (.int .i64 (a : Nat)) := row_cell hM.1 rfl
        have df1 := row_free hM.1 1
        have hX := hM.2.2.2.1
        have hO := hM.2.2.1
        have hz := hM.2.2.2.2.2
        have hlr := row_lt hM.1
        have hM' := Lib.hid hM
        have hE' := Lib.hid hE
        have hgo' := Lib.hid hgo
        clear hM hE hgo hR0' hG0' hMM' hEE' hTl ha0
        by_cases hlt : a < s.size
        · have hd : decide ((s.size : Int) ≤ (a : Int)) = false := by simp; omega
          cases hst1 : (!f && isL s.data.toList a 93) with
          | true =>
            have hf : f = false := by cases f <;> simp_all
            subst hf
            have h93 : isL s.data.toList a 93 = true := by simpa using hst1
            have hR := hgo'.out.stop (by rw [hsz'.out]; exact hlt) h93
            have hRO := Lib.hid (hOk'.out _ _ hR)
            have h93' := Lib.hid h93
            clear hst1 hR h93 hOk' hEnd' hgo' hX hO
            cases T with
            | false =>
              go_wp2_with fail
              go_quiet (fail)
              go_wp2_with (first | (go_at_call 72; first | (refine (is_val B p cap a lang s _ _ true _ (by repeat (first | exact hM'.out.1 | apply IsR.drewN)) (by repeat (first | exact hM'.out.2.1 | apply HasB.drewN)) (by decide) (by decide) (by omega) (by omega) (by exact h93'.out)).mono ?_; rintro e wX ⟨rfl, q, rfl⟩)) | (refine load_set rfl _ rfl _ rfl ⟨S, IsSet.set_other (IsSet.drewN hM'.out.2.2.2.1 _) (by omega) _ _, ?_⟩) | (refine store_set rfl rfl _ _ rfl _ S rfl rfl ⟨0, IsSet.set_other (IsSet.drewN hM'.out.2.2.1 _) (by omega) _ _⟩ ?_; intro wX hX gX zX))
              refine ret_set2 rfl rfl rfl rfl hX ?_
              have hM2 := (hM'.out.drewN (nq + q)).next hl (hpB'.out (by omega)) (a + 1) (.int .i64 ((a : Int) + 1)) (by simp)
              rw [hPost'.out, hRO.out]
              exact ⟨rfl, only_set_block hM2.2.2.2.2.1 gX (Nat.le_refl _), hM2.1.keep (gX.block B (row_lt hM2.1) (fun e => by injection e; omega))⟩
            | true =>
              go_wp2_with fail
              go_quiet (fail)
              go_wp2_with (first | (go_at_call 72; first | (refine (is_val B p cap a lang s _ _ true _ (by repeat (first | exact hM'.out.1 | apply IsR.drewN)) (by repeat (first | exact hM'.out.2.1 | apply HasB.drewN)) (by decide) (by decide) (by omega) (by omega) (by exact h93'.out)).mono ?_; rintro e wX ⟨rfl, q, rfl⟩)) | (refine load_set rfl _ rfl _ rfl ⟨S, IsSet.set_other (IsSet.drewN hM'.out.2.2.2.1 _) (by omega) _ _, ?_⟩) | (go_at_call 9999))
              have hM2 := (hM'.out.drewN (nq + q)).next hl (hpB'.out (by omega)) (a + 1) (.int .i64 ((a : Int) + 1)) (by simp)
              refine (Not_any S _).mono ?_
              rintro e w5 ⟨rfl, b5⟩
              have hM5 := hM2.ext b5 (Nat.le_refl _)
              have hM5' := Lib.hid hM5
              clear hM2 hM5 hM'
              go_wp2_with (first | (refine store_set rfl rfl _ _ rfl _ (cmpl S) rfl rfl ⟨S, hM5'.out.2.2.2.1⟩ ?_; intro wY hY gY zY; have hM6 := hM5'.out.put hl (hpl'.out (by omega)) gY hY; have hM6' := Lib.hid hM6; clear hM6 hM5' gY) | (refine load_set rfl _ rfl _ rfl ⟨_, hY, ?_⟩) | (refine store_set rfl rfl _ _ rfl _ (cmpl S) rfl rfl ⟨0, hM6'.out.2.2.1⟩ ?_; intro wX hX gX zX))
              refine ret_set2 rfl rfl rfl rfl hX ?_
              rw [hPost'.out, hRO.out]
              exact ⟨rfl, only_set_block hM6'.out.2.2.2.2.1 gX (Nat.le_refl _), hM6'.out.1.keep (gX.block B (row_lt hM6'.out.1) (fun e => by injection e; omega))⟩
          | false =>
            have hMr' := Lib.hid hM'.out.1
            have hstep' := Lib.hid (hgo'.out.step (by rw [hsz'.out]; exact hlt) hst1)
            clear hgo'
            have key : ∀ x n, ((∃ c, x = It.byte c n) ∨ ∃ U, x = It.cls U n) → item s.data.toList (lang == 2) a = x → True := fun _ _ _ _ => trivial
            clear key
            cases f with
            | true =>
              rcases it_cases (item s.data.toList (lang == 2) a) with ⟨code, pos, hit⟩ | ⟨x, n, hit, hx⟩
              ·
                have hst' := Lib.hid (show step s.data.toList (lang == 2) a = .err code pos by simp [step, hit, ranged])
                have hit' := Lib.hid hit
                clear hit
                go_wp2_with fail
                go_quiet (fail)
                go_wp2_with (first | (go_at_call 9999))
                refine (item_any (N := N) (E := E) B p cap a lang s _ (by repeat (first | exact hM'.out.1 | apply IsR.drewN)) (by repeat (first | exact hM'.out.2.1 | apply HasB.drewN)) hs hlt hcap hN (by repeat (first | exact hE'.out | apply Errs.drewN))).mono ?_
                intro e w3 hpost
                rw [hit'.out] at hpost
                obtain ⟨v, rfl, hv, hg3, a2, hR3⟩ := hpost
                have hE3 : Errs N E w3 := Errs.grown (B := B) (by repeat (first | exact hE'.out | apply Errs.drewN)) hg3 (by simp; omega) hN
                have hM3 : DMid w w3 B p s cap a2 lang S := DMid.grown (by repeat (first | exact hM'.out | apply DMid.drewN)) hl (hpB'.out (by omega)) hg3 hR3
                have hM3' := Lib.hid hM3
                have hE3' := Lib.hid hE3
                clear hM3 hE3 hg3 hR3 hM' hE' d0 d1 df1 hX hO
                obtain ⟨Sb, Pb, rfl, -, -⟩ := hv.lt
                have hv' := Lib.hid hv
                clear hv
                go_wp2_with (first | (refine store_cells rfl rfl _ _ rfl _ (itc true 0 0 a) (itc_ok _ _ _ _) rfl rfl ⟨_, heap_alloc_new _ _, rfl⟩ ?_; intro w4 hI4 g4 z4; have b4 : Below w3.heap.size w3 w4 := Below.viaG1 g4 ((Below.refl _ _).alloc (Nat.le_refl _) _) (by simp) (Nat.le_refl _); have hM4 := hM3'.out.ext b4 (Nat.le_refl _); have hE4 := hE3'.out.below b4 (by have := hM3'.out.2.2.2.2.2; omega); have hz4 := hM4.2.2.2.2.2; have hX4 := hM4.2.2.2.1; have hO4 := hM4.2.2.1; have hM4' := Lib.hid hM4; have hE4' := Lib.hid hE4; have hI4' := Lib.hid hI4; have hv4 := Lib.hid (hv'.out.below b4 (Nat.le_refl _)); clear hv'; clear hM4 hE4 hI4 hM3' hE3' g4) | (refine load_set rfl _ rfl _ rfl ⟨S, hX4, ?_⟩) | (refine store_set rfl rfl _ _ rfl _ S rfl rfl ⟨0, hO4⟩ ?_; intro wX hX gX zX))
                refine ret_set2 rfl rfl rfl rfl hX ?_
                rw [hPost'.out, hEnd'.out _ _ (hstep'.out.1 _ _ hst'.out)]
                exact ⟨S, _, rfl, hv4.out.keepT hO4 (by decide) (by decide) (fun k hk hn => gX.block k hk (fun e => hn (by injection e))), only_set_block hM4'.out.2.2.2.2.1 gX (Nat.le_refl _), _, hM4'.out.1.keep (gX.block B (row_lt hM4'.out.1) (fun e => by injection e; omega))⟩
              · have hn : n ≤ s.size := by
                  rw [← hsz'.out]
                  rcases hx with ⟨c, rfl⟩ | ⟨U, rfl⟩
                  · exact (item_byte (by rw [hsz'.out]; exact hlt) hit).2.1
                  · exact (item_cls hit).2
                cases hrg : ranged s.data.toList (lang == 2) x a with
                | err code pos =>
                 have hst' := Lib.hid (show step s.data.toList (lang == 2) a = .err code pos by simp [step, hit, hrg])
                 have hit' := Lib.hid hit
                 have hx' := Lib.hid hx
                 have hrg' := Lib.hid hrg
                 clear hit hx hrg
                 go_wp2_with fail
                 go_quiet (fail)
                 go_wp2_with (first | (go_at_call 9999))
                 refine (item_any (N := N) (E := E) B p cap a lang s _ (by repeat (first | exact hM'.out.1 | apply IsR.drewN)) (by repeat (first | exact hM'.out.2.1 | apply HasB.drewN)) hs hlt hcap hN (by repeat (first | exact hE'.out | apply Errs.drewN))).mono ?_
                 intro e w3 hpost
                 rw [hit'.out] at hpost
                 obtain ⟨rfl, hg3, hR3⟩ := item_some hpost hx'.out
                 have hE3 : Errs N E w3 := Errs.grown (B := B) (by repeat (first | exact hE'.out | apply Errs.drewN)) hg3 (by simp; omega) hN
                 have hM3 : DMid w w3 B p s cap n lang S := DMid.grown (by repeat (first | exact hM'.out | apply DMid.drewN)) hl (hpB'.out (by omega)) hg3 hR3
                 have hM3' := Lib.hid hM3
                 have hE3' := Lib.hid hE3
                 clear hM3 hE3 hg3 hR3 hM' hE' d0 d1 df1 hX hO
                 go_wp2_with (first | (refine store_cells rfl rfl _ _ rfl _ (itv x a) (itv_ok x a) rfl rfl ⟨_, heap_alloc_new _ _, rfl⟩ ?_; intro w4 hI4 g4 z4; have b4 : Below w3.heap.size w3 w4 := Below.viaG1 g4 ((Below.refl _ _).alloc (Nat.le_refl _) _) (by simp) (Nat.le_refl _); have hM4 := hM3'.out.ext b4 (Nat.le_refl _); have hE4 := hE3'.out.below b4 (by have := hM3'.out.2.2.2.2.2; omega); have hz4 := hM4.2.2.2.2.2; have hX4 := hM4.2.2.2.1; have hO4 := hM4.2.2.1; have hM4' := Lib.hid hM4; have hE4' := Lib.hid hE4; have hI4' := Lib.hid hI4; clear hM4 hE4 hI4 hM3' hE3' g4) | (refine load_cells rfl _ rfl _ (itv x a) (itv_ok x a) rfl hI4'.out ?_))
                 refine (ranged_any (N := N) (E := E) B p cap a lang s _ x n hx'.out hM4'.out.1 hM4'.out.2.1 (hpB'.out (by omega)) hs hn hcap hN hE4'.out).mono ?_
                 intro e w5 hp5
                 rw [hrg'.out] at hp5
                 obtain ⟨U, v, rfl, hv, hg5, a2, hR5⟩ := hp5
                 have hM5 := hM4'.out.grown hl (hpB'.out (by omega)) hg5 hR5
                 obtain ⟨Sb, Pb, rfl, -, -⟩ := hv.lt
                 have hM5' := Lib.hid hM5
                 have hv' := Lib.hid hv
                 clear hv hM5 hM4' hg5 hR5 hX4 hO4 hI4' hE4'
                 go_wp2_with (first | (refine store_set rfl rfl _ _ rfl _ U rfl rfl ⟨0, IsSet.zero' _ _ _ rfl⟩ ?_; intro w6 hX6 g6 z6; have b6 : Below w5.heap.size w5 w6 := Below.viaG1 g6 ((Below.refl _ _).alloc (Nat.le_refl _) _) (by simp) (Nat.le_refl _); have hM6 := hM5'.out.ext b6 (Nat.le_refl _); have hv6 := Lib.hid (hv'.out.below b6 (Nat.le_refl _)); have hX7 := hM6.2.2.2.1; have hO7 := hM6.2.2.1; have hM6' := Lib.hid hM6; clear hM6 hM5' hv' g6) | (refine load_set rfl _ rfl _ rfl ⟨S, hX7, ?_⟩) | (refine store_set rfl rfl _ _ rfl _ S rfl rfl ⟨0, hO7⟩ ?_; intro wX hX gX zX))
                 refine ret_set2 rfl rfl rfl rfl hX ?_
                 rw [hPost'.out, hEnd'.out _ _ (hstep'.out.1 _ _ hst'.out)]
                 exact ⟨S, _, rfl, hv6.out.keepT hO7 (by decide) (by decide) (fun k hk hn => gX.block k hk (fun e => hn (by injection e))), only_set_block hM6'.out.2.2.2.2.1 gX (Nat.le_refl _), _, hM6'.out.1.keep (gX.block B (row_lt hM6'.out.1) (fun e => by injection e; omega))⟩
                | ok U n2 =>
                 have hst' := Lib.hid (show step s.data.toList (lang == 2) a = .ok U n2 by simp [step, hit, hrg])
                 have hit' := Lib.hid hit
                 have hx' := Lib.hid hx
                 have hrg' := Lib.hid hrg
                 clear hit hx hrg
                 go_wp2_with fail
                 go_quiet (fail)
                 go_wp2_with (first | (go_at_call 9999))
                 refine (item_any (N := N) (E := E) B p cap a lang s _ (by repeat (first | exact hM'.out.1 | apply IsR.drewN)) (by repeat (first | exact hM'.out.2.1 | apply HasB.drewN)) hs hlt hcap hN (by repeat (first | exact hE'.out | apply Errs.drewN))).mono ?_
                 intro e w3 hpost
                 rw [hit'.out] at hpost
                 obtain ⟨rfl, hg3, hR3⟩ := item_some hpost hx'.out
                 have hE3 : Errs N E w3 := Errs.grown (B := B) (by repeat (first | exact hE'.out | apply Errs.drewN)) hg3 (by simp; omega) hN
                 have hM3 : DMid w w3 B p s cap n lang S := DMid.grown (by repeat (first | exact hM'.out | apply DMid.drewN)) hl (hpB'.out (by omega)) hg3 hR3
                 have hM3' := Lib.hid hM3
                 have hE3' := Lib.hid hE3
                 clear hM3 hE3 hg3 hR3 hM' hE' d0 d1 df1 hX hO
                 go_wp2_with (first | (refine store_cells rfl rfl _ _ rfl _ (itv x a) (itv_ok x a) rfl rfl ⟨_, heap_alloc_new _ _, rfl⟩ ?_; intro w4 hI4 g4 z4; have b4 : Below w3.heap.size w3 w4 := Below.viaG1 g4 ((Below.refl _ _).alloc (Nat.le_refl _) _) (by simp) (Nat.le_refl _); have hM4 := hM3'.out.ext b4 (Nat.le_refl _); have hE4 := hE3'.out.below b4 (by have := hM3'.out.2.2.2.2.2; omega); have hz4 := hM4.2.2.2.2.2; have hX4 := hM4.2.2.2.1; have hO4 := hM4.2.2.1; have hM4' := Lib.hid hM4; have hE4' := Lib.hid hE4; have hI4' := Lib.hid hI4; clear hM4 hE4 hI4 hM3' hE3' g4) | (refine load_cells rfl _ rfl _ (itv x a) (itv_ok x a) rfl hI4'.out ?_))
                 refine (ranged_any (N := N) (E := E) B p cap a lang s _ x n hx'.out hM4'.out.1 hM4'.out.2.1 (hpB'.out (by omega)) hs hn hcap hN hE4'.out).mono ?_
                 intro e w5 hp5
                 rw [hrg'.out] at hp5
                 obtain ⟨rfl, hg5, hR5⟩ := hp5
                 have hM5 := hM4'.out.grown hl (hpB'.out (by omega)) hg5 hR5
                 have hE5 := hE4'.out.grown hg5 (by omega) hN
                 have hM5' := Lib.hid hM5
                 have hE5' := Lib.hid hE5
                 clear hM5 hE5 hM4' hg5 hR5 hX4 hO4 hI4' hE4'
                 go_wp2_with (first
                  | (refine store_set rfl rfl _ _ rfl _ U rfl rfl ⟨0, IsSet.zero' _ _ _ rfl⟩ ?_; intro w6 hX6 g6 z6; have b6 : Below w5.heap.size w5 w6 := Below.viaG1 g6 ((Below.refl _ _).alloc (Nat.le_refl _) _) (by simp) (Nat.le_refl _); have hM6 := hM5'.out.ext b6 (Nat.le_refl _); have hX7 := hM6.2.2.2.1; have hE6 := hE5'.out.below b6 (by have := hM5'.out.2.2.2.2.2; omega); have hM6' := Lib.hid hM6; have hE6' := Lib.hid hE6; clear hM6 hE6 hM5' hE5' g6)
                  | (refine load_set rfl _ rfl _ rfl ⟨S, hX7, ?_⟩)
                  | (refine load_set rfl _ rfl _ rfl ⟨U, hX6, ?_⟩)
                  | (refine build_sets2 rfl _ _ rfl _ _ rfl rfl ?_)
                  | (go_at_call 27; refine (union2 _ _ _ _ rfl).mono ?_; rintro e w7 ⟨rfl, b7⟩; have b7' : Below w6.heap.size w6 w7 := ((Below.refl _ _).alloc (Nat.le_refl _) _).trans (b7.mono (Nat.le_succ _)); have hM7 := hM6'.out.ext b7' (Nat.le_refl _); have hE7 := hE6'.out.below b7' (by have := hM6'.out.2.2.2.2.2; omega); have hX8 := hM7.2.2.2.1; have hM7' := Lib.hid hM7; have hE7' := Lib.hid hE7; clear hM7 hE7 hM6' hE6' b7 b7')
                  | (refine store_set rfl rfl _ _ rfl _ (unionL [S, U]) rfl rfl ⟨S, hX8⟩ ?_; intro w8 hX9 g8 z8; have hM8 := hM7'.out.put hl (hpl'.out (by omega)) g8 hX9; have hE8 := hE7'.out.grown g8 (by have := hM7'.out.2.2.2.2.2; omega) (by omega); have hM8' := Lib.hid hM8; have hE8' := Lib.hid hE8; clear hM8 hE8 hM7' hE7' g8 hX9))
                 have hso := step_ok (by rw [hsz'.out]; exact hlt) hst'.out
                 have hun : unionL [S, U] = S ||| U := by simp [unionL]
                 go_roundw
                 case rel => exact ⟨false, n2, S ||| U, rfl, hun ▸ hM8'.out, hE8'.out, by rw [← hsz'.out]; exact hso.2, hstep'.out.2 _ _ hst'.out⟩
                 case measure =>
                  rw [atIn_eq hM8'.out.1, atIn_eq hMr'.out]
                  omega
            | false =>
              have hx93 : isL s.data.toList a 93 = false := by simpa using hst1
              have hx93' := Lib.hid hx93
              clear hx93
              rcases it_cases (item s.data.toList (lang == 2) a) with ⟨code, pos, hit⟩ | ⟨x, n, hit, hx⟩
              ·
                have hst' := Lib.hid (show step s.data.toList (lang == 2) a = .err code pos by simp [step, hit, ranged])
                have hit' := Lib.hid hit
                clear hit
                go_wp2_with fail
                go_quiet (fail)
                go_wp2_with (first | (go_at_call 72; first | (refine (is_val B p cap a lang s _ _ false _ (by repeat (first | exact hM'.out.1 | apply IsR.drewN)) (by repeat (first | exact hM'.out.2.1 | apply HasB.drewN)) (by decide) (by decide) (by omega) (by omega) (by exact hx93'.out)).mono ?_; rintro e wX ⟨rfl, q, rfl⟩)))
                refine (item_any (N := N) (E := E) B p cap a lang s _ (by repeat (first | exact hM'.out.1 | apply IsR.drewN)) (by repeat (first | exact hM'.out.2.1 | apply HasB.drewN)) hs hlt hcap hN (by repeat (first | exact hE'.out | apply Errs.drewN))).mono ?_
                intro e w3 hpost
                rw [hit'.out] at hpost
                obtain ⟨v, rfl, hv, hg3, a2, hR3⟩ := hpost
                have hE3 : Errs N E w3 := Errs.grown (B := B) (by repeat (first | exact hE'.out | apply Errs.drewN)) hg3 (by simp; omega) hN
                have hM3 : DMid w w3 B p s cap a2 lang S := DMid.grown (by repeat (first | exact hM'.out | apply DMid.drewN)) hl (hpB'.out (by omega)) hg3 hR3
                have hM3' := Lib.hid hM3
                have hE3' := Lib.hid hE3
                clear hM3 hE3 hg3 hR3 hM' hE' d0 d1 df1 hX hO
                obtain ⟨Sb, Pb, rfl, -, -⟩ := hv.lt
                have hv' := Lib.hid hv
                clear hv
                go_wp2_with (first | (refine store_cells rfl rfl _ _ rfl _ (itc true 0 0 a) (itc_ok _ _ _ _) rfl rfl ⟨_, heap_alloc_new _ _, rfl⟩ ?_; intro w4 hI4 g4 z4; have b4 : Below w3.heap.size w3 w4 := Below.viaG1 g4 ((Below.refl _ _).alloc (Nat.le_refl _) _) (by simp) (Nat.le_refl _); have hM4 := hM3'.out.ext b4 (Nat.le_refl _); have hE4 := hE3'.out.below b4 (by have := hM3'.out.2.2.2.2.2; omega); have hz4 := hM4.2.2.2.2.2; have hX4 := hM4.2.2.2.1; have hO4 := hM4.2.2.1; have hM4' := Lib.hid hM4; have hE4' := Lib.hid hE4; have hI4' := Lib.hid hI4; have hv4 := Lib.hid (hv'.out.below b4 (Nat.le_refl _)); clear hv'; clear hM4 hE4 hI4 hM3' hE3' g4) | (refine load_set rfl _ rfl _ rfl ⟨S, hX4, ?_⟩) | (refine store_set rfl rfl _ _ rfl _ S rfl rfl ⟨0, hO4⟩ ?_; intro wX hX gX zX))
                refine ret_set2 rfl rfl rfl rfl hX ?_
                rw [hPost'.out, hEnd'.out _ _ (hstep'.out.1 _ _ hst'.out)]
                exact ⟨S, _, rfl, hv4.out.keepT hO4 (by decide) (by decide) (fun k hk hn => gX.block k hk (fun e => hn (by injection e))), only_set_block hM4'.out.2.2.2.2.1 gX (Nat.le_refl _), _, hM4'.out.1.keep (gX.block B (row_lt hM4'.out.1) (fun e => by injection e; omega))⟩
              · have hn : n ≤ s.size := by
                  rw [← hsz'.out]
                  rcases hx with ⟨c, rfl⟩ | ⟨U, rfl⟩
                  · exact (item_byte (by rw [hsz'.out]; exact hlt) hit).2.1
                  · exact (item_cls hit).2
                cases hrg : ranged s.data.toList (lang == 2) x a with
                | err code pos =>
                 have hst' := Lib.hid (show step s.data.toList (lang == 2) a = .err code pos by simp [step, hit, hrg])
                 have hit' := Lib.hid hit
                 have hx' := Lib.hid hx
                 have hrg' := Lib.hid hrg
                 clear hit hx hrg
                 go_wp2_with fail
                 go_quiet (fail)
                 go_wp2_with (first | (go_at_call 72; first | (refine (is_val B p cap a lang s _ _ false _ (by repeat (first | exact hM'.out.1 | apply IsR.drewN)) (by repeat (first | exact hM'.out.2.1 | apply HasB.drewN)) (by decide) (by decide) (by omega) (by omega) (by exact hx93'.out)).mono ?_; rintro e wX ⟨rfl, q, rfl⟩)))
                 refine (item_any (N := N) (E := E) B p cap a lang s _ (by repeat (first | exact hM'.out.1 | apply IsR.drewN)) (by repeat (first | exact hM'.out.2.1 | apply HasB.drewN)) hs hlt hcap hN (by repeat (first | exact hE'.out | apply Errs.drewN))).mono ?_
                 intro e w3 hpost
                 rw [hit'.out] at hpost
                 obtain ⟨rfl, hg3, hR3⟩ := item_some hpost hx'.out
                 have hE3 : Errs N E w3 := Errs.grown (B := B) (by repeat (first | exact hE'.out | apply Errs.drewN)) hg3 (by simp; omega) hN
                 have hM3 : DMid w w3 B p s cap n lang S := DMid.grown (by repeat (first | exact hM'.out | apply DMid.drewN)) hl (hpB'.out (by omega)) hg3 hR3
                 have hM3' := Lib.hid hM3
                 have hE3' := Lib.hid hE3
                 clear hM3 hE3 hg3 hR3 hM' hE' d0 d1 df1 hX hO
                 go_wp2_with (first | (refine store_cells rfl rfl _ _ rfl _ (itv x a) (itv_ok x a) rfl rfl ⟨_, heap_alloc_new _ _, rfl⟩ ?_; intro w4 hI4 g4 z4; have b4 : Below w3.heap.size w3 w4 := Below.viaG1 g4 ((Below.refl _ _).alloc (Nat.le_refl _) _) (by simp) (Nat.le_refl _); have hM4 := hM3'.out.ext b4 (Nat.le_refl _); have hE4 := hE3'.out.below b4 (by have := hM3'.out.2.2.2.2.2; omega); have hz4 := hM4.2.2.2.2.2; have hX4 := hM4.2.2.2.1; have hO4 := hM4.2.2.1; have hM4' := Lib.hid hM4; have hE4' := Lib.hid hE4; have hI4' := Lib.hid hI4; clear hM4 hE4 hI4 hM3' hE3' g4) | (refine load_cells rfl _ rfl _ (itv x a) (itv_ok x a) rfl hI4'.out ?_))
                 refine (ranged_any (N := N) (E := E) B p cap a lang s _ x n hx'.out hM4'.out.1 hM4'.out.2.1 (hpB'.out (by omega)) hs hn hcap hN hE4'.out).mono ?_
                 intro e w5 hp5
                 rw [hrg'.out] at hp5
                 obtain ⟨U, v, rfl, hv, hg5, a2, hR5⟩ := hp5
                 have hM5 := hM4'.out.grown hl (hpB'.out (by omega)) hg5 hR5
                 obtain ⟨Sb, Pb, rfl, -, -⟩ := hv.lt
                 have hM5' := Lib.hid hM5
                 have hv' := Lib.hid hv
                 clear hv hM5 hM4' hg5 hR5 hX4 hO4 hI4' hE4'
                 go_wp2_with (first | (refine store_set rfl rfl _ _ rfl _ U rfl rfl ⟨0, IsSet.zero' _ _ _ rfl⟩ ?_; intro w6 hX6 g6 z6; have b6 : Below w5.heap.size w5 w6 := Below.viaG1 g6 ((Below.refl _ _).alloc (Nat.le_refl _) _) (by simp) (Nat.le_refl _); have hM6 := hM5'.out.ext b6 (Nat.le_refl _); have hv6 := Lib.hid (hv'.out.below b6 (Nat.le_refl _)); have hX7 := hM6.2.2.2.1; have hO7 := hM6.2.2.1; have hM6' := Lib.hid hM6; clear hM6 hM5' hv' g6) | (refine load_set rfl _ rfl _ rfl ⟨S, hX7, ?_⟩) | (refine store_set rfl rfl _ _ rfl _ S rfl rfl ⟨0, hO7⟩ ?_; intro wX hX gX zX))
                 refine ret_set2 rfl rfl rfl rfl hX ?_
                 rw [hPost'.out, hEnd'.out _ _ (hstep'.out.1 _ _ hst'.out)]
                 exact ⟨S, _, rfl, hv6.out.keepT hO7 (by decide) (by decide) (fun k hk hn => gX.block k hk (fun e => hn (by injection e))), only_set_block hM6'.out.2.2.2.2.1 gX (Nat.le_refl _), _, hM6'.out.1.keep (gX.block B (row_lt hM6'.out.1) (fun e => by injection e; omega))⟩
                | ok U n2 =>
                 have hst' := Lib.hid (show step s.data.toList (lang == 2) a = .ok U n2 by simp [step, hit, hrg])
                 have hit' := Lib.hid hit
                 have hx' := Lib.hid hx
                 have hrg' := Lib.hid hrg
                 clear hit hx hrg
                 go_wp2_with fail
                 go_quiet (fail)
                 go_wp2_with (first | (go_at_call 72; first | (refine (is_val B p cap a lang s _ _ false _ (by repeat (first | exact hM'.out.1 | apply IsR.drewN)) (by repeat (first | exact hM'.out.2.1 | apply HasB.drewN)) (by decide) (by decide) (by omega) (by omega) (by exact hx93'.out)).mono ?_; rintro e wX ⟨rfl, q, rfl⟩)))
                 refine (item_any (N := N) (E := E) B p cap a lang s _ (by repeat (first | exact hM'.out.1 | apply IsR.drewN)) (by repeat (first | exact hM'.out.2.1 | apply HasB.drewN)) hs hlt hcap hN (by repeat (first | exact hE'.out | apply Errs.drewN))).mono ?_
                 intro e w3 hpost
                 rw [hit'.out] at hpost
                 obtain ⟨rfl, hg3, hR3⟩ := item_some hpost hx'.out
                 have hE3 : Errs N E w3 := Errs.grown (B := B) (by repeat (first | exact hE'.out | apply Errs.drewN)) hg3 (by simp; omega) hN
                 have hM3 : DMid w w3 B p s cap n lang S := DMid.grown (by repeat (first | exact hM'.out | apply DMid.drewN)) hl (hpB'.out (by omega)) hg3 hR3
                 have hM3' := Lib.hid hM3
                 have hE3' := Lib.hid hE3
                 clear hM3 hE3 hg3 hR3 hM' hE' d0 d1 df1 hX hO
                 go_wp2_with (first | (refine store_cells rfl rfl _ _ rfl _ (itv x a) (itv_ok x a) rfl rfl ⟨_, heap_alloc_new _ _, rfl⟩ ?_; intro w4 hI4 g4 z4; have b4 : Below w3.heap.size w3 w4 := Below.viaG1 g4 ((Below.refl _ _).alloc (Nat.le_refl _) _) (by simp) (Nat.le_refl _); have hM4 := hM3'.out.ext b4 (Nat.le_refl _); have hE4 := hE3'.out.below b4 (by have := hM3'.out.2.2.2.2.2; omega); have hz4 := hM4.2.2.2.2.2; have hX4 := hM4.2.2.2.1; have hO4 := hM4.2.2.1; have hM4' := Lib.hid hM4; have hE4' := Lib.hid hE4; have hI4' := Lib.hid hI4; clear hM4 hE4 hI4 hM3' hE3' g4) | (refine load_cells rfl _ rfl _ (itv x a) (itv_ok x a) rfl hI4'.out ?_))
                 refine (ranged_any (N := N) (E := E) B p cap a lang s _ x n hx'.out hM4'.out.1 hM4'.out.2.1 (hpB'.out (by omega)) hs hn hcap hN hE4'.out).mono ?_
                 intro e w5 hp5
                 rw [hrg'.out] at hp5
                 obtain ⟨rfl, hg5, hR5⟩ := hp5
                 have hM5 := hM4'.out.grown hl (hpB'.out (by omega)) hg5 hR5
                 have hE5 := hE4'.out.grown hg5 (by omega) hN
                 have hM5' := Lib.hid hM5
                 have hE5' := Lib.hid hE5
                 clear hM5 hE5 hM4' hg5 hR5 hX4 hO4 hI4' hE4'
                 go_wp2_with (first
                  | (refine store_set rfl rfl _ _ rfl _ U rfl rfl ⟨0, IsSet.zero' _ _ _ rfl⟩ ?_; intro w6 hX6 g6 z6; have b6 : Below w5.heap.size w5 w6 := Below.viaG1 g6 ((Below.refl _ _).alloc (Nat.le_refl _) _) (by simp) (Nat.le_refl _); have hM6 := hM5'.out.ext b6 (Nat.le_refl _); have hX7 := hM6.2.2.2.1; have hE6 := hE5'.out.below b6 (by have := hM5'.out.2.2.2.2.2; omega); have hM6' := Lib.hid hM6; have hE6' := Lib.hid hE6; clear hM6 hE6 hM5' hE5' g6)
                  | (refine load_set rfl _ rfl _ rfl ⟨S, hX7, ?_⟩)
                  | (refine load_set rfl _ rfl _ rfl ⟨U, hX6, ?_⟩)
                  | (refine build_sets2 rfl _ _ rfl _ _ rfl rfl ?_)
                  | (go_at_call 27; refine (union2 _ _ _ _ rfl).mono ?_; rintro e w7 ⟨rfl, b7⟩; have b7' : Below w6.heap.size w6 w7 := ((Below.refl _ _).alloc (Nat.le_refl _) _).trans (b7.mono (Nat.le_succ _)); have hM7 := hM6'.out.ext b7' (Nat.le_refl _); have hE7 := hE6'.out.below b7' (by have := hM6'.out.2.2.2.2.2; omega); have hX8 := hM7.2.2.2.1; have hM7' := Lib.hid hM7; have hE7' := Lib.hid hE7; clear hM7 hE7 hM6' hE6' b7 b7')
                  | (refine store_set rfl rfl _ _ rfl _ (unionL [S, U]) rfl rfl ⟨S, hX8⟩ ?_; intro w8 hX9 g8 z8; have hM8 := hM7'.out.put hl (hpl'.out (by omega)) g8 hX9; have hE8 := hE7'.out.grown g8 (by have := hM7'.out.2.2.2.2.2; omega) (by omega); have hM8' := Lib.hid hM8; have hE8' := Lib.hid hE8; clear hM8 hE8 hM7' hE7' g8 hX9))
                 have hso := step_ok (by rw [hsz'.out]; exact hlt) hst'.out
                 have hun : unionL [S, U] = S ||| U := by simp [unionL]
                 go_roundw
                 case rel => exact ⟨false, n2, S ||| U, rfl, hun ▸ hM8'.out, hE8'.out, by rw [← hsz'.out]; exact hso.2, hstep'.out.2 _ _ hst'.out⟩
                 case measure =>
                  rw [atIn_eq hM8'.out.1, atIn_eq hMr'.out]
                  omega
        · have hd : decide ((s.size : Int) ≤ (a : Int)) = true := by simp; omega
          have hRO := Lib.hid (hEnd'.out _ _ (hgo'.out.out (by rw [hsz'.out]; omega)))
          clear hOk' hEnd' hgo'
          obtain ⟨⟨x0, x1, x2, x3⟩, ⟨xf0, xf1, xf2, xf3⟩, xl⟩ := hX.all
          obtain ⟨⟨o0, o1, o2, o3⟩, ⟨of0, of1, of2, of3⟩, ol⟩ := hO.all
          have n1 : ¬ w.heap.size = w.heap.size + 1 := by omega
          have n2 : ¬ w.heap.size = B := by omega
          have hX' := Lib.hid hX
          have hO' := Lib.hid hO
          clear hX hO
          go_wp2_with fail
          go_quiet (fail)
          go_wp2_with fail
          go_region_held3 (fun w' => w'.cell? ⟨w.heap.size + 1, 0, none⟩ = some (.int .u64 (word S 0)) ∧ w'.cell? ⟨w.heap.size + 1, 1, none⟩ = some (.int .u64 (word S 1)) ∧ w'.cell? ⟨w.heap.size + 1, 2, none⟩ = some (.int .u64 (word S 2)) ∧ w'.cell? ⟨w.heap.size + 1, 3, none⟩ = some (.int .u64 (word S 3)) ∧ w'.cell? ⟨B, 0, none⟩ = some (.slice p s.size cap)) (go_keep)
            (first | (go_at_call 59; refine (fail_any (N := N) (E := E) (by repeat (first | exact hE'.out | apply Errs.drewN | apply Errs.drew)) B p s.size cap a lang (by repeat (first | exact hM'.out.1 | apply IsR.drewN | apply IsR.drew)) 8 (by decide) (by decide) _).mono ?_; rintro e w9 ⟨v, rfl, hv, b9⟩; have b9' : Below wr.heap.size wr w9 := ⟨b9.os, b9.tape, b9.output, b9.size, b9.block⟩; have hX9 := hX'.out.below b9' (by omega); have hO9 := hO'.out.below b9' (by omega); obtain ⟨⟨z0, z1, z2, z3⟩, ⟨zf0, zf1, zf2, zf3⟩, zl⟩ := hX9.all; obtain ⟨⟨y0, y1, y2, y3⟩, ⟨yf0, yf1, yf2, yf3⟩, yl⟩ := hO9.all; have hR9 := (b9'.block B (by omega)).trans hM'.out.1; have k0 := row_cell (i := 0) hR9 rfl; clear hR9))
          refine gen_q _ (fun W2 => IsSet 24 W2 w.heap.size S ∧ IsErr W2 E v 8 (s.size : Nat) lang ∧ w.grownBy W2 (some B) ∧ IsR W2 B p s.size cap a lang) ⟨hO9.store4 _, hv.keepT hO9 (by decide) (by decide) (fun k _ hk => ?_), ?_, ?_⟩ ?_
          · iterate 4 (refine (Below.heap_setCell _ _ _ _ hk).trans ?_)
            rfl
          · iterate 4 (refine only_set ?_ _ _ (.inr (Nat.le_refl _)) _)
            exact only_then hM'.out.2.2.2.2.1 b9' (by omega)
          · iterate 4 (refine IsR.set_ ?_ (by omega))
            exact hM'.out.1.keep (b9'.block B (by omega))
          clear hv b9 b9' hX9 hO9 x0 x1 x2 x3 xf0 xf1 xf2 xf3 o0 o1 o2 o3 of0 of1 of2 of3 z0 z1 z2 z3 zf0 zf1 zf2 zf3 y0 y1 y2 y3 yf0 yf1 yf2 yf3 k0 hM' hE' hX' hO'
          intro W2 ⟨hX2, hv, hg, hR⟩
          have hv' := Lib.hid hv
          have hg' := Lib.hid hg
          have hR' := Lib.hid hR
          clear hv hg hR
          go_wp2_with fail
          refine ret_set2 rfl rfl rfl rfl hX2 ?_
          rw [hPost'.out, hRO.out]
          exact ⟨S, v, rfl, by rw [hsz'.out]; exact hv'.out, hg'.out, _, hR'.out⟩
end Go.Proofs.YteeopjgfiojoiaaDoor
namespace Go.Proofs.YteeopjgfiojoiaaDoor
open Go Go.RowKit SN

def brk (l : List UInt8) (at' lang : Int) : Rg :=
  if at' < 0 ∨ (l.length : Int) < at' ∨ (lang ≠ 2 ∧ lang ≠ 3 ∧ lang ≠ 4) then .err 1 0 else read l (lang == 2) at'.toNat
/-- What Bracket leaves. -/
def BrPost (E : Nat → Addr) (w : World) (lang : Int) : Rg → Ending → World → Prop
  | .err code pos, e, w' => ∃ v, e = .returned (.tuple #[sv 0, .int .i64 0, v]) ∧ IsErr w' E v code pos lang ∧ Below w.heap.size w w'
  | .ok S n, e, w' => e = .returned (.tuple #[sv S, .int .i64 (n : Nat), .nilIface]) ∧ Below w.heap.size w w'
theorem below_only {w W : World} {M : Nat} (h : w.grownBy W (some M)) (hM : w.heap.size ≤ M) : Below w.heap.size w W := ⟨h.os, h.tape, h.output, h.size, fun k hk => h.block k hk (fun e => by injection e; omega)⟩
theorem ret_set3 {fn : Func} {p q r : Tmp} {R : Ending → World → Prop} {a : Act} {w : World} {B S : Nat} {u v : Value} (h : fn.results = #[.cell p 24, .tmp q, .tmp r]) (hd : a.defers = []) (hp : a.tmps.getD p undef = .pointer (some ⟨B, 0, none⟩))
    (hq : a.tmps.getD q undef = u) (hr : a.tmps.getD r undef = v) (hS : IsSet 24 w B S) (hR : R (.returned (.tuple #[sv S, u, v])) w) : bodyPost Tryd.prog fn R .ret a w := by
  have hp' : a.tmps[p]?.getD undef = .pointer (some ⟨B, 0, none⟩) := by simpa using hp
  have hq' : a.tmps[q]?.getD undef = u := by simpa using hq
  have hr' : a.tmps[r]?.getD undef = v := by simpa using hr
  refine bodyPost_ret (v := .tuple #[sv S, u, v]) ?_ hd hR
  have hl := run_loadVar_row (P := Tryd.prog) w B 24 24 (sc S) (0, 0) _ hS Tryd.underlying24 (by rfl) (by rw [size24]; rfl)
  simp [results, h, hp', hq', hr', asAddr, hl]
  rfl
/-- The reader's fail, the language's cell alone known. -/
theorem fail_cell {N : Nat} {E : Nat → Addr} {w : World} (hE : Errs N E w) (B : Nat) (lang : Int) (c2 : w.cell? ⟨B, 2, none⟩ = some (.int .i64 lang)) (c : Nat) (h1 : 1 ≤ c) (h2 : c ≤ 21) (pos : Int) :
    Calls Tryd.prog 59 #[.pointer (some ⟨B, 0, none⟩), .int .i64 c, .int .i64 pos] w fun e w' => ∃ v, e = .returned v ∧ IsErr w' E v c pos lang ∧ Below w.heap.size w w' := by
  have hE' := Lib.hid hE
  have hlt : B < w.heap.size := World.block_lt_of_cell? w _ c2
  clear hE
  go_enter Tryd.func59, Tryd.ntmps59
  go_wp2_with fail
  go_region_held3 (fun w' => w'.cell? ⟨B, 2, none⟩ = some (.int .i64 lang)) (go_keep)
    (first
      | (go_at_call 63; refine (of_any (N := N) (E := E) (by first | exact hE'.out | exact hE'.out.drewN 1) c h1 h2).mono ?_; rintro e w' ⟨rfl, rfl⟩)
      | (go_at_call 62; refine (at_any _ _ _ _).mono ?_; rintro e w' ⟨rfl, rfl⟩)
      | (go_at_call 61; refine (in_any _ _ _ _).mono ?_; rintro e w' ⟨rfl, rfl⟩))
  go_wp2
  go_ret
  have hn := heap_alloc_new (w.alloc (.cells #[.iface 167 (.pointer (some (E c))), .int .i64 pos] 110)) (.cells #[.iface 106 (.pointer (some ⟨w.heap.size, 0, none⟩)), .int .i64 lang] 114)
  rw [World.size_alloc] at hn
  exact ⟨_, rfl, ⟨w.heap.size + 1, w.heap.size, rfl, row_drew hn, row_drew (row_alloc (heap_alloc_new w _) _)⟩, (((Below.refl _ _).alloc (Nat.le_refl _) _).alloc (by simp) _).drew⟩
theorem br_start (w : World) (p : Option Addr) (n cap : Nat) (at' lang : Int) :
    ((w.alloc (.cells #[.int .u64 0, .int .u64 0, .int .u64 0, .int .u64 0] 24)).alloc (.cells #[.slice p n cap, .int .i64 at', .int .i64 lang] 91)).heap[w.heap.size + 1]? = some (.cells #[.slice p n cap, .int .i64 at', .int .i64 lang] 91 (0, 0)) ∧
    IsSet 24 ((w.alloc (.cells #[.int .u64 0, .int .u64 0, .int .u64 0, .int .u64 0] 24)).alloc (.cells #[.slice p n cap, .int .i64 at', .int .i64 lang] 91)) w.heap.size 0 ∧
    Below w.heap.size w ((w.alloc (.cells #[.int .u64 0, .int .u64 0, .int .u64 0, .int .u64 0] 24)).alloc (.cells #[.slice p n cap, .int .i64 at', .int .i64 lang] 91)) ∧
    ((w.alloc (.cells #[.int .u64 0, .int .u64 0, .int .u64 0, .int .u64 0] 24)).alloc (.cells #[.slice p n cap, .int .i64 at', .int .i64 lang] 91)).heap.size = w.heap.size + 2 := by
  have hn := heap_alloc_new (w.alloc (.cells #[.int .u64 0, .int .u64 0, .int .u64 0, .int .u64 0] 24)) (.cells #[.slice p n cap, .int .i64 at', .int .i64 lang] 91)
  rw [World.size_alloc] at hn
  exact ⟨hn, IsSet.alloc (IsSet.zero _ w) _, ((Below.refl _ _).alloc (Nat.le_refl _) _).alloc (by simp) _, by simp⟩
set_option maxHeartbeats 2000000 in
set_option maxRecDepth 100000 in
theorem bracket_bad {N : Nat} {E : Nat → Addr} (p : Option Addr) (cap : Nat) (at' lang : Int) (s : ByteArray) (w : World) (hE : Errs N E w) (hN : N ≤ w.heap.size) (_hs : s.size < 4294967281)
    (hb : at' < 0 ∨ ((s.size : Int) < at' ∧ ¬ at' < 0) ∨ (¬ (s.size : Int) < at' ∧ ¬ at' < 0 ∧ (lang == 2) = false ∧ (lang == 3) = false ∧ (lang == 4) = false)) :
    Calls Tryd.prog 37 #[.slice p s.size cap, .int .i64 at', .int .i64 lang] w fun e w' => ∃ v, e = .returned (.tuple #[sv 0, .int .i64 0, v]) ∧ IsErr w' E v 1 0 lang ∧ Below w.heap.size w w' := by
  have hE' := Lib.hid hE
  clear hE
  rcases hb with hb | ⟨hb, hb2⟩ | ⟨hb1, hb2, hb3, hb4, hb5⟩
  case' inr.inr =>
    have hb6 : (lang != 2) = true := by simp [bne, hb3]
    have hb7 : (lang != 3) = true := by simp [bne, hb4]
    have hb8 : (lang != 4) = true := by simp [bne, hb5]
  all_goals
    go_enter Tryd.func37, Tryd.ntmps37
    go_wp2_with fail
    obtain ⟨hr, hO, hb0, hz⟩ := br_start w p s.size cap at' lang
    refine (fail_cell (N := N) (E := E) (hE'.out.below hb0 hN) _ lang (row_cell hr rfl) 1 (by decide) (by decide) 0).mono ?_
    rintro e w3 ⟨v, rfl, hv, b3⟩
    have z3 := b3.size
    rw [hz] at z3
    have hO3 : IsSet 24 w3 w.heap.size 0 := hO.below b3 (by rw [hz]; omega)
    have hb3 : Below w.heap.size w w3 := hb0.trans (b3.mono (by rw [hz]; omega))
    obtain ⟨Sb, Pb, rfl, -, -⟩ := hv.lt
    have hv' := Lib.hid hv
    have hb' := Lib.hid hb3
    clear hv b3 hb3 hr hO hb0 hz
    go_wp2_with (first | (refine store_set rfl rfl _ _ rfl _ 0 rfl rfl ⟨0, hO3⟩ ?_; intro wX hX gX zX))
    exact ret_set3 rfl rfl rfl rfl rfl hX ⟨_, rfl, hv'.out.keepT hO3 (by decide) (by decide) (fun k hk hn => gX.block k hk (fun e => hn (by injection e))), hb'.out.grown gX (by omega) (fun k hk => by cases hk; exact Nat.le_refl _)⟩
set_option maxHeartbeats 2000000 in
set_option maxRecDepth 100000 in
theorem bracket_good {N : Nat} {E : Nat → Addr} (p : Option Addr) (cap at' : Nat) (lang : Int) (s : ByteArray) (w : World) (hS : HasB w p s) (hE : Errs N E w) (hN : N ≤ w.heap.size) (hs : s.size < 4294967281) (hcap : s.size ≤ cap) (hat : at' ≤ s.size)
    (hg : lang = 2 ∨ lang = 3 ∨ lang = 4) (R : Rg) (hrd : read s.data.toList (lang == 2) at' = R) :
    Calls Tryd.prog 37 #[.slice p s.size cap, .int .i64 at', .int .i64 lang] w (BrPost E w lang R) := by
  have hE' := Lib.hid hE
  have hS' := Lib.hid hS
  have hrd' := Lib.hid hrd
  clear hE hS hrd
  have hd1 : ¬ (s.size : Int) < (at' : Int) := by omega
  have hd2 : ¬ (at' : Int) < 0 := by omega
  have hd3 : decide (s.size < at') = false := by simp; omega
  obtain ⟨hr, hO, hb0, hz⟩ := br_start w p s.size cap (at' : Nat) lang
  have hS0 : HasB ((w.alloc (.cells #[.int .u64 0, .int .u64 0, .int .u64 0, .int .u64 0] 24)).alloc (.cells #[.slice p s.size cap, .int .i64 (at' : Nat), .int .i64 lang] 91)) p s := (hS'.out.alloc _).alloc _
  have hp0 : 0 < s.size → ∀ b o, p = some ⟨b, o, none⟩ → b ≠ w.heap.size + 1 ∧ b < ((w.alloc (.cells #[.int .u64 0, .int .u64 0, .int .u64 0, .int .u64 0] 24)).alloc (.cells #[.slice p s.size cap, .int .i64 (at' : Nat), .int .i64 lang] 91)).heap.size := fun hpos b o e => by
    obtain ⟨b', o', e', -, hlt⟩ := hasB_at hS'.out hpos
    rw [e] at e'
    cases e'
    rw [hz]
    omega
  have hrd0 := read_any (N := N) (E := E) (w.heap.size + 1) p cap at' lang s _ hr hS0 hp0 hs hat hcap (by omega) (hE'.out.below hb0 hN)
  rw [hrd'.out] at hrd0
  have hr' := Lib.hid hr
  have hO' := Lib.hid hO
  have hb' := Lib.hid hb0
  have hz' := Lib.hid hz
  have hrd1 := Lib.hid hrd0
  clear hr hO hb0 hz hS0 hp0 hrd0 hS' hrd'
  have hg3 : ∀ (w3 : World), (World.grownBy _ w3 (some (w.heap.size + 1))) → IsSet 24 w3 w.heap.size 0 ∧ Below w.heap.size w w3 ∧ w.heap.size + 2 ≤ w3.heap.size := fun w3 hg =>
    ⟨hO'.out.grown hg (fun e => by injection e; omega), hb'.out.trans (⟨hg.os, hg.tape, hg.output, hg.size, fun k hk => hg.block k (by rw [hz'.out]; omega) (fun e => by injection e; omega)⟩), by have := hg.size; rw [hz'.out] at this; exact this⟩
  have hg3' := Lib.hid hg3
  clear hg3
  rcases R with ⟨code, pos⟩ | ⟨S, n⟩
  · rcases hg with rfl | rfl | rfl
    all_goals
      go_enter Tryd.func37, Tryd.ntmps37
      go_wp2_with fail
      refine hrd1.out.mono ?_
      rintro e w3 ⟨U, v, rfl, hv, hg, at2, hR⟩
      obtain ⟨hO3, hb3, hz3⟩ := hg3'.out w3 hg
      obtain ⟨Sb, Pb, rfl, -, -⟩ := hv.lt
      have hv' := Lib.hid hv
      have hb3' := Lib.hid hb3
      have hO3' := Lib.hid hO3
      clear hv hb3 hO3 hg hR
      go_wp2_with (first
        | (refine store_set rfl rfl _ _ rfl _ U rfl rfl ⟨0, IsSet.zero' _ _ _ rfl⟩ ?_; intro w4 hX4 g4 z4; have b4 : Below w3.heap.size w3 w4 := Below.viaG1 g4 ((Below.refl _ _).alloc (Nat.le_refl _) _) (by simp) (Nat.le_refl _); have hv4 := Lib.hid (hv'.out.below b4 (Nat.le_refl _)); have hO4 := hO3'.out.below b4 (by omega); have hb4 := Lib.hid (hb3'.out.trans (b4.mono (by omega))); clear b4 g4 hv' hb3')
        | (refine store_set rfl rfl _ _ rfl _ 0 rfl rfl ⟨0, hO4⟩ ?_; intro wX hX gX zX))
      exact ret_set3 rfl rfl rfl rfl rfl hX ⟨_, rfl, hv4.out.keepT hO4 (by decide) (by decide) (fun k hk hn => gX.block k hk (fun e => hn (by injection e))), hb4.out.grown gX (by have := hO4.lt; omega) (fun k hk => by cases hk; exact Nat.le_refl _)⟩
  · rcases hg with rfl | rfl | rfl
    all_goals
      go_enter Tryd.func37, Tryd.ntmps37
      go_wp2_with fail
      refine hrd1.out.mono ?_
      rintro e w3 ⟨rfl, hg, hR⟩
      obtain ⟨hO3, hb3, hz3⟩ := hg3'.out w3 hg
      have hb3' := Lib.hid hb3
      have hO3' := Lib.hid hO3
      have hR' := Lib.hid hR
      clear hb3 hO3 hg hR
      go_wp2_with (first | (refine store_set rfl rfl _ _ rfl _ S rfl rfl ⟨0, IsSet.zero' _ _ _ rfl⟩ ?_; intro w4 hX4 g4 z4))
      have b4 : Below w3.heap.size w3 w4 := Below.viaG1 g4 ((Below.refl _ _).alloc (Nat.le_refl _) _) (by simp) (Nat.le_refl _)
      have hR4 := hR'.out.keep (b4.block _ (row_lt hR'.out))
      have hO4 := hO3'.out.below b4 (by omega)
      have hb4 := Lib.hid (hb3'.out.trans (b4.mono (by omega)))
      obtain ⟨⟨x0, x1, x2, x3⟩, ⟨xf0, xf1, xf2, xf3⟩, xl⟩ := hX4.all
      obtain ⟨⟨o0, o1, o2, o3⟩, ⟨of0, of1, of2, of3⟩, ol⟩ := hO4.all
      have d1 := row_cell (i := 1) hR4 rfl
      have n1 : ¬ w.heap.size = w3.heap.size := by omega
      have n2 : ¬ w.heap.size = w.heap.size + 1 := by omega
      have hX4' := Lib.hid hX4
      have hO4' := Lib.hid hO4
      clear b4 g4 hb3' hR4 hX4 hO4
      go_region
      all_goals
        go_wp2_with fail
        have hb4o := hb4.out
        have hlw : w.heap.size ≤ w.heap.size := Nat.le_refl _
        refine ret_set3 rfl rfl rfl rfl rfl (by first | exact hO4'.out.store4 S | exact IsSet.drew (hO4'.out.store4 S)) ⟨rfl, by (repeat' (first | (with_reducible assumption) | (with_reducible exact Below.refl _ _) | (with_reducible apply Below.viaG1; with_reducible assumption) | (with_reducible apply Below.viaB; with_reducible assumption) | (with_reducible apply Below.alloc) | (with_reducible apply Below.drew) | (with_reducible apply Below.setCell) | (dsimp only; omega) | omega | (simp only [World.size_alloc]; omega) | (simp; omega) | (simp; done)))⟩
theorem bracket_any {N : Nat} {E : Nat → Addr} (p : Option Addr) (cap : Nat) (at' lang : Int) (s : ByteArray) (w : World) (hS : HasB w p s) (hE : Errs N E w) (hN : N ≤ w.heap.size) (hs : s.size < 4294967281) (hcap : s.size ≤ cap) :
    Calls Tryd.prog 37 #[.slice p s.size cap, .int .i64 at', .int .i64 lang] w (BrPost E w lang (brk s.data.toList at' lang)) := by
  have hsz : s.data.toList.length = s.size := by simp
  unfold brk
  rw [hsz]
  by_cases h1 : at' < 0
  · rw [if_pos (.inl h1)]
    exact bracket_bad p cap at' lang s w hE hN hs (.inl h1)
  by_cases h2 : (s.size : Int) < at'
  · rw [if_pos (.inr (.inl h2))]
    exact bracket_bad p cap at' lang s w hE hN hs (.inr (.inl ⟨h2, h1⟩))
  by_cases h3 : lang ≠ 2 ∧ lang ≠ 3 ∧ lang ≠ 4
  · rw [if_pos (.inr (.inr h3))]
    exact bracket_bad p cap at' lang s w hE hN hs (.inr (.inr ⟨h2, h1, by simpa using h3.1, by simpa using h3.2.1, by simpa using h3.2.2⟩))
  · rw [if_neg (by omega)]
    obtain ⟨k, rfl⟩ := Int.eq_ofNat_of_zero_le (Int.not_lt.1 h1)
    exact bracket_good p cap k lang s w hS hE hN hs hcap (by omega) (by omega) _ rfl
end Go.Proofs.YteeopjgfiojoiaaDoor
namespace Go.Proofs.YteeopjgfiojoiaaDoor
open Go Go.RowKit SN

theorem brk_awake : brk (⟨#[97, 45, 99, 93, 120]⟩ : ByteArray).data.toList 0 3 = .ok (rng 97 99) 4 := by
  have h : brk [97, 45, 99, 93, 120] 0 3 = .ok (0 ||| rng 97 99) 4 := by kernel_rfl
  rw [Nat.zero_or] at h
  exact h
theorem cnt_awake : cnt (rng 97 99) = 3 := by decide +kernel
set_option maxHeartbeats 1000000 in
set_option maxRecDepth 100000 in
theorem awake_any {N : Nat} {E : Nat → Addr} (w : World) (hE : Errs N E w) (hN : N ≤ w.heap.size) : Calls Tryd.prog 19 #[] w fun e w' => e = .returned (.bool true) ∧ Below w.heap.size w w' := by
  have hE' := Lib.hid hE
  clear hE
  have hc := cnt_awake
  have hcv := Lib.run_convert_bytes_const (P := Tryd.prog) w 36 5 #[.int .u8 97, .int .u8 45, .int .u8 99, .int .u8 93, .int .u8 120] 5 5 Tryd.underlying36 Tryd.underlying5
  simp only [List.size_toArray, List.length_cons, List.length_nil] at hcv
  go_enter Tryd.func19, Tryd.ntmps19
  go_wp2_with fail
  have hn := heap_alloc_new w (.cells #[.int .u8 97, .int .u8 45, .int .u8 99, .int .u8 93, .int .u8 120] 5 (5, 6))
  have hS : HasB (w.alloc (.cells #[.int .u8 97, .int .u8 45, .int .u8 99, .int .u8 93, .int .u8 120] 5 (5, 6))) (some ⟨w.heap.size, 0, none⟩) ⟨#[97, 45, 99, 93, 120]⟩ := by
    refine .inr ⟨_, 0, rfl, fun i hi => ?_, by simp⟩
    have hi' : i < 5 := hi
    have h5 : i = 0 ∨ i = 1 ∨ i = 2 ∨ i = 3 ∨ i = 4 := by omega
    rcases h5 with rfl | rfl | rfl | rfl | rfl <;> (rw [cell_of_row _ _ _ _ _ _ hn]; rfl)
  have hb := bracket_any (N := N) (E := E) (some ⟨w.heap.size, 0, none⟩) 5 0 3 ⟨#[97, 45, 99, 93, 120]⟩ _ hS (hE'.out.alloc _ hN) (by simp; omega) (by decide) (by decide)
  rw [brk_awake] at hb
  clear hn hS
  refine hb.mono ?_
  clear hb
  rintro e w3 ⟨rfl, b3⟩
  have z3 := b3.size
  simp only [World.size_alloc] at z3
  go_wp2_with (first | (refine store_set rfl rfl _ _ rfl _ _ rfl rfl ?_ ?_; (focus (apply Exists.intro; (repeat' (first | (with_reducible assumption) | (with_reducible apply IsSet.zero'; first | (with_reducible rfl) | (simp only [World.size_alloc]; done)) | (with_reducible apply IsSet.new'; first | (with_reducible rfl) | (simp only [World.size_alloc]; done)) | (with_reducible apply IsSet.sv; first | (with_reducible rfl) | (simp only [World.size_alloc]; done)) | (with_reducible apply IsSet.viaG; with_reducible assumption) | (with_reducible apply IsSet.viaB; with_reducible assumption) | (with_reducible apply IsSet.drew) | (with_reducible apply IsSet.store4) | (with_reducible apply IsSet.set_other) | (with_reducible apply IsSet.alloc) | (simp only [World.size_alloc]; omega) | omega | (simp; omega) | (simp; done))); done)); intro wX hX gX zX; (try simp only [World.size_alloc] at zX)) | (refine load_setg rfl _ rfl _ rfl ?_; apply Exists.intro; apply And.intro; focus ((repeat' (first | (with_reducible assumption) | (with_reducible apply IsSet.zero'; first | (with_reducible rfl) | (simp only [World.size_alloc]; done)) | (with_reducible apply IsSet.new'; first | (with_reducible rfl) | (simp only [World.size_alloc]; done)) | (with_reducible apply IsSet.sv; first | (with_reducible rfl) | (simp only [World.size_alloc]; done)) | (with_reducible apply IsSet.viaG; with_reducible assumption) | (with_reducible apply IsSet.viaB; with_reducible assumption) | (with_reducible apply IsSet.drew) | (with_reducible apply IsSet.store4) | (with_reducible apply IsSet.set_other) | (with_reducible apply IsSet.alloc) | (simp only [World.size_alloc]; omega) | omega | (simp; omega) | (simp; done))); done)) | (go_at_call 32; refine (Len_any _ _).mono ?_; rintro e wX ⟨rfl, bX⟩; have zX := bX.size; (try simp only [World.size_alloc] at zX)))
  go_ret
  exact ⟨rfl, by (repeat' (first | (with_reducible assumption) | (with_reducible exact Below.refl _ _) | (with_reducible apply Below.viaG1; with_reducible assumption) | (with_reducible apply Below.viaB; with_reducible assumption) | (with_reducible apply Below.alloc) | (with_reducible apply Below.drew) | (with_reducible apply Below.setCell) | (dsimp only; omega) | omega | (simp only [World.size_alloc]; omega) | (simp; omega) | (simp; done)))⟩
end Go.Proofs.YteeopjgfiojoiaaDoor
