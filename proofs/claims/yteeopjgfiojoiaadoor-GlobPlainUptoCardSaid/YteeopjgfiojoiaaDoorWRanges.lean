/- The walk over SetRanges; the bytes of a set make the set. -/
import Derived.Test.YteeopjgfiojoiaaDoorBrt
import Derived.Test.YteeopjgfiojoiaaDoorWal
namespace Go.Proofs.YteeopjgfiojoiaaDoor
open Go Go.RowKit SN

theorem rng_bit (lo hi b : Nat) (hb : b < 256) : (rng lo hi).testBit b = (decide (lo ≤ b) && decide (b ≤ hi)) := by
  unfold rng; rw [testBit_ofP]; simp [hb]
theorem rng_none {lo hi : Nat} (h : hi < lo) : rng lo hi = 0 := set_ext (ok_ofP _) ok_zero fun b hb => by
  rw [rng_bit _ _ _ hb, Nat.zero_testBit]; simp; omega
theorem mem_rng {lo hi : Nat} (h : lo ≤ hi) (hh : hi < 256) : mem (rng lo hi) = List.range' lo (hi - lo + 1) := by
  unfold mem
  have e : List.range 256 = List.range' 0 lo ++ (List.range' lo (hi - lo + 1) ++ List.range' (hi + 1) (255 - hi)) := by
    rw [List.range_eq_range']
    have h1 : List.range' lo (hi - lo + 1) ++ List.range' (hi + 1) (255 - hi) = List.range' lo (256 - lo) := by
      have := List.range'_append (s := lo) (m := hi - lo + 1) (n := 255 - hi) (step := 1)
      rw [show lo + 1 * (hi - lo + 1) = hi + 1 by omega, show hi - lo + 1 + (255 - hi) = 256 - lo by omega] at this
      exact this
    have h2 := List.range'_append (s := 0) (m := lo) (n := 256 - lo) (step := 1)
    rw [show 0 + 1 * lo = lo by omega, show lo + (256 - lo) = 256 by omega] at h2
    rw [h1, h2]
  rw [e, List.filter_append, List.filter_append]
  have a1 : (List.range' 0 lo).filter (rng lo hi).testBit = [] := List.filter_eq_nil_iff.2 fun b hb => by
    have := List.mem_range'_1.1 hb
    rw [rng_bit _ _ _ (by omega)]; simp; omega
  have a2 : (List.range' lo (hi - lo + 1)).filter (rng lo hi).testBit = List.range' lo (hi - lo + 1) := List.filter_eq_self.2 fun b hb => by
    have := List.mem_range'_1.1 hb
    rw [rng_bit _ _ _ (by omega)]; simp; omega
  have a3 : (List.range' (hi + 1) (255 - hi)).filter (rng lo hi).testBit = [] := List.filter_eq_nil_iff.2 fun b hb => by
    have := List.mem_range'_1.1 hb
    rw [rng_bit _ _ _ (by omega)]; simp; omega
  rw [a1, a2, a3]; simp
theorem ofL_bit (l : List UInt8) (b : Nat) : (ofL l).testBit b = l.any fun c => c.toNat == b := by
  unfold ofL
  have key : ∀ (l : List UInt8) (S : Nat), (l.foldl (fun S c => add S c.toNat) S).testBit b = (S.testBit b || l.any fun c => c.toNat == b) := by
    intro l
    induction l with
    | nil => intro S; simp
    | cons c l ih =>
      intro S
      rw [List.foldl_cons, ih]
      simp only [add, Nat.testBit_or, Nat.testBit_two_pow, List.any_cons, Bool.or_assoc]
      congr 1
  rw [key]; simp
theorem ok_ofL (l : List UInt8) : Ok (ofL l) := by
  unfold ofL
  have key : ∀ (l : List UInt8) (S : Nat), Ok S → Ok (l.foldl (fun S c => add S c.toNat) S) := by
    intro l
    induction l with
    | nil => intro S h; exact h
    | cons c l ih => intro S h; exact ih _ (ok_add h c.toNat_lt)
  exact key l 0 ok_zero
theorem mem_bit {S b : Nat} : b ∈ mem S ↔ b < 256 ∧ S.testBit b = true := by unfold mem; simp
theorem toB_bit (l : List Nat) (hl : ∀ b ∈ l, b < 256) (b : Nat) : (ofL (toB l).data.toList).testBit b = l.contains b := by
  rw [ofL_bit, toB_list, Bool.eq_iff_iff]
  simp only [List.any_map, List.any_eq_true, Function.comp, beq_iff_eq, List.contains_iff_mem]
  constructor
  · rintro ⟨x, hx, e⟩
    have := hl x hx
    have : x = b := by rw [← e]; simp; omega
    exact this ▸ hx
  · intro h
    exact ⟨b, h, by have := hl b h; simp; omega⟩
theorem all_full (S : Nat) : ofL (toB (mem (cmpl S) ++ mem S)).data.toList = full := by
  have hlt : ∀ b ∈ mem (cmpl S) ++ mem S, b < 256 := fun b hb => by
    rcases List.mem_append.1 hb with h | h <;> exact mem_lt h
  refine set_ext (ok_ofL _) ok_full fun b hb => ?_
  rw [toB_bit _ hlt]
  have hf : full.testBit b = true := by unfold full; rw [Nat.testBit_two_pow_sub_one]; simpa using hb
  rw [hf, List.contains_iff_mem, List.mem_append, mem_bit, mem_bit]
  have hc : (cmpl S).testBit b = !S.testBit b := by unfold cmpl; rw [Nat.testBit_xor, hf]; simp
  rw [hc]
  cases S.testBit b <;> simp [hb]
theorem rng_full : rng 0 255 = full := by decide +kernel
theorem mem_zero : mem 0 = [] := by decide +kernel
theorem cnt_zero : cnt 0 = 0 := by decide +kernel
theorem mem_split (S : Nat) : (mem (cmpl S)).length + (mem S).length = 256 := by
  have key : ∀ n, n ≤ 256 → ((List.range n).filter (cmpl S).testBit).length + ((List.range n).filter S.testBit).length = n := by
    intro n
    induction n with
    | zero => intro _; rfl
    | succ n ih =>
      intro h
      have ih := ih (by omega)
      have hf : full.testBit n = true := by unfold full; rw [Nat.testBit_two_pow_sub_one]; simp; omega
      have hc : (cmpl S).testBit n = !S.testBit n := by unfold cmpl; rw [Nat.testBit_xor, hf]; simp
      rw [List.range_succ, List.filter_append, List.filter_append, List.length_append, List.length_append]
      cases hs : S.testBit n <;> simp [hc, hs] <;> omega
  exact key 256 (Nat.le_refl _)
theorem eq_same0 (A : Nat) (hA : Ok A) (w : World) : (binOp .eql 24 (sv A) (sv A)).run Tryd.prog w = .ok (.bool true) w := by
  rw [run_eql_set A A hA hA w, decide_eq_true rfl]
/-- The empty set's text. -/
theorem Text_zero (w : World) : Calls Tryd.prog 35 #[sv 0] w fun e w' => e = .returned (.string ⟨#[91, 93]⟩) ∧ Below w.heap.size w w' := by
  show Calls Tryd.prog 35 #[.agg #[.int .u64 (word 0 0), .int .u64 (word 0 1), .int .u64 (word 0 2), .int .u64 (word 0 3)]] w _
  have hb : (Instr.build 24 #[]).run Tryd.prog = fun w => .ok (sv 0) w := by funext w; kernel_rfl
  go_enter Tryd.func35, Tryd.ntmps35
  go_wp2_with (first | (refine load_set rfl _ rfl _ rfl ⟨0, IsSet.new' _ _ _ _ rfl, ?_⟩) | (refine eq_setsg rfl _ _ rfl 0 0 rfl rfl true (eq_same0 0 ok_zero _) ?_))
  go_ret
  exact ⟨rfl, (Below.refl _ _).alloc (Nat.le_refl _) _⟩
theorem OwnsB.le {w : World} {base base' : Nat} {v : Value} {l : List Nat} (h : OwnsB w base v l) (hb : base' ≤ base) : OwnsB w base' v l :=
  ⟨h.1, h.2.elim Or.inl (fun ⟨g, cap, cur, hv, hg, r⟩ => Or.inr ⟨g, cap, cur, hv, Nat.le_trans hb hg, r⟩)⟩
theorem OwnsB.hasB' {w : World} {base : Nat} {v : Value} {l : List Nat} (h : OwnsB w base v l) (hl : ∀ b ∈ l, b < 256) : ∃ p cap, v = .slice p l.length cap ∧ l.length ≤ cap ∧ HasB w p (toB l) ∧ (∀ b o, p = some ⟨b, o, none⟩ → base ≤ b) := by
  have := h.hasB hl
  rw [toB_size] at this
  exact this
set_option maxHeartbeats 2000000 in
set_option maxRecDepth 100000 in
theorem ranges_low {N : Nat} {E : Nat → Addr} (lo hi : Nat) (hlo : lo < 256) (hhi : hi < 256) (h : hi < lo) (w : World) (hE : Errs N E w) (hN : N ≤ w.heap.size) :
    Calls Tryd.prog 8 #[.int .u8 lo, .int .u8 hi] w fun e w' => e = .returned (.bool true) ∧ Below w.heap.size w w' := by
  have hE' := Lib.hid hE
  clear hE
  have hz := Lib.hid (rng_none h)
  have hc := cnt_zero
  go_enter Tryd.func8, Tryd.ntmps8
  go_wp2_with (first | (go_at_call 23; refine (Range_any lo hi hlo hhi _).mono ?_; rw [hz.out]; rintro e wX ⟨rfl, bX⟩; have zX := bX.size; (try simp only [World.size_alloc] at zX)) | (refine store_set rfl rfl _ _ rfl _ _ rfl rfl ?_ ?_; (focus (apply Exists.intro; (repeat' (first | (with_reducible assumption) | (with_reducible apply IsSet.zero'; first | (with_reducible rfl) | (simp only [World.size_alloc]; done)) | (with_reducible apply IsSet.new'; first | (with_reducible rfl) | (simp only [World.size_alloc]; done)) | (with_reducible apply IsSet.sv; first | (with_reducible rfl) | (simp only [World.size_alloc]; done)) | (with_reducible apply IsSet.viaG; with_reducible assumption) | (with_reducible apply IsSet.viaB; with_reducible assumption) | (with_reducible apply IsSet.drew) | (with_reducible apply IsSet.store4) | (with_reducible apply IsSet.set_other) | (with_reducible apply IsSet.alloc) | (simp only [World.size_alloc]; omega) | omega | (simp; omega) | (simp; done))); done)); intro wX hX gX zX; (try simp only [World.size_alloc] at zX)) | (refine load_set rfl _ rfl _ rfl ?_; apply Exists.intro; apply And.intro; focus ((repeat' (first | (with_reducible assumption) | (with_reducible apply IsSet.zero'; first | (with_reducible rfl) | (simp only [World.size_alloc]; done)) | (with_reducible apply IsSet.new'; first | (with_reducible rfl) | (simp only [World.size_alloc]; done)) | (with_reducible apply IsSet.sv; first | (with_reducible rfl) | (simp only [World.size_alloc]; done)) | (with_reducible apply IsSet.viaG; with_reducible assumption) | (with_reducible apply IsSet.viaB; with_reducible assumption) | (with_reducible apply IsSet.drew) | (with_reducible apply IsSet.store4) | (with_reducible apply IsSet.set_other) | (with_reducible apply IsSet.alloc) | (simp only [World.size_alloc]; omega) | omega | (simp; omega) | (simp; done))); done)) | (refine load_setg rfl _ rfl _ rfl ?_; apply Exists.intro; apply And.intro; focus ((repeat' (first | (with_reducible assumption) | (with_reducible apply IsSet.zero'; first | (with_reducible rfl) | (simp only [World.size_alloc]; done)) | (with_reducible apply IsSet.new'; first | (with_reducible rfl) | (simp only [World.size_alloc]; done)) | (with_reducible apply IsSet.sv; first | (with_reducible rfl) | (simp only [World.size_alloc]; done)) | (with_reducible apply IsSet.viaG; with_reducible assumption) | (with_reducible apply IsSet.viaB; with_reducible assumption) | (with_reducible apply IsSet.drew) | (with_reducible apply IsSet.store4) | (with_reducible apply IsSet.set_other) | (with_reducible apply IsSet.alloc) | (simp only [World.size_alloc]; omega) | omega | (simp; omega) | (simp; done))); done)) | (go_at_call 34; refine (Bytes_any 0 _).mono ?_; rintro e wY ⟨v, rfl, hv, bY⟩; rw [mem_zero] at hv; obtain ⟨p, cap, rfl, -, -, -⟩ := hv.hasB' (fun _ h => by cases h); have zY := bY.size; (try simp only [World.size_alloc] at zY); clear hv) | (go_at_call 32; refine (Len_any _ _).mono ?_; rintro e wX ⟨rfl, bX⟩; have zX := bX.size; (try simp only [World.size_alloc] at zX)) | (go_at_call 35; refine (Text_zero _).mono ?_; rintro e wX ⟨rfl, bX⟩; have zX := bX.size; (try simp only [World.size_alloc] at zX)) | (go_at_call 19; refine (awake_any (N := N) (E := E) _ (hE'.out.below (show Below w.heap.size w _ from (by (repeat' (first | (with_reducible assumption) | (with_reducible exact Below.refl _ _) | (with_reducible apply Below.viaG1; with_reducible assumption) | (with_reducible apply Below.viaB; with_reducible assumption) | (with_reducible apply Below.alloc) | (with_reducible apply Below.drew) | (with_reducible apply Below.setCell) | (dsimp only; omega) | omega | (simp only [World.size_alloc]; omega) | (simp; omega) | (simp; done))))) hN) (by (try simp only [World.size_alloc]); omega)).mono ?_; rintro e wX ⟨rfl, bX⟩; have zX := bX.size; (try simp only [World.size_alloc] at zX)))
  go_ret
  exact ⟨rfl, by (repeat' (first | (with_reducible assumption) | (with_reducible exact Below.refl _ _) | (with_reducible apply Below.viaG1; with_reducible assumption) | (with_reducible apply Below.viaB; with_reducible assumption) | (with_reducible apply Below.alloc) | (with_reducible apply Below.drew) | (with_reducible apply Below.setCell) | (dsimp only; omega) | omega | (simp only [World.size_alloc]; omega) | (simp; omega) | (simp; done)))⟩
set_option maxHeartbeats 4000000 in
set_option maxRecDepth 100000 in
theorem ranges_high {N : Nat} {E : Nat → Addr} (lo hi : Nat) (hlo : lo < 256) (hhi : hi < 256) (h : lo ≤ hi) (w : World) (hE : Errs N E w) (hN : N ≤ w.heap.size) :
    Calls Tryd.prog 8 #[.int .u8 lo, .int .u8 hi] w fun e w' => e = .returned (.bool true) ∧ Below w.heap.size w w' := by
  have hE' := Lib.hid hE
  clear hE
  have hlen : (mem (rng lo hi)).length = hi - lo + 1 := by rw [mem_rng h hhi]; simp
  have hget : ∀ k (hk : k < (mem (rng lo hi)).length), (mem (rng lo hi))[k] = lo + k := fun k hk => by simp [mem_rng h hhi]
  have hlt : ∀ b ∈ mem (rng lo hi), b < 256 := fun b hb => mem_lt hb
  have hsum := mem_split (rng lo hi)
  have hfull := all_full (rng lo hi)
  generalize hl : mem (rng lo hi) = l at *
  have hl' := Lib.hid hl
  have hget' := Lib.hid hget
  have hlt' := Lib.hid hlt
  have hsum' := Lib.hid hsum
  have hfull' := Lib.hid hfull
  have hlen' := Lib.hid hlen
  clear hl hget hlt hsum hfull hlen
  obtain ⟨i0, hi0, hz0, hz1, hz2⟩ := info_parts info_u8
  go_enter Tryd.func8, Tryd.ntmps8
  go_wp2_with (first | (go_at_call 23; refine (Range_any lo hi hlo hhi _).mono ?_; rintro e wX ⟨rfl, bX⟩; have zX := bX.size; (try simp only [World.size_alloc] at zX)) | (refine store_set rfl rfl _ _ rfl _ _ rfl rfl ?_ ?_; (focus (apply Exists.intro; (repeat' (first | (with_reducible assumption) | (with_reducible apply IsSet.zero'; first | (with_reducible rfl) | (simp only [World.size_alloc]; done)) | (with_reducible apply IsSet.new'; first | (with_reducible rfl) | (simp only [World.size_alloc]; done)) | (with_reducible apply IsSet.sv; first | (with_reducible rfl) | (simp only [World.size_alloc]; done)) | (with_reducible apply IsSet.viaG; with_reducible assumption) | (with_reducible apply IsSet.viaB; with_reducible assumption) | (with_reducible apply IsSet.drew) | (with_reducible apply IsSet.store4) | (with_reducible apply IsSet.set_other) | (with_reducible apply IsSet.alloc) | (simp only [World.size_alloc]; omega) | omega | (simp; omega) | (simp; done))); done)); intro wX hX gX zX; (try simp only [World.size_alloc] at zX)) | (refine load_set rfl _ rfl _ rfl ?_; apply Exists.intro; apply And.intro; focus ((repeat' (first | (with_reducible assumption) | (with_reducible apply IsSet.zero'; first | (with_reducible rfl) | (simp only [World.size_alloc]; done)) | (with_reducible apply IsSet.new'; first | (with_reducible rfl) | (simp only [World.size_alloc]; done)) | (with_reducible apply IsSet.sv; first | (with_reducible rfl) | (simp only [World.size_alloc]; done)) | (with_reducible apply IsSet.viaG; with_reducible assumption) | (with_reducible apply IsSet.viaB; with_reducible assumption) | (with_reducible apply IsSet.drew) | (with_reducible apply IsSet.store4) | (with_reducible apply IsSet.set_other) | (with_reducible apply IsSet.alloc) | (simp only [World.size_alloc]; omega) | omega | (simp; omega) | (simp; done))); done)) | (go_at_call 34; refine (Bytes_any (rng lo hi) _).mono ?_; rintro e wY ⟨v, rfl, hv, bY⟩; rw [hl'.out] at hv; obtain ⟨p, cap, rfl, hcap, hB, hpb⟩ := hv.hasB' hlt'.out; have zY := bY.size; (try simp only [World.size_alloc] at zY); have hB' := Lib.hid hB; have hpb' := Lib.hid hpb; have hcap' := Lib.hid hcap; clear hv hB hpb hcap))
  have zY' : w.heap.size + 1 ≤ wY.heap.size := by omega
  have hbYw : Below w.heap.size w wY := by (repeat' (first | (with_reducible assumption) | (with_reducible exact Below.refl _ _) | (with_reducible apply Below.viaG1; with_reducible assumption) | (with_reducible apply Below.viaB; with_reducible assumption) | (with_reducible apply Below.alloc) | (with_reducible apply Below.drew) | (with_reducible apply Below.setCell) | (dsimp only; omega) | omega | (simp only [World.size_alloc]; omega) | (simp; omega) | (simp; done)))
  have hXY := hX.below bY hX.lt
  have hbY' := Lib.hid hbYw
  clear bY hbYw
  go_loop [35] (fun i => ∃ k : Nat, k ≤ l.length ∧ i = .int .i64 k) (fun i => l.length - (intOf i).toNat)
  case atStart => exact ⟨0, Nat.zero_le _, rfl⟩
  case round =>
    obtain ⟨k, hk, rfl⟩ := hrel
    by_cases hkl : k < l.length
    · have hc : ∃ b o, p = some ⟨b, o, none⟩ ∧ wY.cell? ⟨b, o + k, none⟩ = some (.int .u8 ((lo : Int) + (k : Int))) ∧ (lo : Int) + (k : Int) ≤ 255 := by
        obtain ⟨b, o, e, hc, -⟩ := hasB_at hB'.out (i := k) (by rw [toB_size]; exact hkl)
        rw [toB_get l hlt'.out, hget'.out k hkl] at hc
        have h1 := hlt'.out _ (List.getElem_mem hkl)
        rw [hget'.out k hkl] at h1
        exact ⟨b, o, e, by rw [hc]; simp, by omega⟩
      obtain ⟨b, o, rfl, hc, h255⟩ := hc
      go_wp2_with fail
      go_round
      case rel => exact ⟨k + 1, by omega, by go_num⟩
      case measure => simp [intOf]; omega
    · have hke : k = l.length := by omega
      subst hke
      have hpos : 0 < l.length := by rw [hlen'.out]; omega
      obtain ⟨b, o, rfl, -, hbl⟩ := hasB_at hB'.out (i := 0) (by rw [toB_size]; exact hpos)
      clear hk hkl
      go_wp2_with (first | (refine load_set rfl _ rfl _ rfl ?_; apply Exists.intro; apply And.intro; focus ((repeat' (first | (with_reducible assumption) | (with_reducible apply IsSet.zero'; first | (with_reducible rfl) | (simp only [World.size_alloc]; done)) | (with_reducible apply IsSet.new'; first | (with_reducible rfl) | (simp only [World.size_alloc]; done)) | (with_reducible apply IsSet.sv; first | (with_reducible rfl) | (simp only [World.size_alloc]; done)) | (with_reducible apply IsSet.viaG; with_reducible assumption) | (with_reducible apply IsSet.viaB; with_reducible assumption) | (with_reducible apply IsSet.drew) | (with_reducible apply IsSet.store4) | (with_reducible apply IsSet.set_other) | (with_reducible apply IsSet.alloc) | (simp only [World.size_alloc]; omega) | omega | (simp; omega) | (simp; done))); done)) | (go_at_call 25; refine (Not_any _ _).mono ?_; rintro e wX ⟨rfl, bX⟩; have zX := bX.size; (try simp only [World.size_alloc] at zX)))
      go_wp2_with (first | (at_builtin; refine wpList_append_own _ rfl _ _ 36 rfl wX.heap.size 5 i0 (.int .u8 0) 1 1 Tryd.underlying36 hi0 hz0 hz1 hz2 rfl (by decide) v2 _ _ rfl hv2 ⟨b, o, none⟩ l.length cap (bv l) rfl (by simp [bv]) ?c2 ?c3 ?c4 ?c5 ?c6 ?_) | (refine load_set rfl _ rfl _ rfl ?_; apply Exists.intro; apply And.intro; focus ((repeat' (first | (with_reducible assumption) | (with_reducible apply IsSet.zero'; first | (with_reducible rfl) | (simp only [World.size_alloc]; done)) | (with_reducible apply IsSet.new'; first | (with_reducible rfl) | (simp only [World.size_alloc]; done)) | (with_reducible apply IsSet.sv; first | (with_reducible rfl) | (simp only [World.size_alloc]; done)) | (with_reducible apply IsSet.viaG; with_reducible assumption) | (with_reducible apply IsSet.viaB; with_reducible assumption) | (with_reducible apply IsSet.drew) | (with_reducible apply IsSet.store4) | (with_reducible apply IsSet.set_other) | (with_reducible apply IsSet.alloc) | (simp only [World.size_alloc]; omega) | omega | (simp; omega) | (simp; done))); done)) | (go_at_call 25; refine (Not_any _ _).mono ?_; rintro e wX ⟨rfl, bX⟩; have zX := bX.size; (try simp only [World.size_alloc] at zX)) | (go_at_call 34; refine (Bytes_any _ _).mono ?_; rintro e wZ ⟨v2, rfl, hv2, bZ⟩; replace hv2 := hv2.le (Nat.le_succ _); have zZ := bZ.size; (try simp only [World.size_alloc] at zZ)))
      case c2 =>
        intro j u hu
        have hj : j < l.length := by
          rcases Nat.lt_or_ge j l.length with h | h
          · exact h
          · rw [List.getElem?_eq_none (by simpa [bv] using h)] at hu; cases hu
        have hBZ : HasB wZ (some ⟨b, o, none⟩) (toB l) := (hB'.out.below bX (by omega)).below bZ (by omega)
        obtain ⟨b', o', e, hc, -⟩ := hasB_at hBZ (i := j) (by rw [toB_size]; exact hj)
        cases e
        rw [toB_get l hlt'.out] at hc
        have e2 : (⟨b, o, none⟩ : Addr).add j = ⟨b, o + j, none⟩ := by unfold Addr.add; split <;> simp_all
        rw [e2, hc, ← hu]
        simp [bv, hj]
      case c3 => intro u hu; simp only [bv, List.mem_map] at hu; obtain ⟨x, -, rfl⟩ := hu; rfl
      case c4 => have := hsum'.out; unfold maxLen; omega
      case c5 => have := hsum'.out; omega
      case c6 => exact zZ
      intro v3 w3 hown3 hg3 _
      have hlow := hv2.lt
      have hown : OwnsB w3 wX.heap.size v3 (mem (cmpl (rng lo hi)) ++ l) := by
        unfold OwnsB bv
        rw [List.map_append, List.length_append]
        exact hown3
      have hlt3 : ∀ x ∈ mem (cmpl (rng lo hi)) ++ l, x < 256 := fun x hx => by
        rcases List.mem_append.1 hx with h | h
        · exact mem_lt h
        · exact hlt'.out x h
      have hlen3 : (mem (cmpl (rng lo hi)) ++ l).length = 256 := by rw [List.length_append]; exact hsum'.out
      obtain ⟨p3, cap3, rfl, -, hB3, hpb3⟩ := hown.hasB' hlt3
      rw [hlen3]
      have hz3 : wZ.heap.size ≤ w3.heap.size := hg3.size
      have hb3 : Below w.heap.size w w3 := ((hbY'.out.trans (bX.mono (by omega))).trans (bZ.mono (by omega))).grown hg3 (by omega) (fun j hj => by have := hlow _ hj; omega)
      have hlow' := Lib.hid hlow
      have hB3' := Lib.hid hB3
      have hb3' := Lib.hid hb3
      have hlt3' := Lib.hid hlt3
      have hlen3' := Lib.hid hlen3
      have hcv := conv_any p3 cap3 (toB (mem (cmpl (rng lo hi)) ++ l)) w3 hB3
      rw [toB_size, hlen3] at hcv
      have hz30 : w.heap.size + 1 ≤ w3.heap.size := by omega
      have hl1 : (l.length : Int) = (hi : Int) - (lo : Int) + 1 := by rw [hlen'.out]; omega
      clear hlow hB3 hb3 hlt3 hlen3 hown hown3 hg3 hv2 bZ bX zX zZ hX hXY hbl
      have hl3 : (lo : Int) ≤ hi := by omega
      go_wp2_with (first | (go_at_call 22; refine (Of_any _ _ (by rw [toB_size, hlen3'.out]; decide)).mono ?_; rw [hfull'.out]; rintro e w4 ⟨rfl, b4⟩; have z4 := b4.size) | (go_at_call 9999))
      refine (Bytes_any full w4).mono ?_
      rintro e w5 ⟨v5, rfl, hv5, b5⟩
      obtain ⟨p5, cap5, rfl, -, hB5, -⟩ := hv5.hasB' (fun _ h => mem_lt h)
      have z5 := b5.size
      have hB5' := Lib.hid hB5
      clear hv5 hB5
      go_wp2_with (first | (go_at_call 23; refine (Range_any 0 255 (by decide) (by decide) _).mono ?_; rw [rng_full]; rintro e w6 ⟨rfl, b6⟩; have z6 := b6.size) | (go_at_call 9999))
      refine (Bytes_any full w6).mono ?_
      rintro e w7 ⟨v7, rfl, hv7, b7⟩
      obtain ⟨p7, cap7, rfl, -, hB7, -⟩ := hv7.hasB' (fun _ h => mem_lt h)
      have z7 := b7.size
      have hr := r1Bytes_any p5 p7 cap5 cap7 (toB (mem full)) (toB (mem full)) w7 ((hB5'.out.below b6 (Nat.le_refl _)).below b7 (Nat.le_refl _)) hB7
      rw [toB_size, beq_self_eq_true] at hr
      have hbw : Below w.heap.size w w7 := (((hb3'.out.trans (b4.mono (by omega))).trans (b5.mono (by omega))).trans (b6.mono (by omega))).trans (b7.mono (by omega))
      have hbw' := Lib.hid hbw
      have hr' := Lib.hid hr
      clear hr hB7 hv7 b4 b5 b6 b7 hbw
      go_wp2_with (first | (go_at_call 33; refine hr'.out.mono ?_; rintro e w8 ⟨rfl, rfl⟩) | (go_at_call 19; refine (awake_any (N := N) (E := E) _ (hE'.out.below hbw'.out hN) (by omega)).mono ?_; rintro e w9 ⟨rfl, b9⟩))
      go_ret
      exact ⟨rfl, hbw'.out.trans (b9.mono (by omega))⟩
theorem ranges_any {N : Nat} {E : Nat → Addr} (lo hi : Nat) (hlo : lo < 256) (hhi : hi < 256) (w : World) (hE : Errs N E w) (hN : N ≤ w.heap.size) :
    Calls Tryd.prog 8 #[.int .u8 lo, .int .u8 hi] w fun e w' => e = .returned (.bool true) ∧ Below w.heap.size w w' := by
  by_cases h : hi < lo
  · exact ranges_low lo hi hlo hhi h w hE hN
  · exact ranges_high lo hi hlo hhi (by omega) w hE hN
end Go.Proofs.YteeopjgfiojoiaaDoor
namespace Go.Proofs.YteeopjgfiojoiaaDoor
open Go Go.RowKit SN

theorem full_bit (b : Nat) (hb : b < 256) : full.testBit b = true := by unfold full; rw [Nat.testBit_two_pow_sub_one]; simpa using hb
theorem cmpl_bit (S b : Nat) (hb : b < 256) : (cmpl S).testBit b = !S.testBit b := by unfold cmpl; rw [Nat.testBit_xor, full_bit b hb]; simp
theorem union2_eq (S T : Nat) : unionL [S, T] = S ||| T := by unfold unionL; simp
theorem union2_bit (S T b : Nat) : (unionL [S, T]).testBit b = (S.testBit b || T.testBit b) := by rw [union2_eq, Nat.testBit_or]
theorem ok_union2 {S T : Nat} (hS : Ok S) (hT : Ok T) : Ok (unionL [S, T]) := by rw [union2_eq]; exact ok_or hS hT
theorem cmpl_cmpl {S : Nat} (hS : Ok S) : cmpl (cmpl S) = S := set_ext (ok_cmpl (ok_cmpl hS)) hS fun b hb => by rw [cmpl_bit _ b hb, cmpl_bit _ b hb, Bool.not_not]
theorem morgan_bit (S T b : Nat) (hb : b < 256) : (cmpl (unionL [cmpl S, cmpl T])).testBit b = (S.testBit b && T.testBit b) := by
  rw [cmpl_bit _ b hb, union2_bit, cmpl_bit _ b hb, cmpl_bit _ b hb, ← Bool.not_and, Bool.not_not]
theorem ofL_mem {S : Nat} (hS : Ok S) : ofL (toB (mem S)).data.toList = S := by
  refine set_ext (ok_ofL _) hS fun b hb => ?_
  rw [toB_bit _ (fun _ h => mem_lt h), Bool.eq_iff_iff, List.contains_iff_mem, mem_bit]
  exact ⟨fun h => h.2, fun h => ⟨hb, h⟩⟩
theorem cnt_split (S : Nat) : cnt S + cnt (cmpl S) = 256 := by have := mem_split S; unfold cnt; omega
theorem cnt_both (S T : Nat) : cnt (cmpl (unionL [cmpl S, cmpl T])) + cnt (unionL [S, T]) = cnt S + cnt T := by
  unfold cnt mem
  have key : ∀ n, n ≤ 256 → ((List.range n).filter (cmpl (unionL [cmpl S, cmpl T])).testBit).length + ((List.range n).filter (unionL [S, T]).testBit).length = ((List.range n).filter S.testBit).length + ((List.range n).filter T.testBit).length := by
    intro n
    induction n with
    | zero => intro _; rfl
    | succ n ih =>
      intro h
      have ih := ih (by omega)
      have h1 := morgan_bit S T n (by omega)
      have h2 := union2_bit S T n
      simp only [List.range_succ, List.filter_append, List.length_append]
      cases hs : S.testBit n <;> cases ht : T.testBit n <;> rw [hs, ht] at h1 h2 <;> simp [h1, h2, hs, ht] <;> omega
  exact key 256 (Nat.le_refl _)
theorem wrap_small (x : Int) (h0 : 0 ≤ x) (h1 : x ≤ 512) : IntKind.i64.wrap x = x := by simp [IntKind.wrap, IntKind.bits, IntKind.signed]; omega
end Go.Proofs.YteeopjgfiojoiaaDoor
