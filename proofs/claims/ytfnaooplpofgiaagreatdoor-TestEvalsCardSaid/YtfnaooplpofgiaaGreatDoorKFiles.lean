/- files(): a tree with some, of the program's and the document's. Conditions: the errors' variables hold their values; the library's variable of lengths a number. -/
import Derived.Test.YtfnaooplpofgiaaGreatDoorKBoth
import Derived.WalkMore
import Derived.OwnWalk
import Derived.Handy
import Derived.Outline
namespace Go.Proofs.YtfnaooplpofgiaaGreatDoor
open Go Go.RowKit SN

theorem conv_step (s : ByteArray) (W : World) : ∃ W' c, (convert 9 62 (.string s)).run Tryz.prog W = .ok (.slice (some ⟨W.heap.size, 0, none⟩) s.size c) W' ∧ Below W.heap.size W W' ∧ s.size ≤ c ∧ HasB W' (some ⟨W.heap.size, 0, none⟩) s := by
  refine ⟨_, _, Lib.run_convert_string_bytes (P := Tryz.prog) W 9 62 5 s Tryz.underlying9 Tryz.underlying62 Tryz.underlying5, bytesWorld_below W 5 s, grownCap_ge _ _ _ _, .inr ⟨W.heap.size, 0, rfl, fun i h => ?_, by rw [Lib.bytesWorld_size]; omega⟩⟩
  have := Lib.bytesWorld_cell W 5 s i h
  rw [Nat.zero_add, this]
  simp [h, ByteArray.getElem_eq_getElem_data]
def FilesR (w0 : World) (e : Ending) (w' : World) : Prop := ∃ t r T cnt m L D b0 n1 n2 n3 n4, e = .returned (.tuple #[.pointer (some ⟨t, 0, none⟩), .pointer (some ⟨m, 0, none⟩)]) ∧ IsTc w' w0.heap.size t r T cnt ∧ (∀ p, statP T r p = fileS p) ∧ IsDt w' m L D ∧ FilD L D b0 n1 n2 n3 n4 ∧ Below w0.heap.size w0 w'
theorem rows_keep {w w' : World} (h : StrK w w') {B : Nat} {cs : Array Value} {ty : TypeId} {s : ByteArray} (hB : w.heap[B]? = some (.cells cs ty (0, 0))) (hs : cs[0]? = some (.string s)) : w'.heap[B]? = some (.cells cs ty (0, 0)) := (h B cs ty hB ⟨s, hs⟩).trans hB
set_option maxHeartbeats 8000000 in
set_option maxRecDepth 100000 in
theorem files_any {N : Nat} {E : Nat → Addr} (w : World) (hE : Errs N E w) (hM : MaxL N w) (hN : N ≤ w.heap.size) : Calls Tryz.prog 11 #[] w (FilesR w) := by
  have hE' := Lib.hid hE
  have hM' := Lib.hid hM
  clear hE hM
  obtain ⟨Post, hPost⟩ : ∃ Post : Ending → World → Prop, Post = FilesR w := ⟨_, rfl⟩
  rw [← hPost]
  have hP := Lib.hid hPost
  clear hPost
  go_enter Tryz.func11, Tryz.ntmps11
  go_wp2_with fail
  refine (new_any w).mono ?_
  rintro e w1 ⟨rfl, h1, b1⟩
  have hr0 := Lib.hid (oneT_at (w.heap.size + 1) w.heap.size)
  generalize oneT (w.heap.size + 1) w.heap.size = T0 at h1 hr0
  generalize w.heap.size + 2 = t at h1 ⊢
  generalize w.heap.size + 1 = r at h1 hr0
  have h1' := Lib.hid h1
  have b1' := Lib.hid b1
  clear h1 b1
  go_wp2_with fail
  refine (rnew_any w1).mono ?_
  rintro e w2 ⟨m, B0, rfl, hm, hB0, h2, b2⟩
  have bb2 := Lib.hid (b1'.out.trans (b2.mono b1'.out.size))
  have t2 := Lib.hid (show Two w.heap.size w2 t r T0 1 m _ _ from ⟨h1'.out.below b2, h2, Nat.le_trans b1'.out.size hm, fun x hx => by rw [List.mem_singleton.1 hx]; exact Nat.le_trans b1'.out.size hB0, by show 0 < 1; decide, bb2.out.size⟩)
  have l0 := Lib.hid (show ∀ s, lookE [((⟨#[]⟩ : ByteArray), B0)] s = if [] == s then some B0 else none from fun s => by rw [lookE_cons]; rfl)
  have len0 := Lib.hid (show [((⟨#[]⟩ : ByteArray), B0)].length = 1 from rfl)
  have d0 := Lib.hid (show (fun C => if C = B0 then some (⟨true, 0⟩ : DN) else none) B0 = some ⟨true, 0⟩ from if_pos rfl)
  clear h2 b2 hm hB0 h1' b1'
  generalize [((⟨#[]⟩ : ByteArray), B0)] = L0 at t2 l0 len0
  generalize (fun C => if C = B0 then some (⟨true, 0⟩ : DN) else none) = D0 at t2 d0
  have k3 := Lib.hid (two_tmk (N := N) (E := E) ⟨#[100]⟩ ⟨#[100]⟩ (hE'.out.below bb2.out hN) (hM'.out.below bb2.out hN) (Nat.le_trans hN t2.out.bs) t2.out (by decide) (find_one hr0.out rfl clean_d rfl) hr0.out rfl rfl)
  go_wp2_with fail
  refine k3.out.mono ?_
  rintro e w3 ⟨rfl, s3, b3, n1, T1, mp1, tw3, hn1, hd1, ho1⟩
  have t3 := Lib.hid tw3
  have bb3 := Lib.hid (bb2.out.trans b3)
  have hn1' := Lib.hid hn1
  have hd1' := Lib.hid hd1
  have ho1' := Lib.hid ho1
  clear tw3 b3 s3 hn1 hd1 ho1 k3 t2 bb2
  have e0 := Lib.hid (show lookE L0 [] = some B0 by rw [l0.out]; rfl)
  have k4 := Lib.hid (two_dmk ⟨#[100]⟩ [47, 100] [] t3.out (by rw [len0.out]; decide) (place_one clean_d (dirAt_of e0.out d0.out)) (by decide) (by rw [l0.out]; rfl) e0.out)
  go_wp2_with fail
  refine k4.out.mono ?_
  rintro e w4 ⟨rfl, s4, b4, q1, L1, D1, tw4, ll1, lk1, hk1, dn1, do1⟩
  have t4 := Lib.hid tw4
  have bb4 := Lib.hid (bb3.out.trans b4)
  have len1 := Lib.hid (show L1.length = 2 by rw [ll1, len0.out])
  have l1 := Lib.hid lk1
  have h1k := Lib.hid hk1
  have d1 := Lib.hid dn1
  have o1 := Lib.hid do1
  clear tw4 b4 s4 ll1 lk1 hk1 dn1 do1 k4 t3 bb3
  have e1 := Lib.hid (show lookE L1 [] = some B0 by rw [l1.out, l0.out]; rfl)
  have d1b := Lib.hid (show D1 B0 = some ⟨true, 0⟩ from (o1.out [] B0 e0.out).trans d0.out)
  have f1 := Lib.hid (show lookE L1 [47, 100] = some q1 by rw [l1.out]; rfl)
  have row0 := Lib.hid (heap_alloc_new w4 (.cells #[.string ⟨#[102]⟩, .string ⟨#[100, 47, 103]⟩] 9))
  have bx := (Below.refl w4.heap.size w4).alloc (Nat.le_refl _) (.cells #[.string ⟨#[102]⟩, .string ⟨#[100, 47, 103]⟩] 9)
  have t5 := Lib.hid (t4.out.below bx)
  have bb5 := Lib.hid (bb4.out.trans (bx.mono t4.out.bs))
  clear bx t4 bb4
  go_wp2_with fail
  generalize w4.alloc _ = w5 at row0 t5 bb5 ⊢
  generalize w4.heap.size = Bs at row0 ⊢
  refine wp_loop_rounds 3 ?_
  rw [rounds_succ]
  obtain ⟨w6, c6, hc6, bc6, hcap6, hS6⟩ := conv_step ⟨#[102]⟩ w5
  have hc6' := Lib.hid hc6
  have t6 := Lib.hid (t5.out.below bc6)
  have bb6 := Lib.hid (bb5.out.trans (bc6.mono t5.out.bs))
  have hS6' := Lib.hid hS6
  have row6 := Lib.hid (row_below row0.out bc6 (row_lt row0.out))
  have cell6 : w5.cell? ⟨Bs, 0, none⟩ = some (.string ⟨#[102]⟩) := row_cell row0.out rfl
  generalize w5.heap.size = P6 at hc6' hS6'
  clear hc6 bc6 hS6
  go_wp2_with fail
  rw [hc6'.out]
  clear cell6 row0 t5 bb5
  have g1 := Lib.hid (ho1'.out r _ hr0.out)
  have k7 := Lib.hid (two_twr (N := N) (E := E) ⟨#[102]⟩ ⟨#[102]⟩ ⟨#[102]⟩ _ c6 (hE'.out.below bb6.out hN) (hM'.out.below bb6.out hN) (Nat.le_trans hN t6.out.bs) t6.out (by decide) hS6'.out (fun h => by cases h) hcap6 (by decide) (find_one hd1'.out rfl clean_f rfl) hd1'.out rfl rfl)
  go_wp2_with fail
  refine k7.out.mono ?_
  rintro e w7 ⟨rfl, s7, b7, n2, T2, mp2, tw7, hn2, hd2, ho2⟩
  have t7 := Lib.hid tw7
  have bb7 := Lib.hid (bb6.out.trans b7)
  have hn2' := Lib.hid hn2
  have hd2' := Lib.hid hd2
  have ho2' := Lib.hid ho2
  have row7 := Lib.hid (rows_keep s7 row6.out rfl)
  clear row6
  clear tw7 b7 s7 hn2 hd2 ho2 k7 t6 bb6
  obtain ⟨w8, c8, hc8, bc8, hcap8, hS8⟩ := conv_step ⟨#[102]⟩ w7
  have hc8' := Lib.hid hc8
  have t8 := Lib.hid (t7.out.below bc8)
  have bb8 := Lib.hid (bb7.out.trans (bc8.mono t7.out.bs))
  have hS8' := Lib.hid hS8
  have row8 := Lib.hid (row_below row7.out bc8 (row_lt row7.out))
  have cell8 : w7.cell? ⟨Bs, 0, none⟩ = some (.string ⟨#[102]⟩) := row_cell row7.out rfl
  generalize w7.heap.size = P8 at hc8' hS8'
  clear hc8 bc8 hS8
  go_wp2_with fail
  rw [hc8'.out]
  clear cell8 row7 t7 bb7
  have k9 := Lib.hid (two_dwr ⟨#[102]⟩ ⟨#[102]⟩ _ c8 [47, 102] [] t8.out (by rw [len1.out]; decide) hS8'.out (fun h => by cases h) hcap8 (by decide) (place_one clean_f (dirAt_of e1.out d1b.out)) (by decide) (by rw [l1.out, l0.out]; rfl) e1.out)
  go_wp2_with fail
  refine k9.out.mono ?_
  rintro e w9 ⟨rfl, s9, b9, q2, L2, D2, tw9, ll2, lk2, hk2, dn2, do2⟩
  have t9 := Lib.hid tw9
  have bb9 := Lib.hid (bb8.out.trans b9)
  have len2 := Lib.hid (show L2.length = 3 by rw [ll2, len1.out])
  have l2 := Lib.hid lk2
  have h2k := Lib.hid hk2
  have d2 := Lib.hid dn2
  have o2 := Lib.hid do2
  have row9 := Lib.hid (rows_keep s9 row8.out rfl)
  clear row8
  clear tw9 b9 s9 ll2 lk2 hk2 dn2 do2 k9 t8 bb8
  have e2 := Lib.hid (show lookE L2 [] = some B0 by rw [l2.out]; exact e1.out)
  have d2b := Lib.hid (show D2 B0 = some ⟨true, 0⟩ from (o2.out [] B0 e1.out).trans d1b.out)
  have f2 := Lib.hid (show lookE L2 [47, 100] = some q1 by rw [l2.out]; exact f1.out)
  have d2q := Lib.hid (show D2 q1 = some ⟨true, 0⟩ from (o2.out _ q1 f1.out).trans d1.out)
  have g2 := Lib.hid (ho2'.out n1 _ hn1'.out)
  have hT2 := Lib.hid (g2.out.2 (fun e => g1.out.1 e.symm))
  go_wp2_with fail
  rw [rounds_succ]
  obtain ⟨w10, c10, hc10, bc10, hcap10, hS10⟩ := conv_step ⟨#[100, 47, 103]⟩ w9
  have hc10' := Lib.hid hc10
  have t10 := Lib.hid (t9.out.below bc10)
  have bb10 := Lib.hid (bb9.out.trans (bc10.mono t9.out.bs))
  have hS10' := Lib.hid hS10
  have row10 := Lib.hid (row_below row9.out bc10 (row_lt row9.out))
  have cell10 : w9.cell? ⟨Bs, 1, none⟩ = some (.string ⟨#[100, 47, 103]⟩) := row_cell row9.out rfl
  generalize w9.heap.size = P10 at hc10' hS10'
  clear hc10 bc10 hS10
  go_wp2_with fail
  rw [hc10'.out]
  clear cell10 row9 t9 bb9
  have k11 := Lib.hid (two_twr (N := N) (E := E) ⟨#[100, 47, 103]⟩ ⟨#[103]⟩ ⟨#[100, 47, 103]⟩ _ c10 (hE'.out.below bb10.out hN) (hM'.out.below bb10.out hN) (Nat.le_trans hN t10.out.bs) t10.out (by decide) hS10'.out (fun h => by cases h) hcap10 (by decide) (find_two hd2'.out rfl clean_dg rfl hT2.out rfl rfl) hT2.out rfl rfl)
  go_wp2_with fail
  refine k11.out.mono ?_
  rintro e w11 ⟨rfl, s11, b11, n3, T3, mp3, tw11, hn3, hd3, ho3⟩
  have t11 := Lib.hid tw11
  have bb11 := Lib.hid (bb10.out.trans b11)
  have hn3' := Lib.hid hn3
  have hd3' := Lib.hid hd3
  have ho3' := Lib.hid ho3
  have row11 := Lib.hid (rows_keep s11 row10.out rfl)
  clear row10
  clear tw11 b11 s11 hn3 hd3 ho3 k11 t10 bb10
  obtain ⟨w12, c12, hc12, bc12, hcap12, hS12⟩ := conv_step ⟨#[100, 47, 103]⟩ w11
  have hc12' := Lib.hid hc12
  have t12 := Lib.hid (t11.out.below bc12)
  have bb12 := Lib.hid (bb11.out.trans (bc12.mono t11.out.bs))
  have hS12' := Lib.hid hS12
  have row12 := Lib.hid (row_below row11.out bc12 (row_lt row11.out))
  have cell12 : w11.cell? ⟨Bs, 1, none⟩ = some (.string ⟨#[100, 47, 103]⟩) := row_cell row11.out rfl
  generalize w11.heap.size = P12 at hc12' hS12'
  clear hc12 bc12 hS12
  go_wp2_with fail
  rw [hc12'.out]
  clear cell12 row11 t11 bb11
  have k13 := Lib.hid (two_dwr ⟨#[100, 47, 103]⟩ ⟨#[100, 47, 103]⟩ _ c12 [47, 100, 47, 103] [47, 100] t12.out (by rw [len2.out]; decide) hS12'.out (fun h => by cases h) hcap12 (by decide) (place_two clean_dg (dirAt_of e2.out d2b.out) (dirAt_of f2.out d2q.out)) (by decide) (by rw [l2.out, l1.out, l0.out]; rfl) f2.out)
  go_wp2_with fail
  refine k13.out.mono ?_
  rintro e w13 ⟨rfl, s13, b13, q3, L3, D3, tw13, ll3, lk3, hk3, dn3, do3⟩
  have t13 := Lib.hid tw13
  have bb13 := Lib.hid (bb12.out.trans b13)
  have len3 := Lib.hid (show L3.length = 4 by rw [ll3, len2.out])
  have l3 := Lib.hid lk3
  have h3k := Lib.hid hk3
  have d3 := Lib.hid dn3
  have o3 := Lib.hid do3
  have row13 := Lib.hid (rows_keep s13 row12.out rfl)
  clear row12
  clear tw13 b13 s13 ll3 lk3 hk3 dn3 do3 k13 t12 bb12
  have e3 := Lib.hid (show lookE L3 [] = some B0 by rw [l3.out]; exact e2.out)
  have d3b := Lib.hid (show D3 B0 = some ⟨true, 0⟩ from (o3.out [] B0 e2.out).trans d2b.out)
  have hT3r := Lib.hid ((ho3'.out r _ hd2'.out).2 g1.out.1)
  go_wp2_with fail
  rw [rounds_succ]
  go_wp2_with fail
  have k14 := Lib.hid (two_twr (N := N) (E := E) ⟨#[101]⟩ ⟨#[101]⟩ ⟨#[]⟩ none 0 (hE'.out.below bb13.out hN) (hM'.out.below bb13.out hN) (Nat.le_trans hN t13.out.bs) t13.out (by decide) (.inl rfl) (fun _ => rfl) (Nat.le_refl _) (by decide) (find_one hT3r.out rfl clean_e rfl) hT3r.out rfl rfl)
  go_wp2_with fail
  refine k14.out.mono ?_
  rintro e w14 ⟨rfl, s14, b14, n4, T4, mp4, tw14, hn4, hd4, ho4⟩
  have t14 := Lib.hid tw14
  have bb14 := Lib.hid (bb13.out.trans b14)
  have hn4' := Lib.hid hn4
  have hd4' := Lib.hid hd4
  have ho4' := Lib.hid ho4
  have row14 := Lib.hid (rows_keep s14 row13.out rfl)
  clear row13
  clear tw14 b14 s14 hn4 hd4 ho4 k14 t13 bb13
  have k15 := Lib.hid (two_dwr ⟨#[101]⟩ ⟨#[]⟩ none 0 [47, 101] [] t14.out (by rw [len3.out]; decide) (.inl rfl) (fun _ => rfl) (Nat.le_refl _) (by decide) (place_one clean_e (dirAt_of e3.out d3b.out)) (by decide) (by rw [l3.out, l2.out, l1.out, l0.out]; rfl) e3.out)
  go_wp2_with fail
  refine k15.out.mono ?_
  rintro e w15 ⟨rfl, s15, b15, q4, L4, D4, tw15, ll4, lk4, hk4, dn4, do4⟩
  have t15 := Lib.hid tw15
  have bb15 := Lib.hid (bb14.out.trans b15)
  have len4 := Lib.hid (show L4.length = 5 by rw [ll4, len3.out])
  have l4 := Lib.hid lk4
  have h4k := Lib.hid hk4
  have d4 := Lib.hid dn4
  have o4 := Lib.hid do4
  have row15 := Lib.hid (rows_keep s15 row14.out rfl)
  clear row14
  clear tw15 b15 s15 ll4 lk4 hk4 dn4 do4 k15 t14 bb14
  go_wp2_with fail
  rw [hP.out]
  refine ⟨t, r, T4, _, m, L4, D4, B0, q1, q2, q3, q4, rfl, t15.out.tc, ?_, t15.out.dt, ⟨fun s => ?_, ?_, ?_, ?_, ?_, d4.out, ?_, ?_⟩, bb15.out⟩
  · have a2 := ho2'.out
    have a3 := ho3'.out
    have a4 := ho4'.out
    have hrn1 : r ≠ n1 := g1.out.1
    have hrn2 : r ≠ n2 := (a2 r _ hd1'.out).1
    have hn12 : n1 ≠ n2 := g2.out.1
    have hrn3 : r ≠ n3 := (a3 r _ hd2'.out).1
    have hT3n2 := (a3 n2 _ hn2'.out).2 (Ne.symm hn12)
    exact statP_files hd4'.out ((a4 n1 _ hd3'.out).2 (Ne.symm hrn1)) ((a4 n2 _ hT3n2).2 (Ne.symm hrn2)) ((a4 n3 _ hn3'.out).2 (Ne.symm hrn3)) hn4'.out
  · rw [l4.out, l3.out, l2.out, l1.out, l0.out]
    rfl
  · exact (o4.out [] B0 e3.out).trans d3b.out
  · have f3 : lookE L3 [47, 100] = some q1 := by rw [l3.out]; exact f2.out
    exact (o4.out _ q1 f3).trans ((o3.out _ q1 f2.out).trans d2q.out)
  · have f22 : lookE L2 [47, 102] = some q2 := by rw [l2.out]; rfl
    have f23 : lookE L3 [47, 102] = some q2 := by rw [l3.out]; exact f22
    exact (o4.out _ q2 f23).trans ((o3.out _ q2 f22).trans d2.out)
  · have f33 : lookE L3 [47, 100, 47, 103] = some q3 := by rw [l3.out]; rfl
    exact (o4.out _ q3 f33).trans d3.out
  · rw [h4k.out]
    rw [show isKid [] [47, 101] = true from rfl, Bool.or_true]
  · rw [h4k.out, h3k.out]
    rw [show isKid [47, 100] [47, 100, 47, 103] = true from rfl, Bool.or_true, Bool.true_or]
end Go.Proofs.YtfnaooplpofgiaaGreatDoor
