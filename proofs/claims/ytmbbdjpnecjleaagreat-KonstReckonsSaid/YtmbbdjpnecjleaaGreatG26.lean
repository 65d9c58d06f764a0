/-
 Parts: FOps K11 K12.
-/
import Derived.Test.YtmbbdjpnecjleaaGreatG17
import Derived.Test.YtmbbdjpnecjleaaGreatG19
namespace Go.Proofs.YtmbbdjpnecjleaaGreat
section
set_option maxRecDepth 100000
set_option maxHeartbeats 1000000
open Go.RowKit

theorem decL_mul (a b : Nat) : (decL (a * b)).length ≤ (decL a).length + (decL b).length := by
 refine decL_len_le ?_ (by have := decL_len_pos a; omega)
 have h1 := decL_bound a
 have h2 := decL_bound b
 rw [Nat.pow_add]
 by_cases h : b = 0
 · rw [h, Nat.mul_zero]; exact Nat.mul_pos (Nat.pow_pos (by decide)) (Nat.pow_pos (by decide))
 · exact Nat.lt_of_lt_of_le (Nat.mul_lt_mul_of_pos_right h1 (Nat.pos_of_ne_zero h)) (Nat.mul_le_mul_left _ (Nat.le_of_lt h2))
theorem decL_add {a b k : Nat} (h1 : (decL a).length ≤ k) (h2 : (decL b).length ≤ k) (hk : 0 < k) : (decL (a + b)).length ≤ k + 1 := by
 refine decL_len_le ?_ (by omega)
 have h3 := decL_bound a
 have h4 := decL_bound b
 have h5 : 10 ^ (decL a).length ≤ 10 ^ k := Nat.pow_le_pow_right (by decide) h1
 have h6 : 10 ^ (decL b).length ≤ 10 ^ k := Nat.pow_le_pow_right (by decide) h2
 rw [Nat.pow_succ]
 omega
theorem ref_mul {q : Q} {k : Bool} (a b : Q) (w : World) (l1 : (decL a.n).length ≤ 160) (l2 : (decL a.d).length ≤ 160) (l3 : (decL b.n).length ≤ 160) (l4 : (decL b.d).length ≤ 160) (hq : redQ (a.s != b.s) (a.n * b.n) (a.d * b.d) = q) (hb : overB false (a.n * b.n) (a.d * b.d) = k) :
 Calls Tryz.prog 79 #[.agg #[.bool a.s, .string (dec a.n), .string (dec a.d), .bool false], .agg #[.bool b.s, .string (dec b.n), .string (dec b.d), .bool false]] w (RetFr q k w) := by
 have L := Lib.hid (And.intro l1 (And.intro l2 (And.intro l3 l4))); clear l1 l2 l3 l4
 have HQ := Lib.hid (And.intro hq hb); clear hq hb
 obtain ⟨wa, hwa⟩ : ∃ wa, wa = ((w.alloc (.cells #[.bool a.s, .string (dec a.n), .string (dec a.d), .bool false] 37)).alloc (.cells #[.bool b.s, .string (dec b.n), .string (dec b.d), .bool false] 37)).alloc (.cells #[.bool false, .string ⟨#[]⟩, .string ⟨#[]⟩, .bool false] 37) := ⟨_, rfl⟩
 obtain ⟨hbl, CX, CY, RES⟩ := sal3 hwa
 have HW := Lib.hid hbl; clear hbl
 go_enter Tryz.func79, Tryz.ntmps79
 go_wp2_with fail
 rw [← hwa]
 clear hwa
 refine wp_region_typed 17 (TOf [VIs (.pointer (some ⟨w.heap.size, 0, none⟩)),
  VIs (.bool a.s),
  VIs (.pointer (some ⟨w.heap.size + 1, 0, none⟩)),
  VIs (.bool b.s),
  VIs (.bool (a.s != b.s)),
  VIs (.pointer (some ⟨w.heap.size, 1, none⟩)),
  VIs (.string (dec a.n)),
  VIs (.pointer (some ⟨w.heap.size + 1, 1, none⟩)),
  VIs (.string (dec b.n)),
  VIs (.string (dec (a.n * b.n))),
  VIs (.pointer (some ⟨w.heap.size, 2, none⟩)),
  VIs (.string (dec a.d)),
  VIs (.pointer (some ⟨w.heap.size + 1, 2, none⟩)),
  VIs (.string (dec b.d)),
  VIs (.string (dec (a.d * b.d))),
  VIs (.agg #[.bool (a.s != b.s), .string (dec (a.n * b.n)), .string (dec (a.d * b.d)), .bool false]),
  VIs (.agg #[.bool q.s, .string (dec q.n), .string (dec q.d), .bool k])]) (by kernel_rfl) (by kernel_rfl) (by kernel_rfl) (LiftAll.at_ (.cons (VIs.lift _) (.cons (VIs.lift _) (.cons (VIs.lift _) (.cons (VIs.lift _) (.cons (VIs.lift _) (.cons (VIs.lift _) (.cons (VIs.lift _) (.cons (VIs.lift _) (.cons (VIs.lift _) (.cons (VIs.lift _) (.cons (VIs.lift _) (.cons (VIs.lift _) (.cons (VIs.lift _) (.cons (VIs.lift _) (.cons (VIs.lift _) (.cons (VIs.lift _) (.cons (VIs.lift _) .nil)))))))))))))))))) (steps_all (steps_cons ?_ (steps_cons ?_ (steps_cons ?_ (steps_cons ?_ (steps_cons ?_ (steps_cons ?_ (steps_cons ?_ (steps_cons ?_ (steps_cons ?_ (steps_cons ?_ (steps_cons ?_ (steps_cons ?_ (steps_cons ?_ (steps_cons ?_ (steps_cons ?_ (steps_cons ?_ (steps_cons ?_ steps_zero)))))))))))))))))) ?fin
 · intro a0 w9 K9 hF hB hK hC
   have b2 := hF.base (k := 2) (by kernel_rfl) rfl
   clear hF hB hK
   go_simp
   exact hC _ _ (bR _) fun _ _ => rfl
 · intro a0 w9 K9 hF hB hK hC
   have e5 := depV hK 0 rfl rfl rfl rfl
   have x9 := (CX.out.below hB CX.out.lt).c0
   clear hF hB hK
   go_simp
   exact hC _ _ (bR _) fun _ _ => rfl
 · intro a0 w9 K9 hF hB hK hC
   have b3 := hF.base (k := 3) (by kernel_rfl) rfl
   clear hF hB hK
   go_simp
   exact hC _ _ (bR _) fun _ _ => rfl
 · intro a0 w9 K9 hF hB hK hC
   have e7 := depV hK 0 rfl rfl rfl rfl
   have x9 := (CY.out.below hB CY.out.lt).c0
   clear hF hB hK
   go_simp
   exact hC _ _ (bR _) fun _ _ => rfl
 · intro a0 w9 K9 hF hB hK hC
   have e6 := depV hK 0 rfl rfl rfl rfl
   have e8 := depV hK 1 rfl rfl rfl rfl
   have HB9 := Lib.hid hB
   clear hF hB hK
   go_simp
   exact hC _ _ (bR _) fun _ _ => rfl
 · intro a0 w9 K9 hF hB hK hC
   have b2 := hF.base (k := 2) (by kernel_rfl) rfl
   clear hF hB hK
   go_simp
   exact hC _ _ (bR _) fun _ _ => rfl
 · intro a0 w9 K9 hF hB hK hC
   have e10 := depV hK 0 rfl rfl rfl rfl
   have x9 := (CX.out.below hB CX.out.lt).c1
   clear hF hB hK
   go_simp
   exact hC _ _ (bR _) fun _ _ => rfl
 · intro a0 w9 K9 hF hB hK hC
   have b3 := hF.base (k := 3) (by kernel_rfl) rfl
   clear hF hB hK
   go_simp
   exact hC _ _ (bR _) fun _ _ => rfl
 · intro a0 w9 K9 hF hB hK hC
   have e12 := depV hK 0 rfl rfl rfl rfl
   have x9 := (CY.out.below hB CY.out.lt).c1
   clear hF hB hK
   go_simp
   exact hC _ _ (bR _) fun _ _ => rfl
 · intro a0 w9 K9 hF hB hK hC
   have e11 := depV hK 0 rfl rfl rfl rfl
   have e13 := depV hK 1 rfl rfl rfl rfl
   have HB9 := Lib.hid hB
   clear hF hB hK
   go_simp
   refine (refMul_any a.n b.n _ (by have := L.out.1; omega) (by have := L.out.2.2.1; omega)).mono ?_
   rintro e w7 ⟨rfl, hbl⟩
   exact hC _ _ hbl fun _ _ => rfl
 · intro a0 w9 K9 hF hB hK hC
   have b2 := hF.base (k := 2) (by kernel_rfl) rfl
   clear hF hB hK
   go_simp
   exact hC _ _ (bR _) fun _ _ => rfl
 · intro a0 w9 K9 hF hB hK hC
   have e15 := depV hK 0 rfl rfl rfl rfl
   have x9 := (CX.out.below hB CX.out.lt).c2
   clear hF hB hK
   go_simp
   exact hC _ _ (bR _) fun _ _ => rfl
 · intro a0 w9 K9 hF hB hK hC
   have b3 := hF.base (k := 3) (by kernel_rfl) rfl
   clear hF hB hK
   go_simp
   exact hC _ _ (bR _) fun _ _ => rfl
 · intro a0 w9 K9 hF hB hK hC
   have e17 := depV hK 0 rfl rfl rfl rfl
   have x9 := (CY.out.below hB CY.out.lt).c2
   clear hF hB hK
   go_simp
   exact hC _ _ (bR _) fun _ _ => rfl
 · intro a0 w9 K9 hF hB hK hC
   have e16 := depV hK 0 rfl rfl rfl rfl
   have e18 := depV hK 1 rfl rfl rfl rfl
   have HB9 := Lib.hid hB
   clear hF hB hK
   go_simp
   refine (refMul_any a.d b.d _ (by have := L.out.2.1; omega) (by have := L.out.2.2.2; omega)).mono ?_
   rintro e w7 ⟨rfl, hbl⟩
   exact hC _ _ hbl fun _ _ => rfl
 · intro a0 w9 K9 hF hB hK hC
   have e9 := depV hK 0 rfl rfl rfl rfl
   have e14 := depV hK 1 rfl rfl rfl rfl
   have e19 := depV hK 2 rfl rfl rfl rfl
   have HB9 := Lib.hid hB
   clear hF hB hK
   go_simp
   exact hC _ _ (bR _) fun _ _ => rfl
 · intro a0 w9 K9 hF hB hK hC
   have e20 := depV hK 0 rfl rfl rfl rfl
   have HB9 := Lib.hid hB
   clear hF hB hK
   go_simp
   refine (refRed_q (a.s != b.s) (a.n * b.n) (a.d * b.d) false _ (by have h := decL_mul a.n b.n; have := L.out.1; have := L.out.2.2.1; omega) (by have h := decL_mul a.d b.d; have := L.out.2.1; have := L.out.2.2.2; omega) HQ.out.1 HQ.out.2).mono ?_
   rintro e w7 ⟨rfl, hbl⟩
   exact hC _ _ hbl fun _ _ => rfl
 case fin =>
  intro a0 w9 hF hB hK
  have b2 := hF.base (k := 2) (by kernel_rfl) rfl
  have b3 := hF.base (k := 3) (by kernel_rfl) rfl
  have b4 := hF.base (k := 4) (by kernel_rfl) rfl
  have hsz := hF.size
  have hdf := hF.defers
  clear hF
  obtain ⟨v21, e21, z21⟩ := known hK 16 (k := 21) (by decide) rfl
  have z21 : v21 = .agg #[.bool q.s, .string (dec q.n), .string (dec q.d), .bool k] := z21
  subst z21
  clear hK
  obtain ⟨⟨l0⟩, df⟩ := a0
  have hs0 : l0.length = 22 := hsz
  clear hsz
  replace hdf : df = _ := hdf
  subst hdf
  obtain ⟨u, rfl⟩ := lits_22 hs0
  clear hs0
  have q2 : u 2 = _ := Option.some.inj b2
  clear b2
  have q3 : u 3 = _ := Option.some.inj b3
  clear b3
  have q4 : u 4 = _ := Option.some.inj b4
  clear b4
  have q21 : u 21 = _ := Option.some.inj e21
  clear e21
  rw [q2, q3, q4, q21]
  clear q2 q3 q4 q21
  have hbl := hB; clear hB
  replace CX := hmB CX hbl
  replace CY := hmB CY hbl
  replace RES := hmB RES hbl
  replace HW := hmW HW hbl; clear hbl
  simp only [List.drop_succ_cons, List.drop_zero]
  have d0 := RES.out.c0
  have f0 := RES.out.frozen 0
  have d1 := RES.out.c1
  have f1 := RES.out.frozen 1
  have d2 := RES.out.c2
  have f2 := RES.out.frozen 2
  have d3 := RES.out.c3
  have f3 := RES.out.frozen 3
  go_wp2
  exact bodyPost_ret (results_cell_row rfl _ _ (w.heap.size + 2) 37 _ (0, 0) _ rfl (RES.out.put4 _ _ _ _) Tryz.underlying37 rfl (by kernel_rfl)) rfl ⟨rfl, (bel_set4 (g := w.heap.size + 2) HW.out (by omega) _ _ _ _)⟩

theorem ref_quo {q : Q} {k : Bool} (a b : Q) (w : World) (l1 : (decL a.n).length ≤ 160) (l2 : (decL a.d).length ≤ 160) (l3 : (decL b.n).length ≤ 160) (l4 : (decL b.d).length ≤ 160) (hq : redQ (a.s != b.s) (a.n * b.d) (a.d * b.n) = q) (hb : overB false (a.n * b.d) (a.d * b.n) = k) :
 Calls Tryz.prog 127 #[.agg #[.bool a.s, .string (dec a.n), .string (dec a.d), .bool false], .agg #[.bool b.s, .string (dec b.n), .string (dec b.d), .bool false]] w (RetFr q k w) := by
 have L := Lib.hid (And.intro l1 (And.intro l2 (And.intro l3 l4))); clear l1 l2 l3 l4
 have HQ := Lib.hid (And.intro hq hb); clear hq hb
 obtain ⟨wa, hwa⟩ : ∃ wa, wa = ((w.alloc (.cells #[.bool a.s, .string (dec a.n), .string (dec a.d), .bool false] 37)).alloc (.cells #[.bool b.s, .string (dec b.n), .string (dec b.d), .bool false] 37)).alloc (.cells #[.bool false, .string ⟨#[]⟩, .string ⟨#[]⟩, .bool false] 37) := ⟨_, rfl⟩
 obtain ⟨hbl, CX, CY, RES⟩ := sal3 hwa
 have HW := Lib.hid hbl; clear hbl
 go_enter Tryz.func127, Tryz.ntmps127
 go_wp2_with fail
 rw [← hwa]
 clear hwa
 refine wp_region_typed 17 (TOf [VIs (.pointer (some ⟨w.heap.size, 0, none⟩)),
  VIs (.bool a.s),
  VIs (.pointer (some ⟨w.heap.size + 1, 0, none⟩)),
  VIs (.bool b.s),
  VIs (.bool (a.s != b.s)),
  VIs (.pointer (some ⟨w.heap.size, 1, none⟩)),
  VIs (.string (dec a.n)),
  VIs (.pointer (some ⟨w.heap.size + 1, 2, none⟩)),
  VIs (.string (dec b.d)),
  VIs (.string (dec (a.n * b.d))),
  VIs (.pointer (some ⟨w.heap.size, 2, none⟩)),
  VIs (.string (dec a.d)),
  VIs (.pointer (some ⟨w.heap.size + 1, 1, none⟩)),
  VIs (.string (dec b.n)),
  VIs (.string (dec (a.d * b.n))),
  VIs (.agg #[.bool (a.s != b.s), .string (dec (a.n * b.d)), .string (dec (a.d * b.n)), .bool false]),
  VIs (.agg #[.bool q.s, .string (dec q.n), .string (dec q.d), .bool k])]) (by kernel_rfl) (by kernel_rfl) (by kernel_rfl) (LiftAll.at_ (.cons (VIs.lift _) (.cons (VIs.lift _) (.cons (VIs.lift _) (.cons (VIs.lift _) (.cons (VIs.lift _) (.cons (VIs.lift _) (.cons (VIs.lift _) (.cons (VIs.lift _) (.cons (VIs.lift _) (.cons (VIs.lift _) (.cons (VIs.lift _) (.cons (VIs.lift _) (.cons (VIs.lift _) (.cons (VIs.lift _) (.cons (VIs.lift _) (.cons (VIs.lift _) (.cons (VIs.lift _) .nil)))))))))))))))))) (steps_all (steps_cons ?_ (steps_cons ?_ (steps_cons ?_ (steps_cons ?_ (steps_cons ?_ (steps_cons ?_ (steps_cons ?_ (steps_cons ?_ (steps_cons ?_ (steps_cons ?_ (steps_cons ?_ (steps_cons ?_ (steps_cons ?_ (steps_cons ?_ (steps_cons ?_ (steps_cons ?_ (steps_cons ?_ steps_zero)))))))))))))))))) ?fin
 · intro a0 w9 K9 hF hB hK hC
   have b2 := hF.base (k := 2) (by kernel_rfl) rfl
   clear hF hB hK
   go_simp
   exact hC _ _ (bR _) fun _ _ => rfl
 · intro a0 w9 K9 hF hB hK hC
   have e5 := depV hK 0 rfl rfl rfl rfl
   have x9 := (CX.out.below hB CX.out.lt).c0
   clear hF hB hK
   go_simp
   exact hC _ _ (bR _) fun _ _ => rfl
 · intro a0 w9 K9 hF hB hK hC
   have b3 := hF.base (k := 3) (by kernel_rfl) rfl
   clear hF hB hK
   go_simp
   exact hC _ _ (bR _) fun _ _ => rfl
 · intro a0 w9 K9 hF hB hK hC
   have e7 := depV hK 0 rfl rfl rfl rfl
   have x9 := (CY.out.below hB CY.out.lt).c0
   clear hF hB hK
   go_simp
   exact hC _ _ (bR _) fun _ _ => rfl
 · intro a0 w9 K9 hF hB hK hC
   have e6 := depV hK 0 rfl rfl rfl rfl
   have e8 := depV hK 1 rfl rfl rfl rfl
   have HB9 := Lib.hid hB
   clear hF hB hK
   go_simp
   exact hC _ _ (bR _) fun _ _ => rfl
 · intro a0 w9 K9 hF hB hK hC
   have b2 := hF.base (k := 2) (by kernel_rfl) rfl
   clear hF hB hK
   go_simp
   exact hC _ _ (bR _) fun _ _ => rfl
 · intro a0 w9 K9 hF hB hK hC
   have e10 := depV hK 0 rfl rfl rfl rfl
   have x9 := (CX.out.below hB CX.out.lt).c1
   clear hF hB hK
   go_simp
   exact hC _ _ (bR _) fun _ _ => rfl
 · intro a0 w9 K9 hF hB hK hC
   have b3 := hF.base (k := 3) (by kernel_rfl) rfl
   clear hF hB hK
   go_simp
   exact hC _ _ (bR _) fun _ _ => rfl
 · intro a0 w9 K9 hF hB hK hC
   have e12 := depV hK 0 rfl rfl rfl rfl
   have x9 := (CY.out.below hB CY.out.lt).c2
   clear hF hB hK
   go_simp
   exact hC _ _ (bR _) fun _ _ => rfl
 · intro a0 w9 K9 hF hB hK hC
   have e11 := depV hK 0 rfl rfl rfl rfl
   have e13 := depV hK 1 rfl rfl rfl rfl
   have HB9 := Lib.hid hB
   clear hF hB hK
   go_simp
   refine (refMul_any a.n b.d _ (by have := L.out.1; omega) (by have := L.out.2.2.2; omega)).mono ?_
   rintro e w7 ⟨rfl, hbl⟩
   exact hC _ _ hbl fun _ _ => rfl
 · intro a0 w9 K9 hF hB hK hC
   have b2 := hF.base (k := 2) (by kernel_rfl) rfl
   clear hF hB hK
   go_simp
   exact hC _ _ (bR _) fun _ _ => rfl
 · intro a0 w9 K9 hF hB hK hC
   have e15 := depV hK 0 rfl rfl rfl rfl
   have x9 := (CX.out.below hB CX.out.lt).c2
   clear hF hB hK
   go_simp
   exact hC _ _ (bR _) fun _ _ => rfl
 · intro a0 w9 K9 hF hB hK hC
   have b3 := hF.base (k := 3) (by kernel_rfl) rfl
   clear hF hB hK
   go_simp
   exact hC _ _ (bR _) fun _ _ => rfl
 · intro a0 w9 K9 hF hB hK hC
   have e17 := depV hK 0 rfl rfl rfl rfl
   have x9 := (CY.out.below hB CY.out.lt).c1
   clear hF hB hK
   go_simp
   exact hC _ _ (bR _) fun _ _ => rfl
 · intro a0 w9 K9 hF hB hK hC
   have e16 := depV hK 0 rfl rfl rfl rfl
   have e18 := depV hK 1 rfl rfl rfl rfl
   have HB9 := Lib.hid hB
   clear hF hB hK
   go_simp
   refine (refMul_any a.d b.n _ (by have := L.out.2.1; omega) (by have := L.out.2.2.1; omega)).mono ?_
   rintro e w7 ⟨rfl, hbl⟩
   exact hC _ _ hbl fun _ _ => rfl
 · intro a0 w9 K9 hF hB hK hC
   have e9 := depV hK 0 rfl rfl rfl rfl
   have e14 := depV hK 1 rfl rfl rfl rfl
   have e19 := depV hK 2 rfl rfl rfl rfl
   have HB9 := Lib.hid hB
   clear hF hB hK
   go_simp
   exact hC _ _ (bR _) fun _ _ => rfl
 · intro a0 w9 K9 hF hB hK hC
   have e20 := depV hK 0 rfl rfl rfl rfl
   have HB9 := Lib.hid hB
   clear hF hB hK
   go_simp
   refine (refRed_q (a.s != b.s) (a.n * b.d) (a.d * b.n) false _ (by have h := decL_mul a.n b.d; have := L.out.1; have := L.out.2.2.2; omega) (by have h := decL_mul a.d b.n; have := L.out.2.1; have := L.out.2.2.1; omega) HQ.out.1 HQ.out.2).mono ?_
   rintro e w7 ⟨rfl, hbl⟩
   exact hC _ _ hbl fun _ _ => rfl
 case fin =>
  intro a0 w9 hF hB hK
  have b2 := hF.base (k := 2) (by kernel_rfl) rfl
  have b3 := hF.base (k := 3) (by kernel_rfl) rfl
  have b4 := hF.base (k := 4) (by kernel_rfl) rfl
  have hsz := hF.size
  have hdf := hF.defers
  clear hF
  obtain ⟨v21, e21, z21⟩ := known hK 16 (k := 21) (by decide) rfl
  have z21 : v21 = .agg #[.bool q.s, .string (dec q.n), .string (dec q.d), .bool k] := z21
  subst z21
  clear hK
  obtain ⟨⟨l0⟩, df⟩ := a0
  have hs0 : l0.length = 22 := hsz
  clear hsz
  replace hdf : df = _ := hdf
  subst hdf
  obtain ⟨u, rfl⟩ := lits_22 hs0
  clear hs0
  have q2 : u 2 = _ := Option.some.inj b2
  clear b2
  have q3 : u 3 = _ := Option.some.inj b3
  clear b3
  have q4 : u 4 = _ := Option.some.inj b4
  clear b4
  have q21 : u 21 = _ := Option.some.inj e21
  clear e21
  rw [q2, q3, q4, q21]
  clear q2 q3 q4 q21
  have hbl := hB; clear hB
  replace CX := hmB CX hbl
  replace CY := hmB CY hbl
  replace RES := hmB RES hbl
  replace HW := hmW HW hbl; clear hbl
  simp only [List.drop_succ_cons, List.drop_zero]
  have d0 := RES.out.c0
  have f0 := RES.out.frozen 0
  have d1 := RES.out.c1
  have f1 := RES.out.frozen 1
  have d2 := RES.out.c2
  have f2 := RES.out.frozen 2
  have d3 := RES.out.c3
  have f3 := RES.out.frozen 3
  go_wp2
  exact bodyPost_ret (results_cell_row rfl _ _ (w.heap.size + 2) 37 _ (0, 0) _ rfl (RES.out.put4 _ _ _ _) Tryz.underlying37 rfl (by kernel_rfl)) rfl ⟨rfl, (bel_set4 (g := w.heap.size + 2) HW.out (by omega) _ _ _ _)⟩

def VNewF (B : Nat) (t : TypeId) (cs : Array Value) : World → Value → Prop := fun w v => ∃ g, v = .pointer (some ⟨g, 0, none⟩) ∧ B ≤ g ∧ Blk w g t cs
theorem VNewF.lift (B : Nat) (t : TypeId) (cs : Array Value) : LiftP (VNewF B t cs) := fun _ _ _ ⟨g, h, h2, hb⟩ hbl => ⟨g, h, h2, hb.below hbl hb.lt⟩
end
end Go.Proofs.YtmbbdjpnecjleaaGreat
namespace Go.Proofs.YtmbbdjpnecjleaaGreat
section
set_option maxRecDepth 100000
set_option maxHeartbeats 1000000
open Go.RowKit

theorem rBits_is {n : Nat} (t : Int) (w : World) (h0 : 0 ≤ t) (hn : bitsN t = n) : Calls Tryz.prog 112 #[.int .i64 t] w (fun e w' => e = .returned (.int .i64 (n : Int)) ∧ Below w.heap.size w w') := by
 by_cases h : 11 < t
 · have hz : n = 0 := by
    rw [← hn]
    unfold bitsN
    repeat rw [if_neg (by omega)]
   subst hz
   clear hn
   go_enter Tryz.func112, Tryz.ntmps112
   go_wp2
   go_ret
   exact ⟨rfl, bel_refl _⟩
 · have hc : t = 0 ∨ t = 1 ∨ t = 2 ∨ t = 3 ∨ t = 4 ∨ t = 5 ∨ t = 6 ∨ t = 7 ∨ t = 8 ∨ t = 9 ∨ t = 10 ∨ t = 11 := by omega
   rcases hc with rfl | rfl | rfl | rfl | rfl | rfl | rfl | rfl | rfl | rfl | rfl | rfl
   all_goals
    obtain rfl := hn.symm
    clear hn h h0
    go_enter Tryz.func112, Tryz.ntmps112
    go_wp2
    go_ret
    exact ⟨rfl, bel_alloc (bel_refl _) _⟩
theorem rLess_is {q : Q} {k : Bool} (a b : Q) (w : World) (hC : ∀ W, Calls Tryz.prog 77 #[.agg #[.bool a.s, .string (dec a.n), .string (dec a.d), .bool false], .agg #[.bool (!b.s), .string (dec b.n), .string (dec b.d), .bool false]] W (RetFr q k W)) :
 Calls Tryz.prog 78 #[.agg #[.bool a.s, .string (dec a.n), .string (dec a.d), .bool false], .agg #[.bool b.s, .string (dec b.n), .string (dec b.d), .bool false]] w (RetFr q k w) := by
 have HC := Lib.hid hC; clear hC
 obtain ⟨wa, hwa⟩ : ∃ wa, wa = ((w.alloc (.cells #[.bool a.s, .string (dec a.n), .string (dec a.d), .bool false] 37)).alloc (.cells #[.bool b.s, .string (dec b.n), .string (dec b.d), .bool false] 37)).alloc (.cells #[.bool false, .string ⟨#[]⟩, .string ⟨#[]⟩, .bool false] 37) := ⟨_, rfl⟩
 obtain ⟨hbl, CX, CY, RES⟩ := kal3 hwa
 have HW := Lib.hid hbl; clear hbl
 replace CX := Lib.hid CX
 replace CY := Lib.hid CY
 replace RES := Lib.hid RES
 go_enter Tryz.func78, Tryz.ntmps78
 go_wp2_with fail
 rw [← hwa]
 clear hwa
 obtain ⟨CX0, CX1, CX2, CX3⟩ := CX.out.cs4
 obtain ⟨CY0, CY1, CY2, CY3⟩ := CY.out.cs4
 refine wp_region_typed 4 (TOf [VIs (.agg #[.bool a.s, .string (dec a.n), .string (dec a.d), .bool false]),
  VIs (.agg #[.bool b.s, .string (dec b.n), .string (dec b.d), .bool false]),
  VIs (.agg #[.bool (!b.s), .string (dec b.n), .string (dec b.d), .bool false]),
  VIs (.agg #[.bool q.s, .string (dec q.n), .string (dec q.d), .bool k])]) (by kernel_rfl) (by kernel_rfl) (by kernel_rfl) (LiftAll.at_ (.cons (VIs.lift _) (.cons (VIs.lift _) (.cons (VIs.lift _) (.cons (VIs.lift _) .nil))))) (steps_all (steps_cons ?_ (steps_cons ?_ (steps_cons ?_ (steps_cons ?_ steps_zero))))) ?fin
 · intro a0 w9 K9 hF hB hK hC
   have b2 := hF.base (k := 2) (by kernel_rfl) rfl
   have x90 := (CX.out.below hB CX.out.lt).c0
   have x91 := (CX.out.below hB CX.out.lt).c1
   have x92 := (CX.out.below hB CX.out.lt).c2
   have x93 := (CX.out.below hB CX.out.lt).c3
   clear hF hB hK
   go_simp
   exact hC _ _ (bR _) fun _ _ => rfl
 · intro a0 w9 K9 hF hB hK hC
   have b3 := hF.base (k := 3) (by kernel_rfl) rfl
   have x90 := (CY.out.below hB CY.out.lt).c0
   have x91 := (CY.out.below hB CY.out.lt).c1
   have x92 := (CY.out.below hB CY.out.lt).c2
   have x93 := (CY.out.below hB CY.out.lt).c3
   clear hF hB hK
   go_simp
   exact hC _ _ (bR _) fun _ _ => rfl
 · intro a0 w9 K9 hF hB hK hC
   have e6 := depV hK 0 rfl rfl rfl rfl
   have HB9 := Lib.hid hB
   clear hF hB hK
   go_simp
   refine (refLess_any b.s b.n b.d false _).mono ?_
   rintro e w7 ⟨rfl, hbl⟩
   exact hC _ _ hbl fun _ _ => rfl
 · intro a0 w9 K9 hF hB hK hC
   have e5 := depV hK 0 rfl rfl rfl rfl
   have e7 := depV hK 1 rfl rfl rfl rfl
   have HB9 := Lib.hid hB
   clear hF hB hK
   go_simp
   refine (HC.out _).mono ?_
   rintro e w7 ⟨rfl, hbl⟩
   exact hC _ _ hbl fun _ _ => rfl
 case fin =>
  intro a0 w9 hF hB hK
  have b2 := hF.base (k := 2) (by kernel_rfl) rfl
  have b3 := hF.base (k := 3) (by kernel_rfl) rfl
  have b4 := hF.base (k := 4) (by kernel_rfl) rfl
  have hsz := hF.size
  have hdf := hF.defers
  clear hF
  obtain ⟨v8, e8, z8⟩ := known hK 3 (k := 8) (by decide) rfl
  have z8 : v8 = .agg #[.bool q.s, .string (dec q.n), .string (dec q.d), .bool k] := z8
  subst z8
  clear hK
  obtain ⟨⟨l0⟩, df⟩ := a0
  have hs0 : l0.length = 9 := hsz
  clear hsz
  replace hdf : df = _ := hdf
  subst hdf
  obtain ⟨u, rfl⟩ := lits_9 hs0
  clear hs0
  generalize hAr : (Array.mk [u 0, u 1, u 2, u 3, u 4, u 5, u 6, u 7, u 8] : Array Value) = ar
  obtain rfl : ar = #[u 0, u 1, u 2, u 3, u 4, u 5, u 6, u 7, u 8] := hAr.symm
  have q2 : u 2 = _ := Option.some.inj b2
  clear b2
  have q3 : u 3 = _ := Option.some.inj b3
  clear b3
  have q4 : u 4 = _ := Option.some.inj b4
  clear b4
  have q8 : u 8 = _ := Option.some.inj e8
  clear e8
  rw [q2, q3, q4, q8]
  clear q2 q3 q4 q8
  have hbl := hB; clear hB
  replace CX := hmB CX hbl
  replace CY := hmB CY hbl
  replace RES := hmB RES hbl
  replace HW := hmW HW hbl; clear hbl
  clear CX0 CX1 CX2 CX3 CY0 CY1 CY2 CY3
  obtain ⟨CX0, CX1, CX2, CX3⟩ := CX.out.cs4
  obtain ⟨CY0, CY1, CY2, CY3⟩ := CY.out.cs4
  simp only [List.drop_succ_cons, List.drop_zero]
  obtain ⟨d0, d1, d2, d3⟩ := RES.out.cs4
  obtain ⟨f0, f1, f2, f3⟩ := RES.out.fz4
  go_wp2
  exact bodyPost_ret (results_cell_row rfl _ _ (w.heap.size + 2) 37 _ (0, 0) _ rfl (RES.out.put4 _ _ _ _) Tryz.underlying37 rfl (by kernel_rfl)) rfl ⟨rfl, (bel_set4 (g := w.heap.size + 2) HW.out (by omega) _ _ _ _)⟩
theorem dec_one15 : dec 1 = ⟨#[49]⟩ := by decide +kernel
theorem over_fit {n : Nat} (h : n < Top) : overB false n 1 = false := by
 unfold overB
 rw [decide_eq_false (by omega), decide_eq_false (by decide +kernel)]
 rfl
theorem refDiv_agg (a b : Nat) (w : World) (hl : (decL a).length ≤ 1000) (hl' : (decL b).length ≤ 1000) (hb0 : b ≠ 0) : Calls Tryz.prog 109 #[.string (dec a), .string (dec b)] w (fun e w' => e = .returned (.agg #[.string (dec (a / b)), .string (dec (a % b))]) ∧ Below w.heap.size w w') := refDiv_any a b w hl hl' hb0
theorem rTrunc_is {r : Q} (q : Q) (w : World) (hn : q.n < Top) (hd : q.d < Top) (h0 : q.d ≠ 0) (hr : redQ q.s (q.n / q.d) 1 = r) :
 Calls Tryz.prog 128 #[.agg #[.bool q.s, .string (dec q.n), .string (dec q.d), .bool false]] w (RetFr r false w) := by
 have HL := Lib.hid (And.intro hn (And.intro hd (And.intro h0 hr))); clear hn hd h0 hr
 obtain ⟨wa, hwa⟩ : ∃ wa, wa = (w.alloc (.cells #[.bool q.s, .string (dec q.n), .string (dec q.d), .bool false] 37)).alloc (.cells #[.bool false, .string ⟨#[]⟩, .string ⟨#[]⟩, .bool false] 37) := ⟨_, rfl⟩
 obtain ⟨hbl, CX, RES⟩ := kal2 hwa
 have HW := Lib.hid hbl; clear hbl
 replace CX := Lib.hid CX
 replace RES := Lib.hid RES
 go_enter Tryz.func128, Tryz.ntmps128
 go_wp2_with fail
 rw [← hwa]
 clear hwa
 obtain ⟨CX0, CX1, CX2, CX3⟩ := CX.out.cs4
 refine wp_region_typed 12 (TOf [VIs (.pointer (some ⟨w.heap.size, 0, none⟩)),
  VIs (.bool q.s),
  VIs (.pointer (some ⟨w.heap.size, 1, none⟩)),
  VIs (.string (dec q.n)),
  VIs (.pointer (some ⟨w.heap.size, 2, none⟩)),
  VIs (.string (dec q.d)),
  VIs (.agg #[.string (dec (q.n / q.d)), .string (dec (q.n % q.d))]),
  VIs (.string (dec (q.n / q.d))),
  VIs (.pointer (some ⟨w.heap.size, 3, none⟩)),
  VIs (.bool false),
  VIs (.agg #[.bool q.s, .string (dec (q.n / q.d)), .string (dec 1), .bool false]),
  VIs (.agg #[.bool r.s, .string (dec r.n), .string (dec r.d), .bool false])]) (by kernel_rfl) (by kernel_rfl) (by kernel_rfl) (LiftAll.at_ (.cons (VIs.lift _) (.cons (VIs.lift _) (.cons (VIs.lift _) (.cons (VIs.lift _) (.cons (VIs.lift _) (.cons (VIs.lift _) (.cons (VIs.lift _) (.cons (VIs.lift _) (.cons (VIs.lift _) (.cons (VIs.lift _) (.cons (VIs.lift _) (.cons (VIs.lift _) .nil))))))))))))) (steps_all (steps_cons ?_ (steps_cons ?_ (steps_cons ?_ (steps_cons ?_ (steps_cons ?_ (steps_cons ?_ (steps_cons ?_ (steps_cons ?_ (steps_cons ?_ (steps_cons ?_ (steps_cons ?_ (steps_cons ?_ steps_zero))))))))))))) ?fin
 · intro a0 w9 K9 hF hB hK hC
   have b1 := hF.base (k := 1) (by kernel_rfl) rfl
   clear hF hB hK
   go_simp
   exact hC _ _ (bR _) fun _ _ => rfl
 · intro a0 w9 K9 hF hB hK hC
   have e3 := depV hK 0 rfl rfl rfl rfl
   have x9 := (CX.out.below hB CX.out.lt).c0
   clear hF hB hK
   go_simp
   exact hC _ _ (bR _) fun _ _ => rfl
 · intro a0 w9 K9 hF hB hK hC
   have b1 := hF.base (k := 1) (by kernel_rfl) rfl
   clear hF hB hK
   go_simp
   exact hC _ _ (bR _) fun _ _ => rfl
 · intro a0 w9 K9 hF hB hK hC
   have e5 := depV hK 0 rfl rfl rfl rfl
   have x9 := (CX.out.below hB CX.out.lt).c1
   clear hF hB hK
   go_simp
   exact hC _ _ (bR _) fun _ _ => rfl
 · intro a0 w9 K9 hF hB hK hC
   have b1 := hF.base (k := 1) (by kernel_rfl) rfl
   clear hF hB hK
   go_simp
   exact hC _ _ (bR _) fun _ _ => rfl
 · intro a0 w9 K9 hF hB hK hC
   have e7 := depV hK 0 rfl rfl rfl rfl
   have x9 := (CX.out.below hB CX.out.lt).c2
   clear hF hB hK
   go_simp
   exact hC _ _ (bR _) fun _ _ => rfl
 · intro a0 w9 K9 hF hB hK hC
   have e6 := depV hK 0 rfl rfl rfl rfl
   have e8 := depV hK 1 rfl rfl rfl rfl
   have HB9 := Lib.hid hB
   clear hF hB hK
   go_simp
   refine (refDiv_agg q.n q.d _ (by have := decL_top HL.out.1; omega) (by have := decL_top HL.out.2.1; omega) HL.out.2.2.1).mono ?_
   rintro e w7 ⟨rfl, hbl⟩
   exact hC _ _ hbl fun _ _ => rfl
 · intro a0 w9 K9 hF hB hK hC
   have e9 := depV hK 0 rfl rfl rfl rfl
   have HB9 := Lib.hid hB
   clear hF hB hK
   go_simp
   exact hC _ _ (bR _) fun _ _ => rfl
 · intro a0 w9 K9 hF hB hK hC
   have b1 := hF.base (k := 1) (by kernel_rfl) rfl
   clear hF hB hK
   go_simp
   exact hC _ _ (bR _) fun _ _ => rfl
 · intro a0 w9 K9 hF hB hK hC
   have e11 := depV hK 0 rfl rfl rfl rfl
   have x9 := (CX.out.below hB CX.out.lt).c3
   clear hF hB hK
   go_simp
   exact hC _ _ (bR _) fun _ _ => rfl
 · intro a0 w9 K9 hF hB hK hC
   have e4 := depV hK 0 rfl rfl rfl rfl
   have e10 := depV hK 1 rfl rfl rfl rfl
   have e12 := depV hK 2 rfl rfl rfl rfl
   have HB9 := Lib.hid hB
   clear hF hB hK
   have h19 := dec_one15
   go_simp
   exact hC _ _ (bR _) fun _ _ => rfl
 · intro a0 w9 K9 hF hB hK hC
   have e13 := depV hK 0 rfl rfl rfl rfl
   have HB9 := Lib.hid hB
   clear hF hB hK
   go_simp
   refine (refRed_q q.s (q.n / q.d) 1 false _ (by have := decL_top (lt_top (Nat.div_le_self q.n q.d) HL.out.1); omega) (by decide) HL.out.2.2.2 (over_fit (lt_top (Nat.div_le_self q.n q.d) HL.out.1))).mono ?_
   rintro e w7 ⟨rfl, hbl⟩
   exact hC _ _ hbl fun _ _ => rfl
 case fin =>
  intro a0 w9 hF hB hK
  have b1 := hF.base (k := 1) (by kernel_rfl) rfl
  have b2 := hF.base (k := 2) (by kernel_rfl) rfl
  have hsz := hF.size
  have hdf := hF.defers
  clear hF
  obtain ⟨v14, e14, z14⟩ := known hK 11 (k := 14) (by decide) rfl
  have z14 : v14 = .agg #[.bool r.s, .string (dec r.n), .string (dec r.d), .bool false] := z14
  subst z14
  clear hK
  obtain ⟨⟨l0⟩, df⟩ := a0
  have hs0 : l0.length = 15 := hsz
  clear hsz
  replace hdf : df = _ := hdf
  subst hdf
  obtain ⟨u, rfl⟩ := lits_15 hs0
  clear hs0
  generalize hAr : (Array.mk [u 0, u 1, u 2, u 3, u 4, u 5, u 6, u 7, u 8, u 9, u 10, u 11, u 12, u 13, u 14] : Array Value) = ar
  obtain rfl : ar = #[u 0, u 1, u 2, u 3, u 4, u 5, u 6, u 7, u 8, u 9, u 10, u 11, u 12, u 13, u 14] := hAr.symm
  have q1 : u 1 = _ := Option.some.inj b1
  clear b1
  have q2 : u 2 = _ := Option.some.inj b2
  clear b2
  have q14 : u 14 = _ := Option.some.inj e14
  clear e14
  rw [q1, q2, q14]
  clear q1 q2 q14
  have hbl := hB; clear hB
  replace CX := hmB CX hbl
  replace RES := hmB RES hbl
  replace HW := hmW HW hbl; clear hbl
  clear CX0 CX1 CX2 CX3
  obtain ⟨CX0, CX1, CX2, CX3⟩ := CX.out.cs4
  simp only [List.drop_succ_cons, List.drop_zero]
  obtain ⟨d0, d1, d2, d3⟩ := RES.out.cs4
  obtain ⟨f0, f1, f2, f3⟩ := RES.out.fz4
  go_wp2
  exact bodyPost_ret (results_cell_row rfl _ _ (w.heap.size + 1) 37 _ (0, 0) _ rfl (RES.out.put4 _ _ _ _) Tryz.underlying37 rfl (by kernel_rfl)) rfl ⟨rfl, (bel_set4 (g := w.heap.size + 1) HW.out (by omega) _ _ _ _)⟩
end
end Go.Proofs.YtmbbdjpnecjleaaGreat
namespace Go.Proofs.YtmbbdjpnecjleaaGreat
section
set_option maxRecDepth 100000
set_option maxHeartbeats 1000000
open Go.RowKit

theorem rQuo_free {f : Q} {k : Bool} (a b : Q) (t : Int) (w : World) (hQ : ∀ W, Calls Tryz.prog 127 #[.agg #[.bool a.s, .string (dec a.n), .string (dec a.d), .bool false], .agg #[.bool b.s, .string (dec b.n), .string (dec b.d), .bool false]] W (RetFr f k W)) (hw : wholeB t = false) :
 Calls Tryz.prog 80 #[.agg #[.bool a.s, .string (dec a.n), .string (dec a.d), .bool false], .agg #[.bool b.s, .string (dec b.n), .string (dec b.d), .bool false], .int .i64 t] w (RetFr f k w) := by
 have HQ := Lib.hid hQ; clear hQ
 have KW := Lib.hid (fun W => rWhole_is t W hw); clear hw
 obtain ⟨wa, hwa⟩ : ∃ wa, wa = ((w.alloc (.cells #[.bool a.s, .string (dec a.n), .string (dec a.d), .bool false] 37)).alloc (.cells #[.bool b.s, .string (dec b.n), .string (dec b.d), .bool false] 37)).alloc (.cells #[.bool false, .string ⟨#[]⟩, .string ⟨#[]⟩, .bool false] 37) := ⟨_, rfl⟩
 obtain ⟨hbl, CX, CY, RES⟩ := kal3 hwa
 have HW := Lib.hid hbl; clear hbl
 replace CX := Lib.hid CX
 replace CY := Lib.hid CY
 replace RES := Lib.hid RES
 go_enter Tryz.func80, Tryz.ntmps80
 go_wp2_with fail
 rw [← hwa]
 clear hwa
 obtain ⟨CX0, CX1, CX2, CX3⟩ := CX.out.cs4
 obtain ⟨CY0, CY1, CY2, CY3⟩ := CY.out.cs4
 refine (HQ.out _).mono ?_
 rintro e w1 ⟨rfl, hbl⟩
 replace CX := hmB CX hbl
 replace CY := hmB CY hbl
 replace RES := hmB RES hbl
 replace HW := hmW HW hbl; clear hbl
 clear CX0 CX1 CX2 CX3 CY0 CY1 CY2 CY3
 obtain ⟨CX0, CX1, CX2, CX3⟩ := CX.out.cs4
 obtain ⟨CY0, CY1, CY2, CY3⟩ := CY.out.cs4
 obtain ⟨w3, hw3⟩ : ∃ w3, w3 = w1.alloc (.cells #[.bool f.s, .string (dec f.n), .string (dec f.d), .bool k] 37) := ⟨_, rfl⟩
 have hbl : Below w1.heap.size w1 w3 := by rw [hw3]; exact bel_alloc (bel_refl _) _
 have CF : Blk w3 w1.heap.size 37 #[.bool f.s, .string (dec f.n), .string (dec f.d), .bool k] := by rw [hw3]; exact Blk.new _ _ _
 replace CF := Lib.hid CF
 go_upto_region 2 with fail
 rw [← hw3]
 clear hw3
 replace CX := hmB CX hbl
 replace CY := hmB CY hbl
 replace RES := hmB RES hbl
 replace HW := hmW HW hbl; clear hbl
 clear CX0 CX1 CX2 CX3 CY0 CY1 CY2 CY3
 obtain ⟨CX0, CX1, CX2, CX3⟩ := CX.out.cs4
 obtain ⟨CY0, CY1, CY2, CY3⟩ := CY.out.cs4
 clear CX0 CX1 CX2 CX3 CY0 CY1 CY2 CY3
 obtain ⟨CX0, CX1, CX2, CX3⟩ := CX.out.cs4
 obtain ⟨CY0, CY1, CY2, CY3⟩ := CY.out.cs4
 obtain ⟨CF0, CF1, CF2, CF3⟩ := CF.out.cs4
 go_wp2_with fail
 refine (KW.out _).mono ?_
 rintro e wv ⟨rfl, hwv⟩
 obtain rfl := hwv.symm
 clear hwv
 obtain ⟨d0, d1, d2, d3⟩ := RES.out.cs4
 obtain ⟨f0, f1, f2, f3⟩ := RES.out.fz4
 go_wp2
 exact bodyPost_ret (results_cell_row rfl _ _ (w.heap.size + 2) 37 _ (0, 0) _ rfl (RES.out.put4 _ _ _ _) Tryz.underlying37 rfl (by kernel_rfl)) rfl ⟨rfl, (bel_set4 (g := w.heap.size + 2) HW.out (by omega) _ _ _ _)⟩
theorem rQuo_bad {f : Q} (a b : Q) (t : Int) (w : World) (hQ : ∀ W, Calls Tryz.prog 127 #[.agg #[.bool a.s, .string (dec a.n), .string (dec a.d), .bool false], .agg #[.bool b.s, .string (dec b.n), .string (dec b.d), .bool false]] W (RetFr f true W)) (hw : wholeB t = true) :
 Calls Tryz.prog 80 #[.agg #[.bool a.s, .string (dec a.n), .string (dec a.d), .bool false], .agg #[.bool b.s, .string (dec b.n), .string (dec b.d), .bool false], .int .i64 t] w (RetFr f true w) := by
 have HQ := Lib.hid hQ; clear hQ
 have KW := Lib.hid (fun W => rWhole_is t W hw); clear hw
 obtain ⟨wa, hwa⟩ : ∃ wa, wa = ((w.alloc (.cells #[.bool a.s, .string (dec a.n), .string (dec a.d), .bool false] 37)).alloc (.cells #[.bool b.s, .string (dec b.n), .string (dec b.d), .bool false] 37)).alloc (.cells #[.bool false, .string ⟨#[]⟩, .string ⟨#[]⟩, .bool false] 37) := ⟨_, rfl⟩
 obtain ⟨hbl, CX, CY, RES⟩ := kal3 hwa
 have HW := Lib.hid hbl; clear hbl
 replace CX := Lib.hid CX
 replace CY := Lib.hid CY
 replace RES := Lib.hid RES
 go_enter Tryz.func80, Tryz.ntmps80
 go_wp2_with fail
 rw [← hwa]
 clear hwa
 obtain ⟨CX0, CX1, CX2, CX3⟩ := CX.out.cs4
 obtain ⟨CY0, CY1, CY2, CY3⟩ := CY.out.cs4
 refine (HQ.out _).mono ?_
 rintro e w1 ⟨rfl, hbl⟩
 replace CX := hmB CX hbl
 replace CY := hmB CY hbl
 replace RES := hmB RES hbl
 replace HW := hmW HW hbl; clear hbl
 clear CX0 CX1 CX2 CX3 CY0 CY1 CY2 CY3
 obtain ⟨CX0, CX1, CX2, CX3⟩ := CX.out.cs4
 obtain ⟨CY0, CY1, CY2, CY3⟩ := CY.out.cs4
 obtain ⟨w3, hw3⟩ : ∃ w3, w3 = w1.alloc (.cells #[.bool f.s, .string (dec f.n), .string (dec f.d), .bool true] 37) := ⟨_, rfl⟩
 have hbl : Below w1.heap.size w1 w3 := by rw [hw3]; exact bel_alloc (bel_refl _) _
 have CF : Blk w3 w1.heap.size 37 #[.bool f.s, .string (dec f.n), .string (dec f.d), .bool true] := by rw [hw3]; exact Blk.new _ _ _
 replace CF := Lib.hid CF
 go_upto_region 2 with fail
 rw [← hw3]
 clear hw3
 replace CX := hmB CX hbl
 replace CY := hmB CY hbl
 replace RES := hmB RES hbl
 replace HW := hmW HW hbl; clear hbl
 clear CX0 CX1 CX2 CX3 CY0 CY1 CY2 CY3
 obtain ⟨CX0, CX1, CX2, CX3⟩ := CX.out.cs4
 obtain ⟨CY0, CY1, CY2, CY3⟩ := CY.out.cs4
 clear CX0 CX1 CX2 CX3 CY0 CY1 CY2 CY3
 obtain ⟨CX0, CX1, CX2, CX3⟩ := CX.out.cs4
 obtain ⟨CY0, CY1, CY2, CY3⟩ := CY.out.cs4
 obtain ⟨CF0, CF1, CF2, CF3⟩ := CF.out.cs4
 go_wp2_with fail
 refine (KW.out _).mono ?_
 rintro e wv ⟨rfl, hwv⟩
 obtain rfl := hwv.symm
 clear hwv
 obtain ⟨d0, d1, d2, d3⟩ := RES.out.cs4
 obtain ⟨f0, f1, f2, f3⟩ := RES.out.fz4
 go_wp2
 exact bodyPost_ret (results_cell_row rfl _ _ (w.heap.size + 2) 37 _ (0, 0) _ rfl (RES.out.put4 _ _ _ _) Tryz.underlying37 rfl (by kernel_rfl)) rfl ⟨rfl, (bel_set4 (g := w.heap.size + 2) HW.out (by omega) _ _ _ _)⟩
theorem rQuo_whole {f r : Q} (a b : Q) (t : Int) (w : World) (hQ : ∀ W, Calls Tryz.prog 127 #[.agg #[.bool a.s, .string (dec a.n), .string (dec a.d), .bool false], .agg #[.bool b.s, .string (dec b.n), .string (dec b.d), .bool false]] W (RetFr f false W)) (hw : wholeB t = true) (hn : f.n < Top) (hd : f.d < Top) (h0 : f.d ≠ 0) (hr : redQ f.s (f.n / f.d) 1 = r) :
 Calls Tryz.prog 80 #[.agg #[.bool a.s, .string (dec a.n), .string (dec a.d), .bool false], .agg #[.bool b.s, .string (dec b.n), .string (dec b.d), .bool false], .int .i64 t] w (RetFr r false w) := by
 have HQ := Lib.hid hQ; clear hQ
 have KW := Lib.hid (fun W => rWhole_is t W hw); clear hw
 have HL := Lib.hid (And.intro hn (And.intro hd (And.intro h0 hr))); clear hn hd h0 hr
 obtain ⟨wa, hwa⟩ : ∃ wa, wa = ((w.alloc (.cells #[.bool a.s, .string (dec a.n), .string (dec a.d), .bool false] 37)).alloc (.cells #[.bool b.s, .string (dec b.n), .string (dec b.d), .bool false] 37)).alloc (.cells #[.bool false, .string ⟨#[]⟩, .string ⟨#[]⟩, .bool false] 37) := ⟨_, rfl⟩
 obtain ⟨hbl, CX, CY, RES⟩ := kal3 hwa
 have HW := Lib.hid hbl; clear hbl
 replace CX := Lib.hid CX
 replace CY := Lib.hid CY
 replace RES := Lib.hid RES
 go_enter Tryz.func80, Tryz.ntmps80
 go_wp2_with fail
 rw [← hwa]
 clear hwa
 obtain ⟨CX0, CX1, CX2, CX3⟩ := CX.out.cs4
 obtain ⟨CY0, CY1, CY2, CY3⟩ := CY.out.cs4
 refine (HQ.out _).mono ?_
 rintro e w1 ⟨rfl, hbl⟩
 replace CX := hmB CX hbl
 replace CY := hmB CY hbl
 replace RES := hmB RES hbl
 replace HW := hmW HW hbl; clear hbl
 clear CX0 CX1 CX2 CX3 CY0 CY1 CY2 CY3
 obtain ⟨CX0, CX1, CX2, CX3⟩ := CX.out.cs4
 obtain ⟨CY0, CY1, CY2, CY3⟩ := CY.out.cs4
 obtain ⟨w3, hw3⟩ : ∃ w3, w3 = w1.alloc (.cells #[.bool f.s, .string (dec f.n), .string (dec f.d), .bool false] 37) := ⟨_, rfl⟩
 have hbl : Below w1.heap.size w1 w3 := by rw [hw3]; exact bel_alloc (bel_refl _) _
 have CF : Blk w3 w1.heap.size 37 #[.bool f.s, .string (dec f.n), .string (dec f.d), .bool false] := by rw [hw3]; exact Blk.new _ _ _
 replace CF := Lib.hid CF
 go_upto_region 2 with fail
 rw [← hw3]
 clear hw3
 replace CX := hmB CX hbl
 replace CY := hmB CY hbl
 replace RES := hmB RES hbl
 replace HW := hmW HW hbl; clear hbl
 clear CX0 CX1 CX2 CX3 CY0 CY1 CY2 CY3
 obtain ⟨CX0, CX1, CX2, CX3⟩ := CX.out.cs4
 obtain ⟨CY0, CY1, CY2, CY3⟩ := CY.out.cs4
 clear CX0 CX1 CX2 CX3 CY0 CY1 CY2 CY3
 obtain ⟨CX0, CX1, CX2, CX3⟩ := CX.out.cs4
 obtain ⟨CY0, CY1, CY2, CY3⟩ := CY.out.cs4
 obtain ⟨CF0, CF1, CF2, CF3⟩ := CF.out.cs4
 go_wp2_with fail
 refine (KW.out _).mono ?_
 rintro e wv ⟨rfl, hwv⟩
 obtain rfl := hwv.symm
 clear hwv
 go_wp2_with fail
 refine (rTrunc_is f _ HL.out.1 HL.out.2.1 HL.out.2.2.1 HL.out.2.2.2).mono ?_
 rintro e w2 ⟨rfl, hbl⟩
 replace CX := hmB CX hbl
 replace CY := hmB CY hbl
 replace RES := hmB RES hbl
 replace CF := hmB CF hbl
 replace HW := hmW HW hbl; clear hbl
 clear CX0 CX1 CX2 CX3 CY0 CY1 CY2 CY3 CF0 CF1 CF2 CF3
 obtain ⟨CX0, CX1, CX2, CX3⟩ := CX.out.cs4
 obtain ⟨CY0, CY1, CY2, CY3⟩ := CY.out.cs4
 obtain ⟨CF0, CF1, CF2, CF3⟩ := CF.out.cs4
 obtain ⟨d0, d1, d2, d3⟩ := RES.out.cs4
 obtain ⟨f0, f1, f2, f3⟩ := RES.out.fz4
 go_wp2
 exact bodyPost_ret (results_cell_row rfl _ _ (w.heap.size + 2) 37 _ (0, 0) _ rfl (RES.out.put4 _ _ _ _) Tryz.underlying37 rfl (by kernel_rfl)) rfl ⟨rfl, (bel_set4 (g := w.heap.size + 2) HW.out (by omega) _ _ _ _)⟩
end
end Go.Proofs.YtmbbdjpnecjleaaGreat
