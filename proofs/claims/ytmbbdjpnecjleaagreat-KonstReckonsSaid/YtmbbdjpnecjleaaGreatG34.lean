/-
 Parts: KAdd.
-/
import Derived.Test.YtmbbdjpnecjleaaGreatG19
import Derived.Test.YtmbbdjpnecjleaaGreatG26
namespace Go.Proofs.YtmbbdjpnecjleaaGreat
section
set_option maxRecDepth 100000
set_option maxHeartbeats 1000000
open Go.RowKit

set_option maxHeartbeats 8000000 in
theorem ref_add15 {q : Q} {k : Bool} (a b : Q) (w : World) (l1 : (decL a.n).length ≤ 160) (l2 : (decL a.d).length ≤ 160) (l3 : (decL b.n).length ≤ 160) (l4 : (decL b.d).length ≤ 160) (hq : addQ a b = q) (hk : (decide (Top ≤ a.n * b.d + b.n * a.d) || decide (Top ≤ a.d * b.d)) = k) :
 Calls Tryz.prog 77 #[.agg #[.bool a.s, .string (dec a.n), .string (dec a.d), .bool false], .agg #[.bool b.s, .string (dec b.n), .string (dec b.d), .bool false]] w (RetFr q k w) := by
 have L := Lib.hid (And.intro l1 (And.intro l2 (And.intro l3 l4))); clear l1 l2 l3 l4
 have M1 := decL_mul a.n b.d
 have M2 := decL_mul b.n a.d
 have M3 := decL_mul a.d b.d
 have M4 := L.out
 have M := Lib.hid (show (decL (a.n * b.d)).length ≤ 320 ∧ (decL (b.n * a.d)).length ≤ 320 ∧ (decL (a.d * b.d)).length ≤ 320 by omega); clear M1 M2 M3 M4
 have MA := Lib.hid (decL_add M.out.1 M.out.2.1 (by decide))
 obtain ⟨x, hx⟩ : ∃ x, x = (a.n * b.d) := ⟨_, rfl⟩
 obtain ⟨y, hy⟩ : ∃ y, y = (b.n * a.d) := ⟨_, rfl⟩
 obtain ⟨z, hz⟩ : ∃ z, z = (a.d * b.d) := ⟨_, rfl⟩
 unfold addQ sumQ at hq
 rw [← hx, ← hy, ← hz] at M
 rw [← hx, ← hy] at MA
 rw [← hx, ← hy, ← hz] at hq
 rw [← hx, ← hy, ← hz] at hk
 have HZ := Lib.hid (And.intro hx (And.intro hy hz)); clear hx hy hz
 have HQ := Lib.hid hq; clear hq
 have HK := Lib.hid hk; clear hk
 obtain ⟨wa, hwa⟩ : ∃ wa, wa = ((w.alloc (.cells #[.bool a.s, .string (dec a.n), .string (dec a.d), .bool false] 37)).alloc (.cells #[.bool b.s, .string (dec b.n), .string (dec b.d), .bool false] 37)).alloc (.cells #[.bool false, .string ⟨#[]⟩, .string ⟨#[]⟩, .bool false] 37) := ⟨_, rfl⟩
 obtain ⟨hbl, CX, CY, RES⟩ := kal3 hwa
 have HW := Lib.hid hbl; clear hbl
 replace CX := Lib.hid CX
 replace CY := Lib.hid CY
 replace RES := Lib.hid RES
 go_enter Tryz.func77, Tryz.ntmps77
 go_wp2_with fail
 rw [← hwa]
 clear hwa
 obtain ⟨CX0, CX1, CX2, -⟩ := CX.out.cs4
 obtain ⟨CY0, CY1, CY2, -⟩ := CY.out.cs4
 refine (refMul_any a.n b.d _ (by have := L.out.1; omega) (by have := L.out.2.2.2; omega)).mono ?_
 rintro e w1 ⟨rfl, hbl⟩
 replace CX := hmB CX hbl
 replace CY := hmB CY hbl
 replace RES := hmB RES hbl
 replace HW := hmW HW hbl; clear hbl
 clear CX0 CX1 CX2 CY0 CY1 CY2
 obtain ⟨CX0, CX1, CX2, -⟩ := CX.out.cs4
 obtain ⟨CY0, CY1, CY2, -⟩ := CY.out.cs4
 rw [← HZ.out.1]
 go_wp2_with fail
 refine (refMul_any b.n a.d _ (by have := L.out.2.2.1; omega) (by have := L.out.2.1; omega)).mono ?_
 rintro e w2 ⟨rfl, hbl⟩
 replace CX := hmB CX hbl
 replace CY := hmB CY hbl
 replace RES := hmB RES hbl
 replace HW := hmW HW hbl; clear hbl
 clear CX0 CX1 CX2 CY0 CY1 CY2
 obtain ⟨CX0, CX1, CX2, -⟩ := CX.out.cs4
 obtain ⟨CY0, CY1, CY2, -⟩ := CY.out.cs4
 rw [← HZ.out.2.1]
 go_wp2_with fail
 clear CX0 CX1 CX2 CY0 CY1 CY2
 have hsz0 : w.heap.size + 2 < w2.heap.size := RES.out.lt
 refine wp_region_typed 12 (TOf [VIs (.pointer (some ⟨w.heap.size, 0, none⟩)),
  VIs (.bool a.s),
  VIs (.string (dec x)),
  VIs (.string (dec y)),
  VIs (.string (dec (x + y))),
  VIs (.pointer (some ⟨w.heap.size, 2, none⟩)),
  VIs (.string (dec a.d)),
  VIs (.pointer (some ⟨w.heap.size + 1, 2, none⟩)),
  VIs (.string (dec b.d)),
  VIs (.string (dec z)),
  VIs (.agg #[.bool a.s, .string (dec (x + y)), .string (dec z), .bool false]),
  VNewF w2.heap.size 37 #[.bool false, .string ⟨#[]⟩, .string ⟨#[]⟩, .bool false]]) (by kernel_rfl) (by kernel_rfl) (by kernel_rfl) (LiftAll.at_ (.cons (VIs.lift _) (.cons (VIs.lift _) (.cons (VIs.lift _) (.cons (VIs.lift _) (.cons (VIs.lift _) (.cons (VIs.lift _) (.cons (VIs.lift _) (.cons (VIs.lift _) (.cons (VIs.lift _) (.cons (VIs.lift _) (.cons (VIs.lift _) (.cons (VNewF.lift _ _ _) .nil))))))))))))) (steps_all (steps_cons ?_ (steps_cons ?_ (steps_cons ?_ (steps_cons ?_ (steps_cons ?_ (steps_cons ?_ (steps_cons ?_ (steps_cons ?_ (steps_cons ?_ (steps_cons ?_ (steps_cons ?_ (steps_cons ?_ steps_zero))))))))))))) ?fin
 · intro a0 w9 K9 hF hB hK hC
   have b2 := hF.base (k := 2) (by kernel_rfl) rfl
   clear hF hB hK
   go_simp
   exact hC _ _ (bR _) fun _ _ => rfl
 · intro a0 w9 K9 hF hB hK hC
   have e18 := depV hK 0 rfl rfl rfl rfl
   have x9 := (CX.out.below hB CX.out.lt).c0
   clear hF hB hK
   go_simp
   exact hC _ _ (bR _) fun _ _ => rfl
 · intro a0 w9 K9 hF hB hK hC
   have b5 := hF.base (k := 5) (by kernel_rfl) rfl
   clear hF hB hK
   go_simp
   exact hC _ _ (bR _) fun _ _ => rfl
 · intro a0 w9 K9 hF hB hK hC
   have b6 := hF.base (k := 6) (by kernel_rfl) rfl
   clear hF hB hK
   go_simp
   exact hC _ _ (bR _) fun _ _ => rfl
 · intro a0 w9 K9 hF hB hK hC
   have e20 := depV hK 0 rfl rfl rfl rfl
   have e21 := depV hK 1 rfl rfl rfl rfl
   have HB9 := Lib.hid hB
   clear hF hB hK
   go_simp
   refine (refAdd_any x y _ (by have := M.out.1; omega) (by have := M.out.2.1; omega)).mono ?_
   rintro e w7 ⟨rfl, hbl⟩
   exact hC _ _ hbl fun _ _ => rfl
 · intro a0 w9 K9 hF hB hK hC
   have b2 := hF.base (k := 2) (by kernel_rfl) rfl
   clear hF hB hK
   go_simp
   exact hC _ _ (bR _) fun _ _ => rfl
 · intro a0 w9 K9 hF hB hK hC
   have e23 := depV hK 0 rfl rfl rfl rfl
   have x9 := (CX.out.below hB CX.out.lt).c2
   clear hF hB hK
   go_simp
   exact hC _ _ (bR _) fun _ _ => rfl
 · intro a0 w9 K9 hF hB hK hC
   have b3 := hF.base (k := 3) (by kernel_rfl) rfl
   clear hF hB hK
   go_simp
   exact hC _ _ (bR _) fun _ _ => rfl
 · intro a0 w9 K9 hF hB hK hC
   have e25 := depV hK 0 rfl rfl rfl rfl
   have x9 := (CY.out.below hB CY.out.lt).c2
   clear hF hB hK
   go_simp
   exact hC _ _ (bR _) fun _ _ => rfl
 · intro a0 w9 K9 hF hB hK hC
   have e24 := depV hK 0 rfl rfl rfl rfl
   have e26 := depV hK 1 rfl rfl rfl rfl
   have HB9 := Lib.hid hB
   clear hF hB hK
   go_simp
   refine (refMul_any a.d b.d _ (by have := L.out.2.1; omega) (by have := L.out.2.2.2; omega)).mono ?_
   rintro e w7 ⟨rfl, hbl⟩
   rw [← HZ.out.2.2]
   exact hC _ _ hbl fun _ _ => rfl
 · intro a0 w9 K9 hF hB hK hC
   have e19 := depV hK 0 rfl rfl rfl rfl
   have e22 := depV hK 1 rfl rfl rfl rfl
   have e27 := depV hK 2 rfl rfl rfl rfl
   have HB9 := Lib.hid hB
   clear hF hB hK
   go_simp
   exact hC _ _ (bR _) fun _ _ => rfl
 · intro a0 w9 K9 hF hB hK hC
   have HB9 := Lib.hid hB
   clear hF hB hK
   go_simp
   exact hC _ _ (bel_alloc (bel_refl _) _) fun _ _ => ⟨_, rfl, HB9.out.size, Blk.new _ _ _⟩
 case fin =>
  intro a0 w9 hF hB hK
  have b2 := hF.base (k := 2) (by kernel_rfl) rfl
  have b3 := hF.base (k := 3) (by kernel_rfl) rfl
  have b4 := hF.base (k := 4) (by kernel_rfl) rfl
  have b5 := hF.base (k := 5) (by kernel_rfl) rfl
  have b6 := hF.base (k := 6) (by kernel_rfl) rfl
  have hsz := hF.size
  have hdf := hF.defers
  clear hF
  obtain ⟨v7, e7, z7⟩ := known hK 11 (k := 7) (by decide) rfl
  have z7 : ∃ g, v7 = .pointer (some ⟨g, 0, none⟩) ∧ w2.heap.size ≤ g ∧ Blk w9 g 37 #[.bool false, .string ⟨#[]⟩, .string ⟨#[]⟩, .bool false] := z7
  obtain ⟨gf, rfl, hgf, FB⟩ := z7
  obtain ⟨v28, e28, z28⟩ := known hK 10 (k := 28) (by decide) rfl
  have z28 : v28 = .agg #[.bool a.s, .string (dec (x + y)), .string (dec z), .bool false] := z28
  subst z28
  clear hK
  obtain ⟨⟨l0⟩, df⟩ := a0
  have hs0 : l0.length = 63 := hsz
  clear hsz
  replace hdf : df = _ := hdf
  subst hdf
  obtain ⟨u, rfl⟩ := lits_63 hs0
  clear hs0
  generalize hAr : (Array.mk [u 0, u 1, u 2, u 3, u 4, u 5, u 6, u 7, u 8, u 9, u 10, u 11, u 12, u 13, u 14, u 15, u 16, u 17, u 18, u 19, u 20, u 21, u 22, u 23, u 24, u 25, u 26, u 27, u 28, u 29, u 30, u 31, u 32, u 33, u 34, u 35, u 36, u 37, u 38, u 39, u 40, u 41, u 42, u 43, u 44, u 45, u 46, u 47, u 48, u 49, u 50, u 51, u 52, u 53, u 54, u 55, u 56, u 57, u 58, u 59, u 60, u 61, u 62] : Array Value) = ar
  obtain rfl : ar = #[u 0, u 1, u 2, u 3, u 4, u 5, u 6, u 7, u 8, u 9, u 10, u 11, u 12, u 13, u 14, u 15, u 16, u 17, u 18, u 19, u 20, u 21, u 22, u 23, u 24, u 25, u 26, u 27, u 28, u 29, u 30, u 31, u 32, u 33, u 34, u 35, u 36, u 37, u 38, u 39, u 40, u 41, u 42, u 43, u 44, u 45, u 46, u 47, u 48, u 49, u 50, u 51, u 52, u 53, u 54, u 55, u 56, u 57, u 58, u 59, u 60, u 61, u 62] := hAr.symm
  have q2 : u 2 = _ := Option.some.inj b2
  clear b2
  have q3 : u 3 = _ := Option.some.inj b3
  clear b3
  have q4 : u 4 = _ := Option.some.inj b4
  clear b4
  have q5 : u 5 = _ := Option.some.inj b5
  clear b5
  have q6 : u 6 = _ := Option.some.inj b6
  clear b6
  have q7 : u 7 = _ := Option.some.inj e7
  clear e7
  have q28 : u 28 = _ := Option.some.inj e28
  clear e28
  rw [q2, q3, q4, q5, q6, q7, q28]
  clear q2 q3 q4 q5 q6 q7 q28
  have hbl := hB; clear hB
  replace CX := hmB CX hbl
  replace CY := hmB CY hbl
  replace RES := hmB RES hbl
  replace HW := hmW HW hbl; clear hbl
  simp only [List.drop_succ_cons, List.drop_zero]
  replace FB := Lib.hid FB
  have gl : w.heap.size + 2 < gf := by omega
  obtain ⟨d0, d1, d2, d3⟩ := FB.out.cs4
  obtain ⟨f0, f1, f2, f3⟩ := FB.out.fz4
  go_wp2_with fail
  clear d0 d1 d2 d3 f0 f1 f2 f3
  obtain ⟨wb, hwb⟩ : ∃ wb, wb = ((((w9.setCell ⟨gf, 0, none⟩ (.bool a.s)).setCell ⟨gf, 1, none⟩ (.string (dec (x + y)))).setCell ⟨gf, 2, none⟩ (.string (dec z))).setCell ⟨gf, 3, none⟩ (.bool false)) := ⟨_, rfl⟩
  rw [← hwb]
  replace CX := Lib.hid (show Blk wb (w.heap.size) 37 #[.bool a.s, .string (dec a.n), .string (dec a.d), .bool false] by rw [hwb]; exact ((((CX.out).far (p := ⟨gf, 0, none⟩) (by simp; omega) _).far (p := ⟨gf, 1, none⟩) (by simp; omega) _).far (p := ⟨gf, 2, none⟩) (by simp; omega) _).far (p := ⟨gf, 3, none⟩) (by simp; omega) _)
  replace CY := Lib.hid (show Blk wb (w.heap.size + 1) 37 #[.bool b.s, .string (dec b.n), .string (dec b.d), .bool false] by rw [hwb]; exact ((((CY.out).far (p := ⟨gf, 0, none⟩) (by simp; omega) _).far (p := ⟨gf, 1, none⟩) (by simp; omega) _).far (p := ⟨gf, 2, none⟩) (by simp; omega) _).far (p := ⟨gf, 3, none⟩) (by simp; omega) _)
  replace RES := Lib.hid (show Blk wb (w.heap.size + 2) 37 #[.bool false, .string ⟨#[]⟩, .string ⟨#[]⟩, .bool false] by rw [hwb]; exact ((((RES.out).far (p := ⟨gf, 0, none⟩) (by simp; omega) _).far (p := ⟨gf, 1, none⟩) (by simp; omega) _).far (p := ⟨gf, 2, none⟩) (by simp; omega) _).far (p := ⟨gf, 3, none⟩) (by simp; omega) _)
  replace FB := Lib.hid (show Blk wb (gf) 37 #[.bool a.s, .string (dec (x + y)), .string (dec z), .bool false] by rw [hwb]; exact ((((FB.out).put 0 (.bool a.s)).put 1 (.string (dec (x + y)))).put 2 (.string (dec z))).put 3 (.bool false))
  replace HW := Lib.hid (show Below w.heap.size w wb by rw [hwb]; exact bel_set (p := ⟨gf, 3, none⟩) (bel_set (p := ⟨gf, 2, none⟩) (bel_set (p := ⟨gf, 1, none⟩) (bel_set (p := ⟨gf, 0, none⟩) (HW.out) (by show w.heap.size ≤ gf; omega) _) (by show w.heap.size ≤ gf; omega) _) (by show w.heap.size ≤ gf; omega) _) (by show w.heap.size ≤ gf; omega) _)
  clear hwb
  refine (refOver_any (x + y) _).mono ?_
  rintro e w3 ⟨rfl, hbl⟩
  replace CX := hmB CX hbl
  replace CY := hmB CY hbl
  replace RES := hmB RES hbl
  replace FB := hmB FB hbl
  replace HW := hmW HW hbl; clear hbl
  obtain ⟨o, ho⟩ : ∃ o, decide (Top ≤ x + y) = o := ⟨_, rfl⟩
  rw [ho]
  obtain ⟨bd, hbd⟩ : ∃ bd, bd = (o || decide (Top ≤ z)) := ⟨_, rfl⟩
  have HBD : Hid (∀ m, m ≤ x + y → overB bd m z = k) := by
   show ∀ m, m ≤ x + y → overB bd m z = k
   intro m hm
   rw [← HK.out, ho, hbd]
   unfold overB
   cases o
   · rw [decide_eq_false (show ¬ Top ≤ m by have := of_decide_eq_false ho; omega)]; simp
   · simp
  have HBE := Lib.hid hbd; clear hbd
  have HO := Lib.hid ho; clear ho
  cases o
  focus
   have d2 := FB.out.c2
   go_wp2_with fail
   clear d2
   refine (refOver_any z _).mono ?_
   rintro e w4 ⟨rfl, hbl⟩
   replace CX := hmB CX hbl
   replace CY := hmB CY hbl
   replace RES := hmB RES hbl
   replace FB := hmB FB hbl
   replace HW := hmW HW hbl; clear hbl
   rw [show decide (Top ≤ z) = bd by rw [HBE.out]; rfl]
   have f3 := FB.out.frozen 3
   have d3 := FB.out.cell 3
   go_upto_region 5 with fail
   clear f3 d3
   obtain ⟨wc, hwc⟩ : ∃ wc, wc = (w4.setCell ⟨gf, 3, none⟩ (.bool bd)) := ⟨_, rfl⟩
   rw [← hwc]
   replace CX := Lib.hid (show Blk wc (w.heap.size) 37 #[.bool a.s, .string (dec a.n), .string (dec a.d), .bool false] by rw [hwc]; exact (CX.out).far (p := ⟨gf, 3, none⟩) (by simp; omega) _)
   replace CY := Lib.hid (show Blk wc (w.heap.size + 1) 37 #[.bool b.s, .string (dec b.n), .string (dec b.d), .bool false] by rw [hwc]; exact (CY.out).far (p := ⟨gf, 3, none⟩) (by simp; omega) _)
   replace RES := Lib.hid (show Blk wc (w.heap.size + 2) 37 #[.bool false, .string ⟨#[]⟩, .string ⟨#[]⟩, .bool false] by rw [hwc]; exact (RES.out).far (p := ⟨gf, 3, none⟩) (by simp; omega) _)
   replace FB := Lib.hid (show Blk wc (gf) 37 #[.bool a.s, .string (dec (x + y)), .string (dec z), .bool bd] by rw [hwc]; exact (FB.out).put 3 (.bool bd))
   replace HW := Lib.hid (show Below w.heap.size w wc by rw [hwc]; exact bel_set (p := ⟨gf, 3, none⟩) (HW.out) (by show w.heap.size ≤ gf; omega) _)
   clear hwc
  rotate_left 1
  focus
   have f3 := FB.out.frozen 3
   have d3 := FB.out.cell 3
   go_upto_region 5 with fail
   clear f3 d3
   rw [show w3.setCell ⟨gf, 3, none⟩ (.bool true) = w3.setCell ⟨gf, 3, none⟩ (.bool bd) by rw [HBE.out]; rfl]
   obtain ⟨wc, hwc⟩ : ∃ wc, wc = (w3.setCell ⟨gf, 3, none⟩ (.bool bd)) := ⟨_, rfl⟩
   rw [← hwc]
   replace CX := Lib.hid (show Blk wc (w.heap.size) 37 #[.bool a.s, .string (dec a.n), .string (dec a.d), .bool false] by rw [hwc]; exact (CX.out).far (p := ⟨gf, 3, none⟩) (by simp; omega) _)
   replace CY := Lib.hid (show Blk wc (w.heap.size + 1) 37 #[.bool b.s, .string (dec b.n), .string (dec b.d), .bool false] by rw [hwc]; exact (CY.out).far (p := ⟨gf, 3, none⟩) (by simp; omega) _)
   replace RES := Lib.hid (show Blk wc (w.heap.size + 2) 37 #[.bool false, .string ⟨#[]⟩, .string ⟨#[]⟩, .bool false] by rw [hwc]; exact (RES.out).far (p := ⟨gf, 3, none⟩) (by simp; omega) _)
   replace FB := Lib.hid (show Blk wc (gf) 37 #[.bool a.s, .string (dec (x + y)), .string (dec z), .bool bd] by rw [hwc]; exact (FB.out).put 3 (.bool bd))
   replace HW := Lib.hid (show Below w.heap.size w wc by rw [hwc]; exact bel_set (p := ⟨gf, 3, none⟩) (HW.out) (by show w.heap.size ≤ gf; omega) _)
   clear hwc
  all_goals
   have X0 := CX.out.c0
   have Y0 := CY.out.c0
   by_cases hs : a.s = b.s
   · have e0 : (a.s == b.s) = true := by simp [hs]
     have hq2 := HQ.out
     rw [if_pos hs] at hq2
     have HQ2 := Lib.hid hq2; clear hq2 hs
     have d0 := FB.out.c0
     have d1 := FB.out.c1
     have d2 := FB.out.c2
     have d3 := FB.out.c3
     go_wp2_with fail
     clear d0 d1 d2 d3 X0 Y0
     refine (refRed_q a.s (x + y) z _ _ (by have := MA.out; omega) (by have := M.out.2.2; omega) HQ2.out (HBD.out _ (Nat.le_refl _))).mono ?_
     rintro e w41 ⟨rfl, hbl⟩
     replace CX := hmB CX hbl
     replace CY := hmB CY hbl
     replace RES := hmB RES hbl
     replace FB := hmB FB hbl
     replace HW := hmW HW hbl; clear hbl
     have d0 := RES.out.c0
     have f0 := RES.out.frozen 0
     have d1 := RES.out.c1
     have f1 := RES.out.frozen 1
     have d2 := RES.out.c2
     have f2 := RES.out.frozen 2
     have d3 := RES.out.c3
     have f3 := RES.out.frozen 3
     go_wp2
     exact bodyPost_ret (results_cell_row rfl _ _ (w.heap.size + 2) 37 _ (0, 0) _ rfl (RES.out.put4 _ _ _ _) Tryz.underlying37 rfl (by kernel_rfl)) rfl ⟨rfl, (bel_set4 (g := w.heap.size + 2) HW.out (by omega) _ _ _ _)⟩
   · have e0 : (a.s == b.s) = false := by simp [hs]
     have f0 := FB.out.frozen 0
     have d0 := FB.out.cell 0
     go_upto_region 7 with fail
     clear X0 Y0 f0 d0
     obtain ⟨wd, hwd⟩ : ∃ wd, wd = (wc.setCell ⟨gf, 0, none⟩ (.bool b.s)) := ⟨_, rfl⟩
     rw [← hwd]
     replace CX := Lib.hid (show Blk wd (w.heap.size) 37 #[.bool a.s, .string (dec a.n), .string (dec a.d), .bool false] by rw [hwd]; exact (CX.out).far (p := ⟨gf, 0, none⟩) (by simp; omega) _)
     replace CY := Lib.hid (show Blk wd (w.heap.size + 1) 37 #[.bool b.s, .string (dec b.n), .string (dec b.d), .bool false] by rw [hwd]; exact (CY.out).far (p := ⟨gf, 0, none⟩) (by simp; omega) _)
     replace RES := Lib.hid (show Blk wd (w.heap.size + 2) 37 #[.bool false, .string ⟨#[]⟩, .string ⟨#[]⟩, .bool false] by rw [hwd]; exact (RES.out).far (p := ⟨gf, 0, none⟩) (by simp; omega) _)
     replace FB := Lib.hid (show Blk wd (gf) 37 #[.bool b.s, .string (dec (x + y)), .string (dec z), .bool bd] by rw [hwd]; exact (FB.out).put 0 (.bool b.s))
     replace HW := Lib.hid (show Below w.heap.size w wd by rw [hwd]; exact bel_set (p := ⟨gf, 0, none⟩) (HW.out) (by show w.heap.size ≤ gf; omega) _)
     clear hwd
     have hq2 := HQ.out
     rw [if_neg hs] at hq2
     clear hs e0
     by_cases hl : x < y
     all_goals first | rw [if_pos hl] at hq2 | rw [if_neg hl] at hq2
     all_goals have HQ2 := Lib.hid hq2; clear hq2
     · have e1 : ¬ 0 ≤ cmpI (x : Int) (y : Int) := by rw [cmpI_lt (by omega)]; decide
       have HL := Lib.hid hl; clear hl
       go_wp2_with fail
       refine (ref_larger_lt x y _ HL.out).mono ?_
       rintro e w41 ⟨rfl, hbl⟩
       replace CX := hmB CX hbl
       replace CY := hmB CY hbl
       replace RES := hmB RES hbl
       replace FB := hmB FB hbl
       replace HW := hmW HW hbl; clear hbl
       go_wp2_with fail
       refine (ref_smaller_lt x y _ HL.out).mono ?_
       rintro e w42 ⟨rfl, hbl⟩
       replace CX := hmB CX hbl
       replace CY := hmB CY hbl
       replace RES := hmB RES hbl
       replace FB := hmB FB hbl
       replace HW := hmW HW hbl; clear hbl
       go_wp2_with fail
       refine (refSub_any y x _ (by have := M.out; omega) (by have := M.out; omega) (Nat.le_of_lt HL.out)).mono ?_
       rintro e w43 ⟨rfl, hbl⟩
       replace CX := hmB CX hbl
       replace CY := hmB CY hbl
       replace RES := hmB RES hbl
       replace FB := hmB FB hbl
       replace HW := hmW HW hbl; clear hbl
       have f1 := FB.out.frozen 1
       have d1 := FB.out.cell 1
       go_upto_region 8 with fail
       clear f1 d1
       obtain ⟨we, hwe⟩ : ∃ we, we = (w43.setCell ⟨gf, 1, none⟩ (.string (dec (y - x)))) := ⟨_, rfl⟩
       rw [← hwe]
       replace CX := Lib.hid (show Blk we (w.heap.size) 37 #[.bool a.s, .string (dec a.n), .string (dec a.d), .bool false] by rw [hwe]; exact (CX.out).far (p := ⟨gf, 1, none⟩) (by simp; omega) _)
       replace CY := Lib.hid (show Blk we (w.heap.size + 1) 37 #[.bool b.s, .string (dec b.n), .string (dec b.d), .bool false] by rw [hwe]; exact (CY.out).far (p := ⟨gf, 1, none⟩) (by simp; omega) _)
       replace RES := Lib.hid (show Blk we (w.heap.size + 2) 37 #[.bool false, .string ⟨#[]⟩, .string ⟨#[]⟩, .bool false] by rw [hwe]; exact (RES.out).far (p := ⟨gf, 1, none⟩) (by simp; omega) _)
       replace FB := Lib.hid (show Blk we (gf) 37 #[.bool b.s, .string (dec (y - x)), .string (dec z), .bool bd] by rw [hwe]; exact (FB.out).put 1 (.string (dec (y - x))))
       replace HW := Lib.hid (show Below w.heap.size w we by rw [hwe]; exact bel_set (p := ⟨gf, 1, none⟩) (HW.out) (by show w.heap.size ≤ gf; omega) _)
       clear hwe
       go_wp2_with fail
       refine (refCmp_bb x y _).mono ?_
       rintro e w44 ⟨rfl, hbl⟩
       replace CX := hmB CX hbl
       replace CY := hmB CY hbl
       replace RES := hmB RES hbl
       replace FB := hmB FB hbl
       replace HW := hmW HW hbl; clear hbl
       have d0 := FB.out.c0
       have d1 := FB.out.c1
       have d2 := FB.out.c2
       have d3 := FB.out.c3
       go_wp2_with fail
       clear d0 d1 d2 d3
       refine (refRed_q b.s (y - x) z _ _ (by have := decL_mono (Nat.sub_le y x); have := M.out; omega) (by have := M.out.2.2; omega) HQ2.out (HBD.out _ (by omega))).mono ?_
       rintro e w45 ⟨rfl, hbl⟩
       replace CX := hmB CX hbl
       replace CY := hmB CY hbl
       replace RES := hmB RES hbl
       replace FB := hmB FB hbl
       replace HW := hmW HW hbl; clear hbl
       have d0 := RES.out.c0
       have f0 := RES.out.frozen 0
       have d1 := RES.out.c1
       have f1 := RES.out.frozen 1
       have d2 := RES.out.c2
       have f2 := RES.out.frozen 2
       have d3 := RES.out.c3
       have f3 := RES.out.frozen 3
       go_wp2
       exact bodyPost_ret (results_cell_row rfl _ _ (w.heap.size + 2) 37 _ (0, 0) _ rfl (RES.out.put4 _ _ _ _) Tryz.underlying37 rfl (by kernel_rfl)) rfl ⟨rfl, (bel_set4 (g := w.heap.size + 2) HW.out (by omega) _ _ _ _)⟩
     · replace hl := Nat.le_of_not_lt hl
       have e1 : 0 ≤ cmpI (x : Int) (y : Int) := cmp_ge hl
       have HL := Lib.hid hl; clear hl
       go_wp2_with fail
       refine (ref_larger_ge x y _ HL.out).mono ?_
       rintro e w41 ⟨rfl, hbl⟩
       replace CX := hmB CX hbl
       replace CY := hmB CY hbl
       replace RES := hmB RES hbl
       replace FB := hmB FB hbl
       replace HW := hmW HW hbl; clear hbl
       go_wp2_with fail
       refine (ref_smaller_ge x y _ HL.out).mono ?_
       rintro e w42 ⟨rfl, hbl⟩
       replace CX := hmB CX hbl
       replace CY := hmB CY hbl
       replace RES := hmB RES hbl
       replace FB := hmB FB hbl
       replace HW := hmW HW hbl; clear hbl
       go_wp2_with fail
       refine (refSub_any x y _ (by have := M.out; omega) (by have := M.out; omega) HL.out).mono ?_
       rintro e w43 ⟨rfl, hbl⟩
       replace CX := hmB CX hbl
       replace CY := hmB CY hbl
       replace RES := hmB RES hbl
       replace FB := hmB FB hbl
       replace HW := hmW HW hbl; clear hbl
       have f1 := FB.out.frozen 1
       have d1 := FB.out.cell 1
       go_upto_region 8 with fail
       clear f1 d1
       obtain ⟨we, hwe⟩ : ∃ we, we = (w43.setCell ⟨gf, 1, none⟩ (.string (dec (x - y)))) := ⟨_, rfl⟩
       rw [← hwe]
       replace CX := Lib.hid (show Blk we (w.heap.size) 37 #[.bool a.s, .string (dec a.n), .string (dec a.d), .bool false] by rw [hwe]; exact (CX.out).far (p := ⟨gf, 1, none⟩) (by simp; omega) _)
       replace CY := Lib.hid (show Blk we (w.heap.size + 1) 37 #[.bool b.s, .string (dec b.n), .string (dec b.d), .bool false] by rw [hwe]; exact (CY.out).far (p := ⟨gf, 1, none⟩) (by simp; omega) _)
       replace RES := Lib.hid (show Blk we (w.heap.size + 2) 37 #[.bool false, .string ⟨#[]⟩, .string ⟨#[]⟩, .bool false] by rw [hwe]; exact (RES.out).far (p := ⟨gf, 1, none⟩) (by simp; omega) _)
       replace FB := Lib.hid (show Blk we (gf) 37 #[.bool b.s, .string (dec (x - y)), .string (dec z), .bool bd] by rw [hwe]; exact (FB.out).put 1 (.string (dec (x - y))))
       replace HW := Lib.hid (show Below w.heap.size w we by rw [hwe]; exact bel_set (p := ⟨gf, 1, none⟩) (HW.out) (by show w.heap.size ≤ gf; omega) _)
       clear hwe
       go_wp2_with fail
       refine (refCmp_bb x y _).mono ?_
       rintro e w44 ⟨rfl, hbl⟩
       replace CX := hmB CX hbl
       replace CY := hmB CY hbl
       replace RES := hmB RES hbl
       replace FB := hmB FB hbl
       replace HW := hmW HW hbl; clear hbl
       have X0 := CX.out.c0
       have f0 := FB.out.frozen 0
       have d0 := FB.out.cell 0
       go_upto_region 10 with fail
       clear X0 f0 d0
       obtain ⟨wf, hwf⟩ : ∃ wf, wf = (w44.setCell ⟨gf, 0, none⟩ (.bool a.s)) := ⟨_, rfl⟩
       rw [← hwf]
       replace CX := Lib.hid (show Blk wf (w.heap.size) 37 #[.bool a.s, .string (dec a.n), .string (dec a.d), .bool false] by rw [hwf]; exact (CX.out).far (p := ⟨gf, 0, none⟩) (by simp; omega) _)
       replace CY := Lib.hid (show Blk wf (w.heap.size + 1) 37 #[.bool b.s, .string (dec b.n), .string (dec b.d), .bool false] by rw [hwf]; exact (CY.out).far (p := ⟨gf, 0, none⟩) (by simp; omega) _)
       replace RES := Lib.hid (show Blk wf (w.heap.size + 2) 37 #[.bool false, .string ⟨#[]⟩, .string ⟨#[]⟩, .bool false] by rw [hwf]; exact (RES.out).far (p := ⟨gf, 0, none⟩) (by simp; omega) _)
       replace FB := Lib.hid (show Blk wf (gf) 37 #[.bool a.s, .string (dec (x - y)), .string (dec z), .bool bd] by rw [hwf]; exact (FB.out).put 0 (.bool a.s))
       replace HW := Lib.hid (show Below w.heap.size w wf by rw [hwf]; exact bel_set (p := ⟨gf, 0, none⟩) (HW.out) (by show w.heap.size ≤ gf; omega) _)
       clear hwf
       have d0 := FB.out.c0
       have d1 := FB.out.c1
       have d2 := FB.out.c2
       have d3 := FB.out.c3
       go_wp2_with fail
       clear d0 d1 d2 d3
       refine (refRed_q a.s (x - y) z _ _ (by have := decL_mono (Nat.sub_le x y); have := M.out; omega) (by have := M.out.2.2; omega) HQ2.out (HBD.out _ (by omega))).mono ?_
       rintro e w45 ⟨rfl, hbl⟩
       replace CX := hmB CX hbl
       replace CY := hmB CY hbl
       replace RES := hmB RES hbl
       replace FB := hmB FB hbl
       replace HW := hmW HW hbl; clear hbl
       have d0 := RES.out.c0
       have f0 := RES.out.frozen 0
       have d1 := RES.out.c1
       have f1 := RES.out.frozen 1
       have d2 := RES.out.c2
       have f2 := RES.out.frozen 2
       have d3 := RES.out.c3
       have f3 := RES.out.frozen 3
       go_wp2
       exact bodyPost_ret (results_cell_row rfl _ _ (w.heap.size + 2) 37 _ (0, 0) _ rfl (RES.out.put4 _ _ _ _) Tryz.underlying37 rfl (by kernel_rfl)) rfl ⟨rfl, (bel_set4 (g := w.heap.size + 2) HW.out (by omega) _ _ _ _)⟩
end
end Go.Proofs.YtmbbdjpnecjleaaGreat
