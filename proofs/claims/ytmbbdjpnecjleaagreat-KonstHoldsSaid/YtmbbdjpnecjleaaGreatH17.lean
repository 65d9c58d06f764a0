/-
 Parts: FRed.
-/
import Derived.Test.YtmbbdjpnecjleaaGreatH11
import Derived.Deep.Cut
namespace Go.Proofs.YtmbbdjpnecjleaaGreat
section
set_option maxRecDepth 100000
set_option maxHeartbeats 1000000
section
open Go.RowKit

def RetFr (q : Q) (b : Bool) (w : World) (e : Ending) (w' : World) : Prop := e = .returned (.agg #[.bool q.s, .string (dec q.n), .string (dec q.d), .bool b]) ∧ Below w.heap.size w w'
theorem Blk.put4 {w : World} {g : Nat} {t : TypeId} {a b c d : Value} (h : Blk w g t #[a, b, c, d]) (x y z u : Value) :
 Blk ((((w.setCell ⟨g, 0, none⟩ x).setCell ⟨g, 1, none⟩ y).setCell ⟨g, 2, none⟩ z).setCell ⟨g, 3, none⟩ u) g t #[x, y, z, u] := (((h.put 0 x).put 1 y).put 2 z).put 3 u
theorem bel_set4 {w wk : World} {g : Nat} (h : Below w.heap.size w wk) (hg : w.heap.size ≤ g) (x y z u : Value) :
 Below w.heap.size w ((((wk.setCell ⟨g, 0, none⟩ x).setCell ⟨g, 1, none⟩ y).setCell ⟨g, 2, none⟩ z).setCell ⟨g, 3, none⟩ u) := (((h.setCell hg x).setCell hg y).setCell hg z).setCell hg u
theorem same_is (v : Bool) (A A' : Option Addr) (cap cap' : Nat) (xs ys : List Nat) (w : World) (h : RdL w A xs) (h' : RdL w A' ys) (hl : xs.length ≤ 18) (hv : decide (xs = ys) = v) : Calls Tryz.prog 51 #[.slice A xs.length cap, .slice A' ys.length cap'] w (RetBB v w) := by
 rw [← hv]
 exact same_bb A A' cap cap' xs ys w h h' hl
theorem refSame_sign (s s' : Bool) (A B A' B' : Option Addr) (c d c' d' : Nat) (xs ys xs' ys' : List Nat) (w : World) (hs : ¬ s = s') :
 Calls Tryz.prog 19 #[.agg #[.bool s, .slice A xs.length c, .slice B ys.length d], .agg #[.bool s', .slice A' xs'.length c', .slice B' ys'.length d']] w (RetBB false w) := by
 have hs1 : (s == s') = false := by simp [hs]
 obtain ⟨wa, hwa⟩ : ∃ wa, wa = (w.alloc (.cells #[.bool s, .slice A xs.length c, .slice B ys.length d] 25)).alloc (.cells #[.bool s', .slice A' xs'.length c', .slice B' ys'.length d'] 25) := ⟨_, rfl⟩
 obtain ⟨hbl, CX, CY⟩ := sal2 hwa
 have HW := Lib.hid hbl; clear hbl
 go_enter Tryz.func19, Tryz.ntmps19
 have CX0 := CX.out.cell 0
 have CY0 := CY.out.cell 0
 rw [hwa] at CX0 CY0
 go_wp2
 go_ret
 rw [← hwa]
 exact ⟨rfl, HW.out⟩

theorem refSame_num (s s' : Bool) (A B A' B' : Option Addr) (c d c' d' : Nat) (xs ys xs' ys' : List Nat) (w : World) (hs : s = s') (h1 : RdL w A xs) (h2 : RdL w A' xs') (hl1 : xs.length ≤ 18) (hx : decide (xs = xs') = false) :
 Calls Tryz.prog 19 #[.agg #[.bool s, .slice A xs.length c, .slice B ys.length d], .agg #[.bool s', .slice A' xs'.length c', .slice B' ys'.length d']] w (RetBB false w) := by
 subst hs
 have hs1 : (s == s) = true := by simp
 have R1 := Lib.hid h1; clear h1
 have R2 := Lib.hid h2; clear h2
 have HX := Lib.hid hx; clear hx
 obtain ⟨wa, hwa⟩ : ∃ wa, wa = (w.alloc (.cells #[.bool s, .slice A xs.length c, .slice B ys.length d] 25)).alloc (.cells #[.bool s, .slice A' xs'.length c', .slice B' ys'.length d'] 25) := ⟨_, rfl⟩
 obtain ⟨hbl, CX, CY⟩ := sal2 hwa
 replace R1 := hmR R1 hbl
 replace R2 := hmR R2 hbl
 have HW := Lib.hid hbl; clear hbl
 go_enter Tryz.func19, Tryz.ntmps19
 go_wp2_with fail
 rw [← hwa]
 clear hwa
 have CX0 := CX.out.c0
 have CX1 := CX.out.c1
 have CX2 := CX.out.c2
 have CY0 := CY.out.c0
 have CY1 := CY.out.c1
 have CY2 := CY.out.c2
 refine (same_is false A A' c c' xs xs' _ R1.out R2.out hl1 HX.out).mono ?_
 rintro e w1 ⟨rfl, hbl⟩
 replace R1 := hmR R1 hbl
 replace R2 := hmR R2 hbl
 replace CX := hmB CX hbl
 replace CY := hmB CY hbl
 replace HW := hmW HW hbl; clear hbl
 clear CX0 CX1 CX2 CY0 CY1 CY2
 have CX0 := CX.out.c0
 have CX1 := CX.out.c1
 have CX2 := CX.out.c2
 have CY0 := CY.out.c0
 have CY1 := CY.out.c1
 have CY2 := CY.out.c2
 go_wp2
 go_ret
 exact ⟨rfl, HW.out⟩

theorem refSame_den (v : Bool) (s s' : Bool) (A B A' B' : Option Addr) (c d c' d' : Nat) (xs ys xs' ys' : List Nat) (w : World) (hs : s = s') (h1 : RdL w A xs) (h2 : RdL w A' xs') (hl1 : xs.length ≤ 18) (h3 : RdL w B ys) (h4 : RdL w B' ys') (hl3 : ys.length ≤ 18) (hx : decide (xs = xs') = true) (hy : decide (ys = ys') = v) :
 Calls Tryz.prog 19 #[.agg #[.bool s, .slice A xs.length c, .slice B ys.length d], .agg #[.bool s', .slice A' xs'.length c', .slice B' ys'.length d']] w (RetBB v w) := by
 subst hs
 have hs1 : (s == s) = true := by simp
 have R1 := Lib.hid h1; clear h1
 have R2 := Lib.hid h2; clear h2
 have HX := Lib.hid hx; clear hx
 have R3 := Lib.hid h3; clear h3
 have R4 := Lib.hid h4; clear h4
 have HY := Lib.hid hy; clear hy
 obtain ⟨wa, hwa⟩ : ∃ wa, wa = (w.alloc (.cells #[.bool s, .slice A xs.length c, .slice B ys.length d] 25)).alloc (.cells #[.bool s, .slice A' xs'.length c', .slice B' ys'.length d'] 25) := ⟨_, rfl⟩
 obtain ⟨hbl, CX, CY⟩ := sal2 hwa
 replace R1 := hmR R1 hbl
 replace R2 := hmR R2 hbl
 replace R3 := hmR R3 hbl
 replace R4 := hmR R4 hbl
 have HW := Lib.hid hbl; clear hbl
 go_enter Tryz.func19, Tryz.ntmps19
 go_wp2_with fail
 rw [← hwa]
 clear hwa
 have CX0 := CX.out.c0
 have CX1 := CX.out.c1
 have CX2 := CX.out.c2
 have CY0 := CY.out.c0
 have CY1 := CY.out.c1
 have CY2 := CY.out.c2
 refine (same_is true A A' c c' xs xs' _ R1.out R2.out hl1 HX.out).mono ?_
 rintro e w1 ⟨rfl, hbl⟩
 replace R1 := hmR R1 hbl
 replace R2 := hmR R2 hbl
 replace R3 := hmR R3 hbl
 replace R4 := hmR R4 hbl
 replace CX := hmB CX hbl
 replace CY := hmB CY hbl
 replace HW := hmW HW hbl; clear hbl
 clear CX0 CX1 CX2 CY0 CY1 CY2
 have CX0 := CX.out.c0
 have CX1 := CX.out.c1
 have CX2 := CX.out.c2
 have CY0 := CY.out.c0
 have CY1 := CY.out.c1
 have CY2 := CY.out.c2
 go_wp2_with fail
 refine (same_is v B B' d d' ys ys' _ R3.out R4.out hl3 HY.out).mono ?_
 rintro e w2 ⟨rfl, hbl⟩
 replace R1 := hmR R1 hbl
 replace R2 := hmR R2 hbl
 replace R3 := hmR R3 hbl
 replace R4 := hmR R4 hbl
 replace CX := hmB CX hbl
 replace CY := hmB CY hbl
 replace HW := hmW HW hbl; clear hbl
 clear CX0 CX1 CX2 CY0 CY1 CY2
 have CX0 := CX.out.c0
 have CX1 := CX.out.c1
 have CX2 := CX.out.c2
 have CY0 := CY.out.c0
 have CY1 := CY.out.c1
 have CY2 := CY.out.c2
 go_wp2
 go_ret
 exact ⟨rfl, HW.out⟩

theorem refSame_any (s s' : Bool) (A B A' B' : Option Addr) (c d c' d' : Nat) (xs ys xs' ys' : List Nat) (w : World) (h1 : RdL w A xs) (h2 : RdL w A' xs') (hl1 : xs.length ≤ 18) (h3 : RdL w B ys) (h4 : RdL w B' ys') (hl3 : ys.length ≤ 18) :
 Calls Tryz.prog 19 #[.agg #[.bool s, .slice A xs.length c, .slice B ys.length d], .agg #[.bool s', .slice A' xs'.length c', .slice B' ys'.length d']] w (RetBB (likeB s s' xs ys xs' ys') w) := by
 unfold likeB
 by_cases hs : s = s'
 · rw [decide_eq_true hs]
   cases hx : decide (xs = xs')
   · exact refSame_num s s' A B A' B' c d c' d' xs ys xs' ys' w hs h1 h2 hl1 hx
   · cases hy : decide (ys = ys')
     · exact refSame_den false s s' A B A' B' c d c' d' xs ys xs' ys' w hs h1 h2 hl1 h3 h4 hl3 hx hy
     · exact refSame_den true s s' A B A' B' c d c' d' xs ys xs' ys' w hs h1 h2 hl1 h3 h4 hl3 hx hy
 · rw [decide_eq_false hs]
   exact refSame_sign s s' A B A' B' c d c' d' xs ys xs' ys' w hs

end
section
open Go.RowKit

theorem gcd_len {n d : Nat} {k : Nat} (hn : n ≠ 0) (h : (decL n).length ≤ k) : (decL (Nat.gcd n d)).length ≤ k := Nat.le_trans (decL_mono (Nat.le_of_dvd (Nat.pos_of_ne_zero hn) (Nat.gcd_dvd_left n d))) h
theorem refRed_onp (s : Bool) (n d : Nat) (bad : Bool) (w : World) (ho : decide (Top ≤ n) = true) (hl : (decL n).length ≤ 900) (hl2 : (decL d).length ≤ 900) (hn0 : n ≠ 0) :
 Calls Tryz.prog 119 #[.agg #[.bool s, .string (dec n), .string (dec d), .bool bad]] w (RetFr (redQ s n d) true w) := by
 rw [show redQ s n d = ⟨s, n / Nat.gcd n d, d / Nat.gcd n d⟩ by unfold redQ; rw [if_neg hn0]]
 have e1 := dec_is0 n
 rw [decide_eq_false hn0] at e1
 have HL := Lib.hid (And.intro hl (And.intro hl2 hn0)); clear hl hl2
 clear hn0
 have HO := Lib.hid ho; clear ho
 have hf1 := fun W => field_q (dec (n / Nat.gcd n d)) (dec (n % Nat.gcd n d)) W
 have hf2 := fun W => field_q (dec (d / Nat.gcd n d)) (dec (d % Nat.gcd n d)) W
 obtain ⟨wa, hwa⟩ : ∃ wa, wa = (w.alloc (.cells #[.bool s, .string (dec n), .string (dec d), .bool bad] 37)).alloc (.cells #[.bool false, .string ⟨#[]⟩, .string ⟨#[]⟩, .bool false] 37) := ⟨_, rfl⟩
 obtain ⟨hbl, CF, RES⟩ := sal2 hwa
 have HW := Lib.hid hbl; clear hbl
 go_enter Tryz.func119, Tryz.ntmps119
 go_wp2_with fail
 rw [← hwa]
 clear hwa
 have CF0 := CF.out.c0
 have CF1 := CF.out.c1
 have CF2 := CF.out.c2
 have CF3 := CF.out.c3
 refine (refOver_any n _).mono ?_
 rintro e w1 ⟨rfl, hbl⟩
 replace CF := hmB CF hbl
 replace RES := hmB RES hbl
 replace HW := hmW HW hbl; clear hbl
 clear CF0 CF1 CF2 CF3
 have CF0 := CF.out.c0
 have CF1 := CF.out.c1
 have CF2 := CF.out.c2
 have CF3 := CF.out.c3
 rw [HO.out]
 have f3 := CF.out.frozen 3
 go_upto_region 3 with fail
 clear f3
 obtain ⟨wz, hwz⟩ : ∃ wz, wz = w1.setCell ⟨w.heap.size, 3, none⟩ (.bool true) := ⟨_, rfl⟩
 rw [← hwz]
 replace CF := Lib.hid (show Blk wz (w.heap.size) 37 #[.bool s, .string (dec n), .string (dec d), .bool true] by rw [hwz]; exact CF.out.put 3 (.bool true))
 replace RES := Lib.hid (show Blk wz (w.heap.size + 1) 37 #[.bool false, .string ⟨#[]⟩, .string ⟨#[]⟩, .bool false] by rw [hwz]; exact RES.out.far (p := ⟨w.heap.size, 3, none⟩) (by simp) _)
 replace HW := Lib.hid (show Below w.heap.size w wz by rw [hwz]; exact bel_set HW.out (by simp) _)
 clear hwz
 clear CF0 CF1 CF2 CF3
 have CF0 := CF.out.c0
 have CF1 := CF.out.c1
 have CF2 := CF.out.c2
 have CF3 := CF.out.c3
 go_wp2_with fail
 refine (refCommon_any n d _ (by have := HL.out.1; omega) (by have := HL.out.2.1; omega)).mono ?_
 rintro e w2 ⟨rfl, hbl⟩
 replace CF := hmB CF hbl
 replace RES := hmB RES hbl
 replace HW := hmW HW hbl; clear hbl
 clear CF0 CF1 CF2 CF3
 have CF0 := CF.out.c0
 have CF1 := CF.out.c1
 have CF2 := CF.out.c2
 have CF3 := CF.out.c3
 go_wp2_with fail
 refine wp_region_typed 15 (TOf [VIs (.pointer (some ⟨w.heap.size, 0, none⟩)),
  VIs (.bool s),
  VIs (.pointer (some ⟨w.heap.size, 1, none⟩)),
  VIs (.string (dec n)),
  VIs (.string (dec (Nat.gcd n d))),
  VIs (.agg #[.string (dec (n / (Nat.gcd n d))), .string (dec (n % (Nat.gcd n d)))]),
  VIs (.string (dec (n / (Nat.gcd n d)))),
  VIs (.pointer (some ⟨w.heap.size, 2, none⟩)),
  VIs (.string (dec d)),
  VIs (.string (dec (Nat.gcd n d))),
  VIs (.agg #[.string (dec (d / (Nat.gcd n d))), .string (dec (d % (Nat.gcd n d)))]),
  VIs (.string (dec (d / (Nat.gcd n d)))),
  VIs (.pointer (some ⟨w.heap.size, 3, none⟩)),
  VIs (.bool true),
  VIs (.agg #[.bool s, .string (dec (n / (Nat.gcd n d))), .string (dec (d / (Nat.gcd n d))), .bool true])]) (by kernel_rfl) (by kernel_rfl) (by kernel_rfl) (LiftAll.at_ (.cons (VIs.lift _) (.cons (VIs.lift _) (.cons (VIs.lift _) (.cons (VIs.lift _) (.cons (VIs.lift _) (.cons (VIs.lift _) (.cons (VIs.lift _) (.cons (VIs.lift _) (.cons (VIs.lift _) (.cons (VIs.lift _) (.cons (VIs.lift _) (.cons (VIs.lift _) (.cons (VIs.lift _) (.cons (VIs.lift _) (.cons (VIs.lift _) .nil)))))))))))))))) (steps_all (steps_cons ?_ (steps_cons ?_ (steps_cons ?_ (steps_cons ?_ (steps_cons ?_ (steps_cons ?_ (steps_cons ?_ (steps_cons ?_ (steps_cons ?_ (steps_cons ?_ (steps_cons ?_ (steps_cons ?_ (steps_cons ?_ (steps_cons ?_ (steps_cons ?_ steps_zero)))))))))))))))) ?fin
 · intro a0 w9 K9 hF hB hK hC
   have b1 := hF.base (k := 1) (by kernel_rfl) rfl
   clear hF hB hK
   go_simp
   exact hC _ _ (bR _) fun _ _ => rfl
 · intro a0 w9 K9 hF hB hK hC
   have e24 := depV hK 0 rfl rfl rfl rfl
   have x9 := (CF.out.below hB CF.out.lt).c0
   clear hF hB hK
   go_simp
   exact hC _ _ (bR _) fun _ _ => rfl
 · intro a0 w9 K9 hF hB hK hC
   have b1 := hF.base (k := 1) (by kernel_rfl) rfl
   clear hF hB hK
   go_simp
   exact hC _ _ (bR _) fun _ _ => rfl
 · intro a0 w9 K9 hF hB hK hC
   have e26 := depV hK 0 rfl rfl rfl rfl
   have x9 := (CF.out.below hB CF.out.lt).c1
   clear hF hB hK
   go_simp
   exact hC _ _ (bR _) fun _ _ => rfl
 · intro a0 w9 K9 hF hB hK hC
   have b3 := hF.base (k := 3) (by kernel_rfl) rfl
   clear hF hB hK
   go_simp
   exact hC _ _ (bR _) fun _ _ => rfl
 · intro a0 w9 K9 hF hB hK hC
   have e27 := depV hK 0 rfl rfl rfl rfl
   have e28 := depV hK 1 rfl rfl rfl rfl
   have HB9 := Lib.hid hB
   clear hF hB hK
   go_simp
   refine (refDiv_any n (Nat.gcd n d) _ (by have := HL.out.1; omega) (by have := gcd_len (d := d) HL.out.2.2 HL.out.1; omega) (Nat.ne_of_gt (Nat.gcd_pos_of_pos_left d (Nat.pos_of_ne_zero HL.out.2.2)))).mono ?_
   rintro e w7 ⟨rfl, hbl⟩
   exact hC _ _ hbl fun _ _ => rfl
 · intro a0 w9 K9 hF hB hK hC
   have e29 := depV hK 0 rfl rfl rfl rfl
   have HB9 := Lib.hid hB
   clear hF hB hK
   go_simp
   exact hC _ _ (bR _) fun _ _ => rfl
 · intro a0 w9 K9 hF hB hK hC
   have b1 := hF.base (k := 1) (by kernel_rfl) rfl
   clear hF hB hK
   go_simp
   exact hC _ _ (bR _) fun _ _ => rfl
 · intro a0 w9 K9 hF hB hK hC
   have e31 := depV hK 0 rfl rfl rfl rfl
   have x9 := (CF.out.below hB CF.out.lt).c2
   clear hF hB hK
   go_simp
   exact hC _ _ (bR _) fun _ _ => rfl
 · intro a0 w9 K9 hF hB hK hC
   have b3 := hF.base (k := 3) (by kernel_rfl) rfl
   clear hF hB hK
   go_simp
   exact hC _ _ (bR _) fun _ _ => rfl
 · intro a0 w9 K9 hF hB hK hC
   have e32 := depV hK 0 rfl rfl rfl rfl
   have e33 := depV hK 1 rfl rfl rfl rfl
   have HB9 := Lib.hid hB
   clear hF hB hK
   go_simp
   refine (refDiv_any d (Nat.gcd n d) _ (by have := HL.out.2.1; omega) (by have := gcd_len (d := d) HL.out.2.2 HL.out.1; omega) (Nat.ne_of_gt (Nat.gcd_pos_of_pos_left d (Nat.pos_of_ne_zero HL.out.2.2)))).mono ?_
   rintro e w7 ⟨rfl, hbl⟩
   exact hC _ _ hbl fun _ _ => rfl
 · intro a0 w9 K9 hF hB hK hC
   have e34 := depV hK 0 rfl rfl rfl rfl
   have HB9 := Lib.hid hB
   clear hF hB hK
   go_simp
   exact hC _ _ (bR _) fun _ _ => rfl
 · intro a0 w9 K9 hF hB hK hC
   have b1 := hF.base (k := 1) (by kernel_rfl) rfl
   clear hF hB hK
   go_simp
   exact hC _ _ (bR _) fun _ _ => rfl
 · intro a0 w9 K9 hF hB hK hC
   have e36 := depV hK 0 rfl rfl rfl rfl
   have x9 := (CF.out.below hB CF.out.lt).c3
   clear hF hB hK
   go_simp
   exact hC _ _ (bR _) fun _ _ => rfl
 · intro a0 w9 K9 hF hB hK hC
   have e25 := depV hK 0 rfl rfl rfl rfl
   have e30 := depV hK 1 rfl rfl rfl rfl
   have e35 := depV hK 2 rfl rfl rfl rfl
   have e37 := depV hK 3 rfl rfl rfl rfl
   have HB9 := Lib.hid hB
   clear hF hB hK
   go_simp
   exact hC _ _ (bR _) fun _ _ => rfl
 case fin =>
  intro a0 w9 hF hB hK
  have b1 := hF.base (k := 1) (by kernel_rfl) rfl
  have b2 := hF.base (k := 2) (by kernel_rfl) rfl
  have b3 := hF.base (k := 3) (by kernel_rfl) rfl
  have hsz := hF.size
  have hdf := hF.defers
  clear hF
  obtain ⟨v38, e38, z38⟩ := known hK 14 (k := 38) (by decide) rfl
  have z38 : v38 = .agg #[.bool s, .string (dec (n / (Nat.gcd n d))), .string (dec (d / (Nat.gcd n d))), .bool true] := z38
  subst z38
  clear hK
  obtain ⟨⟨l0⟩, df⟩ := a0
  have hs0 : l0.length = 39 := hsz
  clear hsz
  replace hdf : df = _ := hdf
  subst hdf
  obtain ⟨u, rfl⟩ := lits_39 hs0
  clear hs0
  have q1 : u 1 = _ := Option.some.inj b1
  clear b1
  have q2 : u 2 = _ := Option.some.inj b2
  clear b2
  have q3 : u 3 = _ := Option.some.inj b3
  clear b3
  have q38 : u 38 = _ := Option.some.inj e38
  clear e38
  rw [q1, q2, q3, q38]
  clear q1 q2 q3 q38
  have hbl := hB; clear hB
  replace CF := hmB CF hbl
  replace RES := hmB RES hbl
  replace HW := hmW HW hbl; clear hbl
  clear CF0 CF1 CF2 CF3
  have CF0 := CF.out.c0
  have CF1 := CF.out.c1
  have CF2 := CF.out.c2
  have CF3 := CF.out.c3
  simp only [List.drop_succ_cons, List.drop_zero]
  have d0 := RES.out.c0
  have f0 := RES.out.frozen 0
  have d1 := RES.out.c1
  have f1 := RES.out.frozen 1
  have d2 := RES.out.c2
  have f2 := RES.out.frozen 2
  have d3 := RES.out.c3
  have f3 := RES.out.frozen 3
  go_wp2
  exact bodyPost_ret (results_cell_row rfl _ _ (w.heap.size + 1) 37 _ (0, 0) _ rfl (RES.out.put4 _ _ _ _) Tryz.underlying37 rfl (by kernel_rfl)) rfl ⟨rfl, (bel_set4 (g := w.heap.size + 1) HW.out (by omega) _ _ _ _)⟩

theorem refRed_odz (s : Bool) (n d : Nat) (bad : Bool) (w : World) (ho : decide (Top ≤ n) = false) (ho2 : decide (Top ≤ d) = true) (hn0 : n = 0) :
 Calls Tryz.prog 119 #[.agg #[.bool s, .string (dec n), .string (dec d), .bool bad]] w (RetFr (redQ s n d) true w) := by
 rw [show redQ s n d = ⟨false, 0, 1⟩ by unfold redQ; rw [if_pos hn0]]
 have e1 := dec_is0 n
 rw [decide_eq_true hn0] at e1
 clear hn0
 have HO := Lib.hid (And.intro ho ho2); clear ho ho2
 obtain ⟨wa, hwa⟩ : ∃ wa, wa = (w.alloc (.cells #[.bool s, .string (dec n), .string (dec d), .bool bad] 37)).alloc (.cells #[.bool false, .string ⟨#[]⟩, .string ⟨#[]⟩, .bool false] 37) := ⟨_, rfl⟩
 obtain ⟨hbl, CF, RES⟩ := sal2 hwa
 have HW := Lib.hid hbl; clear hbl
 go_enter Tryz.func119, Tryz.ntmps119
 go_wp2_with fail
 rw [← hwa]
 clear hwa
 have CF0 := CF.out.c0
 have CF1 := CF.out.c1
 have CF2 := CF.out.c2
 have CF3 := CF.out.c3
 refine (refOver_any n _).mono ?_
 rintro e w1 ⟨rfl, hbl⟩
 replace CF := hmB CF hbl
 replace RES := hmB RES hbl
 replace HW := hmW HW hbl; clear hbl
 clear CF0 CF1 CF2 CF3
 have CF0 := CF.out.c0
 have CF1 := CF.out.c1
 have CF2 := CF.out.c2
 have CF3 := CF.out.c3
 rw [HO.out.1]
 go_wp2_with fail
 refine (refOver_any d _).mono ?_
 rintro e w2 ⟨rfl, hbl⟩
 replace CF := hmB CF hbl
 replace RES := hmB RES hbl
 replace HW := hmW HW hbl; clear hbl
 clear CF0 CF1 CF2 CF3
 have CF0 := CF.out.c0
 have CF1 := CF.out.c1
 have CF2 := CF.out.c2
 have CF3 := CF.out.c3
 rw [HO.out.2]
 have f3 := CF.out.frozen 3
 go_upto_region 3 with fail
 clear f3
 obtain ⟨wz, hwz⟩ : ∃ wz, wz = w2.setCell ⟨w.heap.size, 3, none⟩ (.bool true) := ⟨_, rfl⟩
 rw [← hwz]
 replace CF := Lib.hid (show Blk wz (w.heap.size) 37 #[.bool s, .string (dec n), .string (dec d), .bool true] by rw [hwz]; exact CF.out.put 3 (.bool true))
 replace RES := Lib.hid (show Blk wz (w.heap.size + 1) 37 #[.bool false, .string ⟨#[]⟩, .string ⟨#[]⟩, .bool false] by rw [hwz]; exact RES.out.far (p := ⟨w.heap.size, 3, none⟩) (by simp) _)
 replace HW := Lib.hid (show Below w.heap.size w wz by rw [hwz]; exact bel_set HW.out (by simp) _)
 clear hwz
 clear CF0 CF1 CF2 CF3
 have CF0 := CF.out.c0
 have CF1 := CF.out.c1
 have CF2 := CF.out.c2
 have CF3 := CF.out.c3
 have d0 := RES.out.c0
 have f0 := RES.out.frozen 0
 have d1 := RES.out.c1
 have f1 := RES.out.frozen 1
 have d2 := RES.out.c2
 have f2 := RES.out.frozen 2
 have d3 := RES.out.c3
 have f3 := RES.out.frozen 3
 go_wp2
 exact bodyPost_ret (results_cell_row rfl _ _ (w.heap.size + 1) 37 _ (0, 0) _ rfl (RES.out.put4 _ _ _ _) Tryz.underlying37 rfl (by kernel_rfl)) rfl ⟨(by show Ending.returned _ = Ending.returned _; rw [dec_zero, dec_one]), (bel_set4 (g := w.heap.size + 1) HW.out (by omega) _ _ _ _)⟩

theorem refRed_odp (s : Bool) (n d : Nat) (bad : Bool) (w : World) (ho : decide (Top ≤ n) = false) (ho2 : decide (Top ≤ d) = true) (hl : (decL n).length ≤ 900) (hl2 : (decL d).length ≤ 900) (hn0 : n ≠ 0) :
 Calls Tryz.prog 119 #[.agg #[.bool s, .string (dec n), .string (dec d), .bool bad]] w (RetFr (redQ s n d) true w) := by
 rw [show redQ s n d = ⟨s, n / Nat.gcd n d, d / Nat.gcd n d⟩ by unfold redQ; rw [if_neg hn0]]
 have e1 := dec_is0 n
 rw [decide_eq_false hn0] at e1
 have HL := Lib.hid (And.intro hl (And.intro hl2 hn0)); clear hl hl2
 clear hn0
 have HO := Lib.hid (And.intro ho ho2); clear ho ho2
 have hf1 := fun W => field_q (dec (n / Nat.gcd n d)) (dec (n % Nat.gcd n d)) W
 have hf2 := fun W => field_q (dec (d / Nat.gcd n d)) (dec (d % Nat.gcd n d)) W
 obtain ⟨wa, hwa⟩ : ∃ wa, wa = (w.alloc (.cells #[.bool s, .string (dec n), .string (dec d), .bool bad] 37)).alloc (.cells #[.bool false, .string ⟨#[]⟩, .string ⟨#[]⟩, .bool false] 37) := ⟨_, rfl⟩
 obtain ⟨hbl, CF, RES⟩ := sal2 hwa
 have HW := Lib.hid hbl; clear hbl
 go_enter Tryz.func119, Tryz.ntmps119
 go_wp2_with fail
 rw [← hwa]
 clear hwa
 have CF0 := CF.out.c0
 have CF1 := CF.out.c1
 have CF2 := CF.out.c2
 have CF3 := CF.out.c3
 refine (refOver_any n _).mono ?_
 rintro e w1 ⟨rfl, hbl⟩
 replace CF := hmB CF hbl
 replace RES := hmB RES hbl
 replace HW := hmW HW hbl; clear hbl
 clear CF0 CF1 CF2 CF3
 have CF0 := CF.out.c0
 have CF1 := CF.out.c1
 have CF2 := CF.out.c2
 have CF3 := CF.out.c3
 rw [HO.out.1]
 go_wp2_with fail
 refine (refOver_any d _).mono ?_
 rintro e w2 ⟨rfl, hbl⟩
 replace CF := hmB CF hbl
 replace RES := hmB RES hbl
 replace HW := hmW HW hbl; clear hbl
 clear CF0 CF1 CF2 CF3
 have CF0 := CF.out.c0
 have CF1 := CF.out.c1
 have CF2 := CF.out.c2
 have CF3 := CF.out.c3
 rw [HO.out.2]
 have f3 := CF.out.frozen 3
 go_upto_region 3 with fail
 clear f3
 obtain ⟨wz, hwz⟩ : ∃ wz, wz = w2.setCell ⟨w.heap.size, 3, none⟩ (.bool true) := ⟨_, rfl⟩
 rw [← hwz]
 replace CF := Lib.hid (show Blk wz (w.heap.size) 37 #[.bool s, .string (dec n), .string (dec d), .bool true] by rw [hwz]; exact CF.out.put 3 (.bool true))
 replace RES := Lib.hid (show Blk wz (w.heap.size + 1) 37 #[.bool false, .string ⟨#[]⟩, .string ⟨#[]⟩, .bool false] by rw [hwz]; exact RES.out.far (p := ⟨w.heap.size, 3, none⟩) (by simp) _)
 replace HW := Lib.hid (show Below w.heap.size w wz by rw [hwz]; exact bel_set HW.out (by simp) _)
 clear hwz
 clear CF0 CF1 CF2 CF3
 have CF0 := CF.out.c0
 have CF1 := CF.out.c1
 have CF2 := CF.out.c2
 have CF3 := CF.out.c3
 go_wp2_with fail
 refine (refCommon_any n d _ (by have := HL.out.1; omega) (by have := HL.out.2.1; omega)).mono ?_
 rintro e w3 ⟨rfl, hbl⟩
 replace CF := hmB CF hbl
 replace RES := hmB RES hbl
 replace HW := hmW HW hbl; clear hbl
 clear CF0 CF1 CF2 CF3
 have CF0 := CF.out.c0
 have CF1 := CF.out.c1
 have CF2 := CF.out.c2
 have CF3 := CF.out.c3
 go_wp2_with fail
 refine wp_region_typed 15 (TOf [VIs (.pointer (some ⟨w.heap.size, 0, none⟩)),
  VIs (.bool s),
  VIs (.pointer (some ⟨w.heap.size, 1, none⟩)),
  VIs (.string (dec n)),
  VIs (.string (dec (Nat.gcd n d))),
  VIs (.agg #[.string (dec (n / (Nat.gcd n d))), .string (dec (n % (Nat.gcd n d)))]),
  VIs (.string (dec (n / (Nat.gcd n d)))),
  VIs (.pointer (some ⟨w.heap.size, 2, none⟩)),
  VIs (.string (dec d)),
  VIs (.string (dec (Nat.gcd n d))),
  VIs (.agg #[.string (dec (d / (Nat.gcd n d))), .string (dec (d % (Nat.gcd n d)))]),
  VIs (.string (dec (d / (Nat.gcd n d)))),
  VIs (.pointer (some ⟨w.heap.size, 3, none⟩)),
  VIs (.bool true),
  VIs (.agg #[.bool s, .string (dec (n / (Nat.gcd n d))), .string (dec (d / (Nat.gcd n d))), .bool true])]) (by kernel_rfl) (by kernel_rfl) (by kernel_rfl) (LiftAll.at_ (.cons (VIs.lift _) (.cons (VIs.lift _) (.cons (VIs.lift _) (.cons (VIs.lift _) (.cons (VIs.lift _) (.cons (VIs.lift _) (.cons (VIs.lift _) (.cons (VIs.lift _) (.cons (VIs.lift _) (.cons (VIs.lift _) (.cons (VIs.lift _) (.cons (VIs.lift _) (.cons (VIs.lift _) (.cons (VIs.lift _) (.cons (VIs.lift _) .nil)))))))))))))))) (steps_all (steps_cons ?_ (steps_cons ?_ (steps_cons ?_ (steps_cons ?_ (steps_cons ?_ (steps_cons ?_ (steps_cons ?_ (steps_cons ?_ (steps_cons ?_ (steps_cons ?_ (steps_cons ?_ (steps_cons ?_ (steps_cons ?_ (steps_cons ?_ (steps_cons ?_ steps_zero)))))))))))))))) ?fin
 · intro a0 w9 K9 hF hB hK hC
   have b1 := hF.base (k := 1) (by kernel_rfl) rfl
   clear hF hB hK
   go_simp
   exact hC _ _ (bR _) fun _ _ => rfl
 · intro a0 w9 K9 hF hB hK hC
   have e24 := depV hK 0 rfl rfl rfl rfl
   have x9 := (CF.out.below hB CF.out.lt).c0
   clear hF hB hK
   go_simp
   exact hC _ _ (bR _) fun _ _ => rfl
 · intro a0 w9 K9 hF hB hK hC
   have b1 := hF.base (k := 1) (by kernel_rfl) rfl
   clear hF hB hK
   go_simp
   exact hC _ _ (bR _) fun _ _ => rfl
 · intro a0 w9 K9 hF hB hK hC
   have e26 := depV hK 0 rfl rfl rfl rfl
   have x9 := (CF.out.below hB CF.out.lt).c1
   clear hF hB hK
   go_simp
   exact hC _ _ (bR _) fun _ _ => rfl
 · intro a0 w9 K9 hF hB hK hC
   have b3 := hF.base (k := 3) (by kernel_rfl) rfl
   clear hF hB hK
   go_simp
   exact hC _ _ (bR _) fun _ _ => rfl
 · intro a0 w9 K9 hF hB hK hC
   have e27 := depV hK 0 rfl rfl rfl rfl
   have e28 := depV hK 1 rfl rfl rfl rfl
   have HB9 := Lib.hid hB
   clear hF hB hK
   go_simp
   refine (refDiv_any n (Nat.gcd n d) _ (by have := HL.out.1; omega) (by have := gcd_len (d := d) HL.out.2.2 HL.out.1; omega) (Nat.ne_of_gt (Nat.gcd_pos_of_pos_left d (Nat.pos_of_ne_zero HL.out.2.2)))).mono ?_
   rintro e w7 ⟨rfl, hbl⟩
   exact hC _ _ hbl fun _ _ => rfl
 · intro a0 w9 K9 hF hB hK hC
   have e29 := depV hK 0 rfl rfl rfl rfl
   have HB9 := Lib.hid hB
   clear hF hB hK
   go_simp
   exact hC _ _ (bR _) fun _ _ => rfl
 · intro a0 w9 K9 hF hB hK hC
   have b1 := hF.base (k := 1) (by kernel_rfl) rfl
   clear hF hB hK
   go_simp
   exact hC _ _ (bR _) fun _ _ => rfl
 · intro a0 w9 K9 hF hB hK hC
   have e31 := depV hK 0 rfl rfl rfl rfl
   have x9 := (CF.out.below hB CF.out.lt).c2
   clear hF hB hK
   go_simp
   exact hC _ _ (bR _) fun _ _ => rfl
 · intro a0 w9 K9 hF hB hK hC
   have b3 := hF.base (k := 3) (by kernel_rfl) rfl
   clear hF hB hK
   go_simp
   exact hC _ _ (bR _) fun _ _ => rfl
 · intro a0 w9 K9 hF hB hK hC
   have e32 := depV hK 0 rfl rfl rfl rfl
   have e33 := depV hK 1 rfl rfl rfl rfl
   have HB9 := Lib.hid hB
   clear hF hB hK
   go_simp
   refine (refDiv_any d (Nat.gcd n d) _ (by have := HL.out.2.1; omega) (by have := gcd_len (d := d) HL.out.2.2 HL.out.1; omega) (Nat.ne_of_gt (Nat.gcd_pos_of_pos_left d (Nat.pos_of_ne_zero HL.out.2.2)))).mono ?_
   rintro e w7 ⟨rfl, hbl⟩
   exact hC _ _ hbl fun _ _ => rfl
 · intro a0 w9 K9 hF hB hK hC
   have e34 := depV hK 0 rfl rfl rfl rfl
   have HB9 := Lib.hid hB
   clear hF hB hK
   go_simp
   exact hC _ _ (bR _) fun _ _ => rfl
 · intro a0 w9 K9 hF hB hK hC
   have b1 := hF.base (k := 1) (by kernel_rfl) rfl
   clear hF hB hK
   go_simp
   exact hC _ _ (bR _) fun _ _ => rfl
 · intro a0 w9 K9 hF hB hK hC
   have e36 := depV hK 0 rfl rfl rfl rfl
   have x9 := (CF.out.below hB CF.out.lt).c3
   clear hF hB hK
   go_simp
   exact hC _ _ (bR _) fun _ _ => rfl
 · intro a0 w9 K9 hF hB hK hC
   have e25 := depV hK 0 rfl rfl rfl rfl
   have e30 := depV hK 1 rfl rfl rfl rfl
   have e35 := depV hK 2 rfl rfl rfl rfl
   have e37 := depV hK 3 rfl rfl rfl rfl
   have HB9 := Lib.hid hB
   clear hF hB hK
   go_simp
   exact hC _ _ (bR _) fun _ _ => rfl
 case fin =>
  intro a0 w9 hF hB hK
  have b1 := hF.base (k := 1) (by kernel_rfl) rfl
  have b2 := hF.base (k := 2) (by kernel_rfl) rfl
  have b3 := hF.base (k := 3) (by kernel_rfl) rfl
  have hsz := hF.size
  have hdf := hF.defers
  clear hF
  obtain ⟨v38, e38, z38⟩ := known hK 14 (k := 38) (by decide) rfl
  have z38 : v38 = .agg #[.bool s, .string (dec (n / (Nat.gcd n d))), .string (dec (d / (Nat.gcd n d))), .bool true] := z38
  subst z38
  clear hK
  obtain ⟨⟨l0⟩, df⟩ := a0
  have hs0 : l0.length = 39 := hsz
  clear hsz
  replace hdf : df = _ := hdf
  subst hdf
  obtain ⟨u, rfl⟩ := lits_39 hs0
  clear hs0
  have q1 : u 1 = _ := Option.some.inj b1
  clear b1
  have q2 : u 2 = _ := Option.some.inj b2
  clear b2
  have q3 : u 3 = _ := Option.some.inj b3
  clear b3
  have q38 : u 38 = _ := Option.some.inj e38
  clear e38
  rw [q1, q2, q3, q38]
  clear q1 q2 q3 q38
  have hbl := hB; clear hB
  replace CF := hmB CF hbl
  replace RES := hmB RES hbl
  replace HW := hmW HW hbl; clear hbl
  clear CF0 CF1 CF2 CF3
  have CF0 := CF.out.c0
  have CF1 := CF.out.c1
  have CF2 := CF.out.c2
  have CF3 := CF.out.c3
  simp only [List.drop_succ_cons, List.drop_zero]
  have d0 := RES.out.c0
  have f0 := RES.out.frozen 0
  have d1 := RES.out.c1
  have f1 := RES.out.frozen 1
  have d2 := RES.out.c2
  have f2 := RES.out.frozen 2
  have d3 := RES.out.c3
  have f3 := RES.out.frozen 3
  go_wp2
  exact bodyPost_ret (results_cell_row rfl _ _ (w.heap.size + 1) 37 _ (0, 0) _ rfl (RES.out.put4 _ _ _ _) Tryz.underlying37 rfl (by kernel_rfl)) rfl ⟨rfl, (bel_set4 (g := w.heap.size + 1) HW.out (by omega) _ _ _ _)⟩

theorem refRed_okz (s : Bool) (n d : Nat) (bad : Bool) (w : World) (ho : decide (Top ≤ n) = false) (ho2 : decide (Top ≤ d) = false) (hn0 : n = 0) :
 Calls Tryz.prog 119 #[.agg #[.bool s, .string (dec n), .string (dec d), .bool bad]] w (RetFr (redQ s n d) bad w) := by
 rw [show redQ s n d = ⟨false, 0, 1⟩ by unfold redQ; rw [if_pos hn0]]
 have e1 := dec_is0 n
 rw [decide_eq_true hn0] at e1
 clear hn0
 have HO := Lib.hid (And.intro ho ho2); clear ho ho2
 obtain ⟨wa, hwa⟩ : ∃ wa, wa = (w.alloc (.cells #[.bool s, .string (dec n), .string (dec d), .bool bad] 37)).alloc (.cells #[.bool false, .string ⟨#[]⟩, .string ⟨#[]⟩, .bool false] 37) := ⟨_, rfl⟩
 obtain ⟨hbl, CF, RES⟩ := sal2 hwa
 have HW := Lib.hid hbl; clear hbl
 go_enter Tryz.func119, Tryz.ntmps119
 go_wp2_with fail
 rw [← hwa]
 clear hwa
 have CF0 := CF.out.c0
 have CF1 := CF.out.c1
 have CF2 := CF.out.c2
 have CF3 := CF.out.c3
 refine (refOver_any n _).mono ?_
 rintro e w1 ⟨rfl, hbl⟩
 replace CF := hmB CF hbl
 replace RES := hmB RES hbl
 replace HW := hmW HW hbl; clear hbl
 clear CF0 CF1 CF2 CF3
 have CF0 := CF.out.c0
 have CF1 := CF.out.c1
 have CF2 := CF.out.c2
 have CF3 := CF.out.c3
 rw [HO.out.1]
 go_wp2_with fail
 refine (refOver_any d _).mono ?_
 rintro e w2 ⟨rfl, hbl⟩
 replace CF := hmB CF hbl
 replace RES := hmB RES hbl
 replace HW := hmW HW hbl; clear hbl
 clear CF0 CF1 CF2 CF3
 have CF0 := CF.out.c0
 have CF1 := CF.out.c1
 have CF2 := CF.out.c2
 have CF3 := CF.out.c3
 rw [HO.out.2]
 have d0 := RES.out.c0
 have f0 := RES.out.frozen 0
 have d1 := RES.out.c1
 have f1 := RES.out.frozen 1
 have d2 := RES.out.c2
 have f2 := RES.out.frozen 2
 have d3 := RES.out.c3
 have f3 := RES.out.frozen 3
 go_wp2
 exact bodyPost_ret (results_cell_row rfl _ _ (w.heap.size + 1) 37 _ (0, 0) _ rfl (RES.out.put4 _ _ _ _) Tryz.underlying37 rfl (by kernel_rfl)) rfl ⟨(by show Ending.returned _ = Ending.returned _; rw [dec_zero, dec_one]), (bel_set4 (g := w.heap.size + 1) HW.out (by omega) _ _ _ _)⟩

theorem refRed_okp (s : Bool) (n d : Nat) (bad : Bool) (w : World) (ho : decide (Top ≤ n) = false) (ho2 : decide (Top ≤ d) = false) (hl : (decL n).length ≤ 900) (hl2 : (decL d).length ≤ 900) (hn0 : n ≠ 0) :
 Calls Tryz.prog 119 #[.agg #[.bool s, .string (dec n), .string (dec d), .bool bad]] w (RetFr (redQ s n d) bad w) := by
 rw [show redQ s n d = ⟨s, n / Nat.gcd n d, d / Nat.gcd n d⟩ by unfold redQ; rw [if_neg hn0]]
 have e1 := dec_is0 n
 rw [decide_eq_false hn0] at e1
 have HL := Lib.hid (And.intro hl (And.intro hl2 hn0)); clear hl hl2
 clear hn0
 have HO := Lib.hid (And.intro ho ho2); clear ho ho2
 have hf1 := fun W => field_q (dec (n / Nat.gcd n d)) (dec (n % Nat.gcd n d)) W
 have hf2 := fun W => field_q (dec (d / Nat.gcd n d)) (dec (d % Nat.gcd n d)) W
 obtain ⟨wa, hwa⟩ : ∃ wa, wa = (w.alloc (.cells #[.bool s, .string (dec n), .string (dec d), .bool bad] 37)).alloc (.cells #[.bool false, .string ⟨#[]⟩, .string ⟨#[]⟩, .bool false] 37) := ⟨_, rfl⟩
 obtain ⟨hbl, CF, RES⟩ := sal2 hwa
 have HW := Lib.hid hbl; clear hbl
 go_enter Tryz.func119, Tryz.ntmps119
 go_wp2_with fail
 rw [← hwa]
 clear hwa
 have CF0 := CF.out.c0
 have CF1 := CF.out.c1
 have CF2 := CF.out.c2
 have CF3 := CF.out.c3
 refine (refOver_any n _).mono ?_
 rintro e w1 ⟨rfl, hbl⟩
 replace CF := hmB CF hbl
 replace RES := hmB RES hbl
 replace HW := hmW HW hbl; clear hbl
 clear CF0 CF1 CF2 CF3
 have CF0 := CF.out.c0
 have CF1 := CF.out.c1
 have CF2 := CF.out.c2
 have CF3 := CF.out.c3
 rw [HO.out.1]
 go_wp2_with fail
 refine (refOver_any d _).mono ?_
 rintro e w2 ⟨rfl, hbl⟩
 replace CF := hmB CF hbl
 replace RES := hmB RES hbl
 replace HW := hmW HW hbl; clear hbl
 clear CF0 CF1 CF2 CF3
 have CF0 := CF.out.c0
 have CF1 := CF.out.c1
 have CF2 := CF.out.c2
 have CF3 := CF.out.c3
 rw [HO.out.2]
 go_wp2_with fail
 refine (refCommon_any n d _ (by have := HL.out.1; omega) (by have := HL.out.2.1; omega)).mono ?_
 rintro e w3 ⟨rfl, hbl⟩
 replace CF := hmB CF hbl
 replace RES := hmB RES hbl
 replace HW := hmW HW hbl; clear hbl
 clear CF0 CF1 CF2 CF3
 have CF0 := CF.out.c0
 have CF1 := CF.out.c1
 have CF2 := CF.out.c2
 have CF3 := CF.out.c3
 go_wp2_with fail
 refine wp_region_typed 15 (TOf [VIs (.pointer (some ⟨w.heap.size, 0, none⟩)),
  VIs (.bool s),
  VIs (.pointer (some ⟨w.heap.size, 1, none⟩)),
  VIs (.string (dec n)),
  VIs (.string (dec (Nat.gcd n d))),
  VIs (.agg #[.string (dec (n / (Nat.gcd n d))), .string (dec (n % (Nat.gcd n d)))]),
  VIs (.string (dec (n / (Nat.gcd n d)))),
  VIs (.pointer (some ⟨w.heap.size, 2, none⟩)),
  VIs (.string (dec d)),
  VIs (.string (dec (Nat.gcd n d))),
  VIs (.agg #[.string (dec (d / (Nat.gcd n d))), .string (dec (d % (Nat.gcd n d)))]),
  VIs (.string (dec (d / (Nat.gcd n d)))),
  VIs (.pointer (some ⟨w.heap.size, 3, none⟩)),
  VIs (.bool bad),
  VIs (.agg #[.bool s, .string (dec (n / (Nat.gcd n d))), .string (dec (d / (Nat.gcd n d))), .bool bad])]) (by kernel_rfl) (by kernel_rfl) (by kernel_rfl) (LiftAll.at_ (.cons (VIs.lift _) (.cons (VIs.lift _) (.cons (VIs.lift _) (.cons (VIs.lift _) (.cons (VIs.lift _) (.cons (VIs.lift _) (.cons (VIs.lift _) (.cons (VIs.lift _) (.cons (VIs.lift _) (.cons (VIs.lift _) (.cons (VIs.lift _) (.cons (VIs.lift _) (.cons (VIs.lift _) (.cons (VIs.lift _) (.cons (VIs.lift _) .nil)))))))))))))))) (steps_all (steps_cons ?_ (steps_cons ?_ (steps_cons ?_ (steps_cons ?_ (steps_cons ?_ (steps_cons ?_ (steps_cons ?_ (steps_cons ?_ (steps_cons ?_ (steps_cons ?_ (steps_cons ?_ (steps_cons ?_ (steps_cons ?_ (steps_cons ?_ (steps_cons ?_ steps_zero)))))))))))))))) ?fin
 · intro a0 w9 K9 hF hB hK hC
   have b1 := hF.base (k := 1) (by kernel_rfl) rfl
   clear hF hB hK
   go_simp
   exact hC _ _ (bR _) fun _ _ => rfl
 · intro a0 w9 K9 hF hB hK hC
   have e24 := depV hK 0 rfl rfl rfl rfl
   have x9 := (CF.out.below hB CF.out.lt).c0
   clear hF hB hK
   go_simp
   exact hC _ _ (bR _) fun _ _ => rfl
 · intro a0 w9 K9 hF hB hK hC
   have b1 := hF.base (k := 1) (by kernel_rfl) rfl
   clear hF hB hK
   go_simp
   exact hC _ _ (bR _) fun _ _ => rfl
 · intro a0 w9 K9 hF hB hK hC
   have e26 := depV hK 0 rfl rfl rfl rfl
   have x9 := (CF.out.below hB CF.out.lt).c1
   clear hF hB hK
   go_simp
   exact hC _ _ (bR _) fun _ _ => rfl
 · intro a0 w9 K9 hF hB hK hC
   have b3 := hF.base (k := 3) (by kernel_rfl) rfl
   clear hF hB hK
   go_simp
   exact hC _ _ (bR _) fun _ _ => rfl
 · intro a0 w9 K9 hF hB hK hC
   have e27 := depV hK 0 rfl rfl rfl rfl
   have e28 := depV hK 1 rfl rfl rfl rfl
   have HB9 := Lib.hid hB
   clear hF hB hK
   go_simp
   refine (refDiv_any n (Nat.gcd n d) _ (by have := HL.out.1; omega) (by have := gcd_len (d := d) HL.out.2.2 HL.out.1; omega) (Nat.ne_of_gt (Nat.gcd_pos_of_pos_left d (Nat.pos_of_ne_zero HL.out.2.2)))).mono ?_
   rintro e w7 ⟨rfl, hbl⟩
   exact hC _ _ hbl fun _ _ => rfl
 · intro a0 w9 K9 hF hB hK hC
   have e29 := depV hK 0 rfl rfl rfl rfl
   have HB9 := Lib.hid hB
   clear hF hB hK
   go_simp
   exact hC _ _ (bR _) fun _ _ => rfl
 · intro a0 w9 K9 hF hB hK hC
   have b1 := hF.base (k := 1) (by kernel_rfl) rfl
   clear hF hB hK
   go_simp
   exact hC _ _ (bR _) fun _ _ => rfl
 · intro a0 w9 K9 hF hB hK hC
   have e31 := depV hK 0 rfl rfl rfl rfl
   have x9 := (CF.out.below hB CF.out.lt).c2
   clear hF hB hK
   go_simp
   exact hC _ _ (bR _) fun _ _ => rfl
 · intro a0 w9 K9 hF hB hK hC
   have b3 := hF.base (k := 3) (by kernel_rfl) rfl
   clear hF hB hK
   go_simp
   exact hC _ _ (bR _) fun _ _ => rfl
 · intro a0 w9 K9 hF hB hK hC
   have e32 := depV hK 0 rfl rfl rfl rfl
   have e33 := depV hK 1 rfl rfl rfl rfl
   have HB9 := Lib.hid hB
   clear hF hB hK
   go_simp
   refine (refDiv_any d (Nat.gcd n d) _ (by have := HL.out.2.1; omega) (by have := gcd_len (d := d) HL.out.2.2 HL.out.1; omega) (Nat.ne_of_gt (Nat.gcd_pos_of_pos_left d (Nat.pos_of_ne_zero HL.out.2.2)))).mono ?_
   rintro e w7 ⟨rfl, hbl⟩
   exact hC _ _ hbl fun _ _ => rfl
 · intro a0 w9 K9 hF hB hK hC
   have e34 := depV hK 0 rfl rfl rfl rfl
   have HB9 := Lib.hid hB
   clear hF hB hK
   go_simp
   exact hC _ _ (bR _) fun _ _ => rfl
 · intro a0 w9 K9 hF hB hK hC
   have b1 := hF.base (k := 1) (by kernel_rfl) rfl
   clear hF hB hK
   go_simp
   exact hC _ _ (bR _) fun _ _ => rfl
 · intro a0 w9 K9 hF hB hK hC
   have e36 := depV hK 0 rfl rfl rfl rfl
   have x9 := (CF.out.below hB CF.out.lt).c3
   clear hF hB hK
   go_simp
   exact hC _ _ (bR _) fun _ _ => rfl
 · intro a0 w9 K9 hF hB hK hC
   have e25 := depV hK 0 rfl rfl rfl rfl
   have e30 := depV hK 1 rfl rfl rfl rfl
   have e35 := depV hK 2 rfl rfl rfl rfl
   have e37 := depV hK 3 rfl rfl rfl rfl
   have HB9 := Lib.hid hB
   clear hF hB hK
   go_simp
   exact hC _ _ (bR _) fun _ _ => rfl
 case fin =>
  intro a0 w9 hF hB hK
  have b1 := hF.base (k := 1) (by kernel_rfl) rfl
  have b2 := hF.base (k := 2) (by kernel_rfl) rfl
  have b3 := hF.base (k := 3) (by kernel_rfl) rfl
  have hsz := hF.size
  have hdf := hF.defers
  clear hF
  obtain ⟨v38, e38, z38⟩ := known hK 14 (k := 38) (by decide) rfl
  have z38 : v38 = .agg #[.bool s, .string (dec (n / (Nat.gcd n d))), .string (dec (d / (Nat.gcd n d))), .bool bad] := z38
  subst z38
  clear hK
  obtain ⟨⟨l0⟩, df⟩ := a0
  have hs0 : l0.length = 39 := hsz
  clear hsz
  replace hdf : df = _ := hdf
  subst hdf
  obtain ⟨u, rfl⟩ := lits_39 hs0
  clear hs0
  have q1 : u 1 = _ := Option.some.inj b1
  clear b1
  have q2 : u 2 = _ := Option.some.inj b2
  clear b2
  have q3 : u 3 = _ := Option.some.inj b3
  clear b3
  have q38 : u 38 = _ := Option.some.inj e38
  clear e38
  rw [q1, q2, q3, q38]
  clear q1 q2 q3 q38
  have hbl := hB; clear hB
  replace CF := hmB CF hbl
  replace RES := hmB RES hbl
  replace HW := hmW HW hbl; clear hbl
  clear CF0 CF1 CF2 CF3
  have CF0 := CF.out.c0
  have CF1 := CF.out.c1
  have CF2 := CF.out.c2
  have CF3 := CF.out.c3
  simp only [List.drop_succ_cons, List.drop_zero]
  have d0 := RES.out.c0
  have f0 := RES.out.frozen 0
  have d1 := RES.out.c1
  have f1 := RES.out.frozen 1
  have d2 := RES.out.c2
  have f2 := RES.out.frozen 2
  have d3 := RES.out.c3
  have f3 := RES.out.frozen 3
  go_wp2
  exact bodyPost_ret (results_cell_row rfl _ _ (w.heap.size + 1) 37 _ (0, 0) _ rfl (RES.out.put4 _ _ _ _) Tryz.underlying37 rfl (by kernel_rfl)) rfl ⟨rfl, (bel_set4 (g := w.heap.size + 1) HW.out (by omega) _ _ _ _)⟩

def overB (bad : Bool) (n d : Nat) : Bool := bad || decide (Top ≤ n) || decide (Top ≤ d)
theorem refRed_any (s : Bool) (n d : Nat) (bad : Bool) (w : World) (hl : (decL n).length ≤ 900) (hl2 : (decL d).length ≤ 900) :
 Calls Tryz.prog 119 #[.agg #[.bool s, .string (dec n), .string (dec d), .bool bad]] w (RetFr (redQ s n d) (overB bad n d) w) := by
 unfold overB
 cases ho : decide (Top ≤ n)
 · cases ho2 : decide (Top ≤ d)
   · rw [Bool.or_false, Bool.or_false]
     by_cases hn0 : n = 0
     · exact refRed_okz s n d bad w ho ho2 hn0
     · exact refRed_okp s n d bad w ho ho2 hl hl2 hn0
   · rw [Bool.or_true]
     by_cases hn0 : n = 0
     · exact refRed_odz s n d bad w ho ho2 hn0
     · exact refRed_odp s n d bad w ho ho2 hl hl2 hn0
 · rw [Bool.or_true, Bool.true_or]
   have hn0 : n ≠ 0 := by
    have h1 : Top ≤ n := of_decide_eq_true ho
    have h2 : 0 < Top := small_top (by decide)
    omega
   exact refRed_onp s n d bad w ho hl hl2 hn0
theorem refRed_q {q : Q} {b : Bool} (s : Bool) (n d : Nat) (bad : Bool) (w : World) (hl : (decL n).length ≤ 900) (hl2 : (decL d).length ≤ 900) (hq : redQ s n d = q) (hb : overB bad n d = b) :
 Calls Tryz.prog 119 #[.agg #[.bool s, .string (dec n), .string (dec d), .bool bad]] w (RetFr q b w) := by
 rw [← hq, ← hb]
 exact refRed_any s n d bad w hl hl2
end
end
end Go.Proofs.YtmbbdjpnecjleaaGreat
