/-
 Parts: K33.
-/
import Derived.Test.YtmbbdjpnecjleaaGreatH28
import Derived.Test.YtmbbdjpnecjleaaGreatH27
import Derived.Test.YtmbbdjpnecjleaaGreatH29
namespace Go.Proofs.YtmbbdjpnecjleaaGreat
section
set_option maxRecDepth 100000
set_option maxHeartbeats 1000000
open Go.RowKit

def ShT (q z : Q) (P : Value) (G B : Nat) (S : Nat → Bool) (i : Nat) (w : World) (v : Value) : Prop := match i with
 | 0 => v = .pointer (some ⟨G, 0, none⟩)
 | 1 => v = .bool q.s
 | 2 => v = P
 | 3 => RdN w v 1
 | 4 => VQE z 0 w v
 | 5 => VQE z 0 w v
 | 6 => VQ z w v
 | 7 => v = .int .i64 0
 | 8 => ∃ g, v = .pointer (some ⟨g, 0, none⟩) ∧ B ≤ g ∧ (S 9 = false → Blk w g 25 #[.bool false, .slice none 0 0, .slice none 0 0]) ∧ (S 9 = true → ∃ x y, Blk w g 25 #[.bool z.s, x, y] ∧ RdN w x z.n ∧ RdN w y z.d)
 | _ => True
theorem ShT.lift {q z : Q} {P : Value} {G B i j : Nat} {S : Nat → Bool} {w w' : World} {v : Value} (h : ShT q z P G B S j w v) (hi : (9 == i) = false) (hb : Below w.heap.size w w') : ShT q z P G B (insS S i) j w' v := by
 have h9 : insS S i 9 = S 9 := by unfold insS; rw [hi, Bool.or_false]
 unfold ShT at h ⊢
 rw [h9]
 match j, h with
 | 0, h => exact h
 | 1, h => exact h
 | 2, h => exact h
 | 3, h => exact RdN.below h hb
 | 4, h => exact VQE.lift z 0 _ _ _ h hb
 | 5, h => exact VQE.lift z 0 _ _ _ h hb
 | 6, h => exact VQ.lift z _ _ _ h hb
 | 7, h => exact h
 | 8, ⟨g, h1, h2, h3, h4⟩ => exact ⟨g, h1, h2, fun hs => (h3 hs).below hb (h3 hs).lt, fun hs => by obtain ⟨x, y, hB, hx, hy⟩ := h4 hs; exact ⟨x, y, hB.below hb hB.lt, hx.below hb, hy.below hb⟩⟩
 | j + 9, _ => exact trivial
theorem ShT.store {q z : Q} {P : Value} {G B j k g : Nat} {S : Nat → Bool} {w : World} {u x y : Value} {a : Act} {l : List Oper} {oj : Oper} {b : Bool} {E F : Option Addr} {m m' c c' : Nat} (hB : Blk w g 25 #[.bool b, .slice E m c, .slice F m' c']) (hx : RdN w x z.n) (hy : RdN w y z.d)
 (hj : S j = true) (ho : l[j]? = some oj) (hk : oj.dst = some k) (hu : a.tmps[k]? = some u) (he : a.tmps[14]? = some (.pointer (some ⟨g, 0, none⟩))) (h8 : (l[8]?).bind (fun o => o.dst) = some 14) (h : ShT q z P G B S j w u) :
 ShT q z P G B (insS S 9) j (((w.setCell ⟨g, 0, none⟩ (.bool z.s)).setCell ⟨g, 1, none⟩ x).setCell ⟨g, 2, none⟩ y) u := by
 have hq : ∀ v n, RdN w v n → RdN (((w.setCell ⟨g, 0, none⟩ (.bool z.s)).setCell ⟨g, 1, none⟩ x).setCell ⟨g, 2, none⟩ y) v n := fun v n hn => RdN.set3 hB hn _ _ _
 unfold ShT at h ⊢
 match j, h with
 | 0, h => exact h
 | 1, h => exact h
 | 2, h => exact h
 | 3, h => exact hq _ _ h
 | 4, ⟨x1, y1, e, h1, h2⟩ => exact ⟨x1, y1, e, hq _ _ h1, hq _ _ h2⟩
 | 5, ⟨x1, y1, e, h1, h2⟩ => exact ⟨x1, y1, e, hq _ _ h1, hq _ _ h2⟩
 | 6, ⟨x1, y1, e, h1, h2⟩ => exact ⟨x1, y1, e, hq _ _ h1, hq _ _ h2⟩
 | 7, h => exact h
 | 8, ⟨g', h1, h2, _, _⟩ =>
  have hk14 : k = 14 := by rw [ho] at h8; simp only [Option.bind_some] at h8; rw [hk] at h8; exact Option.some.inj h8
  subst hk14
  rw [he] at hu
  have hg : g = g' := by rw [h1] at hu; simpa using hu
  subst hg
  exact ⟨g, h1, h2, fun hs => absurd hs (by simp [insS]), fun _ => ⟨x, y, hB.put3 _ _ _, hq _ _ hx, hq _ _ hy⟩⟩
 | j + 9, _ => exact trivial
theorem shift_down (A : Option Addr) (cap a m : Nat) (w : World) (h : RdL w A (limbs a)) (ha : a < Top) {X : Nat} (hX : a / 2 ^ m = X) : Calls Tryz.prog 86 #[.slice A (limbs a).length cap, .int .i64 (-(m : Int))] w (RetNE X 0 w) := by
 have h1 := shift_right A cap a (-(m : Int)) w h ha
 have h2 : shN a (-(m : Int)) = X := by
  unfold shN
  split
  · have h0 : m = 0 := by omega
    subst h0
    rw [← hX]
    simp
  · rw [← hX]
    congr 2
    omega
 rw [h2] at h1
 have hf : X < Top := lt_top (by rw [← hX]; exact Nat.div_le_self _ _) ha
 rwa [(fit_small hf).1, (fit_small hf).2] at h1
theorem kSh_over (m : Nat) (q : Q) (A B : Option Addr) (c d : Nat) (w : World) (h : RdL w A (limbs q.n)) (h' : RdL w B (limbs q.d)) (hc : (limbs q.n).length ≤ c) (hc' : (limbs q.d).length ≤ d) (hn : q.n < Top) (hd : q.d < Top) (ho : ¬ q.n * 2 ^ m < Top) :
 Calls Tryz.prog 48 #[.string ⟨#[60, 60]⟩, .agg #[.bool q.s, .slice A (limbs q.n).length c, .slice B (limbs q.d).length d], .int .i64 (m : Int)] w (RetQE noQ 2 w) := by
 have RA := Lib.hid h; clear h
 have RB := Lib.hid h'; clear h'
 have LA := Lib.hid (And.intro hn hc); clear hn hc
 have LB := Lib.hid (And.intro hd hc'); clear hd hc'
 obtain ⟨X, hX⟩ : ∃ X, q.n * 2 ^ m = X := ⟨_, rfl⟩
 have HX := Lib.hid hX
 rw [hX] at ho
 have HO := Lib.hid ho; clear ho hX
 obtain ⟨wa, hwa⟩ : ∃ wa, wa = (w.alloc (.cells #[.bool q.s, .slice A (limbs q.n).length c, .slice B (limbs q.d).length d] 25)).alloc (.cells #[.bool false, .slice none 0 0, .slice none 0 0] 25) := ⟨_, rfl⟩
 obtain ⟨hbl, CX, RES⟩ := kal2 hwa
 replace RA := hmR RA hbl
 replace RB := hmR RB hbl
 have HW := Lib.hid hbl; clear hbl
 replace CX := Lib.hid CX
 replace RES := Lib.hid RES
 go_enter Tryz.func48, Tryz.ntmps48
 go_upto_region 1 with fail
 rw [← hwa]
 clear hwa
 obtain ⟨CX0, CX1, CX2⟩ := CX.out.cs3
 go_wp2_with fail
 refine (shift_ovr A c q.n m _ RA.out LA.out.1 HX.out HO.out).mono ?_
 rintro e w1 ⟨vp, rfl, hnp, hbl⟩
 replace RA := hmR RA hbl
 replace RB := hmR RB hbl
 replace CX := hmB CX hbl
 replace RES := hmB RES hbl
 replace HW := hmW HW hbl; clear hbl
 clear CX0 CX1 CX2
 obtain ⟨CX0, CX1, CX2⟩ := CX.out.cs3
 have HNp := Lib.hid hnp; clear hnp
 obtain ⟨Ap, cp, rfl, hcp, hrp⟩ := HNp.out.row
 have Rp := Lib.hid hrp; have HCp := Lib.hid hcp; clear hrp hcp
 obtain ⟨d0, d1, d2⟩ := RES.out.cs3
 obtain ⟨f0, f1, f2⟩ := RES.out.fz3
 go_wp2
 exact bodyPost_ret (results_row_tmp rfl _ _ (w.heap.size + 1) 25 _ (0, 0) _ _ rfl rfl (RES.out.put3 _ _ _) Tryz.underlying25 rfl (by kernel_rfl)) rfl ⟨_, _, rfl, (RdN.set3 RES.out (RdN.none0 _) _ _ _), (RdN.set3 RES.out (RdN.none0 _) _ _ _), (bel_set3 (g := w.heap.size + 1) HW.out (by omega) _ _ _)⟩
theorem kSh_up {z : Q} (m : Nat) (q : Q) (A B : Option Addr) (c d : Nat) (w : World) (h : RdL w A (limbs q.n)) (h' : RdL w B (limbs q.d)) (hc : (limbs q.n).length ≤ c) (hc' : (limbs q.d).length ≤ d) (hn : q.n < Top) (hd : q.d < Top) (ho : q.n * 2 ^ m < Top) (hz : redQ q.s (q.n * 2 ^ m) 1 = z) :
 Calls Tryz.prog 48 #[.string ⟨#[60, 60]⟩, .agg #[.bool q.s, .slice A (limbs q.n).length c, .slice B (limbs q.d).length d], .int .i64 (m : Int)] w (RetQE z 0 w) := by
 have RA := Lib.hid h; clear h
 have RB := Lib.hid h'; clear h'
 have LA := Lib.hid (And.intro hn hc); clear hn hc
 have LB := Lib.hid (And.intro hd hc'); clear hd hc'
 obtain ⟨X, hX⟩ : ∃ X, q.n * 2 ^ m = X := ⟨_, rfl⟩
 have HX := Lib.hid hX
 rw [hX] at ho hz
 have HZ := Lib.hid (And.intro hz ho); clear ho hX hz
 obtain ⟨wa, hwa⟩ : ∃ wa, wa = (w.alloc (.cells #[.bool q.s, .slice A (limbs q.n).length c, .slice B (limbs q.d).length d] 25)).alloc (.cells #[.bool false, .slice none 0 0, .slice none 0 0] 25) := ⟨_, rfl⟩
 obtain ⟨hbl, CX, RES⟩ := kal2 hwa
 replace RA := hmR RA hbl
 replace RB := hmR RB hbl
 have HW := Lib.hid hbl; clear hbl
 replace CX := Lib.hid CX
 replace RES := Lib.hid RES
 go_enter Tryz.func48, Tryz.ntmps48
 go_upto_region 1 with fail
 rw [← hwa]
 clear hwa
 obtain ⟨CX0, CX1, CX2⟩ := CX.out.cs3
 go_wp2_with fail
 refine (shift_fit A c q.n m _ RA.out LA.out.1 HX.out HZ.out.2).mono ?_
 rintro e w1 ⟨vp, rfl, hnp, hbl⟩
 replace RA := hmR RA hbl
 replace RB := hmR RB hbl
 replace CX := hmB CX hbl
 replace RES := hmB RES hbl
 replace HW := hmW HW hbl; clear hbl
 clear CX0 CX1 CX2
 obtain ⟨CX0, CX1, CX2⟩ := CX.out.cs3
 have HNp := Lib.hid hnp; clear hnp
 obtain ⟨Ap, cp, rfl, hcp, hrp⟩ := HNp.out.row
 have Rp := Lib.hid hrp; have HCp := Lib.hid hcp; clear hrp hcp
 go_upto_region 5 with fail
 refine wp_region_typed 7 (TOf [VIs (.pointer (some ⟨w.heap.size, 0, none⟩)),
  VIs (.bool q.s),
  VIs (.slice Ap (limbs X).length cp),
  VNum 1,
  VQE z 0,
  VQ z,
  VIs (.int .i64 0)]) (by kernel_rfl) (by kernel_rfl) (by kernel_rfl) (LiftAll.at_ (.cons (VIs.lift _) (.cons (VIs.lift _) (.cons (VIs.lift _) (.cons (VNum.lift _) (.cons (VQE.lift _ _) (.cons (VQ.lift _) (.cons (VIs.lift _) .nil)))))))) (steps_all (steps_cons ?_ (steps_cons ?_ (steps_cons ?_ (steps_cons ?_ (steps_cons ?_ (steps_cons ?_ (steps_cons ?_ steps_zero)))))))) ?fin
 · intro a0 w9 K9 hF hB hK hC
   have b4 := hF.base (k := 4) (by kernel_rfl) rfl
   clear hF hB hK
   go_simp
   exact hC _ _ (bR _) fun _ _ => rfl
 · intro a0 w9 K9 hF hB hK hC
   have e31 := depV hK 0 rfl rfl rfl rfl
   have x9 := (CX.out.below hB CX.out.lt).c0
   clear hF hB hK
   go_simp
   exact hC _ _ (bR _) fun _ _ => rfl
 · intro a0 w9 K9 hF hB hK hC
   have b8 := hF.base (k := 8) (by kernel_rfl) rfl
   clear hF hB hK
   go_simp
   exact hC _ _ (bR _) fun _ _ => rfl
 · intro a0 w9 K9 hF hB hK hC
   have HB9 := Lib.hid hB
   clear hF hB hK
   go_simp
   refine (kOne_any _).mono ?_
   rintro e w7 ⟨v7, rfl, hn7, hbl⟩
   exact hC _ _ hbl fun _ _ => hn7
 · intro a0 w9 K9 hF hB hK hC
   have e32 := depV hK 0 rfl rfl rfl rfl
   have e33 := depV hK 1 rfl rfl rfl rfl
   obtain ⟨v34, e34, z34⟩ := dep hK 2 (g := .data) (j := 3) (k := 34) rfl rfl rfl
   have z34 : RdN w9 v34 1 := z34
   obtain ⟨A1, c1, rfl, hc1, hr1⟩ := z34
   have HB9 := Lib.hid hB
   clear hF hB hK
   go_simp
   refine (make_ok (q := z) q.s Ap A1 cp c1 X 1 _ (Rp.out.below HB9.out) hr1 HCp.out hc1 HZ.out.2 one_top15 (by decide) HZ.out.1).mono ?_
   rintro e7 w7 ⟨x7, y7, rfl, hx7, hy7, hbl⟩
   exact hC _ _ hbl fun _ _ => ⟨_, _, rfl, hx7, hy7⟩
 · intro a0 w9 K9 hF hB hK hC
   obtain ⟨v35, e35, z35⟩ := dep hK 0 (g := .data) (j := 4) (k := 35) rfl rfl rfl
   have z35 : ∃ x y, v35 = .tuple #[.agg #[.bool z.s, x, y], .int .i64 0] ∧ RdN w9 x z.n ∧ RdN w9 y z.d := z35
   obtain ⟨xm, ym, rfl, hxm, hym⟩ := z35
   have HB9 := Lib.hid hB
   clear hF hB hK
   go_simp
   exact hC _ _ (bel_refl _) fun _ _ => ⟨_, _, rfl, hxm, hym⟩
 · intro a0 w9 K9 hF hB hK hC
   obtain ⟨v35, e35, z35⟩ := dep hK 0 (g := .data) (j := 4) (k := 35) rfl rfl rfl
   have z35 : ∃ x y, v35 = .tuple #[.agg #[.bool z.s, x, y], .int .i64 0] ∧ RdN w9 x z.n ∧ RdN w9 y z.d := z35
   obtain ⟨xm, ym, rfl, hxm, hym⟩ := z35
   have HB9 := Lib.hid hB
   clear hF hB hK
   go_simp
   exact hC _ _ (bR _) fun _ _ => rfl
 case fin =>
  intro a0 w9 hF hB hK
  have b4 := hF.base (k := 4) (by kernel_rfl) rfl
  have b6 := hF.base (k := 6) (by kernel_rfl) rfl
  have b8 := hF.base (k := 8) (by kernel_rfl) rfl
  have hsz := hF.size
  have hdf := hF.defers
  clear hF
  obtain ⟨v36, e36, z36⟩ := known hK 5 (k := 36) (by decide) rfl
  have z36 : ∃ x y, v36 = .agg #[.bool z.s, x, y] ∧ RdN w9 x z.n ∧ RdN w9 y z.d := z36
  obtain ⟨x36, y36, rfl, hx36, hy36⟩ := z36
  obtain ⟨v37, e37, z37⟩ := known hK 6 (k := 37) (by decide) rfl
  have z37 : v37 = .int .i64 0 := z37
  subst z37
  clear hK
  obtain ⟨⟨l0⟩, df⟩ := a0
  have hs0 : l0.length = 80 := hsz
  clear hsz
  replace hdf : df = _ := hdf
  subst hdf
  obtain ⟨u, rfl⟩ := lits_80 hs0
  clear hs0
  generalize hAr : (Array.mk [u 0, u 1, u 2, u 3, u 4, u 5, u 6, u 7, u 8, u 9, u 10, u 11, u 12, u 13, u 14, u 15, u 16, u 17, u 18, u 19, u 20, u 21, u 22, u 23, u 24, u 25, u 26, u 27, u 28, u 29, u 30, u 31, u 32, u 33, u 34, u 35, u 36, u 37, u 38, u 39, u 40, u 41, u 42, u 43, u 44, u 45, u 46, u 47, u 48, u 49, u 50, u 51, u 52, u 53, u 54, u 55, u 56, u 57, u 58, u 59, u 60, u 61, u 62, u 63, u 64, u 65, u 66, u 67, u 68, u 69, u 70, u 71, u 72, u 73, u 74, u 75, u 76, u 77, u 78, u 79] : Array Value) = ar
  obtain rfl : ar = #[u 0, u 1, u 2, u 3, u 4, u 5, u 6, u 7, u 8, u 9, u 10, u 11, u 12, u 13, u 14, u 15, u 16, u 17, u 18, u 19, u 20, u 21, u 22, u 23, u 24, u 25, u 26, u 27, u 28, u 29, u 30, u 31, u 32, u 33, u 34, u 35, u 36, u 37, u 38, u 39, u 40, u 41, u 42, u 43, u 44, u 45, u 46, u 47, u 48, u 49, u 50, u 51, u 52, u 53, u 54, u 55, u 56, u 57, u 58, u 59, u 60, u 61, u 62, u 63, u 64, u 65, u 66, u 67, u 68, u 69, u 70, u 71, u 72, u 73, u 74, u 75, u 76, u 77, u 78, u 79] := hAr.symm
  have q4 : u 4 = _ := Option.some.inj b4
  clear b4
  have q6 : u 6 = _ := Option.some.inj b6
  clear b6
  have q8 : u 8 = _ := Option.some.inj b8
  clear b8
  have q36 : u 36 = _ := Option.some.inj e36
  clear e36
  have q37 : u 37 = _ := Option.some.inj e37
  clear e37
  rw [q4, q6, q8, q36, q37]
  clear q4 q6 q8 q36 q37
  have hbl := hB; clear hB
  replace RA := hmR RA hbl
  replace RB := hmR RB hbl
  replace Rp := hmR Rp hbl
  replace HNp := hmN HNp hbl
  replace CX := hmB CX hbl
  replace RES := hmB RES hbl
  replace HW := hmW HW hbl; clear hbl
  clear CX0 CX1 CX2
  obtain ⟨CX0, CX1, CX2⟩ := CX.out.cs3
  simp only [List.drop_succ_cons, List.drop_zero]
  obtain ⟨Ax, cx, rfl, hcAx, hrAx⟩ := hx36.row
  obtain ⟨Ay, cy, rfl, hcAy, hrAy⟩ := hy36.row
  have HNx := Lib.hid hx36; have HNy := Lib.hid hy36; clear hx36 hy36 hcAx hrAx hcAy hrAy
  obtain ⟨d0, d1, d2⟩ := RES.out.cs3
  obtain ⟨f0, f1, f2⟩ := RES.out.fz3
  go_wp2
  exact bodyPost_ret (results_row_tmp rfl _ _ (w.heap.size + 1) 25 _ (0, 0) _ _ rfl rfl (RES.out.put3 _ _ _) Tryz.underlying25 rfl (by kernel_rfl)) rfl ⟨_, _, rfl, (RdN.set3 RES.out (HNx.out) _ _ _), (RdN.set3 RES.out (HNy.out) _ _ _), (bel_set3 (g := w.heap.size + 1) HW.out (by omega) _ _ _)⟩
theorem kSh_keep {z : Q} (m : Nat) (q : Q) (A B : Option Addr) (c d : Nat) (w : World) (h : RdL w A (limbs q.n)) (h' : RdL w B (limbs q.d)) (hc : (limbs q.n).length ≤ c) (hc' : (limbs q.d).length ≤ d) (hn : q.n < Top) (hd : q.d < Top) (hm : m ≤ 1000) (hz : redQ q.s (q.n / 2 ^ m) 1 = z) (hk : q.n / 2 ^ m * 2 ^ m = q.n ∨ q.s = false) :
 Calls Tryz.prog 48 #[.string ⟨#[62, 62]⟩, .agg #[.bool q.s, .slice A (limbs q.n).length c, .slice B (limbs q.d).length d], .int .i64 (m : Int)] w (RetQE z 0 w) := by
 have RA := Lib.hid h; clear h
 have RB := Lib.hid h'; clear h'
 have LA := Lib.hid (And.intro hn hc); clear hn hc
 have LB := Lib.hid (And.intro hd hc'); clear hd hc'
 have hm9 : IntKind.i64.wrap (-(m : Int)) = -(m : Int) := by rw [IntKind.wrap_i64]; omega
 obtain ⟨X, hX⟩ : ∃ X, q.n / 2 ^ m = X := ⟨_, rfl⟩
 have HX := Lib.hid hX
 have hxt : X < Top := lt_top (by rw [← hX]; exact Nat.div_le_self _ _) LA.out.1
 rw [hX] at hz
 have HZ := Lib.hid (And.intro hz hxt); clear hz hxt
 obtain ⟨Y, hY⟩ : ∃ Y, X * 2 ^ m = Y := ⟨_, rfl⟩
 have HY := Lib.hid (And.intro hY (show Y < Top from lt_top (by rw [← hY, ← hX]; exact Nat.div_mul_le_self _ _) LA.out.1)); clear hY
 have hcv : cmpI (Y : Int) (q.n : Int) = 0 ∨ q.s = false := by
  rcases hk with h | h
  · left; rw [cmpI_zero, ← HY.out.1, ← HX.out]; exact h
  · exact .inr h
 clear hk hX
 obtain ⟨wa, hwa⟩ : ∃ wa, wa = (w.alloc (.cells #[.bool q.s, .slice A (limbs q.n).length c, .slice B (limbs q.d).length d] 25)).alloc (.cells #[.bool false, .slice none 0 0, .slice none 0 0] 25) := ⟨_, rfl⟩
 obtain ⟨hbl, CX, RES⟩ := kal2 hwa
 replace RA := hmR RA hbl
 replace RB := hmR RB hbl
 have HW := Lib.hid hbl; clear hbl
 replace CX := Lib.hid CX
 replace RES := Lib.hid RES
 go_enter Tryz.func48, Tryz.ntmps48
 go_upto_region 1 with fail
 rw [← hwa]
 clear hwa
 obtain ⟨CX0, CX1, CX2⟩ := CX.out.cs3
 go_wp2_with fail
 refine (shift_down A c q.n m _ RA.out LA.out.1 HX.out).mono ?_
 rintro e w1 ⟨vp, rfl, hnp, hbl⟩
 replace RA := hmR RA hbl
 replace RB := hmR RB hbl
 replace CX := hmB CX hbl
 replace RES := hmB RES hbl
 replace HW := hmW HW hbl; clear hbl
 clear CX0 CX1 CX2
 obtain ⟨CX0, CX1, CX2⟩ := CX.out.cs3
 have HNp := Lib.hid hnp; clear hnp
 obtain ⟨Ap, cp, rfl, hcp, hrp⟩ := HNp.out.row
 have Rp := Lib.hid hrp; have HCp := Lib.hid hcp; clear hrp hcp
 go_wp2_with fail
 refine (shift_fit Ap cp X m _ Rp.out HZ.out.2 HY.out.1 HY.out.2).mono ?_
 rintro e w2 ⟨vu, rfl, hnu, hbl⟩
 replace RA := hmR RA hbl
 replace RB := hmR RB hbl
 replace Rp := hmR Rp hbl
 replace HNp := hmN HNp hbl
 replace CX := hmB CX hbl
 replace RES := hmB RES hbl
 replace HW := hmW HW hbl; clear hbl
 clear CX0 CX1 CX2
 obtain ⟨CX0, CX1, CX2⟩ := CX.out.cs3
 have HNu := Lib.hid hnu; clear hnu
 obtain ⟨Au, cu, rfl, hcu, hru⟩ := HNu.out.row
 have Ru := Lib.hid hru; have HCu := Lib.hid hcu; clear hru hcu
 go_upto_region 8 with fail
 have hsz0 : w.heap.size + 1 < w2.heap.size := RES.out.lt
 refine wp_region_inv2 (ShT q z (.slice Ap (limbs X).length cp) w.heap.size w2.heap.size) (fun _ W => Below w2.heap.size w2 W) (by kernel_rfl) (by kernel_rfl) ?ini (stepsI_cons2 ?_ (stepsI_cons2 ?_ (stepsI_cons2 ?_ (stepsI_cons2 ?_ (stepsI_cons2 ?_ (stepsI_cons2 ?_ (stepsI_cons2 ?_ (stepsI_cons2 ?_ (stepsI_cons2 ?_ (stepsI_cons2 ?_ (stepsI_cons2 ?_ (stepsI_nil2)))))))))))) ?fin
 case ini => exact bel_drewN (bel_refl _) 1
 · intro S a1 w9 K9 hun hcl haf hF hJ hK hC
   replace hun : S 0 = false := hun
   have b4 := hF.base (k := 4) (by kernel_rfl) rfl
   have HJ := Lib.hid hJ
   clear hF hcl haf hK hJ
   go_simp
   exact hC _ _ (fun _ _ => rfl) (fun j _ _ u _ _ _ _ hT => hT.lift (by decide) (bel_refl _)) (HJ.out)
 · intro S a1 w9 K9 hun hcl haf hF hJ hK hC
   replace hun : S 1 = false := hun
   obtain ⟨v53, e53, z53⟩ := ikn2 hK 0 (k := 53) (iaft haf 0 (g := .data) (j := 0) rfl rfl) rfl
   have z53 : v53 = .pointer (some ⟨w.heap.size, 0, none⟩) := z53
   subst z53
   have x0 : w9.cell? ⟨w.heap.size, 0, none⟩ = some (.bool q.s) := (CX.out.below hJ CX.out.lt).cell 0
   have HJ := Lib.hid hJ
   clear hF hcl haf hK hJ
   go_simp
   exact hC _ _ (fun _ _ => rfl) (fun j _ _ u _ _ _ _ hT => hT.lift (by decide) (bel_refl _)) (HJ.out)
 · intro S a1 w9 K9 hun hcl haf hF hJ hK hC
   replace hun : S 2 = false := hun
   have b10 := hF.base (k := 10) (by kernel_rfl) rfl
   have HJ := Lib.hid hJ
   clear hF hcl haf hK hJ
   go_simp
   exact hC _ _ (fun _ _ => rfl) (fun j _ _ u _ _ _ _ hT => hT.lift (by decide) (bel_refl _)) (HJ.out)
 · intro S a1 w9 K9 hun hcl haf hF hJ hK hC
   replace hun : S 3 = false := hun
   have HJ := Lib.hid hJ
   clear hF hcl haf hK hJ
   go_simp
   refine (kOne_any _).mono ?_
   rintro e7 w7 ⟨v7, rfl, hn7, hbl⟩
   exact hC _ _ (fun _ _ => hn7) (fun j _ _ u _ _ _ _ hT => hT.lift (by decide) hbl) (bel_trans HJ.out hbl)
 · intro S a1 w9 K9 hun hcl haf hF hJ hK hC
   replace hun : S 4 = false := hun
   obtain ⟨v54, e54, z54⟩ := ikn2 hK 1 (k := 54) (iaft haf 0 (g := .data) (j := 1) rfl rfl) rfl
   have z54 : v54 = .bool q.s := z54
   subst z54
   obtain ⟨v55, e55, z55⟩ := ikn2 hK 2 (k := 55) (iaft haf 1 (g := .data) (j := 2) rfl rfl) rfl
   have z55 : v55 = .slice Ap (limbs X).length cp := z55
   subst z55
   obtain ⟨v56, e56, z56⟩ := ikn2 hK 3 (k := 56) (iaft haf 2 (g := .data) (j := 3) rfl rfl) rfl
   have z56 : RdN w9 v56 1 := z56
   obtain ⟨A1, c1, rfl, hc1, hr1⟩ := z56
   have HJ := Lib.hid hJ
   clear hF hcl haf hK hJ
   go_simp
   refine (make_ok (q := z) q.s Ap A1 cp c1 X 1 _ (Rp.out.below HJ.out) hr1 HCp.out hc1 HZ.out.2 one_top15 (by decide) HZ.out.1).mono ?_
   rintro e7 w7 ⟨x7, y7, rfl, hx7, hy7, hbl⟩
   exact hC _ _ (fun _ _ => ⟨_, _, rfl, hx7, hy7⟩) (fun j _ _ u _ _ _ _ hT => hT.lift (by decide) hbl) (bel_trans HJ.out hbl)
 · intro S a1 w9 K9 hun hcl haf hF hJ hK hC
   replace hun : S 5 = false := hun
   obtain ⟨v57, e57, z57⟩ := ikn2 hK 4 (k := 57) (iaft haf 0 (g := .data) (j := 4) rfl rfl) rfl
   have z57 : ∃ x y, v57 = .tuple #[.agg #[.bool z.s, x, y], .int .i64 0] ∧ RdN w9 x z.n ∧ RdN w9 y z.d := z57
   obtain ⟨x5, y5, rfl, hx5, hy5⟩ := z57
   have HJ := Lib.hid hJ
   clear hF hcl haf hK hJ
   go_simp
   exact hC _ _ (fun _ _ => ⟨_, _, rfl, hx5, hy5⟩) (fun j _ _ u _ _ _ _ hT => hT.lift (by decide) (bel_refl _)) (HJ.out)
 · intro S a1 w9 K9 hun hcl haf hF hJ hK hC
   replace hun : S 6 = false := hun
   obtain ⟨v52, e52, z52⟩ := ikn2 hK 5 (k := 52) (iaft haf 0 (g := .data) (j := 5) rfl rfl) rfl
   have z52 : ∃ x y, v52 = .tuple #[.agg #[.bool z.s, x, y], .int .i64 0] ∧ RdN w9 x z.n ∧ RdN w9 y z.d := z52
   obtain ⟨x5, y5, rfl, hx5, hy5⟩ := z52
   have HJ := Lib.hid hJ
   clear hF hcl haf hK hJ
   go_simp
   exact hC _ _ (fun _ _ => ⟨_, _, rfl, hx5, hy5⟩) (fun j _ _ u _ _ _ _ hT => hT.lift (by decide) (bel_refl _)) (HJ.out)
 · intro S a1 w9 K9 hun hcl haf hF hJ hK hC
   replace hun : S 7 = false := hun
   obtain ⟨v52, e52, z52⟩ := ikn2 hK 5 (k := 52) (iaft haf 0 (g := .data) (j := 5) rfl rfl) rfl
   have z52 : ∃ x y, v52 = .tuple #[.agg #[.bool z.s, x, y], .int .i64 0] ∧ RdN w9 x z.n ∧ RdN w9 y z.d := z52
   obtain ⟨x5, y5, rfl, hx5, hy5⟩ := z52
   have HJ := Lib.hid hJ
   clear hF hcl haf hK hJ
   go_simp
   exact hC _ _ (fun _ _ => rfl) (fun j _ _ u _ _ _ _ hT => hT.lift (by decide) (bel_refl _)) (HJ.out)
 · intro S a1 w9 K9 hun hcl haf hF hJ hK hC
   replace hun : S 8 = false := hun
   have s9_ : S 9 = false := iclo hcl 9 0 (j := 8) rfl rfl hun
   have HJ := Lib.hid hJ
   clear hF hcl haf hK hJ
   go_simp
   exact hC _ _ (fun _ _ => ⟨_, rfl, HJ.out.size, fun _ => Blk.new _ _ _, fun h => absurd h (by simp [insS, s9_])⟩) (fun j _ _ u _ _ _ _ hT => hT.lift (by decide) (bel_alloc (bel_refl _) _)) (bel_trans HJ.out (bel_alloc (bel_refl _) _))
 · intro S a1 w9 K9 hun hcl haf hF hJ hK hC
   replace hun : S 9 = false := hun
   obtain ⟨v14, e14, z14⟩ := ikn2 hK 8 (k := 14) (iaft haf 0 (g := .data) (j := 8) rfl rfl) rfl
   obtain ⟨g, rfl, hg, hz0, -⟩ := z14
   have FB9 := hz0 hun
   obtain ⟨v58, e58, z58⟩ := ikn2 hK 6 (k := 58) (iaft haf 1 (g := .data) (j := 6) rfl rfl) rfl
   have z58 : ∃ x y, v58 = .agg #[.bool z.s, x, y] ∧ RdN w9 x z.n ∧ RdN w9 y z.d := z58
   obtain ⟨x5, y5, rfl, hx5, hy5⟩ := z58
   obtain ⟨c0, c1, c2⟩ := FB9.cs3
   obtain ⟨f0, f1, f2⟩ := FB9.fz3
   have HE14 := Lib.hid e14
   obtain ⟨A5, c5, rfl, -, -⟩ := hx5.row
   obtain ⟨B5, d5, rfl, -, -⟩ := hy5.row
   have HX5 := Lib.hid (And.intro hx5 hy5); clear hx5 hy5
   have HFB := Lib.hid FB9; clear FB9 hz0
   have HJ := Lib.hid hJ
   clear hF hcl haf hK hJ
   go_simp
   exact hC undef _ (fun _ h => nomatch h) (fun j oj k u hj ho hk hu hT => ShT.store HFB.out HX5.out.1 HX5.out.2 hj ho hk hu HE14.out rfl hT) (bel_set3 (g := g) HJ.out hg _ _ _)
 · intro S a1 w9 K9 hun hcl haf hF hJ hK hC
   replace hun : S 10 = false := hun
   obtain ⟨v59, e59, z59⟩ := ikn2 hK 7 (k := 59) (iaft haf 0 (g := .data) (j := 7) rfl rfl) rfl
   have z59 : v59 = .int .i64 0 := z59
   subst z59
   have HJ := Lib.hid hJ
   clear hF hcl haf hK hJ
   go_simp
   exact hC _ _ (fun _ _ => trivial) (fun j _ _ u _ _ _ _ hT => hT.lift (by decide) (bel_refl _)) (HJ.out)
 case fin =>
  intro S a0 w9 hS hF hJ hK
  obtain ⟨v14, e14, gf, rfl, hgf, -, hz⟩ := ikn2 hK 8 (k := 14) (hS 8 (by decide)) rfl
  obtain ⟨x58, y58, FB, hx58, hy58⟩ := hz (hS 9 (by decide))
  have b0 := hF.base (k := 0) (by kernel_rfl) rfl
  have b2 := hF.base (k := 2) (by kernel_rfl) rfl
  have b4 := hF.base (k := 4) (by kernel_rfl) rfl
  have b6 := hF.base (k := 6) (by kernel_rfl) rfl
  have b12 := hF.base (k := 12) (by kernel_rfl) rfl
  have hsz := hF.size
  have hdf := hF.defers
  clear hF hK hS hz
  obtain ⟨⟨l0⟩, df⟩ := a0
  have hs0 : l0.length = 80 := hsz
  clear hsz
  replace hdf : df = _ := hdf
  subst hdf
  obtain ⟨u, rfl⟩ := lits_80 hs0
  clear hs0
  generalize hAr : (Array.mk [u 0, u 1, u 2, u 3, u 4, u 5, u 6, u 7, u 8, u 9, u 10, u 11, u 12, u 13, u 14, u 15, u 16, u 17, u 18, u 19, u 20, u 21, u 22, u 23, u 24, u 25, u 26, u 27, u 28, u 29, u 30, u 31, u 32, u 33, u 34, u 35, u 36, u 37, u 38, u 39, u 40, u 41, u 42, u 43, u 44, u 45, u 46, u 47, u 48, u 49, u 50, u 51, u 52, u 53, u 54, u 55, u 56, u 57, u 58, u 59, u 60, u 61, u 62, u 63, u 64, u 65, u 66, u 67, u 68, u 69, u 70, u 71, u 72, u 73, u 74, u 75, u 76, u 77, u 78, u 79] : Array Value) = ar
  obtain rfl : ar = #[u 0, u 1, u 2, u 3, u 4, u 5, u 6, u 7, u 8, u 9, u 10, u 11, u 12, u 13, u 14, u 15, u 16, u 17, u 18, u 19, u 20, u 21, u 22, u 23, u 24, u 25, u 26, u 27, u 28, u 29, u 30, u 31, u 32, u 33, u 34, u 35, u 36, u 37, u 38, u 39, u 40, u 41, u 42, u 43, u 44, u 45, u 46, u 47, u 48, u 49, u 50, u 51, u 52, u 53, u 54, u 55, u 56, u 57, u 58, u 59, u 60, u 61, u 62, u 63, u 64, u 65, u 66, u 67, u 68, u 69, u 70, u 71, u 72, u 73, u 74, u 75, u 76, u 77, u 78, u 79] := hAr.symm
  have q0 : u 0 = _ := Option.some.inj b0
  clear b0
  have q2 : u 2 = _ := Option.some.inj b2
  clear b2
  have q4 : u 4 = _ := Option.some.inj b4
  clear b4
  have q6 : u 6 = _ := Option.some.inj b6
  clear b6
  have q12 : u 12 = _ := Option.some.inj b12
  clear b12
  have q14 : u 14 = _ := Option.some.inj e14
  clear e14
  rw [q0, q2, q4, q6, q12, q14]
  clear q0 q2 q4 q6 q12 q14
  have hbl := hJ; clear hJ
  replace RA := hmR RA hbl
  replace RB := hmR RB hbl
  replace Rp := hmR Rp hbl
  replace HNp := hmN HNp hbl
  replace Ru := hmR Ru hbl
  replace HNu := hmN HNu hbl
  replace CX := hmB CX hbl
  replace RES := hmB RES hbl
  replace HW := hmW HW hbl; clear hbl
  clear CX0 CX1 CX2
  obtain ⟨CX0, CX1, CX2⟩ := CX.out.cs3
  refine wpList_nil ?_
  replace FB := Lib.hid FB
  obtain ⟨Ax, cx, rfl, hcAx, hrAx⟩ := hx58.row
  obtain ⟨Ay, cy, rfl, hcAy, hrAy⟩ := hy58.row
  have HNx := Lib.hid hx58; have HNy := Lib.hid hy58; have Rx := Lib.hid hrAx; have Ry := Lib.hid hrAy; have HCx := Lib.hid hcAx; have HCy := Lib.hid hcAy; clear hx58 hy58 hcAx hrAx hcAy hrAy
  have gl : w.heap.size + 1 < gf := by omega
  clear CX0 CX1 CX2
  obtain ⟨CX0, CX1, CX2⟩ := CX.out.cs3
  obtain ⟨FB0, FB1, FB2⟩ := FB.out.cs3
  go_wp2_with fail
  refine (cmp_num Au A cu c Y q.n _ Ru.out RA.out HY.out.2 LA.out.1).mono ?_
  rintro e w31 ⟨rfl, hbl⟩
  replace RA := hmR RA hbl
  replace RB := hmR RB hbl
  replace Rp := hmR Rp hbl
  replace HNp := hmN HNp hbl
  replace Ru := hmR Ru hbl
  replace HNu := hmN HNu hbl
  replace HNx := hmN HNx hbl
  replace HNy := hmN HNy hbl
  replace Rx := hmR Rx hbl
  replace Ry := hmR Ry hbl
  replace CX := hmB CX hbl
  replace RES := hmB RES hbl
  replace FB := hmB FB hbl
  replace HW := hmW HW hbl; clear hbl
  clear CX0 CX1 CX2 FB0 FB1 FB2
  obtain ⟨CX0, CX1, CX2⟩ := CX.out.cs3
  obtain ⟨FB0, FB1, FB2⟩ := FB.out.cs3
  rcases hcv with h | h
  · rw [h]
    obtain ⟨d0, d1, d2⟩ := RES.out.cs3
    obtain ⟨f0, f1, f2⟩ := RES.out.fz3
    go_wp2
    exact bodyPost_ret (results_row_tmp rfl _ _ (w.heap.size + 1) 25 _ (0, 0) _ _ rfl rfl (RES.out.put3 _ _ _) Tryz.underlying25 rfl (by kernel_rfl)) rfl ⟨_, _, rfl, (RdN.set3 RES.out (HNx.out) _ _ _), (RdN.set3 RES.out (HNy.out) _ _ _), (bel_set3 (g := w.heap.size + 1) HW.out (by omega) _ _ _)⟩
  · obtain ⟨v, hv⟩ : ∃ v, cmpI (Y : Int) (q.n : Int) = v := ⟨_, rfl⟩
    rw [hv]
    have HV := Lib.hid hv; clear hv
    have hs1 : (!q.s) = true := by rw [h]; rfl
    by_cases hv0 : v = 0
    all_goals first | (have hv1 : (v == 0) = true := by simp [hv0]) | (have hv1 : (v == 0) = false := by simp [hv0])
    all_goals
     obtain ⟨d0, d1, d2⟩ := RES.out.cs3
     obtain ⟨f0, f1, f2⟩ := RES.out.fz3
     go_wp2
     exact bodyPost_ret (results_row_tmp rfl _ _ (w.heap.size + 1) 25 _ (0, 0) _ _ rfl rfl (RES.out.put3 _ _ _) Tryz.underlying25 rfl (by kernel_rfl)) rfl ⟨_, _, rfl, (RdN.set3 RES.out (HNx.out) _ _ _), (RdN.set3 RES.out (HNy.out) _ _ _), (bel_set3 (g := w.heap.size + 1) HW.out (by omega) _ _ _)⟩
theorem kSh_less {z r : Q} {e : Int} (m : Nat) (q : Q) (A B : Option Addr) (c d : Nat) (w : World) (h : RdL w A (limbs q.n)) (h' : RdL w B (limbs q.d)) (hc : (limbs q.n).length ≤ c) (hc' : (limbs q.d).length ≤ d) (hn : q.n < Top) (hd : q.d < Top) (hm : m ≤ 1000) (hz : redQ q.s (q.n / 2 ^ m) 1 = z) (hk : ¬ q.n / 2 ^ m * 2 ^ m = q.n ∧ q.s = true) (hS : ∀ W A B A' B' c d c' d', RdL W A (limbs z.n) → RdL W B (limbs z.d) → RdL W A' (limbs (⟨false, 2 ^ 0, 1⟩ : Q).n) → RdL W B' (limbs (⟨false, 2 ^ 0, 1⟩ : Q).d) → (limbs z.n).length ≤ c → (limbs z.d).length ≤ d → (limbs (⟨false, 2 ^ 0, 1⟩ : Q).n).length ≤ c' → (limbs (⟨false, 2 ^ 0, 1⟩ : Q).d).length ≤ d' → Calls Tryz.prog 55 #[.agg #[.bool z.s, .slice A (limbs z.n).length c, .slice B (limbs z.d).length d], .agg #[.bool (⟨false, 2 ^ 0, 1⟩ : Q).s, .slice A' (limbs (⟨false, 2 ^ 0, 1⟩ : Q).n).length c', .slice B' (limbs (⟨false, 2 ^ 0, 1⟩ : Q).d).length d']] W (RetQE r e W)) :
 Calls Tryz.prog 48 #[.string ⟨#[62, 62]⟩, .agg #[.bool q.s, .slice A (limbs q.n).length c, .slice B (limbs q.d).length d], .int .i64 (m : Int)] w (RetQE r e w) := by
 have RA := Lib.hid h; clear h
 have RB := Lib.hid h'; clear h'
 have LA := Lib.hid (And.intro hn hc); clear hn hc
 have LB := Lib.hid (And.intro hd hc'); clear hd hc'
 have hm9 : IntKind.i64.wrap (-(m : Int)) = -(m : Int) := by rw [IntKind.wrap_i64]; omega
 obtain ⟨X, hX⟩ : ∃ X, q.n / 2 ^ m = X := ⟨_, rfl⟩
 have HX := Lib.hid hX
 have hxt : X < Top := lt_top (by rw [← hX]; exact Nat.div_le_self _ _) LA.out.1
 rw [hX] at hz
 have HZ := Lib.hid (And.intro hz hxt); clear hz hxt
 obtain ⟨Y, hY⟩ : ∃ Y, X * 2 ^ m = Y := ⟨_, rfl⟩
 have HY := Lib.hid (And.intro hY (show Y < Top from lt_top (by rw [← hY, ← hX]; exact Nat.div_mul_le_self _ _) LA.out.1)); clear hY
 have hcv : ¬ cmpI (Y : Int) (q.n : Int) = 0 := by rw [cmpI_zero, ← HY.out.1, ← HX.out]; exact hk.1
 have HS9 := Lib.hid hk.2
 clear hk hX
 have HS := Lib.hid hS; clear hS
 obtain ⟨wa, hwa⟩ : ∃ wa, wa = (w.alloc (.cells #[.bool q.s, .slice A (limbs q.n).length c, .slice B (limbs q.d).length d] 25)).alloc (.cells #[.bool false, .slice none 0 0, .slice none 0 0] 25) := ⟨_, rfl⟩
 obtain ⟨hbl, CX, RES⟩ := kal2 hwa
 replace RA := hmR RA hbl
 replace RB := hmR RB hbl
 have HW := Lib.hid hbl; clear hbl
 replace CX := Lib.hid CX
 replace RES := Lib.hid RES
 go_enter Tryz.func48, Tryz.ntmps48
 go_upto_region 1 with fail
 rw [← hwa]
 clear hwa
 obtain ⟨CX0, CX1, CX2⟩ := CX.out.cs3
 go_wp2_with fail
 refine (shift_down A c q.n m _ RA.out LA.out.1 HX.out).mono ?_
 rintro e w1 ⟨vp, rfl, hnp, hbl⟩
 replace RA := hmR RA hbl
 replace RB := hmR RB hbl
 replace CX := hmB CX hbl
 replace RES := hmB RES hbl
 replace HW := hmW HW hbl; clear hbl
 clear CX0 CX1 CX2
 obtain ⟨CX0, CX1, CX2⟩ := CX.out.cs3
 have HNp := Lib.hid hnp; clear hnp
 obtain ⟨Ap, cp, rfl, hcp, hrp⟩ := HNp.out.row
 have Rp := Lib.hid hrp; have HCp := Lib.hid hcp; clear hrp hcp
 go_wp2_with fail
 refine (shift_fit Ap cp X m _ Rp.out HZ.out.2 HY.out.1 HY.out.2).mono ?_
 rintro e w2 ⟨vu, rfl, hnu, hbl⟩
 replace RA := hmR RA hbl
 replace RB := hmR RB hbl
 replace Rp := hmR Rp hbl
 replace HNp := hmN HNp hbl
 replace CX := hmB CX hbl
 replace RES := hmB RES hbl
 replace HW := hmW HW hbl; clear hbl
 clear CX0 CX1 CX2
 obtain ⟨CX0, CX1, CX2⟩ := CX.out.cs3
 have HNu := Lib.hid hnu; clear hnu
 obtain ⟨Au, cu, rfl, hcu, hru⟩ := HNu.out.row
 have Ru := Lib.hid hru; have HCu := Lib.hid hcu; clear hru hcu
 go_upto_region 8 with fail
 have hsz0 : w.heap.size + 1 < w2.heap.size := RES.out.lt
 refine wp_region_inv2 (ShT q z (.slice Ap (limbs X).length cp) w.heap.size w2.heap.size) (fun _ W => Below w2.heap.size w2 W) (by kernel_rfl) (by kernel_rfl) ?ini (stepsI_cons2 ?_ (stepsI_cons2 ?_ (stepsI_cons2 ?_ (stepsI_cons2 ?_ (stepsI_cons2 ?_ (stepsI_cons2 ?_ (stepsI_cons2 ?_ (stepsI_cons2 ?_ (stepsI_cons2 ?_ (stepsI_cons2 ?_ (stepsI_cons2 ?_ (stepsI_nil2)))))))))))) ?fin
 case ini => exact bel_drewN (bel_refl _) 1
 · intro S a1 w9 K9 hun hcl haf hF hJ hK hC
   replace hun : S 0 = false := hun
   have b4 := hF.base (k := 4) (by kernel_rfl) rfl
   have HJ := Lib.hid hJ
   clear hF hcl haf hK hJ
   go_simp
   exact hC _ _ (fun _ _ => rfl) (fun j _ _ u _ _ _ _ hT => hT.lift (by decide) (bel_refl _)) (HJ.out)
 · intro S a1 w9 K9 hun hcl haf hF hJ hK hC
   replace hun : S 1 = false := hun
   obtain ⟨v53, e53, z53⟩ := ikn2 hK 0 (k := 53) (iaft haf 0 (g := .data) (j := 0) rfl rfl) rfl
   have z53 : v53 = .pointer (some ⟨w.heap.size, 0, none⟩) := z53
   subst z53
   have x0 : w9.cell? ⟨w.heap.size, 0, none⟩ = some (.bool q.s) := (CX.out.below hJ CX.out.lt).cell 0
   have HJ := Lib.hid hJ
   clear hF hcl haf hK hJ
   go_simp
   exact hC _ _ (fun _ _ => rfl) (fun j _ _ u _ _ _ _ hT => hT.lift (by decide) (bel_refl _)) (HJ.out)
 · intro S a1 w9 K9 hun hcl haf hF hJ hK hC
   replace hun : S 2 = false := hun
   have b10 := hF.base (k := 10) (by kernel_rfl) rfl
   have HJ := Lib.hid hJ
   clear hF hcl haf hK hJ
   go_simp
   exact hC _ _ (fun _ _ => rfl) (fun j _ _ u _ _ _ _ hT => hT.lift (by decide) (bel_refl _)) (HJ.out)
 · intro S a1 w9 K9 hun hcl haf hF hJ hK hC
   replace hun : S 3 = false := hun
   have HJ := Lib.hid hJ
   clear hF hcl haf hK hJ
   go_simp
   refine (kOne_any _).mono ?_
   rintro e7 w7 ⟨v7, rfl, hn7, hbl⟩
   exact hC _ _ (fun _ _ => hn7) (fun j _ _ u _ _ _ _ hT => hT.lift (by decide) hbl) (bel_trans HJ.out hbl)
 · intro S a1 w9 K9 hun hcl haf hF hJ hK hC
   replace hun : S 4 = false := hun
   obtain ⟨v54, e54, z54⟩ := ikn2 hK 1 (k := 54) (iaft haf 0 (g := .data) (j := 1) rfl rfl) rfl
   have z54 : v54 = .bool q.s := z54
   subst z54
   obtain ⟨v55, e55, z55⟩ := ikn2 hK 2 (k := 55) (iaft haf 1 (g := .data) (j := 2) rfl rfl) rfl
   have z55 : v55 = .slice Ap (limbs X).length cp := z55
   subst z55
   obtain ⟨v56, e56, z56⟩ := ikn2 hK 3 (k := 56) (iaft haf 2 (g := .data) (j := 3) rfl rfl) rfl
   have z56 : RdN w9 v56 1 := z56
   obtain ⟨A1, c1, rfl, hc1, hr1⟩ := z56
   have HJ := Lib.hid hJ
   clear hF hcl haf hK hJ
   go_simp
   refine (make_ok (q := z) q.s Ap A1 cp c1 X 1 _ (Rp.out.below HJ.out) hr1 HCp.out hc1 HZ.out.2 one_top15 (by decide) HZ.out.1).mono ?_
   rintro e7 w7 ⟨x7, y7, rfl, hx7, hy7, hbl⟩
   exact hC _ _ (fun _ _ => ⟨_, _, rfl, hx7, hy7⟩) (fun j _ _ u _ _ _ _ hT => hT.lift (by decide) hbl) (bel_trans HJ.out hbl)
 · intro S a1 w9 K9 hun hcl haf hF hJ hK hC
   replace hun : S 5 = false := hun
   obtain ⟨v57, e57, z57⟩ := ikn2 hK 4 (k := 57) (iaft haf 0 (g := .data) (j := 4) rfl rfl) rfl
   have z57 : ∃ x y, v57 = .tuple #[.agg #[.bool z.s, x, y], .int .i64 0] ∧ RdN w9 x z.n ∧ RdN w9 y z.d := z57
   obtain ⟨x5, y5, rfl, hx5, hy5⟩ := z57
   have HJ := Lib.hid hJ
   clear hF hcl haf hK hJ
   go_simp
   exact hC _ _ (fun _ _ => ⟨_, _, rfl, hx5, hy5⟩) (fun j _ _ u _ _ _ _ hT => hT.lift (by decide) (bel_refl _)) (HJ.out)
 · intro S a1 w9 K9 hun hcl haf hF hJ hK hC
   replace hun : S 6 = false := hun
   obtain ⟨v52, e52, z52⟩ := ikn2 hK 5 (k := 52) (iaft haf 0 (g := .data) (j := 5) rfl rfl) rfl
   have z52 : ∃ x y, v52 = .tuple #[.agg #[.bool z.s, x, y], .int .i64 0] ∧ RdN w9 x z.n ∧ RdN w9 y z.d := z52
   obtain ⟨x5, y5, rfl, hx5, hy5⟩ := z52
   have HJ := Lib.hid hJ
   clear hF hcl haf hK hJ
   go_simp
   exact hC _ _ (fun _ _ => ⟨_, _, rfl, hx5, hy5⟩) (fun j _ _ u _ _ _ _ hT => hT.lift (by decide) (bel_refl _)) (HJ.out)
 · intro S a1 w9 K9 hun hcl haf hF hJ hK hC
   replace hun : S 7 = false := hun
   obtain ⟨v52, e52, z52⟩ := ikn2 hK 5 (k := 52) (iaft haf 0 (g := .data) (j := 5) rfl rfl) rfl
   have z52 : ∃ x y, v52 = .tuple #[.agg #[.bool z.s, x, y], .int .i64 0] ∧ RdN w9 x z.n ∧ RdN w9 y z.d := z52
   obtain ⟨x5, y5, rfl, hx5, hy5⟩ := z52
   have HJ := Lib.hid hJ
   clear hF hcl haf hK hJ
   go_simp
   exact hC _ _ (fun _ _ => rfl) (fun j _ _ u _ _ _ _ hT => hT.lift (by decide) (bel_refl _)) (HJ.out)
 · intro S a1 w9 K9 hun hcl haf hF hJ hK hC
   replace hun : S 8 = false := hun
   have s9_ : S 9 = false := iclo hcl 9 0 (j := 8) rfl rfl hun
   have HJ := Lib.hid hJ
   clear hF hcl haf hK hJ
   go_simp
   exact hC _ _ (fun _ _ => ⟨_, rfl, HJ.out.size, fun _ => Blk.new _ _ _, fun h => absurd h (by simp [insS, s9_])⟩) (fun j _ _ u _ _ _ _ hT => hT.lift (by decide) (bel_alloc (bel_refl _) _)) (bel_trans HJ.out (bel_alloc (bel_refl _) _))
 · intro S a1 w9 K9 hun hcl haf hF hJ hK hC
   replace hun : S 9 = false := hun
   obtain ⟨v14, e14, z14⟩ := ikn2 hK 8 (k := 14) (iaft haf 0 (g := .data) (j := 8) rfl rfl) rfl
   obtain ⟨g, rfl, hg, hz0, -⟩ := z14
   have FB9 := hz0 hun
   obtain ⟨v58, e58, z58⟩ := ikn2 hK 6 (k := 58) (iaft haf 1 (g := .data) (j := 6) rfl rfl) rfl
   have z58 : ∃ x y, v58 = .agg #[.bool z.s, x, y] ∧ RdN w9 x z.n ∧ RdN w9 y z.d := z58
   obtain ⟨x5, y5, rfl, hx5, hy5⟩ := z58
   obtain ⟨c0, c1, c2⟩ := FB9.cs3
   obtain ⟨f0, f1, f2⟩ := FB9.fz3
   have HE14 := Lib.hid e14
   obtain ⟨A5, c5, rfl, -, -⟩ := hx5.row
   obtain ⟨B5, d5, rfl, -, -⟩ := hy5.row
   have HX5 := Lib.hid (And.intro hx5 hy5); clear hx5 hy5
   have HFB := Lib.hid FB9; clear FB9 hz0
   have HJ := Lib.hid hJ
   clear hF hcl haf hK hJ
   go_simp
   exact hC undef _ (fun _ h => nomatch h) (fun j oj k u hj ho hk hu hT => ShT.store HFB.out HX5.out.1 HX5.out.2 hj ho hk hu HE14.out rfl hT) (bel_set3 (g := g) HJ.out hg _ _ _)
 · intro S a1 w9 K9 hun hcl haf hF hJ hK hC
   replace hun : S 10 = false := hun
   obtain ⟨v59, e59, z59⟩ := ikn2 hK 7 (k := 59) (iaft haf 0 (g := .data) (j := 7) rfl rfl) rfl
   have z59 : v59 = .int .i64 0 := z59
   subst z59
   have HJ := Lib.hid hJ
   clear hF hcl haf hK hJ
   go_simp
   exact hC _ _ (fun _ _ => trivial) (fun j _ _ u _ _ _ _ hT => hT.lift (by decide) (bel_refl _)) (HJ.out)
 case fin =>
  intro S a0 w9 hS hF hJ hK
  obtain ⟨v14, e14, gf, rfl, hgf, -, hz⟩ := ikn2 hK 8 (k := 14) (hS 8 (by decide)) rfl
  obtain ⟨x58, y58, FB, hx58, hy58⟩ := hz (hS 9 (by decide))
  have b0 := hF.base (k := 0) (by kernel_rfl) rfl
  have b2 := hF.base (k := 2) (by kernel_rfl) rfl
  have b4 := hF.base (k := 4) (by kernel_rfl) rfl
  have b6 := hF.base (k := 6) (by kernel_rfl) rfl
  have b12 := hF.base (k := 12) (by kernel_rfl) rfl
  have hsz := hF.size
  have hdf := hF.defers
  clear hF hK hS hz
  obtain ⟨⟨l0⟩, df⟩ := a0
  have hs0 : l0.length = 80 := hsz
  clear hsz
  replace hdf : df = _ := hdf
  subst hdf
  obtain ⟨u, rfl⟩ := lits_80 hs0
  clear hs0
  generalize hAr : (Array.mk [u 0, u 1, u 2, u 3, u 4, u 5, u 6, u 7, u 8, u 9, u 10, u 11, u 12, u 13, u 14, u 15, u 16, u 17, u 18, u 19, u 20, u 21, u 22, u 23, u 24, u 25, u 26, u 27, u 28, u 29, u 30, u 31, u 32, u 33, u 34, u 35, u 36, u 37, u 38, u 39, u 40, u 41, u 42, u 43, u 44, u 45, u 46, u 47, u 48, u 49, u 50, u 51, u 52, u 53, u 54, u 55, u 56, u 57, u 58, u 59, u 60, u 61, u 62, u 63, u 64, u 65, u 66, u 67, u 68, u 69, u 70, u 71, u 72, u 73, u 74, u 75, u 76, u 77, u 78, u 79] : Array Value) = ar
  obtain rfl : ar = #[u 0, u 1, u 2, u 3, u 4, u 5, u 6, u 7, u 8, u 9, u 10, u 11, u 12, u 13, u 14, u 15, u 16, u 17, u 18, u 19, u 20, u 21, u 22, u 23, u 24, u 25, u 26, u 27, u 28, u 29, u 30, u 31, u 32, u 33, u 34, u 35, u 36, u 37, u 38, u 39, u 40, u 41, u 42, u 43, u 44, u 45, u 46, u 47, u 48, u 49, u 50, u 51, u 52, u 53, u 54, u 55, u 56, u 57, u 58, u 59, u 60, u 61, u 62, u 63, u 64, u 65, u 66, u 67, u 68, u 69, u 70, u 71, u 72, u 73, u 74, u 75, u 76, u 77, u 78, u 79] := hAr.symm
  have q0 : u 0 = _ := Option.some.inj b0
  clear b0
  have q2 : u 2 = _ := Option.some.inj b2
  clear b2
  have q4 : u 4 = _ := Option.some.inj b4
  clear b4
  have q6 : u 6 = _ := Option.some.inj b6
  clear b6
  have q12 : u 12 = _ := Option.some.inj b12
  clear b12
  have q14 : u 14 = _ := Option.some.inj e14
  clear e14
  rw [q0, q2, q4, q6, q12, q14]
  clear q0 q2 q4 q6 q12 q14
  have hbl := hJ; clear hJ
  replace RA := hmR RA hbl
  replace RB := hmR RB hbl
  replace Rp := hmR Rp hbl
  replace HNp := hmN HNp hbl
  replace Ru := hmR Ru hbl
  replace HNu := hmN HNu hbl
  replace CX := hmB CX hbl
  replace RES := hmB RES hbl
  replace HW := hmW HW hbl; clear hbl
  clear CX0 CX1 CX2
  obtain ⟨CX0, CX1, CX2⟩ := CX.out.cs3
  refine wpList_nil ?_
  replace FB := Lib.hid FB
  obtain ⟨Ax, cx, rfl, hcAx, hrAx⟩ := hx58.row
  obtain ⟨Ay, cy, rfl, hcAy, hrAy⟩ := hy58.row
  have HNx := Lib.hid hx58; have HNy := Lib.hid hy58; have Rx := Lib.hid hrAx; have Ry := Lib.hid hrAy; have HCx := Lib.hid hcAx; have HCy := Lib.hid hcAy; clear hx58 hy58 hcAx hrAx hcAy hrAy
  have gl : w.heap.size + 1 < gf := by omega
  clear CX0 CX1 CX2
  obtain ⟨CX0, CX1, CX2⟩ := CX.out.cs3
  obtain ⟨FB0, FB1, FB2⟩ := FB.out.cs3
  go_wp2_with fail
  refine (cmp_num Au A cu c Y q.n _ Ru.out RA.out HY.out.2 LA.out.1).mono ?_
  rintro e w31 ⟨rfl, hbl⟩
  replace RA := hmR RA hbl
  replace RB := hmR RB hbl
  replace Rp := hmR Rp hbl
  replace HNp := hmN HNp hbl
  replace Ru := hmR Ru hbl
  replace HNu := hmN HNu hbl
  replace HNx := hmN HNx hbl
  replace HNy := hmN HNy hbl
  replace Rx := hmR Rx hbl
  replace Ry := hmR Ry hbl
  replace CX := hmB CX hbl
  replace RES := hmB RES hbl
  replace FB := hmB FB hbl
  replace HW := hmW HW hbl; clear hbl
  clear CX0 CX1 CX2 FB0 FB1 FB2
  obtain ⟨CX0, CX1, CX2⟩ := CX.out.cs3
  obtain ⟨FB0, FB1, FB2⟩ := FB.out.cs3
  obtain ⟨v, hv⟩ : ∃ v, cmpI (Y : Int) (q.n : Int) = v := ⟨_, rfl⟩
  rw [hv] at hcv
  rw [hv]
  clear hv
  have hv1 : (v == 0) = false := by simpa using hcv
  have hs1 : (!q.s) = false := by rw [HS9.out]; rfl
  go_upto_region 12 with fail
  refine wp_region_typed 5 (TOf [VIs (.agg #[.bool z.s, .slice Ax (limbs z.n).length cx, .slice Ay (limbs z.d).length cy]),
   VQ ⟨false, 2 ^ 0, 1⟩,
   VQE r e,
   VQ r,
   VIs (.int .i64 e)]) (by kernel_rfl) (by kernel_rfl) (by kernel_rfl) (LiftAll.at_ (.cons (VIs.lift _) (.cons (VQ.lift _) (.cons (VQE.lift _ _) (.cons (VQ.lift _) (.cons (VIs.lift _) .nil)))))) (steps_all (steps_cons ?_ (steps_cons ?_ (steps_cons ?_ (steps_cons ?_ (steps_cons ?_ steps_zero)))))) ?fin
  · intro a0 w9 K9 hF hB hK hC
    have b14 := hF.base (k := 14) (by kernel_rfl) rfl
    have x90 := (FB.out.below hB FB.out.lt).c0
    have x91 := (FB.out.below hB FB.out.lt).c1
    have x92 := (FB.out.below hB FB.out.lt).c2
    clear hF hB hK
    go_simp
    exact hC _ _ (bR _) fun _ _ => rfl
  · intro a0 w9 K9 hF hB hK hC
    have HB9 := Lib.hid hB
    clear hF hB hK
    go_simp
    refine (kPower_is 0 _ (by decide)).mono ?_
    rintro e w7 ⟨x7, y7, rfl, hx7, hy7, hbl⟩
    exact hC _ _ hbl fun _ _ => ⟨_, _, rfl, hx7, hy7⟩
  · intro a0 w9 K9 hF hB hK hC
    have e75 := depV hK 0 rfl rfl rfl rfl
    obtain ⟨v76, e76, z76⟩ := dep hK 1 (g := .data) (j := 1) (k := 76) rfl rfl rfl
    have z76 : ∃ x y, v76 = .agg #[.bool false, x, y] ∧ RdN w9 x (2 ^ 0) ∧ RdN w9 y 1 := z76
    obtain ⟨x76, y76, rfl, hx76, hy76⟩ := z76
    have HB9 := Lib.hid hB
    clear hF hB hK
    obtain ⟨A1, c1, rfl, hcA1, hrA1⟩ := hx76.row
    obtain ⟨B1, d1, rfl, hcB1, hrB1⟩ := hy76.row
    go_simp
    refine (HS.out _ Ax Ay A1 B1 cx cy c1 d1 (Rx.out.below HB9.out) (Ry.out.below HB9.out) hrA1 hrB1 HCx.out HCy.out hcA1 hcB1).mono ?_
    rintro e7 w7 ⟨x7, y7, rfl, hx7, hy7, hbl⟩
    exact hC _ _ hbl fun _ _ => ⟨_, _, rfl, hx7, hy7⟩
  · intro a0 w9 K9 hF hB hK hC
    obtain ⟨v77, e77, z77⟩ := dep hK 0 (g := .data) (j := 2) (k := 77) rfl rfl rfl
    have z77 : ∃ x y, v77 = .tuple #[.agg #[.bool r.s, x, y], .int .i64 e] ∧ RdN w9 x r.n ∧ RdN w9 y r.d := z77
    obtain ⟨x77, y77, rfl, hx77, hy77⟩ := z77
    have HB9 := Lib.hid hB
    clear hF hB hK
    go_simp
    exact hC _ _ (bel_refl _) fun _ _ => ⟨_, _, rfl, hx77, hy77⟩
  · intro a0 w9 K9 hF hB hK hC
    obtain ⟨v77, e77, z77⟩ := dep hK 0 (g := .data) (j := 2) (k := 77) rfl rfl rfl
    have z77 : ∃ x y, v77 = .tuple #[.agg #[.bool r.s, x, y], .int .i64 e] ∧ RdN w9 x r.n ∧ RdN w9 y r.d := z77
    obtain ⟨x77, y77, rfl, hx77, hy77⟩ := z77
    have HB9 := Lib.hid hB
    clear hF hB hK
    go_simp
    exact hC _ _ (bR _) fun _ _ => rfl
  case fin =>
   intro a0 w9 hF hB hK
   have b4 := hF.base (k := 4) (by kernel_rfl) rfl
   have b6 := hF.base (k := 6) (by kernel_rfl) rfl
   have b14 := hF.base (k := 14) (by kernel_rfl) rfl
   have hsz := hF.size
   have hdf := hF.defers
   clear hF
   obtain ⟨v78, e78, z78⟩ := known hK 3 (k := 78) (by decide) rfl
   have z78 : ∃ x y, v78 = .agg #[.bool r.s, x, y] ∧ RdN w9 x r.n ∧ RdN w9 y r.d := z78
   obtain ⟨x78, y78, rfl, hx78, hy78⟩ := z78
   obtain ⟨v79, e79, z79⟩ := known hK 4 (k := 79) (by decide) rfl
   have z79 : v79 = .int .i64 e := z79
   subst z79
   clear hK
   obtain ⟨⟨l0⟩, df⟩ := a0
   have hs0 : l0.length = 80 := hsz
   clear hsz
   replace hdf : df = _ := hdf
   subst hdf
   obtain ⟨u, rfl⟩ := lits_80 hs0
   clear hs0
   generalize hAr : (Array.mk [u 0, u 1, u 2, u 3, u 4, u 5, u 6, u 7, u 8, u 9, u 10, u 11, u 12, u 13, u 14, u 15, u 16, u 17, u 18, u 19, u 20, u 21, u 22, u 23, u 24, u 25, u 26, u 27, u 28, u 29, u 30, u 31, u 32, u 33, u 34, u 35, u 36, u 37, u 38, u 39, u 40, u 41, u 42, u 43, u 44, u 45, u 46, u 47, u 48, u 49, u 50, u 51, u 52, u 53, u 54, u 55, u 56, u 57, u 58, u 59, u 60, u 61, u 62, u 63, u 64, u 65, u 66, u 67, u 68, u 69, u 70, u 71, u 72, u 73, u 74, u 75, u 76, u 77, u 78, u 79] : Array Value) = ar
   obtain rfl : ar = #[u 0, u 1, u 2, u 3, u 4, u 5, u 6, u 7, u 8, u 9, u 10, u 11, u 12, u 13, u 14, u 15, u 16, u 17, u 18, u 19, u 20, u 21, u 22, u 23, u 24, u 25, u 26, u 27, u 28, u 29, u 30, u 31, u 32, u 33, u 34, u 35, u 36, u 37, u 38, u 39, u 40, u 41, u 42, u 43, u 44, u 45, u 46, u 47, u 48, u 49, u 50, u 51, u 52, u 53, u 54, u 55, u 56, u 57, u 58, u 59, u 60, u 61, u 62, u 63, u 64, u 65, u 66, u 67, u 68, u 69, u 70, u 71, u 72, u 73, u 74, u 75, u 76, u 77, u 78, u 79] := hAr.symm
   have q4 : u 4 = _ := Option.some.inj b4
   clear b4
   have q6 : u 6 = _ := Option.some.inj b6
   clear b6
   have q14 : u 14 = _ := Option.some.inj b14
   clear b14
   have q78 : u 78 = _ := Option.some.inj e78
   clear e78
   have q79 : u 79 = _ := Option.some.inj e79
   clear e79
   rw [q4, q6, q14, q78, q79]
   clear q4 q6 q14 q78 q79
   have hbl := hB; clear hB
   replace RA := hmR RA hbl
   replace RB := hmR RB hbl
   replace Rp := hmR Rp hbl
   replace HNp := hmN HNp hbl
   replace Ru := hmR Ru hbl
   replace HNu := hmN HNu hbl
   replace HNx := hmN HNx hbl
   replace HNy := hmN HNy hbl
   replace Rx := hmR Rx hbl
   replace Ry := hmR Ry hbl
   replace CX := hmB CX hbl
   replace RES := hmB RES hbl
   replace FB := hmB FB hbl
   replace HW := hmW HW hbl; clear hbl
   clear CX0 CX1 CX2 FB0 FB1 FB2
   obtain ⟨CX0, CX1, CX2⟩ := CX.out.cs3
   obtain ⟨FB0, FB1, FB2⟩ := FB.out.cs3
   simp only [List.drop_succ_cons, List.drop_zero]
   obtain ⟨Az, cz, rfl, hcAz, hrAz⟩ := hx78.row
   obtain ⟨At, ct, rfl, hcAt, hrAt⟩ := hy78.row
   have HNz := Lib.hid hx78; have HNt := Lib.hid hy78; clear hx78 hy78 hcAz hrAz hcAt hrAt
   obtain ⟨d0, d1, d2⟩ := RES.out.cs3
   obtain ⟨f0, f1, f2⟩ := RES.out.fz3
   go_wp2
   exact bodyPost_ret (results_row_tmp rfl _ _ (w.heap.size + 1) 25 _ (0, 0) _ _ rfl rfl (RES.out.put3 _ _ _) Tryz.underlying25 rfl (by kernel_rfl)) rfl ⟨_, _, rfl, (RdN.set3 RES.out (HNz.out) _ _ _), (RdN.set3 RES.out (HNt.out) _ _ _), (bel_set3 (g := w.heap.size + 1) HW.out (by omega) _ _ _)⟩
end
end Go.Proofs.YtmbbdjpnecjleaaGreat
