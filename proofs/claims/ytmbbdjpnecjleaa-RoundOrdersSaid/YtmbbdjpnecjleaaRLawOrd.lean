/-
  What Bits answers; the law RoundOrders, walked.
-/
import Derived.Test.YtmbbdjpnecjleaaRoE
import Derived.Test.YtmbbdjpnecjleaaQCmp
namespace Go.Proofs.Ytmbbdjpnecjleaa
open Go.RowKit

/-- What Bits answers. -/
structure BAns (s : Bool) (sz : Int) (xs ys : List Nat) (u : Nat) (x : Bool) (e : Int) : Prop where
  good : e = 0 → ∃ p q t n d cc, Fm sz p q t ∧ xs = limbs n ∧ ys = limbs d ∧ n < Top ∧ d < Top ∧ QR ⟨s, n, d⟩ ∧ Code p q n d cc x ∧ ¬ (t + q + 2) * 2 ^ (p - 1) ≤ cc ∧ u = sgn s sz cc
  bad : e ≠ 0 → u = 0 ∧ x = false
  sure : ∀ {p q t n d cc ex}, Fm sz p q t → xs = limbs n → ys = limbs d → n < Top → d < Top → QR ⟨s, n, d⟩ → Code p q n d cc ex → ¬ (t + q + 2) * 2 ^ (p - 1) ≤ cc → e = 0
theorem Fm.same {sz : Int} {p q t p' q' t' : Nat} (h : Fm sz p q t) (h' : Fm sz p' q' t') : p = p' ∧ q = q' ∧ t = t' := by
  rcases h with ⟨h1, rfl, rfl, rfl⟩ | ⟨h1, rfl, rfl, rfl⟩ <;> rcases h' with ⟨h2, rfl, rfl, rfl⟩ | ⟨h2, rfl, rfl, rfl⟩ <;> first | exact ⟨rfl, rfl, rfl⟩ | omega
theorem cmpI_nonneg3 {a b : Nat} : 0 ≤ cmpI (a : Int) (b : Int) ↔ b ≤ a := by
  unfold cmpI
  split
  · omega
  · split <;> omega
theorem cmpI_nonpos3 {a b : Nat} : cmpI (a : Int) (b : Int) ≤ 0 ↔ a ≤ b := by
  unfold cmpI
  split
  · omega
  · split <;> omega
theorem bits_ans (s : Bool) (A B : Option Addr) (c d : Nat) (xs ys : List Nat) (sz : Int) (m1 : Lim xs) (m2 : Lim ys) (l1 : xs.length ≤ 18) (l2 : ys.length ≤ 18) (k1 : xs.length ≤ c) (k2 : ys.length ≤ d) :
    ∃ u x e, BAns s sz xs ys u x e ∧ ∀ w1, RdL w1 A xs → RdL w1 B ys → Calls Try.prog 12 #[.agg #[.bool s, .slice A xs.length c, .slice B ys.length d], .int .i64 sz] w1 (RetBits u x e w1) := by
  rcases Fm.of sz with ⟨h32, h64⟩ | ⟨p, q, t, hf⟩
  · exact ⟨0, false, 1, ⟨fun h => absurd h (by decide), fun _ => ⟨rfl, rfl⟩, fun hf => by rcases hf with h | h; exact absurd h.1 h32; exact absurd h.1 h64⟩, fun w1 r1 r2 => rbits_size s A B c d xs ys sz w1 r1 r2 h32 h64⟩
  cases hr : rightB s xs ys
  · exact ⟨0, false, 1, ⟨fun h => absurd h (by decide), fun _ => ⟨rfl, rfl⟩, fun _ e1 e2 hn hd hq => by rw [e1, e2, (rightB_q hn hd).2 hq] at hr; cases hr⟩, fun w1 r1 r2 => rbits_wrong s A B c d xs ys sz p q t w1 r1 r2 m1 m2 l1 l2 k1 k2 hr hf⟩
  · obtain ⟨⟨s0, n, d0⟩, hs, rfl, rfl, hn, hd, hq⟩ := rightB_num m1 m2 hr
    obtain rfl : s0 = s := hs
    obtain ⟨cc, ex, hC⟩ := code_any p q n d0 (Nat.pos_of_ne_zero hq.den)
    by_cases ho : (t + q + 2) * 2 ^ (p - 1) ≤ cc
    · exact ⟨0, false, 2, ⟨fun h => absurd h (by decide), fun _ => ⟨rfl, rfl⟩, fun hf' e1 e2 _ _ _ hC' ho' => by
      obtain ⟨rfl, rfl, rfl⟩ := hf.same hf'
      obtain rfl := limbs_inj.1 e1
      obtain rfl := limbs_inj.1 e2
      obtain ⟨rfl, -⟩ := hC.uniq hC' (Nat.pos_of_ne_zero hq.den)
      exact absurd ho ho'⟩, fun w1 r1 r2 => rbits_over s0 A B c d n d0 sz p q t w1 r1 r2 k1 k2 hn hd hq hf hC ho⟩
    · exact ⟨sgn s0 sz cc, ex, 0, ⟨fun _ => ⟨p, q, t, n, d0, cc, hf, rfl, rfl, hn, hd, hq, hC, ho, rfl⟩, fun h => absurd rfl h, fun _ _ _ _ _ _ _ _ => rfl⟩, fun w1 r1 r2 => rbits_fit s0 A B c d n d0 sz p q t w1 r1 r2 k1 k2 hn hd hq hf hC ho rfl⟩
theorem cmp_ans (A B A' B' : Option Addr) (c d c' d' : Nat) (xs ys xs' ys' : List Nat) (m1 : Lim xs) (m2 : Lim ys) (m3 : Lim xs') (m4 : Lim ys') (l1 : xs.length ≤ 18) (l2 : ys.length ≤ 18) (l3 : xs'.length ≤ 18) (l4 : ys'.length ≤ 18) (k1 : xs.length ≤ c) (k2 : ys.length ≤ d) (k3 : xs'.length ≤ c') (k4 : ys'.length ≤ d') :
    ∃ v g, (g = 0 → ∀ n d0 m f0, xs = limbs n → ys = limbs d0 → xs' = limbs m → ys' = limbs f0 → v = cmpI ((n * f0 : Nat) : Int) ((m * d0 : Nat) : Int)) ∧ ∀ w1, RdL w1 A xs → RdL w1 B ys → RdL w1 A' xs' → RdL w1 B' ys' → Calls Try.prog 40 #[.agg #[.bool false, .slice A xs.length c, .slice B ys.length d], .agg #[.bool false, .slice A' xs'.length c', .slice B' ys'.length d']] w1 (RetIEB v g w1) := by
  cases hr : rightB false xs ys
  · exact ⟨0, 1, fun h => absurd h (by decide), fun w1 r1 r2 r3 r4 => qcmp_bad false false A B A' B' c d c' d' xs ys xs' ys' w1 r1 r2 r3 r4 m1 m2 m3 m4 l1 l2 l3 l4 k1 k2 k3 k4 (by rw [hr]; rfl)⟩
  cases hr2 : rightB false xs' ys'
  · exact ⟨0, 1, fun h => absurd h (by decide), fun w1 r1 r2 r3 r4 => qcmp_bad false false A B A' B' c d c' d' xs ys xs' ys' w1 r1 r2 r3 r4 m1 m2 m3 m4 l1 l2 l3 l4 k1 k2 k3 k4 (by rw [hr2, Bool.and_false])⟩
  obtain ⟨⟨s0, n, d0⟩, hs, rfl, rfl, hn, hd, hq⟩ := rightB_num m1 m2 hr
  obtain ⟨⟨s1, m, f0⟩, hs1, rfl, rfl, hm, hf, hp⟩ := rightB_num m3 m4 hr2
  obtain rfl : s0 = false := hs
  obtain rfl : s1 = false := hs1
  by_cases hfit : n * f0 < Top ∧ m * d0 < Top
  · refine ⟨_, 0, ?_, fun w1 r1 r2 r3 r4 => qcmp_ok A B A' B' c d c' d' ⟨false, n, d0⟩ ⟨false, m, f0⟩ w1 r1 r2 r3 r4 k1 k2 k3 k4 hn hd hm hf hq hp hfit⟩
    intro _ n2 d2 m2 f2 e1 e2 e3 e4
    rw [← limbs_inj.1 e1, ← limbs_inj.1 e2, ← limbs_inj.1 e3, ← limbs_inj.1 e4]
    exact (cmpI_nat _ _).symm
  · by_cases hx : n * f0 < Top
    · exact ⟨0, 2, fun h => absurd h (by decide), fun w1 r1 r2 r3 r4 => qcmp_over_y A B A' B' c d c' d' ⟨false, n, d0⟩ ⟨false, m, f0⟩ w1 r1 r2 r3 r4 k1 k2 k3 k4 hn hd hm hf hq hp ⟨hx, fun h => hfit ⟨hx, h⟩⟩⟩
    · exact ⟨0, 2, fun h => absurd h (by decide), fun w1 r1 r2 r3 r4 => qcmp_over_x A B A' B' c d c' d' ⟨false, n, d0⟩ ⟨false, m, f0⟩ w1 r1 r2 r3 r4 k1 k2 k3 k4 hn hd hm hf hq hp hx⟩
set_option maxRecDepth 100000 in
set_option maxHeartbeats 1000000 in
theorem orders3_a {ua ub : Nat} {xa xb : Bool} {v : Int} {ea eb g : Int} (s s' : Bool) (A B A' B' : Option Addr) (c d c' d' : Nat) (x0 y0 x0' y0' xs ys xs' ys' : List Nat) (sz : Int) (w : World) (h1 : RdL w A x0) (h2 : RdL w B y0) (h3 : RdL w A' x0') (h4 : RdL w B' y0') (k1 : x0.length ≤ c) (k2 : y0.length ≤ d) (k3 : x0'.length ≤ c') (k4 : y0'.length ≤ d') (e1 : few x0 = xs) (e2 : few y0 = ys) (e3 : few x0' = xs') (e4 : few y0' = ys') (hba : ∀ w1, RdL w1 A xs → RdL w1 B ys → Calls Try.prog 12 #[.agg #[.bool false, .slice A xs.length c, .slice B ys.length d], .int .i64 sz] w1 (RetBits ua xa ea w1)) (hbb : ∀ w1, RdL w1 A' xs' → RdL w1 B' ys' → Calls Try.prog 12 #[.agg #[.bool false, .slice A' xs'.length c', .slice B' ys'.length d'], .int .i64 sz] w1 (RetBits ub xb eb w1)) (hcm : ∀ w1, RdL w1 A xs → RdL w1 B ys → RdL w1 A' xs' → RdL w1 B' ys' → Calls Try.prog 40 #[.agg #[.bool false, .slice A xs.length c, .slice B ys.length d], .agg #[.bool false, .slice A' xs'.length c', .slice B' ys'.length d']] w1 (RetIEB v g w1)) (hne : ea ≠ 0) :
    Calls Try.prog 7 #[.agg #[.bool s, .slice A x0.length c, .slice B y0.length d], .agg #[.bool s', .slice A' x0'.length c', .slice B' y0'.length d'], .int .i64 sz] w (RetT w) := by
  have z1 : (ea != 0) = true := by simp [hne]
  have HBA := Lib.hid hba; clear hba
  have HBB := Lib.hid hbb; clear hbb
  have HCM := Lib.hid hcm; clear hcm
  have R1 := Lib.hid (show RdL w A xs by rw [← e1]; exact h1.take 18); clear h1
  have R2 := Lib.hid (show RdL w B ys by rw [← e2]; exact h2.take 18); clear h2
  have R3 := Lib.hid (show RdL w A' xs' by rw [← e3]; exact h3.take 18); clear h3
  have R4 := Lib.hid (show RdL w B' ys' by rw [← e4]; exact h4.take 18); clear h4
  have F := Lib.hid (And.intro (And.intro k1 (And.intro k2 (And.intro e1 e2))) (And.intro k3 (And.intro k4 (And.intro e3 e4)))); clear k1 k2 k3 k4 e1 e2 e3 e4
  obtain ⟨wa, hwa⟩ : ∃ wa, wa = (w.alloc (.cells #[.bool s, .slice A x0.length c, .slice B y0.length d] 25)).alloc (.cells #[.bool s', .slice A' x0'.length c', .slice B' y0'.length d'] 25) := ⟨_, rfl⟩
  have hbl : Below w.heap.size w wa := by rw [hwa]; exact bel_alloc (bel_alloc (bel_refl _) _) _
  have CX : Blk wa (w.heap.size) 25 #[.bool s, .slice A x0.length c, .slice B y0.length d] := by
    have hz := Blk.new (w) 25 #[.bool s, .slice A x0.length c, .slice B y0.length d]
    rw [hwa]
    exact (hz.alloc _)
  have CY : Blk wa (w.heap.size + 1) 25 #[.bool s', .slice A' x0'.length c', .slice B' y0'.length d'] := by
    have hz := Blk.new (w.alloc (.cells #[.bool s, .slice A x0.length c, .slice B y0.length d] 25)) 25 #[.bool s', .slice A' x0'.length c', .slice B' y0'.length d']
    rw [World.size_alloc] at hz
    rw [hwa]
    exact hz
  replace R1 := Lib.hid (R1.out.below hbl)
  replace R2 := Lib.hid (R2.out.below hbl)
  replace R3 := Lib.hid (R3.out.below hbl)
  replace R4 := Lib.hid (R4.out.below hbl)
  have HW := Lib.hid hbl; clear hbl
  replace CX := Lib.hid CX
  replace CY := Lib.hid CY
  go_enter Try.func7, Try.ntmps7
  go_wp2_with fail
  rw [← hwa]
  clear hwa
  refine wp_region_typed 4 (TOf [VIs (.agg #[.bool s, .slice A x0.length c, .slice B y0.length d]),
      VIs (.agg #[.bool s, .slice A xs.length c, .slice B ys.length d]),
      VIs (.agg #[.bool s', .slice A' x0'.length c', .slice B' y0'.length d']),
      VIs (.agg #[.bool s', .slice A' xs'.length c', .slice B' ys'.length d'])]) (by kernel_rfl) (by kernel_rfl) (by kernel_rfl) (LiftAll.at_ (.cons (VIs.lift _) (.cons (VIs.lift _) (.cons (VIs.lift _) (.cons (VIs.lift _) .nil))))) (steps_all (steps_cons ?_ (steps_cons ?_ (steps_cons ?_ (steps_cons ?_ steps_zero))))) ?fin
  · intro a0 w9 K9 hF hB hK hC
    have b3 := hF.base (k := 3) (v := .pointer (some ⟨w.heap.size, 0, none⟩)) (by kernel_rfl) rfl
    have x90 : w9.cell? ⟨w.heap.size, 0, none⟩ = some (.bool s) := (CX.out.below hB CX.out.lt).cell 0
    have x91 : w9.cell? ⟨w.heap.size, 1, none⟩ = some (.slice A x0.length c) := (CX.out.below hB CX.out.lt).cell 1
    have x92 : w9.cell? ⟨w.heap.size, 2, none⟩ = some (.slice B y0.length d) := (CX.out.below hB CX.out.lt).cell 2
    clear hF hB hK
    go_simp
    exact hC _ _ (bel_refl _) fun _ _ => rfl
  · intro a0 w9 K9 hF hB hK hC
    obtain ⟨v18, e18, z18⟩ := dep hK 0 (g := .data) (j := 0) (k := 18) rfl rfl rfl
    have z18 : v18 = .agg #[.bool s, .slice A x0.length c, .slice B y0.length d] := z18
    subst z18
    have HB9 := Lib.hid hB
    clear hF hB hK
    go_simp
    refine (few3_is s A B c d x0 y0 xs ys _ F.out.1.1 F.out.1.2.1 F.out.1.2.2.1 F.out.1.2.2.2).mono ?_
    rintro e w7 ⟨rfl, hbl⟩
    exact hC _ _ hbl fun _ _ => rfl
  · intro a0 w9 K9 hF hB hK hC
    have b4 := hF.base (k := 4) (v := .pointer (some ⟨w.heap.size + 1, 0, none⟩)) (by kernel_rfl) rfl
    have x90 : w9.cell? ⟨w.heap.size + 1, 0, none⟩ = some (.bool s') := (CY.out.below hB CY.out.lt).cell 0
    have x91 : w9.cell? ⟨w.heap.size + 1, 1, none⟩ = some (.slice A' x0'.length c') := (CY.out.below hB CY.out.lt).cell 1
    have x92 : w9.cell? ⟨w.heap.size + 1, 2, none⟩ = some (.slice B' y0'.length d') := (CY.out.below hB CY.out.lt).cell 2
    clear hF hB hK
    go_simp
    exact hC _ _ (bel_refl _) fun _ _ => rfl
  · intro a0 w9 K9 hF hB hK hC
    obtain ⟨v20, e20, z20⟩ := dep hK 0 (g := .data) (j := 2) (k := 20) rfl rfl rfl
    have z20 : v20 = .agg #[.bool s', .slice A' x0'.length c', .slice B' y0'.length d'] := z20
    subst z20
    have HB9 := Lib.hid hB
    clear hF hB hK
    go_simp
    refine (few3_is s' A' B' c' d' x0' y0' xs' ys' _ F.out.2.1 F.out.2.2.1 F.out.2.2.2.1 F.out.2.2.2.2).mono ?_
    rintro e w7 ⟨rfl, hbl⟩
    exact hC _ _ hbl fun _ _ => rfl
  case fin =>
    intro a0 w9 hF hB hK
    have b2 := hF.base (k := 2) (v := .int .i64 sz) (by kernel_rfl) rfl
    have b3 := hF.base (k := 3) (v := .pointer (some ⟨w.heap.size, 0, none⟩)) (by kernel_rfl) rfl
    have b4 := hF.base (k := 4) (v := .pointer (some ⟨w.heap.size + 1, 0, none⟩)) (by kernel_rfl) rfl
    have hsz := hF.size
    have hdf := hF.defers
    clear hF
    obtain ⟨v19, e19, z19⟩ := known hK 1 (k := 19) (by decide) rfl
    have z19 : v19 = .agg #[.bool s, .slice A xs.length c, .slice B ys.length d] := z19
    subst z19
    obtain ⟨v21, e21, z21⟩ := known hK 3 (k := 21) (by decide) rfl
    have z21 : v21 = .agg #[.bool s', .slice A' xs'.length c', .slice B' ys'.length d'] := z21
    subst z21
    clear hK
    obtain ⟨⟨l0⟩, df⟩ := a0
    have hs0 : l0.length = 114 := hsz
    clear hsz
    replace hdf : df = _ := hdf
    subst hdf
    obtain ⟨u, rfl⟩ := lits_114 hs0
    clear hs0
    generalize hAr : (Array.mk [u 0, u 1, u 2, u 3, u 4, u 5, u 6, u 7, u 8, u 9, u 10, u 11, u 12, u 13, u 14, u 15, u 16, u 17, u 18, u 19, u 20, u 21, u 22, u 23, u 24, u 25, u 26, u 27, u 28, u 29, u 30, u 31, u 32, u 33, u 34, u 35, u 36, u 37, u 38, u 39, u 40, u 41, u 42, u 43, u 44, u 45, u 46, u 47, u 48, u 49, u 50, u 51, u 52, u 53, u 54, u 55, u 56, u 57, u 58, u 59, u 60, u 61, u 62, u 63, u 64, u 65, u 66, u 67, u 68, u 69, u 70, u 71, u 72, u 73, u 74, u 75, u 76, u 77, u 78, u 79, u 80, u 81, u 82, u 83, u 84, u 85, u 86, u 87, u 88, u 89, u 90, u 91, u 92, u 93, u 94, u 95, u 96, u 97, u 98, u 99, u 100, u 101, u 102, u 103, u 104, u 105, u 106, u 107, u 108, u 109, u 110, u 111, u 112, u 113] : Array Value) = ar
    obtain rfl : ar = #[u 0, u 1, u 2, u 3, u 4, u 5, u 6, u 7, u 8, u 9, u 10, u 11, u 12, u 13, u 14, u 15, u 16, u 17, u 18, u 19, u 20, u 21, u 22, u 23, u 24, u 25, u 26, u 27, u 28, u 29, u 30, u 31, u 32, u 33, u 34, u 35, u 36, u 37, u 38, u 39, u 40, u 41, u 42, u 43, u 44, u 45, u 46, u 47, u 48, u 49, u 50, u 51, u 52, u 53, u 54, u 55, u 56, u 57, u 58, u 59, u 60, u 61, u 62, u 63, u 64, u 65, u 66, u 67, u 68, u 69, u 70, u 71, u 72, u 73, u 74, u 75, u 76, u 77, u 78, u 79, u 80, u 81, u 82, u 83, u 84, u 85, u 86, u 87, u 88, u 89, u 90, u 91, u 92, u 93, u 94, u 95, u 96, u 97, u 98, u 99, u 100, u 101, u 102, u 103, u 104, u 105, u 106, u 107, u 108, u 109, u 110, u 111, u 112, u 113] := hAr.symm
    have q2 : u 2 = _ := Option.some.inj b2
    clear b2
    have q3 : u 3 = _ := Option.some.inj b3
    clear b3
    have q4 : u 4 = _ := Option.some.inj b4
    clear b4
    have q19 : u 19 = _ := Option.some.inj e19
    clear e19
    have q21 : u 21 = _ := Option.some.inj e21
    clear e21
    rw [q2, q3, q4, q19, q21]
    clear q2 q3 q4 q19 q21
    have hbl := hB; clear hB
    replace R1 := Lib.hid (R1.out.below hbl)
    replace R2 := Lib.hid (R2.out.below hbl)
    replace R3 := Lib.hid (R3.out.below hbl)
    replace R4 := Lib.hid (R4.out.below hbl)
    replace CX := Lib.hid (CX.out.below hbl CX.out.lt)
    replace CY := Lib.hid (CY.out.below hbl CY.out.lt)
    replace HW := Lib.hid (bel_trans HW.out hbl); clear hbl
    simp only [List.drop_succ_cons, List.drop_zero]
    have pd0 := CX.out.cell 0
    have pf0 := CX.out.frozen 0
    have pd1 := CX.out.cell 1
    have pf1 := CX.out.frozen 1
    have pd2 := CX.out.cell 2
    have pf2 := CX.out.frozen 2
    have qd0 := CY.out.cell 0
    have qf0 := CY.out.frozen 0
    have qd1 := CY.out.cell 1
    have qf1 := CY.out.frozen 1
    have qd2 := CY.out.cell 2
    have qf2 := CY.out.frozen 2
    go_upto_region 2 with fail
    clear pd0 pf0 pd1 pf1 pd2 pf2 qd0 qf0 qd1 qf1 qd2 qf2
    obtain ⟨wf, hwf⟩ : ∃ wf, wf = ((((((w9.setCell ⟨w.heap.size, 0, none⟩ (.bool s)).setCell ⟨w.heap.size, 1, none⟩ (.slice A xs.length c)).setCell ⟨w.heap.size, 2, none⟩ (.slice B ys.length d)).setCell ⟨w.heap.size + 1, 0, none⟩ (.bool s')).setCell ⟨w.heap.size + 1, 1, none⟩ (.slice A' xs'.length c')).setCell ⟨w.heap.size + 1, 2, none⟩ (.slice B' ys'.length d')) := ⟨_, rfl⟩
    rw [← hwf]
    replace R1 := Lib.hid (show RdL wf _ _ by rw [hwf]; exact RdL.set3 ((((CY.out).far (p := ⟨w.heap.size, 0, none⟩) (by simp) _).far (p := ⟨w.heap.size, 1, none⟩) (by simp) _).far (p := ⟨w.heap.size, 2, none⟩) (by simp) _) (RdL.set3 (CX.out) (R1.out) _ _ _) _ _ _)
    replace R2 := Lib.hid (show RdL wf _ _ by rw [hwf]; exact RdL.set3 ((((CY.out).far (p := ⟨w.heap.size, 0, none⟩) (by simp) _).far (p := ⟨w.heap.size, 1, none⟩) (by simp) _).far (p := ⟨w.heap.size, 2, none⟩) (by simp) _) (RdL.set3 (CX.out) (R2.out) _ _ _) _ _ _)
    replace R3 := Lib.hid (show RdL wf _ _ by rw [hwf]; exact RdL.set3 ((((CY.out).far (p := ⟨w.heap.size, 0, none⟩) (by simp) _).far (p := ⟨w.heap.size, 1, none⟩) (by simp) _).far (p := ⟨w.heap.size, 2, none⟩) (by simp) _) (RdL.set3 (CX.out) (R3.out) _ _ _) _ _ _)
    replace R4 := Lib.hid (show RdL wf _ _ by rw [hwf]; exact RdL.set3 ((((CY.out).far (p := ⟨w.heap.size, 0, none⟩) (by simp) _).far (p := ⟨w.heap.size, 1, none⟩) (by simp) _).far (p := ⟨w.heap.size, 2, none⟩) (by simp) _) (RdL.set3 (CX.out) (R4.out) _ _ _) _ _ _)
    have CX_ := Lib.hid (show Blk wf (w.heap.size) 25 #[.bool s, .slice A xs.length c, .slice B ys.length d] by rw [hwf]; exact ((((((CX.out).put 0 (.bool s)).put 1 (.slice A xs.length c)).put 2 (.slice B ys.length d)).far (p := ⟨w.heap.size + 1, 0, none⟩) (by simp) _).far (p := ⟨w.heap.size + 1, 1, none⟩) (by simp) _).far (p := ⟨w.heap.size + 1, 2, none⟩) (by simp) _)
    have CY_ := Lib.hid (show Blk wf (w.heap.size + 1) 25 #[.bool s', .slice A' xs'.length c', .slice B' ys'.length d'] by rw [hwf]; exact ((((((CY.out).far (p := ⟨w.heap.size, 0, none⟩) (by simp) _).far (p := ⟨w.heap.size, 1, none⟩) (by simp) _).far (p := ⟨w.heap.size, 2, none⟩) (by simp) _).put 0 (.bool s')).put 1 (.slice A' xs'.length c')).put 2 (.slice B' ys'.length d'))
    replace CX := CX_; clear CX_
    replace CY := CY_; clear CY_
    replace HW := Lib.hid (show Below w.heap.size w wf by rw [hwf]; exact bel_set (p := ⟨w.heap.size + 1, 2, none⟩) (bel_set (p := ⟨w.heap.size + 1, 1, none⟩) (bel_set (p := ⟨w.heap.size + 1, 0, none⟩) (bel_set (p := ⟨w.heap.size, 2, none⟩) (bel_set (p := ⟨w.heap.size, 1, none⟩) (bel_set (p := ⟨w.heap.size, 0, none⟩) (HW.out) (by show w.heap.size ≤ w.heap.size; omega) _) (by show w.heap.size ≤ w.heap.size; omega) _) (by show w.heap.size ≤ w.heap.size; omega) _) (by show w.heap.size ≤ w.heap.size + 1; omega) _) (by show w.heap.size ≤ w.heap.size + 1; omega) _) (by show w.heap.size ≤ w.heap.size + 1; omega) _)
    clear hwf
    have CX0 : wf.cell? ⟨w.heap.size, 0, none⟩ = some (.bool s) := CX.out.cell 0
    have CX1 : wf.cell? ⟨w.heap.size, 1, none⟩ = some (.slice A xs.length c) := CX.out.cell 1
    have CX2 : wf.cell? ⟨w.heap.size, 2, none⟩ = some (.slice B ys.length d) := CX.out.cell 2
    have CY0 : wf.cell? ⟨w.heap.size + 1, 0, none⟩ = some (.bool s') := CY.out.cell 0
    have CY1 : wf.cell? ⟨w.heap.size + 1, 1, none⟩ = some (.slice A' xs'.length c') := CY.out.cell 1
    have CY2 : wf.cell? ⟨w.heap.size + 1, 2, none⟩ = some (.slice B' ys'.length d') := CY.out.cell 2
    have xCX := CX.out.cell 0
    have yCX := CX.out.frozen 0
    have xCY := CY.out.cell 0
    have yCY := CY.out.frozen 0
    go_upto_region 3 with fail
    clear xCX yCX xCY yCY
    obtain ⟨wn, hwn⟩ : ∃ wn, wn = ((wf.setCell ⟨w.heap.size, 0, none⟩ (.bool false)).setCell ⟨w.heap.size + 1, 0, none⟩ (.bool false)) := ⟨_, rfl⟩
    rw [← hwn]
    replace R1 := Lib.hid (show RdL wn _ _ by rw [hwn]; exact RdL.set1 ((CY.out).far (p := ⟨w.heap.size, 0, none⟩) (by simp) _) (RdL.set1 (CX.out) (R1.out) _) _)
    replace R2 := Lib.hid (show RdL wn _ _ by rw [hwn]; exact RdL.set1 ((CY.out).far (p := ⟨w.heap.size, 0, none⟩) (by simp) _) (RdL.set1 (CX.out) (R2.out) _) _)
    replace R3 := Lib.hid (show RdL wn _ _ by rw [hwn]; exact RdL.set1 ((CY.out).far (p := ⟨w.heap.size, 0, none⟩) (by simp) _) (RdL.set1 (CX.out) (R3.out) _) _)
    replace R4 := Lib.hid (show RdL wn _ _ by rw [hwn]; exact RdL.set1 ((CY.out).far (p := ⟨w.heap.size, 0, none⟩) (by simp) _) (RdL.set1 (CX.out) (R4.out) _) _)
    have CX_ := Lib.hid (show Blk wn (w.heap.size) 25 #[.bool false, .slice A xs.length c, .slice B ys.length d] by rw [hwn]; exact ((CX.out).put 0 (.bool false)).far (p := ⟨w.heap.size + 1, 0, none⟩) (by simp) _)
    have CY_ := Lib.hid (show Blk wn (w.heap.size + 1) 25 #[.bool false, .slice A' xs'.length c', .slice B' ys'.length d'] by rw [hwn]; exact ((CY.out).far (p := ⟨w.heap.size, 0, none⟩) (by simp) _).put 0 (.bool false))
    replace CX := CX_; clear CX_
    replace CY := CY_; clear CY_
    replace HW := Lib.hid (show Below w.heap.size w wn by rw [hwn]; exact bel_set (p := ⟨w.heap.size + 1, 0, none⟩) (bel_set (p := ⟨w.heap.size, 0, none⟩) (HW.out) (by show w.heap.size ≤ w.heap.size; omega) _) (by show w.heap.size ≤ w.heap.size + 1; omega) _)
    clear hwn
    clear CX0 CX1 CX2 CY0 CY1 CY2
    have CX0 : wn.cell? ⟨w.heap.size, 0, none⟩ = some (.bool false) := CX.out.cell 0
    have CX1 : wn.cell? ⟨w.heap.size, 1, none⟩ = some (.slice A xs.length c) := CX.out.cell 1
    have CX2 : wn.cell? ⟨w.heap.size, 2, none⟩ = some (.slice B ys.length d) := CX.out.cell 2
    have CY0 : wn.cell? ⟨w.heap.size + 1, 0, none⟩ = some (.bool false) := CY.out.cell 0
    have CY1 : wn.cell? ⟨w.heap.size + 1, 1, none⟩ = some (.slice A' xs'.length c') := CY.out.cell 1
    have CY2 : wn.cell? ⟨w.heap.size + 1, 2, none⟩ = some (.slice B' ys'.length d') := CY.out.cell 2
    go_wp2_with fail
    refine (HBA.out _ R1.out R2.out).mono ?_
    rintro e w1 ⟨rfl, hbl⟩
    replace R1 := Lib.hid (R1.out.below hbl)
    replace R2 := Lib.hid (R2.out.below hbl)
    replace R3 := Lib.hid (R3.out.below hbl)
    replace R4 := Lib.hid (R4.out.below hbl)
    replace CX := Lib.hid (CX.out.below hbl CX.out.lt)
    replace CY := Lib.hid (CY.out.below hbl CY.out.lt)
    replace HW := Lib.hid (bel_trans HW.out hbl); clear hbl
    clear CX0 CX1 CX2 CY0 CY1 CY2
    have CX0 : w1.cell? ⟨w.heap.size, 0, none⟩ = some (.bool false) := CX.out.cell 0
    have CX1 : w1.cell? ⟨w.heap.size, 1, none⟩ = some (.slice A xs.length c) := CX.out.cell 1
    have CX2 : w1.cell? ⟨w.heap.size, 2, none⟩ = some (.slice B ys.length d) := CX.out.cell 2
    have CY0 : w1.cell? ⟨w.heap.size + 1, 0, none⟩ = some (.bool false) := CY.out.cell 0
    have CY1 : w1.cell? ⟨w.heap.size + 1, 1, none⟩ = some (.slice A' xs'.length c') := CY.out.cell 1
    have CY2 : w1.cell? ⟨w.heap.size + 1, 2, none⟩ = some (.slice B' ys'.length d') := CY.out.cell 2
    go_wp2_with fail
    refine (HBB.out _ R3.out R4.out).mono ?_
    rintro e w2 ⟨rfl, hbl⟩
    replace R1 := Lib.hid (R1.out.below hbl)
    replace R2 := Lib.hid (R2.out.below hbl)
    replace R3 := Lib.hid (R3.out.below hbl)
    replace R4 := Lib.hid (R4.out.below hbl)
    replace CX := Lib.hid (CX.out.below hbl CX.out.lt)
    replace CY := Lib.hid (CY.out.below hbl CY.out.lt)
    replace HW := Lib.hid (bel_trans HW.out hbl); clear hbl
    clear CX0 CX1 CX2 CY0 CY1 CY2
    have CX0 : w2.cell? ⟨w.heap.size, 0, none⟩ = some (.bool false) := CX.out.cell 0
    have CX1 : w2.cell? ⟨w.heap.size, 1, none⟩ = some (.slice A xs.length c) := CX.out.cell 1
    have CX2 : w2.cell? ⟨w.heap.size, 2, none⟩ = some (.slice B ys.length d) := CX.out.cell 2
    have CY0 : w2.cell? ⟨w.heap.size + 1, 0, none⟩ = some (.bool false) := CY.out.cell 0
    have CY1 : w2.cell? ⟨w.heap.size + 1, 1, none⟩ = some (.slice A' xs'.length c') := CY.out.cell 1
    have CY2 : w2.cell? ⟨w.heap.size + 1, 2, none⟩ = some (.slice B' ys'.length d') := CY.out.cell 2
    go_wp2_with fail
    refine (HCM.out _ R1.out R2.out R3.out R4.out).mono ?_
    rintro e w3 ⟨rfl, hbl⟩
    replace R1 := Lib.hid (R1.out.below hbl)
    replace R2 := Lib.hid (R2.out.below hbl)
    replace R3 := Lib.hid (R3.out.below hbl)
    replace R4 := Lib.hid (R4.out.below hbl)
    replace CX := Lib.hid (CX.out.below hbl CX.out.lt)
    replace CY := Lib.hid (CY.out.below hbl CY.out.lt)
    replace HW := Lib.hid (bel_trans HW.out hbl); clear hbl
    clear CX0 CX1 CX2 CY0 CY1 CY2
    have CX0 : w3.cell? ⟨w.heap.size, 0, none⟩ = some (.bool false) := CX.out.cell 0
    have CX1 : w3.cell? ⟨w.heap.size, 1, none⟩ = some (.slice A xs.length c) := CX.out.cell 1
    have CX2 : w3.cell? ⟨w.heap.size, 2, none⟩ = some (.slice B ys.length d) := CX.out.cell 2
    have CY0 : w3.cell? ⟨w.heap.size + 1, 0, none⟩ = some (.bool false) := CY.out.cell 0
    have CY1 : w3.cell? ⟨w.heap.size + 1, 1, none⟩ = some (.slice A' xs'.length c') := CY.out.cell 1
    have CY2 : w3.cell? ⟨w.heap.size + 1, 2, none⟩ = some (.slice B' ys'.length d') := CY.out.cell 2
    go_wp2_with fail
    refine (alive3 _).mono ?_
    rintro e w4 ⟨rfl, hbl⟩
    replace R1 := Lib.hid (R1.out.below hbl)
    replace R2 := Lib.hid (R2.out.below hbl)
    replace R3 := Lib.hid (R3.out.below hbl)
    replace R4 := Lib.hid (R4.out.below hbl)
    replace CX := Lib.hid (CX.out.below hbl CX.out.lt)
    replace CY := Lib.hid (CY.out.below hbl CY.out.lt)
    replace HW := Lib.hid (bel_trans HW.out hbl); clear hbl
    clear CX0 CX1 CX2 CY0 CY1 CY2
    have CX0 : w4.cell? ⟨w.heap.size, 0, none⟩ = some (.bool false) := CX.out.cell 0
    have CX1 : w4.cell? ⟨w.heap.size, 1, none⟩ = some (.slice A xs.length c) := CX.out.cell 1
    have CX2 : w4.cell? ⟨w.heap.size, 2, none⟩ = some (.slice B ys.length d) := CX.out.cell 2
    have CY0 : w4.cell? ⟨w.heap.size + 1, 0, none⟩ = some (.bool false) := CY.out.cell 0
    have CY1 : w4.cell? ⟨w.heap.size + 1, 1, none⟩ = some (.slice A' xs'.length c') := CY.out.cell 1
    have CY2 : w4.cell? ⟨w.heap.size + 1, 2, none⟩ = some (.slice B' ys'.length d') := CY.out.cell 2
    go_wp2
    go_ret
    exact ⟨rfl, HW.out⟩

set_option maxRecDepth 100000 in
set_option maxHeartbeats 1000000 in
theorem orders3_b {ua ub : Nat} {xa xb : Bool} {v : Int} {eb g : Int} (s s' : Bool) (A B A' B' : Option Addr) (c d c' d' : Nat) (x0 y0 x0' y0' xs ys xs' ys' : List Nat) (sz : Int) (w : World) (h1 : RdL w A x0) (h2 : RdL w B y0) (h3 : RdL w A' x0') (h4 : RdL w B' y0') (k1 : x0.length ≤ c) (k2 : y0.length ≤ d) (k3 : x0'.length ≤ c') (k4 : y0'.length ≤ d') (e1 : few x0 = xs) (e2 : few y0 = ys) (e3 : few x0' = xs') (e4 : few y0' = ys') (hba : ∀ w1, RdL w1 A xs → RdL w1 B ys → Calls Try.prog 12 #[.agg #[.bool false, .slice A xs.length c, .slice B ys.length d], .int .i64 sz] w1 (RetBits ua xa 0 w1)) (hbb : ∀ w1, RdL w1 A' xs' → RdL w1 B' ys' → Calls Try.prog 12 #[.agg #[.bool false, .slice A' xs'.length c', .slice B' ys'.length d'], .int .i64 sz] w1 (RetBits ub xb eb w1)) (hcm : ∀ w1, RdL w1 A xs → RdL w1 B ys → RdL w1 A' xs' → RdL w1 B' ys' → Calls Try.prog 40 #[.agg #[.bool false, .slice A xs.length c, .slice B ys.length d], .agg #[.bool false, .slice A' xs'.length c', .slice B' ys'.length d']] w1 (RetIEB v g w1)) (hne : eb ≠ 0) :
    Calls Try.prog 7 #[.agg #[.bool s, .slice A x0.length c, .slice B y0.length d], .agg #[.bool s', .slice A' x0'.length c', .slice B' y0'.length d'], .int .i64 sz] w (RetT w) := by
  have z1 : (eb != 0) = true := by simp [hne]
  have HBA := Lib.hid hba; clear hba
  have HBB := Lib.hid hbb; clear hbb
  have HCM := Lib.hid hcm; clear hcm
  have R1 := Lib.hid (show RdL w A xs by rw [← e1]; exact h1.take 18); clear h1
  have R2 := Lib.hid (show RdL w B ys by rw [← e2]; exact h2.take 18); clear h2
  have R3 := Lib.hid (show RdL w A' xs' by rw [← e3]; exact h3.take 18); clear h3
  have R4 := Lib.hid (show RdL w B' ys' by rw [← e4]; exact h4.take 18); clear h4
  have F := Lib.hid (And.intro (And.intro k1 (And.intro k2 (And.intro e1 e2))) (And.intro k3 (And.intro k4 (And.intro e3 e4)))); clear k1 k2 k3 k4 e1 e2 e3 e4
  obtain ⟨wa, hwa⟩ : ∃ wa, wa = (w.alloc (.cells #[.bool s, .slice A x0.length c, .slice B y0.length d] 25)).alloc (.cells #[.bool s', .slice A' x0'.length c', .slice B' y0'.length d'] 25) := ⟨_, rfl⟩
  have hbl : Below w.heap.size w wa := by rw [hwa]; exact bel_alloc (bel_alloc (bel_refl _) _) _
  have CX : Blk wa (w.heap.size) 25 #[.bool s, .slice A x0.length c, .slice B y0.length d] := by
    have hz := Blk.new (w) 25 #[.bool s, .slice A x0.length c, .slice B y0.length d]
    rw [hwa]
    exact (hz.alloc _)
  have CY : Blk wa (w.heap.size + 1) 25 #[.bool s', .slice A' x0'.length c', .slice B' y0'.length d'] := by
    have hz := Blk.new (w.alloc (.cells #[.bool s, .slice A x0.length c, .slice B y0.length d] 25)) 25 #[.bool s', .slice A' x0'.length c', .slice B' y0'.length d']
    rw [World.size_alloc] at hz
    rw [hwa]
    exact hz
  replace R1 := Lib.hid (R1.out.below hbl)
  replace R2 := Lib.hid (R2.out.below hbl)
  replace R3 := Lib.hid (R3.out.below hbl)
  replace R4 := Lib.hid (R4.out.below hbl)
  have HW := Lib.hid hbl; clear hbl
  replace CX := Lib.hid CX
  replace CY := Lib.hid CY
  go_enter Try.func7, Try.ntmps7
  go_wp2_with fail
  rw [← hwa]
  clear hwa
  refine wp_region_typed 4 (TOf [VIs (.agg #[.bool s, .slice A x0.length c, .slice B y0.length d]),
      VIs (.agg #[.bool s, .slice A xs.length c, .slice B ys.length d]),
      VIs (.agg #[.bool s', .slice A' x0'.length c', .slice B' y0'.length d']),
      VIs (.agg #[.bool s', .slice A' xs'.length c', .slice B' ys'.length d'])]) (by kernel_rfl) (by kernel_rfl) (by kernel_rfl) (LiftAll.at_ (.cons (VIs.lift _) (.cons (VIs.lift _) (.cons (VIs.lift _) (.cons (VIs.lift _) .nil))))) (steps_all (steps_cons ?_ (steps_cons ?_ (steps_cons ?_ (steps_cons ?_ steps_zero))))) ?fin
  · intro a0 w9 K9 hF hB hK hC
    have b3 := hF.base (k := 3) (v := .pointer (some ⟨w.heap.size, 0, none⟩)) (by kernel_rfl) rfl
    have x90 : w9.cell? ⟨w.heap.size, 0, none⟩ = some (.bool s) := (CX.out.below hB CX.out.lt).cell 0
    have x91 : w9.cell? ⟨w.heap.size, 1, none⟩ = some (.slice A x0.length c) := (CX.out.below hB CX.out.lt).cell 1
    have x92 : w9.cell? ⟨w.heap.size, 2, none⟩ = some (.slice B y0.length d) := (CX.out.below hB CX.out.lt).cell 2
    clear hF hB hK
    go_simp
    exact hC _ _ (bel_refl _) fun _ _ => rfl
  · intro a0 w9 K9 hF hB hK hC
    obtain ⟨v18, e18, z18⟩ := dep hK 0 (g := .data) (j := 0) (k := 18) rfl rfl rfl
    have z18 : v18 = .agg #[.bool s, .slice A x0.length c, .slice B y0.length d] := z18
    subst z18
    have HB9 := Lib.hid hB
    clear hF hB hK
    go_simp
    refine (few3_is s A B c d x0 y0 xs ys _ F.out.1.1 F.out.1.2.1 F.out.1.2.2.1 F.out.1.2.2.2).mono ?_
    rintro e w7 ⟨rfl, hbl⟩
    exact hC _ _ hbl fun _ _ => rfl
  · intro a0 w9 K9 hF hB hK hC
    have b4 := hF.base (k := 4) (v := .pointer (some ⟨w.heap.size + 1, 0, none⟩)) (by kernel_rfl) rfl
    have x90 : w9.cell? ⟨w.heap.size + 1, 0, none⟩ = some (.bool s') := (CY.out.below hB CY.out.lt).cell 0
    have x91 : w9.cell? ⟨w.heap.size + 1, 1, none⟩ = some (.slice A' x0'.length c') := (CY.out.below hB CY.out.lt).cell 1
    have x92 : w9.cell? ⟨w.heap.size + 1, 2, none⟩ = some (.slice B' y0'.length d') := (CY.out.below hB CY.out.lt).cell 2
    clear hF hB hK
    go_simp
    exact hC _ _ (bel_refl _) fun _ _ => rfl
  · intro a0 w9 K9 hF hB hK hC
    obtain ⟨v20, e20, z20⟩ := dep hK 0 (g := .data) (j := 2) (k := 20) rfl rfl rfl
    have z20 : v20 = .agg #[.bool s', .slice A' x0'.length c', .slice B' y0'.length d'] := z20
    subst z20
    have HB9 := Lib.hid hB
    clear hF hB hK
    go_simp
    refine (few3_is s' A' B' c' d' x0' y0' xs' ys' _ F.out.2.1 F.out.2.2.1 F.out.2.2.2.1 F.out.2.2.2.2).mono ?_
    rintro e w7 ⟨rfl, hbl⟩
    exact hC _ _ hbl fun _ _ => rfl
  case fin =>
    intro a0 w9 hF hB hK
    have b2 := hF.base (k := 2) (v := .int .i64 sz) (by kernel_rfl) rfl
    have b3 := hF.base (k := 3) (v := .pointer (some ⟨w.heap.size, 0, none⟩)) (by kernel_rfl) rfl
    have b4 := hF.base (k := 4) (v := .pointer (some ⟨w.heap.size + 1, 0, none⟩)) (by kernel_rfl) rfl
    have hsz := hF.size
    have hdf := hF.defers
    clear hF
    obtain ⟨v19, e19, z19⟩ := known hK 1 (k := 19) (by decide) rfl
    have z19 : v19 = .agg #[.bool s, .slice A xs.length c, .slice B ys.length d] := z19
    subst z19
    obtain ⟨v21, e21, z21⟩ := known hK 3 (k := 21) (by decide) rfl
    have z21 : v21 = .agg #[.bool s', .slice A' xs'.length c', .slice B' ys'.length d'] := z21
    subst z21
    clear hK
    obtain ⟨⟨l0⟩, df⟩ := a0
    have hs0 : l0.length = 114 := hsz
    clear hsz
    replace hdf : df = _ := hdf
    subst hdf
    obtain ⟨u, rfl⟩ := lits_114 hs0
    clear hs0
    generalize hAr : (Array.mk [u 0, u 1, u 2, u 3, u 4, u 5, u 6, u 7, u 8, u 9, u 10, u 11, u 12, u 13, u 14, u 15, u 16, u 17, u 18, u 19, u 20, u 21, u 22, u 23, u 24, u 25, u 26, u 27, u 28, u 29, u 30, u 31, u 32, u 33, u 34, u 35, u 36, u 37, u 38, u 39, u 40, u 41, u 42, u 43, u 44, u 45, u 46, u 47, u 48, u 49, u 50, u 51, u 52, u 53, u 54, u 55, u 56, u 57, u 58, u 59, u 60, u 61, u 62, u 63, u 64, u 65, u 66, u 67, u 68, u 69, u 70, u 71, u 72, u 73, u 74, u 75, u 76, u 77, u 78, u 79, u 80, u 81, u 82, u 83, u 84, u 85, u 86, u 87, u 88, u 89, u 90, u 91, u 92, u 93, u 94, u 95, u 96, u 97, u 98, u 99, u 100, u 101, u 102, u 103, u 104, u 105, u 106, u 107, u 108, u 109, u 110, u 111, u 112, u 113] : Array Value) = ar
    obtain rfl : ar = #[u 0, u 1, u 2, u 3, u 4, u 5, u 6, u 7, u 8, u 9, u 10, u 11, u 12, u 13, u 14, u 15, u 16, u 17, u 18, u 19, u 20, u 21, u 22, u 23, u 24, u 25, u 26, u 27, u 28, u 29, u 30, u 31, u 32, u 33, u 34, u 35, u 36, u 37, u 38, u 39, u 40, u 41, u 42, u 43, u 44, u 45, u 46, u 47, u 48, u 49, u 50, u 51, u 52, u 53, u 54, u 55, u 56, u 57, u 58, u 59, u 60, u 61, u 62, u 63, u 64, u 65, u 66, u 67, u 68, u 69, u 70, u 71, u 72, u 73, u 74, u 75, u 76, u 77, u 78, u 79, u 80, u 81, u 82, u 83, u 84, u 85, u 86, u 87, u 88, u 89, u 90, u 91, u 92, u 93, u 94, u 95, u 96, u 97, u 98, u 99, u 100, u 101, u 102, u 103, u 104, u 105, u 106, u 107, u 108, u 109, u 110, u 111, u 112, u 113] := hAr.symm
    have q2 : u 2 = _ := Option.some.inj b2
    clear b2
    have q3 : u 3 = _ := Option.some.inj b3
    clear b3
    have q4 : u 4 = _ := Option.some.inj b4
    clear b4
    have q19 : u 19 = _ := Option.some.inj e19
    clear e19
    have q21 : u 21 = _ := Option.some.inj e21
    clear e21
    rw [q2, q3, q4, q19, q21]
    clear q2 q3 q4 q19 q21
    have hbl := hB; clear hB
    replace R1 := Lib.hid (R1.out.below hbl)
    replace R2 := Lib.hid (R2.out.below hbl)
    replace R3 := Lib.hid (R3.out.below hbl)
    replace R4 := Lib.hid (R4.out.below hbl)
    replace CX := Lib.hid (CX.out.below hbl CX.out.lt)
    replace CY := Lib.hid (CY.out.below hbl CY.out.lt)
    replace HW := Lib.hid (bel_trans HW.out hbl); clear hbl
    simp only [List.drop_succ_cons, List.drop_zero]
    have pd0 := CX.out.cell 0
    have pf0 := CX.out.frozen 0
    have pd1 := CX.out.cell 1
    have pf1 := CX.out.frozen 1
    have pd2 := CX.out.cell 2
    have pf2 := CX.out.frozen 2
    have qd0 := CY.out.cell 0
    have qf0 := CY.out.frozen 0
    have qd1 := CY.out.cell 1
    have qf1 := CY.out.frozen 1
    have qd2 := CY.out.cell 2
    have qf2 := CY.out.frozen 2
    go_upto_region 2 with fail
    clear pd0 pf0 pd1 pf1 pd2 pf2 qd0 qf0 qd1 qf1 qd2 qf2
    obtain ⟨wf, hwf⟩ : ∃ wf, wf = ((((((w9.setCell ⟨w.heap.size, 0, none⟩ (.bool s)).setCell ⟨w.heap.size, 1, none⟩ (.slice A xs.length c)).setCell ⟨w.heap.size, 2, none⟩ (.slice B ys.length d)).setCell ⟨w.heap.size + 1, 0, none⟩ (.bool s')).setCell ⟨w.heap.size + 1, 1, none⟩ (.slice A' xs'.length c')).setCell ⟨w.heap.size + 1, 2, none⟩ (.slice B' ys'.length d')) := ⟨_, rfl⟩
    rw [← hwf]
    replace R1 := Lib.hid (show RdL wf _ _ by rw [hwf]; exact RdL.set3 ((((CY.out).far (p := ⟨w.heap.size, 0, none⟩) (by simp) _).far (p := ⟨w.heap.size, 1, none⟩) (by simp) _).far (p := ⟨w.heap.size, 2, none⟩) (by simp) _) (RdL.set3 (CX.out) (R1.out) _ _ _) _ _ _)
    replace R2 := Lib.hid (show RdL wf _ _ by rw [hwf]; exact RdL.set3 ((((CY.out).far (p := ⟨w.heap.size, 0, none⟩) (by simp) _).far (p := ⟨w.heap.size, 1, none⟩) (by simp) _).far (p := ⟨w.heap.size, 2, none⟩) (by simp) _) (RdL.set3 (CX.out) (R2.out) _ _ _) _ _ _)
    replace R3 := Lib.hid (show RdL wf _ _ by rw [hwf]; exact RdL.set3 ((((CY.out).far (p := ⟨w.heap.size, 0, none⟩) (by simp) _).far (p := ⟨w.heap.size, 1, none⟩) (by simp) _).far (p := ⟨w.heap.size, 2, none⟩) (by simp) _) (RdL.set3 (CX.out) (R3.out) _ _ _) _ _ _)
    replace R4 := Lib.hid (show RdL wf _ _ by rw [hwf]; exact RdL.set3 ((((CY.out).far (p := ⟨w.heap.size, 0, none⟩) (by simp) _).far (p := ⟨w.heap.size, 1, none⟩) (by simp) _).far (p := ⟨w.heap.size, 2, none⟩) (by simp) _) (RdL.set3 (CX.out) (R4.out) _ _ _) _ _ _)
    have CX_ := Lib.hid (show Blk wf (w.heap.size) 25 #[.bool s, .slice A xs.length c, .slice B ys.length d] by rw [hwf]; exact ((((((CX.out).put 0 (.bool s)).put 1 (.slice A xs.length c)).put 2 (.slice B ys.length d)).far (p := ⟨w.heap.size + 1, 0, none⟩) (by simp) _).far (p := ⟨w.heap.size + 1, 1, none⟩) (by simp) _).far (p := ⟨w.heap.size + 1, 2, none⟩) (by simp) _)
    have CY_ := Lib.hid (show Blk wf (w.heap.size + 1) 25 #[.bool s', .slice A' xs'.length c', .slice B' ys'.length d'] by rw [hwf]; exact ((((((CY.out).far (p := ⟨w.heap.size, 0, none⟩) (by simp) _).far (p := ⟨w.heap.size, 1, none⟩) (by simp) _).far (p := ⟨w.heap.size, 2, none⟩) (by simp) _).put 0 (.bool s')).put 1 (.slice A' xs'.length c')).put 2 (.slice B' ys'.length d'))
    replace CX := CX_; clear CX_
    replace CY := CY_; clear CY_
    replace HW := Lib.hid (show Below w.heap.size w wf by rw [hwf]; exact bel_set (p := ⟨w.heap.size + 1, 2, none⟩) (bel_set (p := ⟨w.heap.size + 1, 1, none⟩) (bel_set (p := ⟨w.heap.size + 1, 0, none⟩) (bel_set (p := ⟨w.heap.size, 2, none⟩) (bel_set (p := ⟨w.heap.size, 1, none⟩) (bel_set (p := ⟨w.heap.size, 0, none⟩) (HW.out) (by show w.heap.size ≤ w.heap.size; omega) _) (by show w.heap.size ≤ w.heap.size; omega) _) (by show w.heap.size ≤ w.heap.size; omega) _) (by show w.heap.size ≤ w.heap.size + 1; omega) _) (by show w.heap.size ≤ w.heap.size + 1; omega) _) (by show w.heap.size ≤ w.heap.size + 1; omega) _)
    clear hwf
    have CX0 : wf.cell? ⟨w.heap.size, 0, none⟩ = some (.bool s) := CX.out.cell 0
    have CX1 : wf.cell? ⟨w.heap.size, 1, none⟩ = some (.slice A xs.length c) := CX.out.cell 1
    have CX2 : wf.cell? ⟨w.heap.size, 2, none⟩ = some (.slice B ys.length d) := CX.out.cell 2
    have CY0 : wf.cell? ⟨w.heap.size + 1, 0, none⟩ = some (.bool s') := CY.out.cell 0
    have CY1 : wf.cell? ⟨w.heap.size + 1, 1, none⟩ = some (.slice A' xs'.length c') := CY.out.cell 1
    have CY2 : wf.cell? ⟨w.heap.size + 1, 2, none⟩ = some (.slice B' ys'.length d') := CY.out.cell 2
    have xCX := CX.out.cell 0
    have yCX := CX.out.frozen 0
    have xCY := CY.out.cell 0
    have yCY := CY.out.frozen 0
    go_upto_region 3 with fail
    clear xCX yCX xCY yCY
    obtain ⟨wn, hwn⟩ : ∃ wn, wn = ((wf.setCell ⟨w.heap.size, 0, none⟩ (.bool false)).setCell ⟨w.heap.size + 1, 0, none⟩ (.bool false)) := ⟨_, rfl⟩
    rw [← hwn]
    replace R1 := Lib.hid (show RdL wn _ _ by rw [hwn]; exact RdL.set1 ((CY.out).far (p := ⟨w.heap.size, 0, none⟩) (by simp) _) (RdL.set1 (CX.out) (R1.out) _) _)
    replace R2 := Lib.hid (show RdL wn _ _ by rw [hwn]; exact RdL.set1 ((CY.out).far (p := ⟨w.heap.size, 0, none⟩) (by simp) _) (RdL.set1 (CX.out) (R2.out) _) _)
    replace R3 := Lib.hid (show RdL wn _ _ by rw [hwn]; exact RdL.set1 ((CY.out).far (p := ⟨w.heap.size, 0, none⟩) (by simp) _) (RdL.set1 (CX.out) (R3.out) _) _)
    replace R4 := Lib.hid (show RdL wn _ _ by rw [hwn]; exact RdL.set1 ((CY.out).far (p := ⟨w.heap.size, 0, none⟩) (by simp) _) (RdL.set1 (CX.out) (R4.out) _) _)
    have CX_ := Lib.hid (show Blk wn (w.heap.size) 25 #[.bool false, .slice A xs.length c, .slice B ys.length d] by rw [hwn]; exact ((CX.out).put 0 (.bool false)).far (p := ⟨w.heap.size + 1, 0, none⟩) (by simp) _)
    have CY_ := Lib.hid (show Blk wn (w.heap.size + 1) 25 #[.bool false, .slice A' xs'.length c', .slice B' ys'.length d'] by rw [hwn]; exact ((CY.out).far (p := ⟨w.heap.size, 0, none⟩) (by simp) _).put 0 (.bool false))
    replace CX := CX_; clear CX_
    replace CY := CY_; clear CY_
    replace HW := Lib.hid (show Below w.heap.size w wn by rw [hwn]; exact bel_set (p := ⟨w.heap.size + 1, 0, none⟩) (bel_set (p := ⟨w.heap.size, 0, none⟩) (HW.out) (by show w.heap.size ≤ w.heap.size; omega) _) (by show w.heap.size ≤ w.heap.size + 1; omega) _)
    clear hwn
    clear CX0 CX1 CX2 CY0 CY1 CY2
    have CX0 : wn.cell? ⟨w.heap.size, 0, none⟩ = some (.bool false) := CX.out.cell 0
    have CX1 : wn.cell? ⟨w.heap.size, 1, none⟩ = some (.slice A xs.length c) := CX.out.cell 1
    have CX2 : wn.cell? ⟨w.heap.size, 2, none⟩ = some (.slice B ys.length d) := CX.out.cell 2
    have CY0 : wn.cell? ⟨w.heap.size + 1, 0, none⟩ = some (.bool false) := CY.out.cell 0
    have CY1 : wn.cell? ⟨w.heap.size + 1, 1, none⟩ = some (.slice A' xs'.length c') := CY.out.cell 1
    have CY2 : wn.cell? ⟨w.heap.size + 1, 2, none⟩ = some (.slice B' ys'.length d') := CY.out.cell 2
    go_wp2_with fail
    refine (HBA.out _ R1.out R2.out).mono ?_
    rintro e w1 ⟨rfl, hbl⟩
    replace R1 := Lib.hid (R1.out.below hbl)
    replace R2 := Lib.hid (R2.out.below hbl)
    replace R3 := Lib.hid (R3.out.below hbl)
    replace R4 := Lib.hid (R4.out.below hbl)
    replace CX := Lib.hid (CX.out.below hbl CX.out.lt)
    replace CY := Lib.hid (CY.out.below hbl CY.out.lt)
    replace HW := Lib.hid (bel_trans HW.out hbl); clear hbl
    clear CX0 CX1 CX2 CY0 CY1 CY2
    have CX0 : w1.cell? ⟨w.heap.size, 0, none⟩ = some (.bool false) := CX.out.cell 0
    have CX1 : w1.cell? ⟨w.heap.size, 1, none⟩ = some (.slice A xs.length c) := CX.out.cell 1
    have CX2 : w1.cell? ⟨w.heap.size, 2, none⟩ = some (.slice B ys.length d) := CX.out.cell 2
    have CY0 : w1.cell? ⟨w.heap.size + 1, 0, none⟩ = some (.bool false) := CY.out.cell 0
    have CY1 : w1.cell? ⟨w.heap.size + 1, 1, none⟩ = some (.slice A' xs'.length c') := CY.out.cell 1
    have CY2 : w1.cell? ⟨w.heap.size + 1, 2, none⟩ = some (.slice B' ys'.length d') := CY.out.cell 2
    go_wp2_with fail
    refine (HBB.out _ R3.out R4.out).mono ?_
    rintro e w2 ⟨rfl, hbl⟩
    replace R1 := Lib.hid (R1.out.below hbl)
    replace R2 := Lib.hid (R2.out.below hbl)
    replace R3 := Lib.hid (R3.out.below hbl)
    replace R4 := Lib.hid (R4.out.below hbl)
    replace CX := Lib.hid (CX.out.below hbl CX.out.lt)
    replace CY := Lib.hid (CY.out.below hbl CY.out.lt)
    replace HW := Lib.hid (bel_trans HW.out hbl); clear hbl
    clear CX0 CX1 CX2 CY0 CY1 CY2
    have CX0 : w2.cell? ⟨w.heap.size, 0, none⟩ = some (.bool false) := CX.out.cell 0
    have CX1 : w2.cell? ⟨w.heap.size, 1, none⟩ = some (.slice A xs.length c) := CX.out.cell 1
    have CX2 : w2.cell? ⟨w.heap.size, 2, none⟩ = some (.slice B ys.length d) := CX.out.cell 2
    have CY0 : w2.cell? ⟨w.heap.size + 1, 0, none⟩ = some (.bool false) := CY.out.cell 0
    have CY1 : w2.cell? ⟨w.heap.size + 1, 1, none⟩ = some (.slice A' xs'.length c') := CY.out.cell 1
    have CY2 : w2.cell? ⟨w.heap.size + 1, 2, none⟩ = some (.slice B' ys'.length d') := CY.out.cell 2
    go_wp2_with fail
    refine (HCM.out _ R1.out R2.out R3.out R4.out).mono ?_
    rintro e w3 ⟨rfl, hbl⟩
    replace R1 := Lib.hid (R1.out.below hbl)
    replace R2 := Lib.hid (R2.out.below hbl)
    replace R3 := Lib.hid (R3.out.below hbl)
    replace R4 := Lib.hid (R4.out.below hbl)
    replace CX := Lib.hid (CX.out.below hbl CX.out.lt)
    replace CY := Lib.hid (CY.out.below hbl CY.out.lt)
    replace HW := Lib.hid (bel_trans HW.out hbl); clear hbl
    clear CX0 CX1 CX2 CY0 CY1 CY2
    have CX0 : w3.cell? ⟨w.heap.size, 0, none⟩ = some (.bool false) := CX.out.cell 0
    have CX1 : w3.cell? ⟨w.heap.size, 1, none⟩ = some (.slice A xs.length c) := CX.out.cell 1
    have CX2 : w3.cell? ⟨w.heap.size, 2, none⟩ = some (.slice B ys.length d) := CX.out.cell 2
    have CY0 : w3.cell? ⟨w.heap.size + 1, 0, none⟩ = some (.bool false) := CY.out.cell 0
    have CY1 : w3.cell? ⟨w.heap.size + 1, 1, none⟩ = some (.slice A' xs'.length c') := CY.out.cell 1
    have CY2 : w3.cell? ⟨w.heap.size + 1, 2, none⟩ = some (.slice B' ys'.length d') := CY.out.cell 2
    go_wp2_with fail
    refine (alive3 _).mono ?_
    rintro e w4 ⟨rfl, hbl⟩
    replace R1 := Lib.hid (R1.out.below hbl)
    replace R2 := Lib.hid (R2.out.below hbl)
    replace R3 := Lib.hid (R3.out.below hbl)
    replace R4 := Lib.hid (R4.out.below hbl)
    replace CX := Lib.hid (CX.out.below hbl CX.out.lt)
    replace CY := Lib.hid (CY.out.below hbl CY.out.lt)
    replace HW := Lib.hid (bel_trans HW.out hbl); clear hbl
    clear CX0 CX1 CX2 CY0 CY1 CY2
    have CX0 : w4.cell? ⟨w.heap.size, 0, none⟩ = some (.bool false) := CX.out.cell 0
    have CX1 : w4.cell? ⟨w.heap.size, 1, none⟩ = some (.slice A xs.length c) := CX.out.cell 1
    have CX2 : w4.cell? ⟨w.heap.size, 2, none⟩ = some (.slice B ys.length d) := CX.out.cell 2
    have CY0 : w4.cell? ⟨w.heap.size + 1, 0, none⟩ = some (.bool false) := CY.out.cell 0
    have CY1 : w4.cell? ⟨w.heap.size + 1, 1, none⟩ = some (.slice A' xs'.length c') := CY.out.cell 1
    have CY2 : w4.cell? ⟨w.heap.size + 1, 2, none⟩ = some (.slice B' ys'.length d') := CY.out.cell 2
    go_wp2
    go_ret
    exact ⟨rfl, HW.out⟩

set_option maxRecDepth 100000 in
set_option maxHeartbeats 1000000 in
theorem orders3_c {ua ub : Nat} {xa xb : Bool} {v : Int} {g : Int} (s s' : Bool) (A B A' B' : Option Addr) (c d c' d' : Nat) (x0 y0 x0' y0' xs ys xs' ys' : List Nat) (sz : Int) (w : World) (h1 : RdL w A x0) (h2 : RdL w B y0) (h3 : RdL w A' x0') (h4 : RdL w B' y0') (k1 : x0.length ≤ c) (k2 : y0.length ≤ d) (k3 : x0'.length ≤ c') (k4 : y0'.length ≤ d') (e1 : few x0 = xs) (e2 : few y0 = ys) (e3 : few x0' = xs') (e4 : few y0' = ys') (hba : ∀ w1, RdL w1 A xs → RdL w1 B ys → Calls Try.prog 12 #[.agg #[.bool false, .slice A xs.length c, .slice B ys.length d], .int .i64 sz] w1 (RetBits ua xa 0 w1)) (hbb : ∀ w1, RdL w1 A' xs' → RdL w1 B' ys' → Calls Try.prog 12 #[.agg #[.bool false, .slice A' xs'.length c', .slice B' ys'.length d'], .int .i64 sz] w1 (RetBits ub xb 0 w1)) (hcm : ∀ w1, RdL w1 A xs → RdL w1 B ys → RdL w1 A' xs' → RdL w1 B' ys' → Calls Try.prog 40 #[.agg #[.bool false, .slice A xs.length c, .slice B ys.length d], .agg #[.bool false, .slice A' xs'.length c', .slice B' ys'.length d']] w1 (RetIEB v g w1)) (hne : g ≠ 0) :
    Calls Try.prog 7 #[.agg #[.bool s, .slice A x0.length c, .slice B y0.length d], .agg #[.bool s', .slice A' x0'.length c', .slice B' y0'.length d'], .int .i64 sz] w (RetT w) := by
  have z1 : (g != 0) = true := by simp [hne]
  have HBA := Lib.hid hba; clear hba
  have HBB := Lib.hid hbb; clear hbb
  have HCM := Lib.hid hcm; clear hcm
  have R1 := Lib.hid (show RdL w A xs by rw [← e1]; exact h1.take 18); clear h1
  have R2 := Lib.hid (show RdL w B ys by rw [← e2]; exact h2.take 18); clear h2
  have R3 := Lib.hid (show RdL w A' xs' by rw [← e3]; exact h3.take 18); clear h3
  have R4 := Lib.hid (show RdL w B' ys' by rw [← e4]; exact h4.take 18); clear h4
  have F := Lib.hid (And.intro (And.intro k1 (And.intro k2 (And.intro e1 e2))) (And.intro k3 (And.intro k4 (And.intro e3 e4)))); clear k1 k2 k3 k4 e1 e2 e3 e4
  obtain ⟨wa, hwa⟩ : ∃ wa, wa = (w.alloc (.cells #[.bool s, .slice A x0.length c, .slice B y0.length d] 25)).alloc (.cells #[.bool s', .slice A' x0'.length c', .slice B' y0'.length d'] 25) := ⟨_, rfl⟩
  have hbl : Below w.heap.size w wa := by rw [hwa]; exact bel_alloc (bel_alloc (bel_refl _) _) _
  have CX : Blk wa (w.heap.size) 25 #[.bool s, .slice A x0.length c, .slice B y0.length d] := by
    have hz := Blk.new (w) 25 #[.bool s, .slice A x0.length c, .slice B y0.length d]
    rw [hwa]
    exact (hz.alloc _)
  have CY : Blk wa (w.heap.size + 1) 25 #[.bool s', .slice A' x0'.length c', .slice B' y0'.length d'] := by
    have hz := Blk.new (w.alloc (.cells #[.bool s, .slice A x0.length c, .slice B y0.length d] 25)) 25 #[.bool s', .slice A' x0'.length c', .slice B' y0'.length d']
    rw [World.size_alloc] at hz
    rw [hwa]
    exact hz
  replace R1 := Lib.hid (R1.out.below hbl)
  replace R2 := Lib.hid (R2.out.below hbl)
  replace R3 := Lib.hid (R3.out.below hbl)
  replace R4 := Lib.hid (R4.out.below hbl)
  have HW := Lib.hid hbl; clear hbl
  replace CX := Lib.hid CX
  replace CY := Lib.hid CY
  go_enter Try.func7, Try.ntmps7
  go_wp2_with fail
  rw [← hwa]
  clear hwa
  refine wp_region_typed 4 (TOf [VIs (.agg #[.bool s, .slice A x0.length c, .slice B y0.length d]),
      VIs (.agg #[.bool s, .slice A xs.length c, .slice B ys.length d]),
      VIs (.agg #[.bool s', .slice A' x0'.length c', .slice B' y0'.length d']),
      VIs (.agg #[.bool s', .slice A' xs'.length c', .slice B' ys'.length d'])]) (by kernel_rfl) (by kernel_rfl) (by kernel_rfl) (LiftAll.at_ (.cons (VIs.lift _) (.cons (VIs.lift _) (.cons (VIs.lift _) (.cons (VIs.lift _) .nil))))) (steps_all (steps_cons ?_ (steps_cons ?_ (steps_cons ?_ (steps_cons ?_ steps_zero))))) ?fin
  · intro a0 w9 K9 hF hB hK hC
    have b3 := hF.base (k := 3) (v := .pointer (some ⟨w.heap.size, 0, none⟩)) (by kernel_rfl) rfl
    have x90 : w9.cell? ⟨w.heap.size, 0, none⟩ = some (.bool s) := (CX.out.below hB CX.out.lt).cell 0
    have x91 : w9.cell? ⟨w.heap.size, 1, none⟩ = some (.slice A x0.length c) := (CX.out.below hB CX.out.lt).cell 1
    have x92 : w9.cell? ⟨w.heap.size, 2, none⟩ = some (.slice B y0.length d) := (CX.out.below hB CX.out.lt).cell 2
    clear hF hB hK
    go_simp
    exact hC _ _ (bel_refl _) fun _ _ => rfl
  · intro a0 w9 K9 hF hB hK hC
    obtain ⟨v18, e18, z18⟩ := dep hK 0 (g := .data) (j := 0) (k := 18) rfl rfl rfl
    have z18 : v18 = .agg #[.bool s, .slice A x0.length c, .slice B y0.length d] := z18
    subst z18
    have HB9 := Lib.hid hB
    clear hF hB hK
    go_simp
    refine (few3_is s A B c d x0 y0 xs ys _ F.out.1.1 F.out.1.2.1 F.out.1.2.2.1 F.out.1.2.2.2).mono ?_
    rintro e w7 ⟨rfl, hbl⟩
    exact hC _ _ hbl fun _ _ => rfl
  · intro a0 w9 K9 hF hB hK hC
    have b4 := hF.base (k := 4) (v := .pointer (some ⟨w.heap.size + 1, 0, none⟩)) (by kernel_rfl) rfl
    have x90 : w9.cell? ⟨w.heap.size + 1, 0, none⟩ = some (.bool s') := (CY.out.below hB CY.out.lt).cell 0
    have x91 : w9.cell? ⟨w.heap.size + 1, 1, none⟩ = some (.slice A' x0'.length c') := (CY.out.below hB CY.out.lt).cell 1
    have x92 : w9.cell? ⟨w.heap.size + 1, 2, none⟩ = some (.slice B' y0'.length d') := (CY.out.below hB CY.out.lt).cell 2
    clear hF hB hK
    go_simp
    exact hC _ _ (bel_refl _) fun _ _ => rfl
  · intro a0 w9 K9 hF hB hK hC
    obtain ⟨v20, e20, z20⟩ := dep hK 0 (g := .data) (j := 2) (k := 20) rfl rfl rfl
    have z20 : v20 = .agg #[.bool s', .slice A' x0'.length c', .slice B' y0'.length d'] := z20
    subst z20
    have HB9 := Lib.hid hB
    clear hF hB hK
    go_simp
    refine (few3_is s' A' B' c' d' x0' y0' xs' ys' _ F.out.2.1 F.out.2.2.1 F.out.2.2.2.1 F.out.2.2.2.2).mono ?_
    rintro e w7 ⟨rfl, hbl⟩
    exact hC _ _ hbl fun _ _ => rfl
  case fin =>
    intro a0 w9 hF hB hK
    have b2 := hF.base (k := 2) (v := .int .i64 sz) (by kernel_rfl) rfl
    have b3 := hF.base (k := 3) (v := .pointer (some ⟨w.heap.size, 0, none⟩)) (by kernel_rfl) rfl
    have b4 := hF.base (k := 4) (v := .pointer (some ⟨w.heap.size + 1, 0, none⟩)) (by kernel_rfl) rfl
    have hsz := hF.size
    have hdf := hF.defers
    clear hF
    obtain ⟨v19, e19, z19⟩ := known hK 1 (k := 19) (by decide) rfl
    have z19 : v19 = .agg #[.bool s, .slice A xs.length c, .slice B ys.length d] := z19
    subst z19
    obtain ⟨v21, e21, z21⟩ := known hK 3 (k := 21) (by decide) rfl
    have z21 : v21 = .agg #[.bool s', .slice A' xs'.length c', .slice B' ys'.length d'] := z21
    subst z21
    clear hK
    obtain ⟨⟨l0⟩, df⟩ := a0
    have hs0 : l0.length = 114 := hsz
    clear hsz
    replace hdf : df = _ := hdf
    subst hdf
    obtain ⟨u, rfl⟩ := lits_114 hs0
    clear hs0
    generalize hAr : (Array.mk [u 0, u 1, u 2, u 3, u 4, u 5, u 6, u 7, u 8, u 9, u 10, u 11, u 12, u 13, u 14, u 15, u 16, u 17, u 18, u 19, u 20, u 21, u 22, u 23, u 24, u 25, u 26, u 27, u 28, u 29, u 30, u 31, u 32, u 33, u 34, u 35, u 36, u 37, u 38, u 39, u 40, u 41, u 42, u 43, u 44, u 45, u 46, u 47, u 48, u 49, u 50, u 51, u 52, u 53, u 54, u 55, u 56, u 57, u 58, u 59, u 60, u 61, u 62, u 63, u 64, u 65, u 66, u 67, u 68, u 69, u 70, u 71, u 72, u 73, u 74, u 75, u 76, u 77, u 78, u 79, u 80, u 81, u 82, u 83, u 84, u 85, u 86, u 87, u 88, u 89, u 90, u 91, u 92, u 93, u 94, u 95, u 96, u 97, u 98, u 99, u 100, u 101, u 102, u 103, u 104, u 105, u 106, u 107, u 108, u 109, u 110, u 111, u 112, u 113] : Array Value) = ar
    obtain rfl : ar = #[u 0, u 1, u 2, u 3, u 4, u 5, u 6, u 7, u 8, u 9, u 10, u 11, u 12, u 13, u 14, u 15, u 16, u 17, u 18, u 19, u 20, u 21, u 22, u 23, u 24, u 25, u 26, u 27, u 28, u 29, u 30, u 31, u 32, u 33, u 34, u 35, u 36, u 37, u 38, u 39, u 40, u 41, u 42, u 43, u 44, u 45, u 46, u 47, u 48, u 49, u 50, u 51, u 52, u 53, u 54, u 55, u 56, u 57, u 58, u 59, u 60, u 61, u 62, u 63, u 64, u 65, u 66, u 67, u 68, u 69, u 70, u 71, u 72, u 73, u 74, u 75, u 76, u 77, u 78, u 79, u 80, u 81, u 82, u 83, u 84, u 85, u 86, u 87, u 88, u 89, u 90, u 91, u 92, u 93, u 94, u 95, u 96, u 97, u 98, u 99, u 100, u 101, u 102, u 103, u 104, u 105, u 106, u 107, u 108, u 109, u 110, u 111, u 112, u 113] := hAr.symm
    have q2 : u 2 = _ := Option.some.inj b2
    clear b2
    have q3 : u 3 = _ := Option.some.inj b3
    clear b3
    have q4 : u 4 = _ := Option.some.inj b4
    clear b4
    have q19 : u 19 = _ := Option.some.inj e19
    clear e19
    have q21 : u 21 = _ := Option.some.inj e21
    clear e21
    rw [q2, q3, q4, q19, q21]
    clear q2 q3 q4 q19 q21
    have hbl := hB; clear hB
    replace R1 := Lib.hid (R1.out.below hbl)
    replace R2 := Lib.hid (R2.out.below hbl)
    replace R3 := Lib.hid (R3.out.below hbl)
    replace R4 := Lib.hid (R4.out.below hbl)
    replace CX := Lib.hid (CX.out.below hbl CX.out.lt)
    replace CY := Lib.hid (CY.out.below hbl CY.out.lt)
    replace HW := Lib.hid (bel_trans HW.out hbl); clear hbl
    simp only [List.drop_succ_cons, List.drop_zero]
    have pd0 := CX.out.cell 0
    have pf0 := CX.out.frozen 0
    have pd1 := CX.out.cell 1
    have pf1 := CX.out.frozen 1
    have pd2 := CX.out.cell 2
    have pf2 := CX.out.frozen 2
    have qd0 := CY.out.cell 0
    have qf0 := CY.out.frozen 0
    have qd1 := CY.out.cell 1
    have qf1 := CY.out.frozen 1
    have qd2 := CY.out.cell 2
    have qf2 := CY.out.frozen 2
    go_upto_region 2 with fail
    clear pd0 pf0 pd1 pf1 pd2 pf2 qd0 qf0 qd1 qf1 qd2 qf2
    obtain ⟨wf, hwf⟩ : ∃ wf, wf = ((((((w9.setCell ⟨w.heap.size, 0, none⟩ (.bool s)).setCell ⟨w.heap.size, 1, none⟩ (.slice A xs.length c)).setCell ⟨w.heap.size, 2, none⟩ (.slice B ys.length d)).setCell ⟨w.heap.size + 1, 0, none⟩ (.bool s')).setCell ⟨w.heap.size + 1, 1, none⟩ (.slice A' xs'.length c')).setCell ⟨w.heap.size + 1, 2, none⟩ (.slice B' ys'.length d')) := ⟨_, rfl⟩
    rw [← hwf]
    replace R1 := Lib.hid (show RdL wf _ _ by rw [hwf]; exact RdL.set3 ((((CY.out).far (p := ⟨w.heap.size, 0, none⟩) (by simp) _).far (p := ⟨w.heap.size, 1, none⟩) (by simp) _).far (p := ⟨w.heap.size, 2, none⟩) (by simp) _) (RdL.set3 (CX.out) (R1.out) _ _ _) _ _ _)
    replace R2 := Lib.hid (show RdL wf _ _ by rw [hwf]; exact RdL.set3 ((((CY.out).far (p := ⟨w.heap.size, 0, none⟩) (by simp) _).far (p := ⟨w.heap.size, 1, none⟩) (by simp) _).far (p := ⟨w.heap.size, 2, none⟩) (by simp) _) (RdL.set3 (CX.out) (R2.out) _ _ _) _ _ _)
    replace R3 := Lib.hid (show RdL wf _ _ by rw [hwf]; exact RdL.set3 ((((CY.out).far (p := ⟨w.heap.size, 0, none⟩) (by simp) _).far (p := ⟨w.heap.size, 1, none⟩) (by simp) _).far (p := ⟨w.heap.size, 2, none⟩) (by simp) _) (RdL.set3 (CX.out) (R3.out) _ _ _) _ _ _)
    replace R4 := Lib.hid (show RdL wf _ _ by rw [hwf]; exact RdL.set3 ((((CY.out).far (p := ⟨w.heap.size, 0, none⟩) (by simp) _).far (p := ⟨w.heap.size, 1, none⟩) (by simp) _).far (p := ⟨w.heap.size, 2, none⟩) (by simp) _) (RdL.set3 (CX.out) (R4.out) _ _ _) _ _ _)
    have CX_ := Lib.hid (show Blk wf (w.heap.size) 25 #[.bool s, .slice A xs.length c, .slice B ys.length d] by rw [hwf]; exact ((((((CX.out).put 0 (.bool s)).put 1 (.slice A xs.length c)).put 2 (.slice B ys.length d)).far (p := ⟨w.heap.size + 1, 0, none⟩) (by simp) _).far (p := ⟨w.heap.size + 1, 1, none⟩) (by simp) _).far (p := ⟨w.heap.size + 1, 2, none⟩) (by simp) _)
    have CY_ := Lib.hid (show Blk wf (w.heap.size + 1) 25 #[.bool s', .slice A' xs'.length c', .slice B' ys'.length d'] by rw [hwf]; exact ((((((CY.out).far (p := ⟨w.heap.size, 0, none⟩) (by simp) _).far (p := ⟨w.heap.size, 1, none⟩) (by simp) _).far (p := ⟨w.heap.size, 2, none⟩) (by simp) _).put 0 (.bool s')).put 1 (.slice A' xs'.length c')).put 2 (.slice B' ys'.length d'))
    replace CX := CX_; clear CX_
    replace CY := CY_; clear CY_
    replace HW := Lib.hid (show Below w.heap.size w wf by rw [hwf]; exact bel_set (p := ⟨w.heap.size + 1, 2, none⟩) (bel_set (p := ⟨w.heap.size + 1, 1, none⟩) (bel_set (p := ⟨w.heap.size + 1, 0, none⟩) (bel_set (p := ⟨w.heap.size, 2, none⟩) (bel_set (p := ⟨w.heap.size, 1, none⟩) (bel_set (p := ⟨w.heap.size, 0, none⟩) (HW.out) (by show w.heap.size ≤ w.heap.size; omega) _) (by show w.heap.size ≤ w.heap.size; omega) _) (by show w.heap.size ≤ w.heap.size; omega) _) (by show w.heap.size ≤ w.heap.size + 1; omega) _) (by show w.heap.size ≤ w.heap.size + 1; omega) _) (by show w.heap.size ≤ w.heap.size + 1; omega) _)
    clear hwf
    have CX0 : wf.cell? ⟨w.heap.size, 0, none⟩ = some (.bool s) := CX.out.cell 0
    have CX1 : wf.cell? ⟨w.heap.size, 1, none⟩ = some (.slice A xs.length c) := CX.out.cell 1
    have CX2 : wf.cell? ⟨w.heap.size, 2, none⟩ = some (.slice B ys.length d) := CX.out.cell 2
    have CY0 : wf.cell? ⟨w.heap.size + 1, 0, none⟩ = some (.bool s') := CY.out.cell 0
    have CY1 : wf.cell? ⟨w.heap.size + 1, 1, none⟩ = some (.slice A' xs'.length c') := CY.out.cell 1
    have CY2 : wf.cell? ⟨w.heap.size + 1, 2, none⟩ = some (.slice B' ys'.length d') := CY.out.cell 2
    have xCX := CX.out.cell 0
    have yCX := CX.out.frozen 0
    have xCY := CY.out.cell 0
    have yCY := CY.out.frozen 0
    go_upto_region 3 with fail
    clear xCX yCX xCY yCY
    obtain ⟨wn, hwn⟩ : ∃ wn, wn = ((wf.setCell ⟨w.heap.size, 0, none⟩ (.bool false)).setCell ⟨w.heap.size + 1, 0, none⟩ (.bool false)) := ⟨_, rfl⟩
    rw [← hwn]
    replace R1 := Lib.hid (show RdL wn _ _ by rw [hwn]; exact RdL.set1 ((CY.out).far (p := ⟨w.heap.size, 0, none⟩) (by simp) _) (RdL.set1 (CX.out) (R1.out) _) _)
    replace R2 := Lib.hid (show RdL wn _ _ by rw [hwn]; exact RdL.set1 ((CY.out).far (p := ⟨w.heap.size, 0, none⟩) (by simp) _) (RdL.set1 (CX.out) (R2.out) _) _)
    replace R3 := Lib.hid (show RdL wn _ _ by rw [hwn]; exact RdL.set1 ((CY.out).far (p := ⟨w.heap.size, 0, none⟩) (by simp) _) (RdL.set1 (CX.out) (R3.out) _) _)
    replace R4 := Lib.hid (show RdL wn _ _ by rw [hwn]; exact RdL.set1 ((CY.out).far (p := ⟨w.heap.size, 0, none⟩) (by simp) _) (RdL.set1 (CX.out) (R4.out) _) _)
    have CX_ := Lib.hid (show Blk wn (w.heap.size) 25 #[.bool false, .slice A xs.length c, .slice B ys.length d] by rw [hwn]; exact ((CX.out).put 0 (.bool false)).far (p := ⟨w.heap.size + 1, 0, none⟩) (by simp) _)
    have CY_ := Lib.hid (show Blk wn (w.heap.size + 1) 25 #[.bool false, .slice A' xs'.length c', .slice B' ys'.length d'] by rw [hwn]; exact ((CY.out).far (p := ⟨w.heap.size, 0, none⟩) (by simp) _).put 0 (.bool false))
    replace CX := CX_; clear CX_
    replace CY := CY_; clear CY_
    replace HW := Lib.hid (show Below w.heap.size w wn by rw [hwn]; exact bel_set (p := ⟨w.heap.size + 1, 0, none⟩) (bel_set (p := ⟨w.heap.size, 0, none⟩) (HW.out) (by show w.heap.size ≤ w.heap.size; omega) _) (by show w.heap.size ≤ w.heap.size + 1; omega) _)
    clear hwn
    clear CX0 CX1 CX2 CY0 CY1 CY2
    have CX0 : wn.cell? ⟨w.heap.size, 0, none⟩ = some (.bool false) := CX.out.cell 0
    have CX1 : wn.cell? ⟨w.heap.size, 1, none⟩ = some (.slice A xs.length c) := CX.out.cell 1
    have CX2 : wn.cell? ⟨w.heap.size, 2, none⟩ = some (.slice B ys.length d) := CX.out.cell 2
    have CY0 : wn.cell? ⟨w.heap.size + 1, 0, none⟩ = some (.bool false) := CY.out.cell 0
    have CY1 : wn.cell? ⟨w.heap.size + 1, 1, none⟩ = some (.slice A' xs'.length c') := CY.out.cell 1
    have CY2 : wn.cell? ⟨w.heap.size + 1, 2, none⟩ = some (.slice B' ys'.length d') := CY.out.cell 2
    go_wp2_with fail
    refine (HBA.out _ R1.out R2.out).mono ?_
    rintro e w1 ⟨rfl, hbl⟩
    replace R1 := Lib.hid (R1.out.below hbl)
    replace R2 := Lib.hid (R2.out.below hbl)
    replace R3 := Lib.hid (R3.out.below hbl)
    replace R4 := Lib.hid (R4.out.below hbl)
    replace CX := Lib.hid (CX.out.below hbl CX.out.lt)
    replace CY := Lib.hid (CY.out.below hbl CY.out.lt)
    replace HW := Lib.hid (bel_trans HW.out hbl); clear hbl
    clear CX0 CX1 CX2 CY0 CY1 CY2
    have CX0 : w1.cell? ⟨w.heap.size, 0, none⟩ = some (.bool false) := CX.out.cell 0
    have CX1 : w1.cell? ⟨w.heap.size, 1, none⟩ = some (.slice A xs.length c) := CX.out.cell 1
    have CX2 : w1.cell? ⟨w.heap.size, 2, none⟩ = some (.slice B ys.length d) := CX.out.cell 2
    have CY0 : w1.cell? ⟨w.heap.size + 1, 0, none⟩ = some (.bool false) := CY.out.cell 0
    have CY1 : w1.cell? ⟨w.heap.size + 1, 1, none⟩ = some (.slice A' xs'.length c') := CY.out.cell 1
    have CY2 : w1.cell? ⟨w.heap.size + 1, 2, none⟩ = some (.slice B' ys'.length d') := CY.out.cell 2
    go_wp2_with fail
    refine (HBB.out _ R3.out R4.out).mono ?_
    rintro e w2 ⟨rfl, hbl⟩
    replace R1 := Lib.hid (R1.out.below hbl)
    replace R2 := Lib.hid (R2.out.below hbl)
    replace R3 := Lib.hid (R3.out.below hbl)
    replace R4 := Lib.hid (R4.out.below hbl)
    replace CX := Lib.hid (CX.out.below hbl CX.out.lt)
    replace CY := Lib.hid (CY.out.below hbl CY.out.lt)
    replace HW := Lib.hid (bel_trans HW.out hbl); clear hbl
    clear CX0 CX1 CX2 CY0 CY1 CY2
    have CX0 : w2.cell? ⟨w.heap.size, 0, none⟩ = some (.bool false) := CX.out.cell 0
    have CX1 : w2.cell? ⟨w.heap.size, 1, none⟩ = some (.slice A xs.length c) := CX.out.cell 1
    have CX2 : w2.cell? ⟨w.heap.size, 2, none⟩ = some (.slice B ys.length d) := CX.out.cell 2
    have CY0 : w2.cell? ⟨w.heap.size + 1, 0, none⟩ = some (.bool false) := CY.out.cell 0
    have CY1 : w2.cell? ⟨w.heap.size + 1, 1, none⟩ = some (.slice A' xs'.length c') := CY.out.cell 1
    have CY2 : w2.cell? ⟨w.heap.size + 1, 2, none⟩ = some (.slice B' ys'.length d') := CY.out.cell 2
    go_wp2_with fail
    refine (HCM.out _ R1.out R2.out R3.out R4.out).mono ?_
    rintro e w3 ⟨rfl, hbl⟩
    replace R1 := Lib.hid (R1.out.below hbl)
    replace R2 := Lib.hid (R2.out.below hbl)
    replace R3 := Lib.hid (R3.out.below hbl)
    replace R4 := Lib.hid (R4.out.below hbl)
    replace CX := Lib.hid (CX.out.below hbl CX.out.lt)
    replace CY := Lib.hid (CY.out.below hbl CY.out.lt)
    replace HW := Lib.hid (bel_trans HW.out hbl); clear hbl
    clear CX0 CX1 CX2 CY0 CY1 CY2
    have CX0 : w3.cell? ⟨w.heap.size, 0, none⟩ = some (.bool false) := CX.out.cell 0
    have CX1 : w3.cell? ⟨w.heap.size, 1, none⟩ = some (.slice A xs.length c) := CX.out.cell 1
    have CX2 : w3.cell? ⟨w.heap.size, 2, none⟩ = some (.slice B ys.length d) := CX.out.cell 2
    have CY0 : w3.cell? ⟨w.heap.size + 1, 0, none⟩ = some (.bool false) := CY.out.cell 0
    have CY1 : w3.cell? ⟨w.heap.size + 1, 1, none⟩ = some (.slice A' xs'.length c') := CY.out.cell 1
    have CY2 : w3.cell? ⟨w.heap.size + 1, 2, none⟩ = some (.slice B' ys'.length d') := CY.out.cell 2
    go_wp2_with fail
    refine (alive3 _).mono ?_
    rintro e w4 ⟨rfl, hbl⟩
    replace R1 := Lib.hid (R1.out.below hbl)
    replace R2 := Lib.hid (R2.out.below hbl)
    replace R3 := Lib.hid (R3.out.below hbl)
    replace R4 := Lib.hid (R4.out.below hbl)
    replace CX := Lib.hid (CX.out.below hbl CX.out.lt)
    replace CY := Lib.hid (CY.out.below hbl CY.out.lt)
    replace HW := Lib.hid (bel_trans HW.out hbl); clear hbl
    clear CX0 CX1 CX2 CY0 CY1 CY2
    have CX0 : w4.cell? ⟨w.heap.size, 0, none⟩ = some (.bool false) := CX.out.cell 0
    have CX1 : w4.cell? ⟨w.heap.size, 1, none⟩ = some (.slice A xs.length c) := CX.out.cell 1
    have CX2 : w4.cell? ⟨w.heap.size, 2, none⟩ = some (.slice B ys.length d) := CX.out.cell 2
    have CY0 : w4.cell? ⟨w.heap.size + 1, 0, none⟩ = some (.bool false) := CY.out.cell 0
    have CY1 : w4.cell? ⟨w.heap.size + 1, 1, none⟩ = some (.slice A' xs'.length c') := CY.out.cell 1
    have CY2 : w4.cell? ⟨w.heap.size + 1, 2, none⟩ = some (.slice B' ys'.length d') := CY.out.cell 2
    go_wp2
    go_ret
    exact ⟨rfl, HW.out⟩

set_option maxRecDepth 100000 in
set_option maxHeartbeats 1000000 in
theorem orders3_e {ua ub : Nat} {xa xb : Bool} {v : Int} {uz : Nat} {xz : Bool} {ez : Int} (s s' : Bool) (A B A' B' : Option Addr) (c d c' d' : Nat) (x0 y0 x0' y0' xs ys xs' ys' : List Nat) (sz : Int) (w : World) (h1 : RdL w A x0) (h2 : RdL w B y0) (h3 : RdL w A' x0') (h4 : RdL w B' y0') (k1 : x0.length ≤ c) (k2 : y0.length ≤ d) (k3 : x0'.length ≤ c') (k4 : y0'.length ≤ d') (e1 : few x0 = xs) (e2 : few y0 = ys) (e3 : few x0' = xs') (e4 : few y0' = ys') (hba : ∀ w1, RdL w1 A xs → RdL w1 B ys → Calls Try.prog 12 #[.agg #[.bool false, .slice A xs.length c, .slice B ys.length d], .int .i64 sz] w1 (RetBits ua xa 0 w1)) (hbb : ∀ w1, RdL w1 A' xs' → RdL w1 B' ys' → Calls Try.prog 12 #[.agg #[.bool false, .slice A' xs'.length c', .slice B' ys'.length d'], .int .i64 sz] w1 (RetBits ub xb 0 w1)) (hcm : ∀ w1, RdL w1 A xs → RdL w1 B ys → RdL w1 A' xs' → RdL w1 B' ys' → Calls Try.prog 40 #[.agg #[.bool false, .slice A xs.length c, .slice B ys.length d], .agg #[.bool false, .slice A' xs'.length c', .slice B' ys'.length d']] w1 (RetIEB v 0 w1)) (hle : v ≤ 0 → ua ≤ ub) (hge : 0 ≤ v → ub ≤ ua) (hbz : ∀ w1, RdL w1 A xs → RdL w1 B ys → Calls Try.prog 12 #[.agg #[.bool true, .slice A xs.length c, .slice B ys.length d], .int .i64 sz] w1 (RetBits uz xz ez w1)) (hne : ez ≠ 0) (hl0 : xs.length = 0) :
    Calls Try.prog 7 #[.agg #[.bool s, .slice A x0.length c, .slice B y0.length d], .agg #[.bool s', .slice A' x0'.length c', .slice B' y0'.length d'], .int .i64 sz] w (RetT w) := by
  have HBA := Lib.hid hba; clear hba
  have HBB := Lib.hid hbb; clear hbb
  have HCM := Lib.hid hcm; clear hcm
  have HV := Lib.hid (And.intro hle hge); clear hle hge
  have HBZ := Lib.hid hbz; clear hbz
  have z1 : (ez != 0) = true := by simp [hne]
  have z2 : (xs.length : Int) = 0 := by omega
  have z3 : ((xs.length : Int) == 0) = true := by simp [hl0]
  have HL := Lib.hid hl0; clear hl0
  have R1 := Lib.hid (show RdL w A xs by rw [← e1]; exact h1.take 18); clear h1
  have R2 := Lib.hid (show RdL w B ys by rw [← e2]; exact h2.take 18); clear h2
  have R3 := Lib.hid (show RdL w A' xs' by rw [← e3]; exact h3.take 18); clear h3
  have R4 := Lib.hid (show RdL w B' ys' by rw [← e4]; exact h4.take 18); clear h4
  have F := Lib.hid (And.intro (And.intro k1 (And.intro k2 (And.intro e1 e2))) (And.intro k3 (And.intro k4 (And.intro e3 e4)))); clear k1 k2 k3 k4 e1 e2 e3 e4
  obtain ⟨wa, hwa⟩ : ∃ wa, wa = (w.alloc (.cells #[.bool s, .slice A x0.length c, .slice B y0.length d] 25)).alloc (.cells #[.bool s', .slice A' x0'.length c', .slice B' y0'.length d'] 25) := ⟨_, rfl⟩
  have hbl : Below w.heap.size w wa := by rw [hwa]; exact bel_alloc (bel_alloc (bel_refl _) _) _
  have CX : Blk wa (w.heap.size) 25 #[.bool s, .slice A x0.length c, .slice B y0.length d] := by
    have hz := Blk.new (w) 25 #[.bool s, .slice A x0.length c, .slice B y0.length d]
    rw [hwa]
    exact (hz.alloc _)
  have CY : Blk wa (w.heap.size + 1) 25 #[.bool s', .slice A' x0'.length c', .slice B' y0'.length d'] := by
    have hz := Blk.new (w.alloc (.cells #[.bool s, .slice A x0.length c, .slice B y0.length d] 25)) 25 #[.bool s', .slice A' x0'.length c', .slice B' y0'.length d']
    rw [World.size_alloc] at hz
    rw [hwa]
    exact hz
  replace R1 := Lib.hid (R1.out.below hbl)
  replace R2 := Lib.hid (R2.out.below hbl)
  replace R3 := Lib.hid (R3.out.below hbl)
  replace R4 := Lib.hid (R4.out.below hbl)
  have HW := Lib.hid hbl; clear hbl
  replace CX := Lib.hid CX
  replace CY := Lib.hid CY
  go_enter Try.func7, Try.ntmps7
  go_wp2_with fail
  rw [← hwa]
  clear hwa
  refine wp_region_typed 4 (TOf [VIs (.agg #[.bool s, .slice A x0.length c, .slice B y0.length d]),
      VIs (.agg #[.bool s, .slice A xs.length c, .slice B ys.length d]),
      VIs (.agg #[.bool s', .slice A' x0'.length c', .slice B' y0'.length d']),
      VIs (.agg #[.bool s', .slice A' xs'.length c', .slice B' ys'.length d'])]) (by kernel_rfl) (by kernel_rfl) (by kernel_rfl) (LiftAll.at_ (.cons (VIs.lift _) (.cons (VIs.lift _) (.cons (VIs.lift _) (.cons (VIs.lift _) .nil))))) (steps_all (steps_cons ?_ (steps_cons ?_ (steps_cons ?_ (steps_cons ?_ steps_zero))))) ?fin
  · intro a0 w9 K9 hF hB hK hC
    have b3 := hF.base (k := 3) (v := .pointer (some ⟨w.heap.size, 0, none⟩)) (by kernel_rfl) rfl
    have x90 : w9.cell? ⟨w.heap.size, 0, none⟩ = some (.bool s) := (CX.out.below hB CX.out.lt).cell 0
    have x91 : w9.cell? ⟨w.heap.size, 1, none⟩ = some (.slice A x0.length c) := (CX.out.below hB CX.out.lt).cell 1
    have x92 : w9.cell? ⟨w.heap.size, 2, none⟩ = some (.slice B y0.length d) := (CX.out.below hB CX.out.lt).cell 2
    clear hF hB hK
    go_simp
    exact hC _ _ (bel_refl _) fun _ _ => rfl
  · intro a0 w9 K9 hF hB hK hC
    obtain ⟨v18, e18, z18⟩ := dep hK 0 (g := .data) (j := 0) (k := 18) rfl rfl rfl
    have z18 : v18 = .agg #[.bool s, .slice A x0.length c, .slice B y0.length d] := z18
    subst z18
    have HB9 := Lib.hid hB
    clear hF hB hK
    go_simp
    refine (few3_is s A B c d x0 y0 xs ys _ F.out.1.1 F.out.1.2.1 F.out.1.2.2.1 F.out.1.2.2.2).mono ?_
    rintro e w7 ⟨rfl, hbl⟩
    exact hC _ _ hbl fun _ _ => rfl
  · intro a0 w9 K9 hF hB hK hC
    have b4 := hF.base (k := 4) (v := .pointer (some ⟨w.heap.size + 1, 0, none⟩)) (by kernel_rfl) rfl
    have x90 : w9.cell? ⟨w.heap.size + 1, 0, none⟩ = some (.bool s') := (CY.out.below hB CY.out.lt).cell 0
    have x91 : w9.cell? ⟨w.heap.size + 1, 1, none⟩ = some (.slice A' x0'.length c') := (CY.out.below hB CY.out.lt).cell 1
    have x92 : w9.cell? ⟨w.heap.size + 1, 2, none⟩ = some (.slice B' y0'.length d') := (CY.out.below hB CY.out.lt).cell 2
    clear hF hB hK
    go_simp
    exact hC _ _ (bel_refl _) fun _ _ => rfl
  · intro a0 w9 K9 hF hB hK hC
    obtain ⟨v20, e20, z20⟩ := dep hK 0 (g := .data) (j := 2) (k := 20) rfl rfl rfl
    have z20 : v20 = .agg #[.bool s', .slice A' x0'.length c', .slice B' y0'.length d'] := z20
    subst z20
    have HB9 := Lib.hid hB
    clear hF hB hK
    go_simp
    refine (few3_is s' A' B' c' d' x0' y0' xs' ys' _ F.out.2.1 F.out.2.2.1 F.out.2.2.2.1 F.out.2.2.2.2).mono ?_
    rintro e w7 ⟨rfl, hbl⟩
    exact hC _ _ hbl fun _ _ => rfl
  case fin =>
    intro a0 w9 hF hB hK
    have b2 := hF.base (k := 2) (v := .int .i64 sz) (by kernel_rfl) rfl
    have b3 := hF.base (k := 3) (v := .pointer (some ⟨w.heap.size, 0, none⟩)) (by kernel_rfl) rfl
    have b4 := hF.base (k := 4) (v := .pointer (some ⟨w.heap.size + 1, 0, none⟩)) (by kernel_rfl) rfl
    have hsz := hF.size
    have hdf := hF.defers
    clear hF
    obtain ⟨v19, e19, z19⟩ := known hK 1 (k := 19) (by decide) rfl
    have z19 : v19 = .agg #[.bool s, .slice A xs.length c, .slice B ys.length d] := z19
    subst z19
    obtain ⟨v21, e21, z21⟩ := known hK 3 (k := 21) (by decide) rfl
    have z21 : v21 = .agg #[.bool s', .slice A' xs'.length c', .slice B' ys'.length d'] := z21
    subst z21
    clear hK
    obtain ⟨⟨l0⟩, df⟩ := a0
    have hs0 : l0.length = 114 := hsz
    clear hsz
    replace hdf : df = _ := hdf
    subst hdf
    obtain ⟨u, rfl⟩ := lits_114 hs0
    clear hs0
    generalize hAr : (Array.mk [u 0, u 1, u 2, u 3, u 4, u 5, u 6, u 7, u 8, u 9, u 10, u 11, u 12, u 13, u 14, u 15, u 16, u 17, u 18, u 19, u 20, u 21, u 22, u 23, u 24, u 25, u 26, u 27, u 28, u 29, u 30, u 31, u 32, u 33, u 34, u 35, u 36, u 37, u 38, u 39, u 40, u 41, u 42, u 43, u 44, u 45, u 46, u 47, u 48, u 49, u 50, u 51, u 52, u 53, u 54, u 55, u 56, u 57, u 58, u 59, u 60, u 61, u 62, u 63, u 64, u 65, u 66, u 67, u 68, u 69, u 70, u 71, u 72, u 73, u 74, u 75, u 76, u 77, u 78, u 79, u 80, u 81, u 82, u 83, u 84, u 85, u 86, u 87, u 88, u 89, u 90, u 91, u 92, u 93, u 94, u 95, u 96, u 97, u 98, u 99, u 100, u 101, u 102, u 103, u 104, u 105, u 106, u 107, u 108, u 109, u 110, u 111, u 112, u 113] : Array Value) = ar
    obtain rfl : ar = #[u 0, u 1, u 2, u 3, u 4, u 5, u 6, u 7, u 8, u 9, u 10, u 11, u 12, u 13, u 14, u 15, u 16, u 17, u 18, u 19, u 20, u 21, u 22, u 23, u 24, u 25, u 26, u 27, u 28, u 29, u 30, u 31, u 32, u 33, u 34, u 35, u 36, u 37, u 38, u 39, u 40, u 41, u 42, u 43, u 44, u 45, u 46, u 47, u 48, u 49, u 50, u 51, u 52, u 53, u 54, u 55, u 56, u 57, u 58, u 59, u 60, u 61, u 62, u 63, u 64, u 65, u 66, u 67, u 68, u 69, u 70, u 71, u 72, u 73, u 74, u 75, u 76, u 77, u 78, u 79, u 80, u 81, u 82, u 83, u 84, u 85, u 86, u 87, u 88, u 89, u 90, u 91, u 92, u 93, u 94, u 95, u 96, u 97, u 98, u 99, u 100, u 101, u 102, u 103, u 104, u 105, u 106, u 107, u 108, u 109, u 110, u 111, u 112, u 113] := hAr.symm
    have q2 : u 2 = _ := Option.some.inj b2
    clear b2
    have q3 : u 3 = _ := Option.some.inj b3
    clear b3
    have q4 : u 4 = _ := Option.some.inj b4
    clear b4
    have q19 : u 19 = _ := Option.some.inj e19
    clear e19
    have q21 : u 21 = _ := Option.some.inj e21
    clear e21
    rw [q2, q3, q4, q19, q21]
    clear q2 q3 q4 q19 q21
    have hbl := hB; clear hB
    replace R1 := Lib.hid (R1.out.below hbl)
    replace R2 := Lib.hid (R2.out.below hbl)
    replace R3 := Lib.hid (R3.out.below hbl)
    replace R4 := Lib.hid (R4.out.below hbl)
    replace CX := Lib.hid (CX.out.below hbl CX.out.lt)
    replace CY := Lib.hid (CY.out.below hbl CY.out.lt)
    replace HW := Lib.hid (bel_trans HW.out hbl); clear hbl
    simp only [List.drop_succ_cons, List.drop_zero]
    have pd0 := CX.out.cell 0
    have pf0 := CX.out.frozen 0
    have pd1 := CX.out.cell 1
    have pf1 := CX.out.frozen 1
    have pd2 := CX.out.cell 2
    have pf2 := CX.out.frozen 2
    have qd0 := CY.out.cell 0
    have qf0 := CY.out.frozen 0
    have qd1 := CY.out.cell 1
    have qf1 := CY.out.frozen 1
    have qd2 := CY.out.cell 2
    have qf2 := CY.out.frozen 2
    go_upto_region 2 with fail
    clear pd0 pf0 pd1 pf1 pd2 pf2 qd0 qf0 qd1 qf1 qd2 qf2
    obtain ⟨wf, hwf⟩ : ∃ wf, wf = ((((((w9.setCell ⟨w.heap.size, 0, none⟩ (.bool s)).setCell ⟨w.heap.size, 1, none⟩ (.slice A xs.length c)).setCell ⟨w.heap.size, 2, none⟩ (.slice B ys.length d)).setCell ⟨w.heap.size + 1, 0, none⟩ (.bool s')).setCell ⟨w.heap.size + 1, 1, none⟩ (.slice A' xs'.length c')).setCell ⟨w.heap.size + 1, 2, none⟩ (.slice B' ys'.length d')) := ⟨_, rfl⟩
    rw [← hwf]
    replace R1 := Lib.hid (show RdL wf _ _ by rw [hwf]; exact RdL.set3 ((((CY.out).far (p := ⟨w.heap.size, 0, none⟩) (by simp) _).far (p := ⟨w.heap.size, 1, none⟩) (by simp) _).far (p := ⟨w.heap.size, 2, none⟩) (by simp) _) (RdL.set3 (CX.out) (R1.out) _ _ _) _ _ _)
    replace R2 := Lib.hid (show RdL wf _ _ by rw [hwf]; exact RdL.set3 ((((CY.out).far (p := ⟨w.heap.size, 0, none⟩) (by simp) _).far (p := ⟨w.heap.size, 1, none⟩) (by simp) _).far (p := ⟨w.heap.size, 2, none⟩) (by simp) _) (RdL.set3 (CX.out) (R2.out) _ _ _) _ _ _)
    replace R3 := Lib.hid (show RdL wf _ _ by rw [hwf]; exact RdL.set3 ((((CY.out).far (p := ⟨w.heap.size, 0, none⟩) (by simp) _).far (p := ⟨w.heap.size, 1, none⟩) (by simp) _).far (p := ⟨w.heap.size, 2, none⟩) (by simp) _) (RdL.set3 (CX.out) (R3.out) _ _ _) _ _ _)
    replace R4 := Lib.hid (show RdL wf _ _ by rw [hwf]; exact RdL.set3 ((((CY.out).far (p := ⟨w.heap.size, 0, none⟩) (by simp) _).far (p := ⟨w.heap.size, 1, none⟩) (by simp) _).far (p := ⟨w.heap.size, 2, none⟩) (by simp) _) (RdL.set3 (CX.out) (R4.out) _ _ _) _ _ _)
    have CX_ := Lib.hid (show Blk wf (w.heap.size) 25 #[.bool s, .slice A xs.length c, .slice B ys.length d] by rw [hwf]; exact ((((((CX.out).put 0 (.bool s)).put 1 (.slice A xs.length c)).put 2 (.slice B ys.length d)).far (p := ⟨w.heap.size + 1, 0, none⟩) (by simp) _).far (p := ⟨w.heap.size + 1, 1, none⟩) (by simp) _).far (p := ⟨w.heap.size + 1, 2, none⟩) (by simp) _)
    have CY_ := Lib.hid (show Blk wf (w.heap.size + 1) 25 #[.bool s', .slice A' xs'.length c', .slice B' ys'.length d'] by rw [hwf]; exact ((((((CY.out).far (p := ⟨w.heap.size, 0, none⟩) (by simp) _).far (p := ⟨w.heap.size, 1, none⟩) (by simp) _).far (p := ⟨w.heap.size, 2, none⟩) (by simp) _).put 0 (.bool s')).put 1 (.slice A' xs'.length c')).put 2 (.slice B' ys'.length d'))
    replace CX := CX_; clear CX_
    replace CY := CY_; clear CY_
    replace HW := Lib.hid (show Below w.heap.size w wf by rw [hwf]; exact bel_set (p := ⟨w.heap.size + 1, 2, none⟩) (bel_set (p := ⟨w.heap.size + 1, 1, none⟩) (bel_set (p := ⟨w.heap.size + 1, 0, none⟩) (bel_set (p := ⟨w.heap.size, 2, none⟩) (bel_set (p := ⟨w.heap.size, 1, none⟩) (bel_set (p := ⟨w.heap.size, 0, none⟩) (HW.out) (by show w.heap.size ≤ w.heap.size; omega) _) (by show w.heap.size ≤ w.heap.size; omega) _) (by show w.heap.size ≤ w.heap.size; omega) _) (by show w.heap.size ≤ w.heap.size + 1; omega) _) (by show w.heap.size ≤ w.heap.size + 1; omega) _) (by show w.heap.size ≤ w.heap.size + 1; omega) _)
    clear hwf
    have CX0 : wf.cell? ⟨w.heap.size, 0, none⟩ = some (.bool s) := CX.out.cell 0
    have CX1 : wf.cell? ⟨w.heap.size, 1, none⟩ = some (.slice A xs.length c) := CX.out.cell 1
    have CX2 : wf.cell? ⟨w.heap.size, 2, none⟩ = some (.slice B ys.length d) := CX.out.cell 2
    have CY0 : wf.cell? ⟨w.heap.size + 1, 0, none⟩ = some (.bool s') := CY.out.cell 0
    have CY1 : wf.cell? ⟨w.heap.size + 1, 1, none⟩ = some (.slice A' xs'.length c') := CY.out.cell 1
    have CY2 : wf.cell? ⟨w.heap.size + 1, 2, none⟩ = some (.slice B' ys'.length d') := CY.out.cell 2
    have xCX := CX.out.cell 0
    have yCX := CX.out.frozen 0
    have xCY := CY.out.cell 0
    have yCY := CY.out.frozen 0
    go_upto_region 3 with fail
    clear xCX yCX xCY yCY
    obtain ⟨wn, hwn⟩ : ∃ wn, wn = ((wf.setCell ⟨w.heap.size, 0, none⟩ (.bool false)).setCell ⟨w.heap.size + 1, 0, none⟩ (.bool false)) := ⟨_, rfl⟩
    rw [← hwn]
    replace R1 := Lib.hid (show RdL wn _ _ by rw [hwn]; exact RdL.set1 ((CY.out).far (p := ⟨w.heap.size, 0, none⟩) (by simp) _) (RdL.set1 (CX.out) (R1.out) _) _)
    replace R2 := Lib.hid (show RdL wn _ _ by rw [hwn]; exact RdL.set1 ((CY.out).far (p := ⟨w.heap.size, 0, none⟩) (by simp) _) (RdL.set1 (CX.out) (R2.out) _) _)
    replace R3 := Lib.hid (show RdL wn _ _ by rw [hwn]; exact RdL.set1 ((CY.out).far (p := ⟨w.heap.size, 0, none⟩) (by simp) _) (RdL.set1 (CX.out) (R3.out) _) _)
    replace R4 := Lib.hid (show RdL wn _ _ by rw [hwn]; exact RdL.set1 ((CY.out).far (p := ⟨w.heap.size, 0, none⟩) (by simp) _) (RdL.set1 (CX.out) (R4.out) _) _)
    have CX_ := Lib.hid (show Blk wn (w.heap.size) 25 #[.bool false, .slice A xs.length c, .slice B ys.length d] by rw [hwn]; exact ((CX.out).put 0 (.bool false)).far (p := ⟨w.heap.size + 1, 0, none⟩) (by simp) _)
    have CY_ := Lib.hid (show Blk wn (w.heap.size + 1) 25 #[.bool false, .slice A' xs'.length c', .slice B' ys'.length d'] by rw [hwn]; exact ((CY.out).far (p := ⟨w.heap.size, 0, none⟩) (by simp) _).put 0 (.bool false))
    replace CX := CX_; clear CX_
    replace CY := CY_; clear CY_
    replace HW := Lib.hid (show Below w.heap.size w wn by rw [hwn]; exact bel_set (p := ⟨w.heap.size + 1, 0, none⟩) (bel_set (p := ⟨w.heap.size, 0, none⟩) (HW.out) (by show w.heap.size ≤ w.heap.size; omega) _) (by show w.heap.size ≤ w.heap.size + 1; omega) _)
    clear hwn
    clear CX0 CX1 CX2 CY0 CY1 CY2
    have CX0 : wn.cell? ⟨w.heap.size, 0, none⟩ = some (.bool false) := CX.out.cell 0
    have CX1 : wn.cell? ⟨w.heap.size, 1, none⟩ = some (.slice A xs.length c) := CX.out.cell 1
    have CX2 : wn.cell? ⟨w.heap.size, 2, none⟩ = some (.slice B ys.length d) := CX.out.cell 2
    have CY0 : wn.cell? ⟨w.heap.size + 1, 0, none⟩ = some (.bool false) := CY.out.cell 0
    have CY1 : wn.cell? ⟨w.heap.size + 1, 1, none⟩ = some (.slice A' xs'.length c') := CY.out.cell 1
    have CY2 : wn.cell? ⟨w.heap.size + 1, 2, none⟩ = some (.slice B' ys'.length d') := CY.out.cell 2
    go_wp2_with fail
    refine (HBA.out _ R1.out R2.out).mono ?_
    rintro e w1 ⟨rfl, hbl⟩
    replace R1 := Lib.hid (R1.out.below hbl)
    replace R2 := Lib.hid (R2.out.below hbl)
    replace R3 := Lib.hid (R3.out.below hbl)
    replace R4 := Lib.hid (R4.out.below hbl)
    replace CX := Lib.hid (CX.out.below hbl CX.out.lt)
    replace CY := Lib.hid (CY.out.below hbl CY.out.lt)
    replace HW := Lib.hid (bel_trans HW.out hbl); clear hbl
    clear CX0 CX1 CX2 CY0 CY1 CY2
    have CX0 : w1.cell? ⟨w.heap.size, 0, none⟩ = some (.bool false) := CX.out.cell 0
    have CX1 : w1.cell? ⟨w.heap.size, 1, none⟩ = some (.slice A xs.length c) := CX.out.cell 1
    have CX2 : w1.cell? ⟨w.heap.size, 2, none⟩ = some (.slice B ys.length d) := CX.out.cell 2
    have CY0 : w1.cell? ⟨w.heap.size + 1, 0, none⟩ = some (.bool false) := CY.out.cell 0
    have CY1 : w1.cell? ⟨w.heap.size + 1, 1, none⟩ = some (.slice A' xs'.length c') := CY.out.cell 1
    have CY2 : w1.cell? ⟨w.heap.size + 1, 2, none⟩ = some (.slice B' ys'.length d') := CY.out.cell 2
    go_wp2_with fail
    refine (HBB.out _ R3.out R4.out).mono ?_
    rintro e w2 ⟨rfl, hbl⟩
    replace R1 := Lib.hid (R1.out.below hbl)
    replace R2 := Lib.hid (R2.out.below hbl)
    replace R3 := Lib.hid (R3.out.below hbl)
    replace R4 := Lib.hid (R4.out.below hbl)
    replace CX := Lib.hid (CX.out.below hbl CX.out.lt)
    replace CY := Lib.hid (CY.out.below hbl CY.out.lt)
    replace HW := Lib.hid (bel_trans HW.out hbl); clear hbl
    clear CX0 CX1 CX2 CY0 CY1 CY2
    have CX0 : w2.cell? ⟨w.heap.size, 0, none⟩ = some (.bool false) := CX.out.cell 0
    have CX1 : w2.cell? ⟨w.heap.size, 1, none⟩ = some (.slice A xs.length c) := CX.out.cell 1
    have CX2 : w2.cell? ⟨w.heap.size, 2, none⟩ = some (.slice B ys.length d) := CX.out.cell 2
    have CY0 : w2.cell? ⟨w.heap.size + 1, 0, none⟩ = some (.bool false) := CY.out.cell 0
    have CY1 : w2.cell? ⟨w.heap.size + 1, 1, none⟩ = some (.slice A' xs'.length c') := CY.out.cell 1
    have CY2 : w2.cell? ⟨w.heap.size + 1, 2, none⟩ = some (.slice B' ys'.length d') := CY.out.cell 2
    go_wp2_with fail
    refine (HCM.out _ R1.out R2.out R3.out R4.out).mono ?_
    rintro e w3 ⟨rfl, hbl⟩
    replace R1 := Lib.hid (R1.out.below hbl)
    replace R2 := Lib.hid (R2.out.below hbl)
    replace R3 := Lib.hid (R3.out.below hbl)
    replace R4 := Lib.hid (R4.out.below hbl)
    replace CX := Lib.hid (CX.out.below hbl CX.out.lt)
    replace CY := Lib.hid (CY.out.below hbl CY.out.lt)
    replace HW := Lib.hid (bel_trans HW.out hbl); clear hbl
    clear CX0 CX1 CX2 CY0 CY1 CY2
    have CX0 : w3.cell? ⟨w.heap.size, 0, none⟩ = some (.bool false) := CX.out.cell 0
    have CX1 : w3.cell? ⟨w.heap.size, 1, none⟩ = some (.slice A xs.length c) := CX.out.cell 1
    have CX2 : w3.cell? ⟨w.heap.size, 2, none⟩ = some (.slice B ys.length d) := CX.out.cell 2
    have CY0 : w3.cell? ⟨w.heap.size + 1, 0, none⟩ = some (.bool false) := CY.out.cell 0
    have CY1 : w3.cell? ⟨w.heap.size + 1, 1, none⟩ = some (.slice A' xs'.length c') := CY.out.cell 1
    have CY2 : w3.cell? ⟨w.heap.size + 1, 2, none⟩ = some (.slice B' ys'.length d') := CY.out.cell 2
    go_upto_region 8 with fail
    go_cut [79] (fun v9 wx => v9 = .bool false ∧ wx = w3)
    case first =>
      rcases Int.lt_trichotomy v 0 with hv | hv | hv
      · have a1 := HV.out.1 (by omega)
        have a2 : ¬ 0 ≤ v := by omega
        have a3 : (v == 0) = false := by simp only [beq_eq_false_iff_ne, ne_eq]; omega
        have a4 : v ≤ 0 := by omega
        have a5 : ¬ (ub : Int) < (ua : Int) := by omega
        clear a1 hv
        go_wp2_with fail
        go_meet
        exact ⟨rfl, rfl⟩
      · have a1 := HV.out.1 (by omega)
        have a2 := HV.out.2 (by omega)
        obtain rfl : ua = ub := by omega
        clear a1 a2
        subst hv
        go_wp2_with fail
        go_meet
        exact ⟨rfl, rfl⟩
      · have a1 := HV.out.2 (by omega)
        have a2 : ¬ v ≤ 0 := by omega
        have a3 : (v == 0) = false := by simp only [beq_eq_false_iff_ne, ne_eq]; omega
        have a4 : 0 ≤ v := by omega
        have a5 : ¬ (ua : Int) < (ub : Int) := by omega
        clear a1 hv
        go_wp2_with fail
        go_meet
        exact ⟨rfl, rfl⟩
    case rest =>
      obtain ⟨rfl, rfl⟩ := hcut
      have xCX := CX.out.cell 0
      have yCX := CX.out.frozen 0
      go_upto_region 11 with fail
      clear xCX yCX
      obtain ⟨wq, hwq⟩ : ∃ wq, wq = (wc.setCell ⟨w.heap.size, 0, none⟩ (.bool true)) := ⟨_, rfl⟩
      rw [← hwq]
      replace R1 := Lib.hid (show RdL wq _ _ by rw [hwq]; exact RdL.set1 (CX.out) (R1.out) _)
      replace R2 := Lib.hid (show RdL wq _ _ by rw [hwq]; exact RdL.set1 (CX.out) (R2.out) _)
      replace R3 := Lib.hid (show RdL wq _ _ by rw [hwq]; exact RdL.set1 (CX.out) (R3.out) _)
      replace R4 := Lib.hid (show RdL wq _ _ by rw [hwq]; exact RdL.set1 (CX.out) (R4.out) _)
      have CX_ := Lib.hid (show Blk wq (w.heap.size) 25 #[.bool true, .slice A xs.length c, .slice B ys.length d] by rw [hwq]; exact (CX.out).put 0 (.bool true))
      have CY_ := Lib.hid (show Blk wq (w.heap.size + 1) 25 #[.bool false, .slice A' xs'.length c', .slice B' ys'.length d'] by rw [hwq]; exact (CY.out).far (p := ⟨w.heap.size, 0, none⟩) (by simp) _)
      replace CX := CX_; clear CX_
      replace CY := CY_; clear CY_
      replace HW := Lib.hid (show Below w.heap.size w wq by rw [hwq]; exact bel_set (p := ⟨w.heap.size, 0, none⟩) (HW.out) (by show w.heap.size ≤ w.heap.size; omega) _)
      clear hwq
      clear CX0 CX1 CX2 CY0 CY1 CY2
      have CX0 : wq.cell? ⟨w.heap.size, 0, none⟩ = some (.bool true) := CX.out.cell 0
      have CX1 : wq.cell? ⟨w.heap.size, 1, none⟩ = some (.slice A xs.length c) := CX.out.cell 1
      have CX2 : wq.cell? ⟨w.heap.size, 2, none⟩ = some (.slice B ys.length d) := CX.out.cell 2
      have CY0 : wq.cell? ⟨w.heap.size + 1, 0, none⟩ = some (.bool false) := CY.out.cell 0
      have CY1 : wq.cell? ⟨w.heap.size + 1, 1, none⟩ = some (.slice A' xs'.length c') := CY.out.cell 1
      have CY2 : wq.cell? ⟨w.heap.size + 1, 2, none⟩ = some (.slice B' ys'.length d') := CY.out.cell 2
      go_wp2_with fail
      refine (HBZ.out _ R1.out R2.out).mono ?_
      rintro e w4 ⟨rfl, hbl⟩
      replace R1 := Lib.hid (R1.out.below hbl)
      replace R2 := Lib.hid (R2.out.below hbl)
      replace R3 := Lib.hid (R3.out.below hbl)
      replace R4 := Lib.hid (R4.out.below hbl)
      replace CX := Lib.hid (CX.out.below hbl CX.out.lt)
      replace CY := Lib.hid (CY.out.below hbl CY.out.lt)
      replace HW := Lib.hid (bel_trans HW.out hbl); clear hbl
      clear CX0 CX1 CX2 CY0 CY1 CY2
      have CX0 : w4.cell? ⟨w.heap.size, 0, none⟩ = some (.bool true) := CX.out.cell 0
      have CX1 : w4.cell? ⟨w.heap.size, 1, none⟩ = some (.slice A xs.length c) := CX.out.cell 1
      have CX2 : w4.cell? ⟨w.heap.size, 2, none⟩ = some (.slice B ys.length d) := CX.out.cell 2
      have CY0 : w4.cell? ⟨w.heap.size + 1, 0, none⟩ = some (.bool false) := CY.out.cell 0
      have CY1 : w4.cell? ⟨w.heap.size + 1, 1, none⟩ = some (.slice A' xs'.length c') := CY.out.cell 1
      have CY2 : w4.cell? ⟨w.heap.size + 1, 2, none⟩ = some (.slice B' ys'.length d') := CY.out.cell 2
      go_wp2_with fail
      refine (alive3 _).mono ?_
      rintro e w5 ⟨rfl, hbl⟩
      replace R1 := Lib.hid (R1.out.below hbl)
      replace R2 := Lib.hid (R2.out.below hbl)
      replace R3 := Lib.hid (R3.out.below hbl)
      replace R4 := Lib.hid (R4.out.below hbl)
      replace CX := Lib.hid (CX.out.below hbl CX.out.lt)
      replace CY := Lib.hid (CY.out.below hbl CY.out.lt)
      replace HW := Lib.hid (bel_trans HW.out hbl); clear hbl
      clear CX0 CX1 CX2 CY0 CY1 CY2
      have CX0 : w5.cell? ⟨w.heap.size, 0, none⟩ = some (.bool true) := CX.out.cell 0
      have CX1 : w5.cell? ⟨w.heap.size, 1, none⟩ = some (.slice A xs.length c) := CX.out.cell 1
      have CX2 : w5.cell? ⟨w.heap.size, 2, none⟩ = some (.slice B ys.length d) := CX.out.cell 2
      have CY0 : w5.cell? ⟨w.heap.size + 1, 0, none⟩ = some (.bool false) := CY.out.cell 0
      have CY1 : w5.cell? ⟨w.heap.size + 1, 1, none⟩ = some (.slice A' xs'.length c') := CY.out.cell 1
      have CY2 : w5.cell? ⟨w.heap.size + 1, 2, none⟩ = some (.slice B' ys'.length d') := CY.out.cell 2
      go_wp2
      go_ret
      exact ⟨rfl, HW.out⟩

set_option maxRecDepth 100000 in
set_option maxHeartbeats 1000000 in
theorem orders3_z {ua ub : Nat} {xa xb : Bool} {v : Int} {uz : Nat} {xz : Bool} (s s' : Bool) (A B A' B' : Option Addr) (c d c' d' : Nat) (x0 y0 x0' y0' xs ys xs' ys' : List Nat) (sz : Int) (w : World) (h1 : RdL w A x0) (h2 : RdL w B y0) (h3 : RdL w A' x0') (h4 : RdL w B' y0') (k1 : x0.length ≤ c) (k2 : y0.length ≤ d) (k3 : x0'.length ≤ c') (k4 : y0'.length ≤ d') (e1 : few x0 = xs) (e2 : few y0 = ys) (e3 : few x0' = xs') (e4 : few y0' = ys') (hba : ∀ w1, RdL w1 A xs → RdL w1 B ys → Calls Try.prog 12 #[.agg #[.bool false, .slice A xs.length c, .slice B ys.length d], .int .i64 sz] w1 (RetBits ua xa 0 w1)) (hbb : ∀ w1, RdL w1 A' xs' → RdL w1 B' ys' → Calls Try.prog 12 #[.agg #[.bool false, .slice A' xs'.length c', .slice B' ys'.length d'], .int .i64 sz] w1 (RetBits ub xb 0 w1)) (hcm : ∀ w1, RdL w1 A xs → RdL w1 B ys → RdL w1 A' xs' → RdL w1 B' ys' → Calls Try.prog 40 #[.agg #[.bool false, .slice A xs.length c, .slice B ys.length d], .agg #[.bool false, .slice A' xs'.length c', .slice B' ys'.length d']] w1 (RetIEB v 0 w1)) (hle : v ≤ 0 → ua ≤ ub) (hge : 0 ≤ v → ub ≤ ua) (hbz : ∀ w1, RdL w1 A xs → RdL w1 B ys → Calls Try.prog 12 #[.agg #[.bool true, .slice A xs.length c, .slice B ys.length d], .int .i64 sz] w1 (RetBits uz xz 0 w1)) (ha0 : ua = 0) (hz0 : uz = 0) :
    Calls Try.prog 7 #[.agg #[.bool s, .slice A x0.length c, .slice B y0.length d], .agg #[.bool s', .slice A' x0'.length c', .slice B' y0'.length d'], .int .i64 sz] w (RetT w) := by
  have HBA := Lib.hid hba; clear hba
  have HBB := Lib.hid hbb; clear hbb
  have HCM := Lib.hid hcm; clear hcm
  have HV := Lib.hid (And.intro hle hge); clear hle hge
  have HBZ := Lib.hid hbz; clear hbz
  have z1 : ((ua : Int) == 0) = true := by simp [ha0]
  clear ha0
  subst hz0
  have R1 := Lib.hid (show RdL w A xs by rw [← e1]; exact h1.take 18); clear h1
  have R2 := Lib.hid (show RdL w B ys by rw [← e2]; exact h2.take 18); clear h2
  have R3 := Lib.hid (show RdL w A' xs' by rw [← e3]; exact h3.take 18); clear h3
  have R4 := Lib.hid (show RdL w B' ys' by rw [← e4]; exact h4.take 18); clear h4
  have F := Lib.hid (And.intro (And.intro k1 (And.intro k2 (And.intro e1 e2))) (And.intro k3 (And.intro k4 (And.intro e3 e4)))); clear k1 k2 k3 k4 e1 e2 e3 e4
  obtain ⟨wa, hwa⟩ : ∃ wa, wa = (w.alloc (.cells #[.bool s, .slice A x0.length c, .slice B y0.length d] 25)).alloc (.cells #[.bool s', .slice A' x0'.length c', .slice B' y0'.length d'] 25) := ⟨_, rfl⟩
  have hbl : Below w.heap.size w wa := by rw [hwa]; exact bel_alloc (bel_alloc (bel_refl _) _) _
  have CX : Blk wa (w.heap.size) 25 #[.bool s, .slice A x0.length c, .slice B y0.length d] := by
    have hz := Blk.new (w) 25 #[.bool s, .slice A x0.length c, .slice B y0.length d]
    rw [hwa]
    exact (hz.alloc _)
  have CY : Blk wa (w.heap.size + 1) 25 #[.bool s', .slice A' x0'.length c', .slice B' y0'.length d'] := by
    have hz := Blk.new (w.alloc (.cells #[.bool s, .slice A x0.length c, .slice B y0.length d] 25)) 25 #[.bool s', .slice A' x0'.length c', .slice B' y0'.length d']
    rw [World.size_alloc] at hz
    rw [hwa]
    exact hz
  replace R1 := Lib.hid (R1.out.below hbl)
  replace R2 := Lib.hid (R2.out.below hbl)
  replace R3 := Lib.hid (R3.out.below hbl)
  replace R4 := Lib.hid (R4.out.below hbl)
  have HW := Lib.hid hbl; clear hbl
  replace CX := Lib.hid CX
  replace CY := Lib.hid CY
  go_enter Try.func7, Try.ntmps7
  go_wp2_with fail
  rw [← hwa]
  clear hwa
  refine wp_region_typed 4 (TOf [VIs (.agg #[.bool s, .slice A x0.length c, .slice B y0.length d]),
      VIs (.agg #[.bool s, .slice A xs.length c, .slice B ys.length d]),
      VIs (.agg #[.bool s', .slice A' x0'.length c', .slice B' y0'.length d']),
      VIs (.agg #[.bool s', .slice A' xs'.length c', .slice B' ys'.length d'])]) (by kernel_rfl) (by kernel_rfl) (by kernel_rfl) (LiftAll.at_ (.cons (VIs.lift _) (.cons (VIs.lift _) (.cons (VIs.lift _) (.cons (VIs.lift _) .nil))))) (steps_all (steps_cons ?_ (steps_cons ?_ (steps_cons ?_ (steps_cons ?_ steps_zero))))) ?fin
  · intro a0 w9 K9 hF hB hK hC
    have b3 := hF.base (k := 3) (v := .pointer (some ⟨w.heap.size, 0, none⟩)) (by kernel_rfl) rfl
    have x90 : w9.cell? ⟨w.heap.size, 0, none⟩ = some (.bool s) := (CX.out.below hB CX.out.lt).cell 0
    have x91 : w9.cell? ⟨w.heap.size, 1, none⟩ = some (.slice A x0.length c) := (CX.out.below hB CX.out.lt).cell 1
    have x92 : w9.cell? ⟨w.heap.size, 2, none⟩ = some (.slice B y0.length d) := (CX.out.below hB CX.out.lt).cell 2
    clear hF hB hK
    go_simp
    exact hC _ _ (bel_refl _) fun _ _ => rfl
  · intro a0 w9 K9 hF hB hK hC
    obtain ⟨v18, e18, z18⟩ := dep hK 0 (g := .data) (j := 0) (k := 18) rfl rfl rfl
    have z18 : v18 = .agg #[.bool s, .slice A x0.length c, .slice B y0.length d] := z18
    subst z18
    have HB9 := Lib.hid hB
    clear hF hB hK
    go_simp
    refine (few3_is s A B c d x0 y0 xs ys _ F.out.1.1 F.out.1.2.1 F.out.1.2.2.1 F.out.1.2.2.2).mono ?_
    rintro e w7 ⟨rfl, hbl⟩
    exact hC _ _ hbl fun _ _ => rfl
  · intro a0 w9 K9 hF hB hK hC
    have b4 := hF.base (k := 4) (v := .pointer (some ⟨w.heap.size + 1, 0, none⟩)) (by kernel_rfl) rfl
    have x90 : w9.cell? ⟨w.heap.size + 1, 0, none⟩ = some (.bool s') := (CY.out.below hB CY.out.lt).cell 0
    have x91 : w9.cell? ⟨w.heap.size + 1, 1, none⟩ = some (.slice A' x0'.length c') := (CY.out.below hB CY.out.lt).cell 1
    have x92 : w9.cell? ⟨w.heap.size + 1, 2, none⟩ = some (.slice B' y0'.length d') := (CY.out.below hB CY.out.lt).cell 2
    clear hF hB hK
    go_simp
    exact hC _ _ (bel_refl _) fun _ _ => rfl
  · intro a0 w9 K9 hF hB hK hC
    obtain ⟨v20, e20, z20⟩ := dep hK 0 (g := .data) (j := 2) (k := 20) rfl rfl rfl
    have z20 : v20 = .agg #[.bool s', .slice A' x0'.length c', .slice B' y0'.length d'] := z20
    subst z20
    have HB9 := Lib.hid hB
    clear hF hB hK
    go_simp
    refine (few3_is s' A' B' c' d' x0' y0' xs' ys' _ F.out.2.1 F.out.2.2.1 F.out.2.2.2.1 F.out.2.2.2.2).mono ?_
    rintro e w7 ⟨rfl, hbl⟩
    exact hC _ _ hbl fun _ _ => rfl
  case fin =>
    intro a0 w9 hF hB hK
    have b2 := hF.base (k := 2) (v := .int .i64 sz) (by kernel_rfl) rfl
    have b3 := hF.base (k := 3) (v := .pointer (some ⟨w.heap.size, 0, none⟩)) (by kernel_rfl) rfl
    have b4 := hF.base (k := 4) (v := .pointer (some ⟨w.heap.size + 1, 0, none⟩)) (by kernel_rfl) rfl
    have hsz := hF.size
    have hdf := hF.defers
    clear hF
    obtain ⟨v19, e19, z19⟩ := known hK 1 (k := 19) (by decide) rfl
    have z19 : v19 = .agg #[.bool s, .slice A xs.length c, .slice B ys.length d] := z19
    subst z19
    obtain ⟨v21, e21, z21⟩ := known hK 3 (k := 21) (by decide) rfl
    have z21 : v21 = .agg #[.bool s', .slice A' xs'.length c', .slice B' ys'.length d'] := z21
    subst z21
    clear hK
    obtain ⟨⟨l0⟩, df⟩ := a0
    have hs0 : l0.length = 114 := hsz
    clear hsz
    replace hdf : df = _ := hdf
    subst hdf
    obtain ⟨u, rfl⟩ := lits_114 hs0
    clear hs0
    generalize hAr : (Array.mk [u 0, u 1, u 2, u 3, u 4, u 5, u 6, u 7, u 8, u 9, u 10, u 11, u 12, u 13, u 14, u 15, u 16, u 17, u 18, u 19, u 20, u 21, u 22, u 23, u 24, u 25, u 26, u 27, u 28, u 29, u 30, u 31, u 32, u 33, u 34, u 35, u 36, u 37, u 38, u 39, u 40, u 41, u 42, u 43, u 44, u 45, u 46, u 47, u 48, u 49, u 50, u 51, u 52, u 53, u 54, u 55, u 56, u 57, u 58, u 59, u 60, u 61, u 62, u 63, u 64, u 65, u 66, u 67, u 68, u 69, u 70, u 71, u 72, u 73, u 74, u 75, u 76, u 77, u 78, u 79, u 80, u 81, u 82, u 83, u 84, u 85, u 86, u 87, u 88, u 89, u 90, u 91, u 92, u 93, u 94, u 95, u 96, u 97, u 98, u 99, u 100, u 101, u 102, u 103, u 104, u 105, u 106, u 107, u 108, u 109, u 110, u 111, u 112, u 113] : Array Value) = ar
    obtain rfl : ar = #[u 0, u 1, u 2, u 3, u 4, u 5, u 6, u 7, u 8, u 9, u 10, u 11, u 12, u 13, u 14, u 15, u 16, u 17, u 18, u 19, u 20, u 21, u 22, u 23, u 24, u 25, u 26, u 27, u 28, u 29, u 30, u 31, u 32, u 33, u 34, u 35, u 36, u 37, u 38, u 39, u 40, u 41, u 42, u 43, u 44, u 45, u 46, u 47, u 48, u 49, u 50, u 51, u 52, u 53, u 54, u 55, u 56, u 57, u 58, u 59, u 60, u 61, u 62, u 63, u 64, u 65, u 66, u 67, u 68, u 69, u 70, u 71, u 72, u 73, u 74, u 75, u 76, u 77, u 78, u 79, u 80, u 81, u 82, u 83, u 84, u 85, u 86, u 87, u 88, u 89, u 90, u 91, u 92, u 93, u 94, u 95, u 96, u 97, u 98, u 99, u 100, u 101, u 102, u 103, u 104, u 105, u 106, u 107, u 108, u 109, u 110, u 111, u 112, u 113] := hAr.symm
    have q2 : u 2 = _ := Option.some.inj b2
    clear b2
    have q3 : u 3 = _ := Option.some.inj b3
    clear b3
    have q4 : u 4 = _ := Option.some.inj b4
    clear b4
    have q19 : u 19 = _ := Option.some.inj e19
    clear e19
    have q21 : u 21 = _ := Option.some.inj e21
    clear e21
    rw [q2, q3, q4, q19, q21]
    clear q2 q3 q4 q19 q21
    have hbl := hB; clear hB
    replace R1 := Lib.hid (R1.out.below hbl)
    replace R2 := Lib.hid (R2.out.below hbl)
    replace R3 := Lib.hid (R3.out.below hbl)
    replace R4 := Lib.hid (R4.out.below hbl)
    replace CX := Lib.hid (CX.out.below hbl CX.out.lt)
    replace CY := Lib.hid (CY.out.below hbl CY.out.lt)
    replace HW := Lib.hid (bel_trans HW.out hbl); clear hbl
    simp only [List.drop_succ_cons, List.drop_zero]
    have pd0 := CX.out.cell 0
    have pf0 := CX.out.frozen 0
    have pd1 := CX.out.cell 1
    have pf1 := CX.out.frozen 1
    have pd2 := CX.out.cell 2
    have pf2 := CX.out.frozen 2
    have qd0 := CY.out.cell 0
    have qf0 := CY.out.frozen 0
    have qd1 := CY.out.cell 1
    have qf1 := CY.out.frozen 1
    have qd2 := CY.out.cell 2
    have qf2 := CY.out.frozen 2
    go_upto_region 2 with fail
    clear pd0 pf0 pd1 pf1 pd2 pf2 qd0 qf0 qd1 qf1 qd2 qf2
    obtain ⟨wf, hwf⟩ : ∃ wf, wf = ((((((w9.setCell ⟨w.heap.size, 0, none⟩ (.bool s)).setCell ⟨w.heap.size, 1, none⟩ (.slice A xs.length c)).setCell ⟨w.heap.size, 2, none⟩ (.slice B ys.length d)).setCell ⟨w.heap.size + 1, 0, none⟩ (.bool s')).setCell ⟨w.heap.size + 1, 1, none⟩ (.slice A' xs'.length c')).setCell ⟨w.heap.size + 1, 2, none⟩ (.slice B' ys'.length d')) := ⟨_, rfl⟩
    rw [← hwf]
    replace R1 := Lib.hid (show RdL wf _ _ by rw [hwf]; exact RdL.set3 ((((CY.out).far (p := ⟨w.heap.size, 0, none⟩) (by simp) _).far (p := ⟨w.heap.size, 1, none⟩) (by simp) _).far (p := ⟨w.heap.size, 2, none⟩) (by simp) _) (RdL.set3 (CX.out) (R1.out) _ _ _) _ _ _)
    replace R2 := Lib.hid (show RdL wf _ _ by rw [hwf]; exact RdL.set3 ((((CY.out).far (p := ⟨w.heap.size, 0, none⟩) (by simp) _).far (p := ⟨w.heap.size, 1, none⟩) (by simp) _).far (p := ⟨w.heap.size, 2, none⟩) (by simp) _) (RdL.set3 (CX.out) (R2.out) _ _ _) _ _ _)
    replace R3 := Lib.hid (show RdL wf _ _ by rw [hwf]; exact RdL.set3 ((((CY.out).far (p := ⟨w.heap.size, 0, none⟩) (by simp) _).far (p := ⟨w.heap.size, 1, none⟩) (by simp) _).far (p := ⟨w.heap.size, 2, none⟩) (by simp) _) (RdL.set3 (CX.out) (R3.out) _ _ _) _ _ _)
    replace R4 := Lib.hid (show RdL wf _ _ by rw [hwf]; exact RdL.set3 ((((CY.out).far (p := ⟨w.heap.size, 0, none⟩) (by simp) _).far (p := ⟨w.heap.size, 1, none⟩) (by simp) _).far (p := ⟨w.heap.size, 2, none⟩) (by simp) _) (RdL.set3 (CX.out) (R4.out) _ _ _) _ _ _)
    have CX_ := Lib.hid (show Blk wf (w.heap.size) 25 #[.bool s, .slice A xs.length c, .slice B ys.length d] by rw [hwf]; exact ((((((CX.out).put 0 (.bool s)).put 1 (.slice A xs.length c)).put 2 (.slice B ys.length d)).far (p := ⟨w.heap.size + 1, 0, none⟩) (by simp) _).far (p := ⟨w.heap.size + 1, 1, none⟩) (by simp) _).far (p := ⟨w.heap.size + 1, 2, none⟩) (by simp) _)
    have CY_ := Lib.hid (show Blk wf (w.heap.size + 1) 25 #[.bool s', .slice A' xs'.length c', .slice B' ys'.length d'] by rw [hwf]; exact ((((((CY.out).far (p := ⟨w.heap.size, 0, none⟩) (by simp) _).far (p := ⟨w.heap.size, 1, none⟩) (by simp) _).far (p := ⟨w.heap.size, 2, none⟩) (by simp) _).put 0 (.bool s')).put 1 (.slice A' xs'.length c')).put 2 (.slice B' ys'.length d'))
    replace CX := CX_; clear CX_
    replace CY := CY_; clear CY_
    replace HW := Lib.hid (show Below w.heap.size w wf by rw [hwf]; exact bel_set (p := ⟨w.heap.size + 1, 2, none⟩) (bel_set (p := ⟨w.heap.size + 1, 1, none⟩) (bel_set (p := ⟨w.heap.size + 1, 0, none⟩) (bel_set (p := ⟨w.heap.size, 2, none⟩) (bel_set (p := ⟨w.heap.size, 1, none⟩) (bel_set (p := ⟨w.heap.size, 0, none⟩) (HW.out) (by show w.heap.size ≤ w.heap.size; omega) _) (by show w.heap.size ≤ w.heap.size; omega) _) (by show w.heap.size ≤ w.heap.size; omega) _) (by show w.heap.size ≤ w.heap.size + 1; omega) _) (by show w.heap.size ≤ w.heap.size + 1; omega) _) (by show w.heap.size ≤ w.heap.size + 1; omega) _)
    clear hwf
    have CX0 : wf.cell? ⟨w.heap.size, 0, none⟩ = some (.bool s) := CX.out.cell 0
    have CX1 : wf.cell? ⟨w.heap.size, 1, none⟩ = some (.slice A xs.length c) := CX.out.cell 1
    have CX2 : wf.cell? ⟨w.heap.size, 2, none⟩ = some (.slice B ys.length d) := CX.out.cell 2
    have CY0 : wf.cell? ⟨w.heap.size + 1, 0, none⟩ = some (.bool s') := CY.out.cell 0
    have CY1 : wf.cell? ⟨w.heap.size + 1, 1, none⟩ = some (.slice A' xs'.length c') := CY.out.cell 1
    have CY2 : wf.cell? ⟨w.heap.size + 1, 2, none⟩ = some (.slice B' ys'.length d') := CY.out.cell 2
    have xCX := CX.out.cell 0
    have yCX := CX.out.frozen 0
    have xCY := CY.out.cell 0
    have yCY := CY.out.frozen 0
    go_upto_region 3 with fail
    clear xCX yCX xCY yCY
    obtain ⟨wn, hwn⟩ : ∃ wn, wn = ((wf.setCell ⟨w.heap.size, 0, none⟩ (.bool false)).setCell ⟨w.heap.size + 1, 0, none⟩ (.bool false)) := ⟨_, rfl⟩
    rw [← hwn]
    replace R1 := Lib.hid (show RdL wn _ _ by rw [hwn]; exact RdL.set1 ((CY.out).far (p := ⟨w.heap.size, 0, none⟩) (by simp) _) (RdL.set1 (CX.out) (R1.out) _) _)
    replace R2 := Lib.hid (show RdL wn _ _ by rw [hwn]; exact RdL.set1 ((CY.out).far (p := ⟨w.heap.size, 0, none⟩) (by simp) _) (RdL.set1 (CX.out) (R2.out) _) _)
    replace R3 := Lib.hid (show RdL wn _ _ by rw [hwn]; exact RdL.set1 ((CY.out).far (p := ⟨w.heap.size, 0, none⟩) (by simp) _) (RdL.set1 (CX.out) (R3.out) _) _)
    replace R4 := Lib.hid (show RdL wn _ _ by rw [hwn]; exact RdL.set1 ((CY.out).far (p := ⟨w.heap.size, 0, none⟩) (by simp) _) (RdL.set1 (CX.out) (R4.out) _) _)
    have CX_ := Lib.hid (show Blk wn (w.heap.size) 25 #[.bool false, .slice A xs.length c, .slice B ys.length d] by rw [hwn]; exact ((CX.out).put 0 (.bool false)).far (p := ⟨w.heap.size + 1, 0, none⟩) (by simp) _)
    have CY_ := Lib.hid (show Blk wn (w.heap.size + 1) 25 #[.bool false, .slice A' xs'.length c', .slice B' ys'.length d'] by rw [hwn]; exact ((CY.out).far (p := ⟨w.heap.size, 0, none⟩) (by simp) _).put 0 (.bool false))
    replace CX := CX_; clear CX_
    replace CY := CY_; clear CY_
    replace HW := Lib.hid (show Below w.heap.size w wn by rw [hwn]; exact bel_set (p := ⟨w.heap.size + 1, 0, none⟩) (bel_set (p := ⟨w.heap.size, 0, none⟩) (HW.out) (by show w.heap.size ≤ w.heap.size; omega) _) (by show w.heap.size ≤ w.heap.size + 1; omega) _)
    clear hwn
    clear CX0 CX1 CX2 CY0 CY1 CY2
    have CX0 : wn.cell? ⟨w.heap.size, 0, none⟩ = some (.bool false) := CX.out.cell 0
    have CX1 : wn.cell? ⟨w.heap.size, 1, none⟩ = some (.slice A xs.length c) := CX.out.cell 1
    have CX2 : wn.cell? ⟨w.heap.size, 2, none⟩ = some (.slice B ys.length d) := CX.out.cell 2
    have CY0 : wn.cell? ⟨w.heap.size + 1, 0, none⟩ = some (.bool false) := CY.out.cell 0
    have CY1 : wn.cell? ⟨w.heap.size + 1, 1, none⟩ = some (.slice A' xs'.length c') := CY.out.cell 1
    have CY2 : wn.cell? ⟨w.heap.size + 1, 2, none⟩ = some (.slice B' ys'.length d') := CY.out.cell 2
    go_wp2_with fail
    refine (HBA.out _ R1.out R2.out).mono ?_
    rintro e w1 ⟨rfl, hbl⟩
    replace R1 := Lib.hid (R1.out.below hbl)
    replace R2 := Lib.hid (R2.out.below hbl)
    replace R3 := Lib.hid (R3.out.below hbl)
    replace R4 := Lib.hid (R4.out.below hbl)
    replace CX := Lib.hid (CX.out.below hbl CX.out.lt)
    replace CY := Lib.hid (CY.out.below hbl CY.out.lt)
    replace HW := Lib.hid (bel_trans HW.out hbl); clear hbl
    clear CX0 CX1 CX2 CY0 CY1 CY2
    have CX0 : w1.cell? ⟨w.heap.size, 0, none⟩ = some (.bool false) := CX.out.cell 0
    have CX1 : w1.cell? ⟨w.heap.size, 1, none⟩ = some (.slice A xs.length c) := CX.out.cell 1
    have CX2 : w1.cell? ⟨w.heap.size, 2, none⟩ = some (.slice B ys.length d) := CX.out.cell 2
    have CY0 : w1.cell? ⟨w.heap.size + 1, 0, none⟩ = some (.bool false) := CY.out.cell 0
    have CY1 : w1.cell? ⟨w.heap.size + 1, 1, none⟩ = some (.slice A' xs'.length c') := CY.out.cell 1
    have CY2 : w1.cell? ⟨w.heap.size + 1, 2, none⟩ = some (.slice B' ys'.length d') := CY.out.cell 2
    go_wp2_with fail
    refine (HBB.out _ R3.out R4.out).mono ?_
    rintro e w2 ⟨rfl, hbl⟩
    replace R1 := Lib.hid (R1.out.below hbl)
    replace R2 := Lib.hid (R2.out.below hbl)
    replace R3 := Lib.hid (R3.out.below hbl)
    replace R4 := Lib.hid (R4.out.below hbl)
    replace CX := Lib.hid (CX.out.below hbl CX.out.lt)
    replace CY := Lib.hid (CY.out.below hbl CY.out.lt)
    replace HW := Lib.hid (bel_trans HW.out hbl); clear hbl
    clear CX0 CX1 CX2 CY0 CY1 CY2
    have CX0 : w2.cell? ⟨w.heap.size, 0, none⟩ = some (.bool false) := CX.out.cell 0
    have CX1 : w2.cell? ⟨w.heap.size, 1, none⟩ = some (.slice A xs.length c) := CX.out.cell 1
    have CX2 : w2.cell? ⟨w.heap.size, 2, none⟩ = some (.slice B ys.length d) := CX.out.cell 2
    have CY0 : w2.cell? ⟨w.heap.size + 1, 0, none⟩ = some (.bool false) := CY.out.cell 0
    have CY1 : w2.cell? ⟨w.heap.size + 1, 1, none⟩ = some (.slice A' xs'.length c') := CY.out.cell 1
    have CY2 : w2.cell? ⟨w.heap.size + 1, 2, none⟩ = some (.slice B' ys'.length d') := CY.out.cell 2
    go_wp2_with fail
    refine (HCM.out _ R1.out R2.out R3.out R4.out).mono ?_
    rintro e w3 ⟨rfl, hbl⟩
    replace R1 := Lib.hid (R1.out.below hbl)
    replace R2 := Lib.hid (R2.out.below hbl)
    replace R3 := Lib.hid (R3.out.below hbl)
    replace R4 := Lib.hid (R4.out.below hbl)
    replace CX := Lib.hid (CX.out.below hbl CX.out.lt)
    replace CY := Lib.hid (CY.out.below hbl CY.out.lt)
    replace HW := Lib.hid (bel_trans HW.out hbl); clear hbl
    clear CX0 CX1 CX2 CY0 CY1 CY2
    have CX0 : w3.cell? ⟨w.heap.size, 0, none⟩ = some (.bool false) := CX.out.cell 0
    have CX1 : w3.cell? ⟨w.heap.size, 1, none⟩ = some (.slice A xs.length c) := CX.out.cell 1
    have CX2 : w3.cell? ⟨w.heap.size, 2, none⟩ = some (.slice B ys.length d) := CX.out.cell 2
    have CY0 : w3.cell? ⟨w.heap.size + 1, 0, none⟩ = some (.bool false) := CY.out.cell 0
    have CY1 : w3.cell? ⟨w.heap.size + 1, 1, none⟩ = some (.slice A' xs'.length c') := CY.out.cell 1
    have CY2 : w3.cell? ⟨w.heap.size + 1, 2, none⟩ = some (.slice B' ys'.length d') := CY.out.cell 2
    go_upto_region 8 with fail
    go_cut [79] (fun v9 wx => v9 = .bool false ∧ wx = w3)
    case first =>
      rcases Int.lt_trichotomy v 0 with hv | hv | hv
      · have a1 := HV.out.1 (by omega)
        have a2 : ¬ 0 ≤ v := by omega
        have a3 : (v == 0) = false := by simp only [beq_eq_false_iff_ne, ne_eq]; omega
        have a4 : v ≤ 0 := by omega
        have a5 : ¬ (ub : Int) < (ua : Int) := by omega
        clear a1 hv
        go_wp2_with fail
        go_meet
        exact ⟨rfl, rfl⟩
      · have a1 := HV.out.1 (by omega)
        have a2 := HV.out.2 (by omega)
        obtain rfl : ua = ub := by omega
        clear a1 a2
        subst hv
        go_wp2_with fail
        go_meet
        exact ⟨rfl, rfl⟩
      · have a1 := HV.out.2 (by omega)
        have a2 : ¬ v ≤ 0 := by omega
        have a3 : (v == 0) = false := by simp only [beq_eq_false_iff_ne, ne_eq]; omega
        have a4 : 0 ≤ v := by omega
        have a5 : ¬ (ua : Int) < (ub : Int) := by omega
        clear a1 hv
        go_wp2_with fail
        go_meet
        exact ⟨rfl, rfl⟩
    case rest =>
      obtain ⟨rfl, rfl⟩ := hcut
      have xCX := CX.out.cell 0
      have yCX := CX.out.frozen 0
      go_upto_region 11 with fail
      clear xCX yCX
      obtain ⟨wq, hwq⟩ : ∃ wq, wq = (wc.setCell ⟨w.heap.size, 0, none⟩ (.bool true)) := ⟨_, rfl⟩
      rw [← hwq]
      replace R1 := Lib.hid (show RdL wq _ _ by rw [hwq]; exact RdL.set1 (CX.out) (R1.out) _)
      replace R2 := Lib.hid (show RdL wq _ _ by rw [hwq]; exact RdL.set1 (CX.out) (R2.out) _)
      replace R3 := Lib.hid (show RdL wq _ _ by rw [hwq]; exact RdL.set1 (CX.out) (R3.out) _)
      replace R4 := Lib.hid (show RdL wq _ _ by rw [hwq]; exact RdL.set1 (CX.out) (R4.out) _)
      have CX_ := Lib.hid (show Blk wq (w.heap.size) 25 #[.bool true, .slice A xs.length c, .slice B ys.length d] by rw [hwq]; exact (CX.out).put 0 (.bool true))
      have CY_ := Lib.hid (show Blk wq (w.heap.size + 1) 25 #[.bool false, .slice A' xs'.length c', .slice B' ys'.length d'] by rw [hwq]; exact (CY.out).far (p := ⟨w.heap.size, 0, none⟩) (by simp) _)
      replace CX := CX_; clear CX_
      replace CY := CY_; clear CY_
      replace HW := Lib.hid (show Below w.heap.size w wq by rw [hwq]; exact bel_set (p := ⟨w.heap.size, 0, none⟩) (HW.out) (by show w.heap.size ≤ w.heap.size; omega) _)
      clear hwq
      clear CX0 CX1 CX2 CY0 CY1 CY2
      have CX0 : wq.cell? ⟨w.heap.size, 0, none⟩ = some (.bool true) := CX.out.cell 0
      have CX1 : wq.cell? ⟨w.heap.size, 1, none⟩ = some (.slice A xs.length c) := CX.out.cell 1
      have CX2 : wq.cell? ⟨w.heap.size, 2, none⟩ = some (.slice B ys.length d) := CX.out.cell 2
      have CY0 : wq.cell? ⟨w.heap.size + 1, 0, none⟩ = some (.bool false) := CY.out.cell 0
      have CY1 : wq.cell? ⟨w.heap.size + 1, 1, none⟩ = some (.slice A' xs'.length c') := CY.out.cell 1
      have CY2 : wq.cell? ⟨w.heap.size + 1, 2, none⟩ = some (.slice B' ys'.length d') := CY.out.cell 2
      go_wp2_with fail
      refine (HBZ.out _ R1.out R2.out).mono ?_
      rintro e w4 ⟨rfl, hbl⟩
      replace R1 := Lib.hid (R1.out.below hbl)
      replace R2 := Lib.hid (R2.out.below hbl)
      replace R3 := Lib.hid (R3.out.below hbl)
      replace R4 := Lib.hid (R4.out.below hbl)
      replace CX := Lib.hid (CX.out.below hbl CX.out.lt)
      replace CY := Lib.hid (CY.out.below hbl CY.out.lt)
      replace HW := Lib.hid (bel_trans HW.out hbl); clear hbl
      clear CX0 CX1 CX2 CY0 CY1 CY2
      have CX0 : w4.cell? ⟨w.heap.size, 0, none⟩ = some (.bool true) := CX.out.cell 0
      have CX1 : w4.cell? ⟨w.heap.size, 1, none⟩ = some (.slice A xs.length c) := CX.out.cell 1
      have CX2 : w4.cell? ⟨w.heap.size, 2, none⟩ = some (.slice B ys.length d) := CX.out.cell 2
      have CY0 : w4.cell? ⟨w.heap.size + 1, 0, none⟩ = some (.bool false) := CY.out.cell 0
      have CY1 : w4.cell? ⟨w.heap.size + 1, 1, none⟩ = some (.slice A' xs'.length c') := CY.out.cell 1
      have CY2 : w4.cell? ⟨w.heap.size + 1, 2, none⟩ = some (.slice B' ys'.length d') := CY.out.cell 2
      go_wp2_with fail
      refine (alive3 _).mono ?_
      rintro e w5 ⟨rfl, hbl⟩
      replace R1 := Lib.hid (R1.out.below hbl)
      replace R2 := Lib.hid (R2.out.below hbl)
      replace R3 := Lib.hid (R3.out.below hbl)
      replace R4 := Lib.hid (R4.out.below hbl)
      replace CX := Lib.hid (CX.out.below hbl CX.out.lt)
      replace CY := Lib.hid (CY.out.below hbl CY.out.lt)
      replace HW := Lib.hid (bel_trans HW.out hbl); clear hbl
      clear CX0 CX1 CX2 CY0 CY1 CY2
      have CX0 : w5.cell? ⟨w.heap.size, 0, none⟩ = some (.bool true) := CX.out.cell 0
      have CX1 : w5.cell? ⟨w.heap.size, 1, none⟩ = some (.slice A xs.length c) := CX.out.cell 1
      have CX2 : w5.cell? ⟨w.heap.size, 2, none⟩ = some (.slice B ys.length d) := CX.out.cell 2
      have CY0 : w5.cell? ⟨w.heap.size + 1, 0, none⟩ = some (.bool false) := CY.out.cell 0
      have CY1 : w5.cell? ⟨w.heap.size + 1, 1, none⟩ = some (.slice A' xs'.length c') := CY.out.cell 1
      have CY2 : w5.cell? ⟨w.heap.size + 1, 2, none⟩ = some (.slice B' ys'.length d') := CY.out.cell 2
      go_wp2
      go_ret
      exact ⟨rfl, HW.out⟩

set_option maxRecDepth 100000 in
set_option maxHeartbeats 1000000 in
theorem orders3_p {ua ub : Nat} {xa xb : Bool} {v : Int} {uz : Nat} {xz : Bool} (s s' : Bool) (A B A' B' : Option Addr) (c d c' d' : Nat) (x0 y0 x0' y0' xs ys xs' ys' : List Nat) (sz : Int) (w : World) (h1 : RdL w A x0) (h2 : RdL w B y0) (h3 : RdL w A' x0') (h4 : RdL w B' y0') (k1 : x0.length ≤ c) (k2 : y0.length ≤ d) (k3 : x0'.length ≤ c') (k4 : y0'.length ≤ d') (e1 : few x0 = xs) (e2 : few y0 = ys) (e3 : few x0' = xs') (e4 : few y0' = ys') (hba : ∀ w1, RdL w1 A xs → RdL w1 B ys → Calls Try.prog 12 #[.agg #[.bool false, .slice A xs.length c, .slice B ys.length d], .int .i64 sz] w1 (RetBits ua xa 0 w1)) (hbb : ∀ w1, RdL w1 A' xs' → RdL w1 B' ys' → Calls Try.prog 12 #[.agg #[.bool false, .slice A' xs'.length c', .slice B' ys'.length d'], .int .i64 sz] w1 (RetBits ub xb 0 w1)) (hcm : ∀ w1, RdL w1 A xs → RdL w1 B ys → RdL w1 A' xs' → RdL w1 B' ys' → Calls Try.prog 40 #[.agg #[.bool false, .slice A xs.length c, .slice B ys.length d], .agg #[.bool false, .slice A' xs'.length c', .slice B' ys'.length d']] w1 (RetIEB v 0 w1)) (hle : v ≤ 0 → ua ≤ ub) (hge : 0 ≤ v → ub ≤ ua) (hbz : ∀ w1, RdL w1 A xs → RdL w1 B ys → Calls Try.prog 12 #[.agg #[.bool true, .slice A xs.length c, .slice B ys.length d], .int .i64 sz] w1 (RetBits uz xz 0 w1)) (p q t G : Nat) (hf : Fm sz p q t) (hG : G = 2 ^ (sz.toNat - 1)) (ha0 : ua ≠ 0) (hor : bits BinOp.or IntKind.u64 (ua : Int) (G : Int) = (uz : Int)) :
    Calls Try.prog 7 #[.agg #[.bool s, .slice A x0.length c, .slice B y0.length d], .agg #[.bool s', .slice A' x0'.length c', .slice B' y0'.length d'], .int .i64 sz] w (RetT w) := by
  have HBA := Lib.hid hba; clear hba
  have HBB := Lib.hid hbb; clear hbb
  have HCM := Lib.hid hcm; clear hcm
  have HV := Lib.hid (And.intro hle hge); clear hle hge
  have HBZ := Lib.hid hbz; clear hbz
  have HF := Lib.hid (And.intro hf hG); clear hf hG
  have z1 : ((ua : Int) == 0) = false := by simp [ha0]
  have z2 : ¬ (ua : Int) = 0 := by omega
  clear ha0
  have R1 := Lib.hid (show RdL w A xs by rw [← e1]; exact h1.take 18); clear h1
  have R2 := Lib.hid (show RdL w B ys by rw [← e2]; exact h2.take 18); clear h2
  have R3 := Lib.hid (show RdL w A' xs' by rw [← e3]; exact h3.take 18); clear h3
  have R4 := Lib.hid (show RdL w B' ys' by rw [← e4]; exact h4.take 18); clear h4
  have F := Lib.hid (And.intro (And.intro k1 (And.intro k2 (And.intro e1 e2))) (And.intro k3 (And.intro k4 (And.intro e3 e4)))); clear k1 k2 k3 k4 e1 e2 e3 e4
  obtain ⟨wa, hwa⟩ : ∃ wa, wa = (w.alloc (.cells #[.bool s, .slice A x0.length c, .slice B y0.length d] 25)).alloc (.cells #[.bool s', .slice A' x0'.length c', .slice B' y0'.length d'] 25) := ⟨_, rfl⟩
  have hbl : Below w.heap.size w wa := by rw [hwa]; exact bel_alloc (bel_alloc (bel_refl _) _) _
  have CX : Blk wa (w.heap.size) 25 #[.bool s, .slice A x0.length c, .slice B y0.length d] := by
    have hz := Blk.new (w) 25 #[.bool s, .slice A x0.length c, .slice B y0.length d]
    rw [hwa]
    exact (hz.alloc _)
  have CY : Blk wa (w.heap.size + 1) 25 #[.bool s', .slice A' x0'.length c', .slice B' y0'.length d'] := by
    have hz := Blk.new (w.alloc (.cells #[.bool s, .slice A x0.length c, .slice B y0.length d] 25)) 25 #[.bool s', .slice A' x0'.length c', .slice B' y0'.length d']
    rw [World.size_alloc] at hz
    rw [hwa]
    exact hz
  replace R1 := Lib.hid (R1.out.below hbl)
  replace R2 := Lib.hid (R2.out.below hbl)
  replace R3 := Lib.hid (R3.out.below hbl)
  replace R4 := Lib.hid (R4.out.below hbl)
  have HW := Lib.hid hbl; clear hbl
  replace CX := Lib.hid CX
  replace CY := Lib.hid CY
  go_enter Try.func7, Try.ntmps7
  go_wp2_with fail
  rw [← hwa]
  clear hwa
  refine wp_region_typed 4 (TOf [VIs (.agg #[.bool s, .slice A x0.length c, .slice B y0.length d]),
      VIs (.agg #[.bool s, .slice A xs.length c, .slice B ys.length d]),
      VIs (.agg #[.bool s', .slice A' x0'.length c', .slice B' y0'.length d']),
      VIs (.agg #[.bool s', .slice A' xs'.length c', .slice B' ys'.length d'])]) (by kernel_rfl) (by kernel_rfl) (by kernel_rfl) (LiftAll.at_ (.cons (VIs.lift _) (.cons (VIs.lift _) (.cons (VIs.lift _) (.cons (VIs.lift _) .nil))))) (steps_all (steps_cons ?_ (steps_cons ?_ (steps_cons ?_ (steps_cons ?_ steps_zero))))) ?fin
  · intro a0 w9 K9 hF hB hK hC
    have b3 := hF.base (k := 3) (v := .pointer (some ⟨w.heap.size, 0, none⟩)) (by kernel_rfl) rfl
    have x90 : w9.cell? ⟨w.heap.size, 0, none⟩ = some (.bool s) := (CX.out.below hB CX.out.lt).cell 0
    have x91 : w9.cell? ⟨w.heap.size, 1, none⟩ = some (.slice A x0.length c) := (CX.out.below hB CX.out.lt).cell 1
    have x92 : w9.cell? ⟨w.heap.size, 2, none⟩ = some (.slice B y0.length d) := (CX.out.below hB CX.out.lt).cell 2
    clear hF hB hK
    go_simp
    exact hC _ _ (bel_refl _) fun _ _ => rfl
  · intro a0 w9 K9 hF hB hK hC
    obtain ⟨v18, e18, z18⟩ := dep hK 0 (g := .data) (j := 0) (k := 18) rfl rfl rfl
    have z18 : v18 = .agg #[.bool s, .slice A x0.length c, .slice B y0.length d] := z18
    subst z18
    have HB9 := Lib.hid hB
    clear hF hB hK
    go_simp
    refine (few3_is s A B c d x0 y0 xs ys _ F.out.1.1 F.out.1.2.1 F.out.1.2.2.1 F.out.1.2.2.2).mono ?_
    rintro e w7 ⟨rfl, hbl⟩
    exact hC _ _ hbl fun _ _ => rfl
  · intro a0 w9 K9 hF hB hK hC
    have b4 := hF.base (k := 4) (v := .pointer (some ⟨w.heap.size + 1, 0, none⟩)) (by kernel_rfl) rfl
    have x90 : w9.cell? ⟨w.heap.size + 1, 0, none⟩ = some (.bool s') := (CY.out.below hB CY.out.lt).cell 0
    have x91 : w9.cell? ⟨w.heap.size + 1, 1, none⟩ = some (.slice A' x0'.length c') := (CY.out.below hB CY.out.lt).cell 1
    have x92 : w9.cell? ⟨w.heap.size + 1, 2, none⟩ = some (.slice B' y0'.length d') := (CY.out.below hB CY.out.lt).cell 2
    clear hF hB hK
    go_simp
    exact hC _ _ (bel_refl _) fun _ _ => rfl
  · intro a0 w9 K9 hF hB hK hC
    obtain ⟨v20, e20, z20⟩ := dep hK 0 (g := .data) (j := 2) (k := 20) rfl rfl rfl
    have z20 : v20 = .agg #[.bool s', .slice A' x0'.length c', .slice B' y0'.length d'] := z20
    subst z20
    have HB9 := Lib.hid hB
    clear hF hB hK
    go_simp
    refine (few3_is s' A' B' c' d' x0' y0' xs' ys' _ F.out.2.1 F.out.2.2.1 F.out.2.2.2.1 F.out.2.2.2.2).mono ?_
    rintro e w7 ⟨rfl, hbl⟩
    exact hC _ _ hbl fun _ _ => rfl
  case fin =>
    intro a0 w9 hF hB hK
    have b2 := hF.base (k := 2) (v := .int .i64 sz) (by kernel_rfl) rfl
    have b3 := hF.base (k := 3) (v := .pointer (some ⟨w.heap.size, 0, none⟩)) (by kernel_rfl) rfl
    have b4 := hF.base (k := 4) (v := .pointer (some ⟨w.heap.size + 1, 0, none⟩)) (by kernel_rfl) rfl
    have hsz := hF.size
    have hdf := hF.defers
    clear hF
    obtain ⟨v19, e19, z19⟩ := known hK 1 (k := 19) (by decide) rfl
    have z19 : v19 = .agg #[.bool s, .slice A xs.length c, .slice B ys.length d] := z19
    subst z19
    obtain ⟨v21, e21, z21⟩ := known hK 3 (k := 21) (by decide) rfl
    have z21 : v21 = .agg #[.bool s', .slice A' xs'.length c', .slice B' ys'.length d'] := z21
    subst z21
    clear hK
    obtain ⟨⟨l0⟩, df⟩ := a0
    have hs0 : l0.length = 114 := hsz
    clear hsz
    replace hdf : df = _ := hdf
    subst hdf
    obtain ⟨u, rfl⟩ := lits_114 hs0
    clear hs0
    generalize hAr : (Array.mk [u 0, u 1, u 2, u 3, u 4, u 5, u 6, u 7, u 8, u 9, u 10, u 11, u 12, u 13, u 14, u 15, u 16, u 17, u 18, u 19, u 20, u 21, u 22, u 23, u 24, u 25, u 26, u 27, u 28, u 29, u 30, u 31, u 32, u 33, u 34, u 35, u 36, u 37, u 38, u 39, u 40, u 41, u 42, u 43, u 44, u 45, u 46, u 47, u 48, u 49, u 50, u 51, u 52, u 53, u 54, u 55, u 56, u 57, u 58, u 59, u 60, u 61, u 62, u 63, u 64, u 65, u 66, u 67, u 68, u 69, u 70, u 71, u 72, u 73, u 74, u 75, u 76, u 77, u 78, u 79, u 80, u 81, u 82, u 83, u 84, u 85, u 86, u 87, u 88, u 89, u 90, u 91, u 92, u 93, u 94, u 95, u 96, u 97, u 98, u 99, u 100, u 101, u 102, u 103, u 104, u 105, u 106, u 107, u 108, u 109, u 110, u 111, u 112, u 113] : Array Value) = ar
    obtain rfl : ar = #[u 0, u 1, u 2, u 3, u 4, u 5, u 6, u 7, u 8, u 9, u 10, u 11, u 12, u 13, u 14, u 15, u 16, u 17, u 18, u 19, u 20, u 21, u 22, u 23, u 24, u 25, u 26, u 27, u 28, u 29, u 30, u 31, u 32, u 33, u 34, u 35, u 36, u 37, u 38, u 39, u 40, u 41, u 42, u 43, u 44, u 45, u 46, u 47, u 48, u 49, u 50, u 51, u 52, u 53, u 54, u 55, u 56, u 57, u 58, u 59, u 60, u 61, u 62, u 63, u 64, u 65, u 66, u 67, u 68, u 69, u 70, u 71, u 72, u 73, u 74, u 75, u 76, u 77, u 78, u 79, u 80, u 81, u 82, u 83, u 84, u 85, u 86, u 87, u 88, u 89, u 90, u 91, u 92, u 93, u 94, u 95, u 96, u 97, u 98, u 99, u 100, u 101, u 102, u 103, u 104, u 105, u 106, u 107, u 108, u 109, u 110, u 111, u 112, u 113] := hAr.symm
    have q2 : u 2 = _ := Option.some.inj b2
    clear b2
    have q3 : u 3 = _ := Option.some.inj b3
    clear b3
    have q4 : u 4 = _ := Option.some.inj b4
    clear b4
    have q19 : u 19 = _ := Option.some.inj e19
    clear e19
    have q21 : u 21 = _ := Option.some.inj e21
    clear e21
    rw [q2, q3, q4, q19, q21]
    clear q2 q3 q4 q19 q21
    have hbl := hB; clear hB
    replace R1 := Lib.hid (R1.out.below hbl)
    replace R2 := Lib.hid (R2.out.below hbl)
    replace R3 := Lib.hid (R3.out.below hbl)
    replace R4 := Lib.hid (R4.out.below hbl)
    replace CX := Lib.hid (CX.out.below hbl CX.out.lt)
    replace CY := Lib.hid (CY.out.below hbl CY.out.lt)
    replace HW := Lib.hid (bel_trans HW.out hbl); clear hbl
    simp only [List.drop_succ_cons, List.drop_zero]
    have pd0 := CX.out.cell 0
    have pf0 := CX.out.frozen 0
    have pd1 := CX.out.cell 1
    have pf1 := CX.out.frozen 1
    have pd2 := CX.out.cell 2
    have pf2 := CX.out.frozen 2
    have qd0 := CY.out.cell 0
    have qf0 := CY.out.frozen 0
    have qd1 := CY.out.cell 1
    have qf1 := CY.out.frozen 1
    have qd2 := CY.out.cell 2
    have qf2 := CY.out.frozen 2
    go_upto_region 2 with fail
    clear pd0 pf0 pd1 pf1 pd2 pf2 qd0 qf0 qd1 qf1 qd2 qf2
    obtain ⟨wf, hwf⟩ : ∃ wf, wf = ((((((w9.setCell ⟨w.heap.size, 0, none⟩ (.bool s)).setCell ⟨w.heap.size, 1, none⟩ (.slice A xs.length c)).setCell ⟨w.heap.size, 2, none⟩ (.slice B ys.length d)).setCell ⟨w.heap.size + 1, 0, none⟩ (.bool s')).setCell ⟨w.heap.size + 1, 1, none⟩ (.slice A' xs'.length c')).setCell ⟨w.heap.size + 1, 2, none⟩ (.slice B' ys'.length d')) := ⟨_, rfl⟩
    rw [← hwf]
    replace R1 := Lib.hid (show RdL wf _ _ by rw [hwf]; exact RdL.set3 ((((CY.out).far (p := ⟨w.heap.size, 0, none⟩) (by simp) _).far (p := ⟨w.heap.size, 1, none⟩) (by simp) _).far (p := ⟨w.heap.size, 2, none⟩) (by simp) _) (RdL.set3 (CX.out) (R1.out) _ _ _) _ _ _)
    replace R2 := Lib.hid (show RdL wf _ _ by rw [hwf]; exact RdL.set3 ((((CY.out).far (p := ⟨w.heap.size, 0, none⟩) (by simp) _).far (p := ⟨w.heap.size, 1, none⟩) (by simp) _).far (p := ⟨w.heap.size, 2, none⟩) (by simp) _) (RdL.set3 (CX.out) (R2.out) _ _ _) _ _ _)
    replace R3 := Lib.hid (show RdL wf _ _ by rw [hwf]; exact RdL.set3 ((((CY.out).far (p := ⟨w.heap.size, 0, none⟩) (by simp) _).far (p := ⟨w.heap.size, 1, none⟩) (by simp) _).far (p := ⟨w.heap.size, 2, none⟩) (by simp) _) (RdL.set3 (CX.out) (R3.out) _ _ _) _ _ _)
    replace R4 := Lib.hid (show RdL wf _ _ by rw [hwf]; exact RdL.set3 ((((CY.out).far (p := ⟨w.heap.size, 0, none⟩) (by simp) _).far (p := ⟨w.heap.size, 1, none⟩) (by simp) _).far (p := ⟨w.heap.size, 2, none⟩) (by simp) _) (RdL.set3 (CX.out) (R4.out) _ _ _) _ _ _)
    have CX_ := Lib.hid (show Blk wf (w.heap.size) 25 #[.bool s, .slice A xs.length c, .slice B ys.length d] by rw [hwf]; exact ((((((CX.out).put 0 (.bool s)).put 1 (.slice A xs.length c)).put 2 (.slice B ys.length d)).far (p := ⟨w.heap.size + 1, 0, none⟩) (by simp) _).far (p := ⟨w.heap.size + 1, 1, none⟩) (by simp) _).far (p := ⟨w.heap.size + 1, 2, none⟩) (by simp) _)
    have CY_ := Lib.hid (show Blk wf (w.heap.size + 1) 25 #[.bool s', .slice A' xs'.length c', .slice B' ys'.length d'] by rw [hwf]; exact ((((((CY.out).far (p := ⟨w.heap.size, 0, none⟩) (by simp) _).far (p := ⟨w.heap.size, 1, none⟩) (by simp) _).far (p := ⟨w.heap.size, 2, none⟩) (by simp) _).put 0 (.bool s')).put 1 (.slice A' xs'.length c')).put 2 (.slice B' ys'.length d'))
    replace CX := CX_; clear CX_
    replace CY := CY_; clear CY_
    replace HW := Lib.hid (show Below w.heap.size w wf by rw [hwf]; exact bel_set (p := ⟨w.heap.size + 1, 2, none⟩) (bel_set (p := ⟨w.heap.size + 1, 1, none⟩) (bel_set (p := ⟨w.heap.size + 1, 0, none⟩) (bel_set (p := ⟨w.heap.size, 2, none⟩) (bel_set (p := ⟨w.heap.size, 1, none⟩) (bel_set (p := ⟨w.heap.size, 0, none⟩) (HW.out) (by show w.heap.size ≤ w.heap.size; omega) _) (by show w.heap.size ≤ w.heap.size; omega) _) (by show w.heap.size ≤ w.heap.size; omega) _) (by show w.heap.size ≤ w.heap.size + 1; omega) _) (by show w.heap.size ≤ w.heap.size + 1; omega) _) (by show w.heap.size ≤ w.heap.size + 1; omega) _)
    clear hwf
    have CX0 : wf.cell? ⟨w.heap.size, 0, none⟩ = some (.bool s) := CX.out.cell 0
    have CX1 : wf.cell? ⟨w.heap.size, 1, none⟩ = some (.slice A xs.length c) := CX.out.cell 1
    have CX2 : wf.cell? ⟨w.heap.size, 2, none⟩ = some (.slice B ys.length d) := CX.out.cell 2
    have CY0 : wf.cell? ⟨w.heap.size + 1, 0, none⟩ = some (.bool s') := CY.out.cell 0
    have CY1 : wf.cell? ⟨w.heap.size + 1, 1, none⟩ = some (.slice A' xs'.length c') := CY.out.cell 1
    have CY2 : wf.cell? ⟨w.heap.size + 1, 2, none⟩ = some (.slice B' ys'.length d') := CY.out.cell 2
    have xCX := CX.out.cell 0
    have yCX := CX.out.frozen 0
    have xCY := CY.out.cell 0
    have yCY := CY.out.frozen 0
    go_upto_region 3 with fail
    clear xCX yCX xCY yCY
    obtain ⟨wn, hwn⟩ : ∃ wn, wn = ((wf.setCell ⟨w.heap.size, 0, none⟩ (.bool false)).setCell ⟨w.heap.size + 1, 0, none⟩ (.bool false)) := ⟨_, rfl⟩
    rw [← hwn]
    replace R1 := Lib.hid (show RdL wn _ _ by rw [hwn]; exact RdL.set1 ((CY.out).far (p := ⟨w.heap.size, 0, none⟩) (by simp) _) (RdL.set1 (CX.out) (R1.out) _) _)
    replace R2 := Lib.hid (show RdL wn _ _ by rw [hwn]; exact RdL.set1 ((CY.out).far (p := ⟨w.heap.size, 0, none⟩) (by simp) _) (RdL.set1 (CX.out) (R2.out) _) _)
    replace R3 := Lib.hid (show RdL wn _ _ by rw [hwn]; exact RdL.set1 ((CY.out).far (p := ⟨w.heap.size, 0, none⟩) (by simp) _) (RdL.set1 (CX.out) (R3.out) _) _)
    replace R4 := Lib.hid (show RdL wn _ _ by rw [hwn]; exact RdL.set1 ((CY.out).far (p := ⟨w.heap.size, 0, none⟩) (by simp) _) (RdL.set1 (CX.out) (R4.out) _) _)
    have CX_ := Lib.hid (show Blk wn (w.heap.size) 25 #[.bool false, .slice A xs.length c, .slice B ys.length d] by rw [hwn]; exact ((CX.out).put 0 (.bool false)).far (p := ⟨w.heap.size + 1, 0, none⟩) (by simp) _)
    have CY_ := Lib.hid (show Blk wn (w.heap.size + 1) 25 #[.bool false, .slice A' xs'.length c', .slice B' ys'.length d'] by rw [hwn]; exact ((CY.out).far (p := ⟨w.heap.size, 0, none⟩) (by simp) _).put 0 (.bool false))
    replace CX := CX_; clear CX_
    replace CY := CY_; clear CY_
    replace HW := Lib.hid (show Below w.heap.size w wn by rw [hwn]; exact bel_set (p := ⟨w.heap.size + 1, 0, none⟩) (bel_set (p := ⟨w.heap.size, 0, none⟩) (HW.out) (by show w.heap.size ≤ w.heap.size; omega) _) (by show w.heap.size ≤ w.heap.size + 1; omega) _)
    clear hwn
    clear CX0 CX1 CX2 CY0 CY1 CY2
    have CX0 : wn.cell? ⟨w.heap.size, 0, none⟩ = some (.bool false) := CX.out.cell 0
    have CX1 : wn.cell? ⟨w.heap.size, 1, none⟩ = some (.slice A xs.length c) := CX.out.cell 1
    have CX2 : wn.cell? ⟨w.heap.size, 2, none⟩ = some (.slice B ys.length d) := CX.out.cell 2
    have CY0 : wn.cell? ⟨w.heap.size + 1, 0, none⟩ = some (.bool false) := CY.out.cell 0
    have CY1 : wn.cell? ⟨w.heap.size + 1, 1, none⟩ = some (.slice A' xs'.length c') := CY.out.cell 1
    have CY2 : wn.cell? ⟨w.heap.size + 1, 2, none⟩ = some (.slice B' ys'.length d') := CY.out.cell 2
    go_wp2_with fail
    refine (HBA.out _ R1.out R2.out).mono ?_
    rintro e w1 ⟨rfl, hbl⟩
    replace R1 := Lib.hid (R1.out.below hbl)
    replace R2 := Lib.hid (R2.out.below hbl)
    replace R3 := Lib.hid (R3.out.below hbl)
    replace R4 := Lib.hid (R4.out.below hbl)
    replace CX := Lib.hid (CX.out.below hbl CX.out.lt)
    replace CY := Lib.hid (CY.out.below hbl CY.out.lt)
    replace HW := Lib.hid (bel_trans HW.out hbl); clear hbl
    clear CX0 CX1 CX2 CY0 CY1 CY2
    have CX0 : w1.cell? ⟨w.heap.size, 0, none⟩ = some (.bool false) := CX.out.cell 0
    have CX1 : w1.cell? ⟨w.heap.size, 1, none⟩ = some (.slice A xs.length c) := CX.out.cell 1
    have CX2 : w1.cell? ⟨w.heap.size, 2, none⟩ = some (.slice B ys.length d) := CX.out.cell 2
    have CY0 : w1.cell? ⟨w.heap.size + 1, 0, none⟩ = some (.bool false) := CY.out.cell 0
    have CY1 : w1.cell? ⟨w.heap.size + 1, 1, none⟩ = some (.slice A' xs'.length c') := CY.out.cell 1
    have CY2 : w1.cell? ⟨w.heap.size + 1, 2, none⟩ = some (.slice B' ys'.length d') := CY.out.cell 2
    go_wp2_with fail
    refine (HBB.out _ R3.out R4.out).mono ?_
    rintro e w2 ⟨rfl, hbl⟩
    replace R1 := Lib.hid (R1.out.below hbl)
    replace R2 := Lib.hid (R2.out.below hbl)
    replace R3 := Lib.hid (R3.out.below hbl)
    replace R4 := Lib.hid (R4.out.below hbl)
    replace CX := Lib.hid (CX.out.below hbl CX.out.lt)
    replace CY := Lib.hid (CY.out.below hbl CY.out.lt)
    replace HW := Lib.hid (bel_trans HW.out hbl); clear hbl
    clear CX0 CX1 CX2 CY0 CY1 CY2
    have CX0 : w2.cell? ⟨w.heap.size, 0, none⟩ = some (.bool false) := CX.out.cell 0
    have CX1 : w2.cell? ⟨w.heap.size, 1, none⟩ = some (.slice A xs.length c) := CX.out.cell 1
    have CX2 : w2.cell? ⟨w.heap.size, 2, none⟩ = some (.slice B ys.length d) := CX.out.cell 2
    have CY0 : w2.cell? ⟨w.heap.size + 1, 0, none⟩ = some (.bool false) := CY.out.cell 0
    have CY1 : w2.cell? ⟨w.heap.size + 1, 1, none⟩ = some (.slice A' xs'.length c') := CY.out.cell 1
    have CY2 : w2.cell? ⟨w.heap.size + 1, 2, none⟩ = some (.slice B' ys'.length d') := CY.out.cell 2
    go_wp2_with fail
    refine (HCM.out _ R1.out R2.out R3.out R4.out).mono ?_
    rintro e w3 ⟨rfl, hbl⟩
    replace R1 := Lib.hid (R1.out.below hbl)
    replace R2 := Lib.hid (R2.out.below hbl)
    replace R3 := Lib.hid (R3.out.below hbl)
    replace R4 := Lib.hid (R4.out.below hbl)
    replace CX := Lib.hid (CX.out.below hbl CX.out.lt)
    replace CY := Lib.hid (CY.out.below hbl CY.out.lt)
    replace HW := Lib.hid (bel_trans HW.out hbl); clear hbl
    clear CX0 CX1 CX2 CY0 CY1 CY2
    have CX0 : w3.cell? ⟨w.heap.size, 0, none⟩ = some (.bool false) := CX.out.cell 0
    have CX1 : w3.cell? ⟨w.heap.size, 1, none⟩ = some (.slice A xs.length c) := CX.out.cell 1
    have CX2 : w3.cell? ⟨w.heap.size, 2, none⟩ = some (.slice B ys.length d) := CX.out.cell 2
    have CY0 : w3.cell? ⟨w.heap.size + 1, 0, none⟩ = some (.bool false) := CY.out.cell 0
    have CY1 : w3.cell? ⟨w.heap.size + 1, 1, none⟩ = some (.slice A' xs'.length c') := CY.out.cell 1
    have CY2 : w3.cell? ⟨w.heap.size + 1, 2, none⟩ = some (.slice B' ys'.length d') := CY.out.cell 2
    go_upto_region 8 with fail
    go_cut [79] (fun v9 wx => v9 = .bool false ∧ wx = w3)
    case first =>
      rcases Int.lt_trichotomy v 0 with hv | hv | hv
      · have a1 := HV.out.1 (by omega)
        have a2 : ¬ 0 ≤ v := by omega
        have a3 : (v == 0) = false := by simp only [beq_eq_false_iff_ne, ne_eq]; omega
        have a4 : v ≤ 0 := by omega
        have a5 : ¬ (ub : Int) < (ua : Int) := by omega
        clear a1 hv
        go_wp2_with fail
        go_meet
        exact ⟨rfl, rfl⟩
      · have a1 := HV.out.1 (by omega)
        have a2 := HV.out.2 (by omega)
        obtain rfl : ua = ub := by omega
        clear a1 a2
        subst hv
        go_wp2_with fail
        go_meet
        exact ⟨rfl, rfl⟩
      · have a1 := HV.out.2 (by omega)
        have a2 : ¬ v ≤ 0 := by omega
        have a3 : (v == 0) = false := by simp only [beq_eq_false_iff_ne, ne_eq]; omega
        have a4 : 0 ≤ v := by omega
        have a5 : ¬ (ua : Int) < (ub : Int) := by omega
        clear a1 hv
        go_wp2_with fail
        go_meet
        exact ⟨rfl, rfl⟩
    case rest =>
      obtain ⟨rfl, rfl⟩ := hcut
      have xCX := CX.out.cell 0
      have yCX := CX.out.frozen 0
      go_upto_region 11 with fail
      clear xCX yCX
      obtain ⟨wq, hwq⟩ : ∃ wq, wq = (wc.setCell ⟨w.heap.size, 0, none⟩ (.bool true)) := ⟨_, rfl⟩
      rw [← hwq]
      replace R1 := Lib.hid (show RdL wq _ _ by rw [hwq]; exact RdL.set1 (CX.out) (R1.out) _)
      replace R2 := Lib.hid (show RdL wq _ _ by rw [hwq]; exact RdL.set1 (CX.out) (R2.out) _)
      replace R3 := Lib.hid (show RdL wq _ _ by rw [hwq]; exact RdL.set1 (CX.out) (R3.out) _)
      replace R4 := Lib.hid (show RdL wq _ _ by rw [hwq]; exact RdL.set1 (CX.out) (R4.out) _)
      have CX_ := Lib.hid (show Blk wq (w.heap.size) 25 #[.bool true, .slice A xs.length c, .slice B ys.length d] by rw [hwq]; exact (CX.out).put 0 (.bool true))
      have CY_ := Lib.hid (show Blk wq (w.heap.size + 1) 25 #[.bool false, .slice A' xs'.length c', .slice B' ys'.length d'] by rw [hwq]; exact (CY.out).far (p := ⟨w.heap.size, 0, none⟩) (by simp) _)
      replace CX := CX_; clear CX_
      replace CY := CY_; clear CY_
      replace HW := Lib.hid (show Below w.heap.size w wq by rw [hwq]; exact bel_set (p := ⟨w.heap.size, 0, none⟩) (HW.out) (by show w.heap.size ≤ w.heap.size; omega) _)
      clear hwq
      clear CX0 CX1 CX2 CY0 CY1 CY2
      have CX0 : wq.cell? ⟨w.heap.size, 0, none⟩ = some (.bool true) := CX.out.cell 0
      have CX1 : wq.cell? ⟨w.heap.size, 1, none⟩ = some (.slice A xs.length c) := CX.out.cell 1
      have CX2 : wq.cell? ⟨w.heap.size, 2, none⟩ = some (.slice B ys.length d) := CX.out.cell 2
      have CY0 : wq.cell? ⟨w.heap.size + 1, 0, none⟩ = some (.bool false) := CY.out.cell 0
      have CY1 : wq.cell? ⟨w.heap.size + 1, 1, none⟩ = some (.slice A' xs'.length c') := CY.out.cell 1
      have CY2 : wq.cell? ⟨w.heap.size + 1, 2, none⟩ = some (.slice B' ys'.length d') := CY.out.cell 2
      go_wp2_with fail
      refine (HBZ.out _ R1.out R2.out).mono ?_
      rintro e w4 ⟨rfl, hbl⟩
      replace R1 := Lib.hid (R1.out.below hbl)
      replace R2 := Lib.hid (R2.out.below hbl)
      replace R3 := Lib.hid (R3.out.below hbl)
      replace R4 := Lib.hid (R4.out.below hbl)
      replace CX := Lib.hid (CX.out.below hbl CX.out.lt)
      replace CY := Lib.hid (CY.out.below hbl CY.out.lt)
      replace HW := Lib.hid (bel_trans HW.out hbl); clear hbl
      clear CX0 CX1 CX2 CY0 CY1 CY2
      have CX0 : w4.cell? ⟨w.heap.size, 0, none⟩ = some (.bool true) := CX.out.cell 0
      have CX1 : w4.cell? ⟨w.heap.size, 1, none⟩ = some (.slice A xs.length c) := CX.out.cell 1
      have CX2 : w4.cell? ⟨w.heap.size, 2, none⟩ = some (.slice B ys.length d) := CX.out.cell 2
      have CY0 : w4.cell? ⟨w.heap.size + 1, 0, none⟩ = some (.bool false) := CY.out.cell 0
      have CY1 : w4.cell? ⟨w.heap.size + 1, 1, none⟩ = some (.slice A' xs'.length c') := CY.out.cell 1
      have CY2 : w4.cell? ⟨w.heap.size + 1, 2, none⟩ = some (.slice B' ys'.length d') := CY.out.cell 2
      go_wp2_with fail
      refine (alive3 _).mono ?_
      rintro e w5 ⟨rfl, hbl⟩
      replace R1 := Lib.hid (R1.out.below hbl)
      replace R2 := Lib.hid (R2.out.below hbl)
      replace R3 := Lib.hid (R3.out.below hbl)
      replace R4 := Lib.hid (R4.out.below hbl)
      replace CX := Lib.hid (CX.out.below hbl CX.out.lt)
      replace CY := Lib.hid (CY.out.below hbl CY.out.lt)
      replace HW := Lib.hid (bel_trans HW.out hbl); clear hbl
      clear CX0 CX1 CX2 CY0 CY1 CY2
      have CX0 : w5.cell? ⟨w.heap.size, 0, none⟩ = some (.bool true) := CX.out.cell 0
      have CX1 : w5.cell? ⟨w.heap.size, 1, none⟩ = some (.slice A xs.length c) := CX.out.cell 1
      have CX2 : w5.cell? ⟨w.heap.size, 2, none⟩ = some (.slice B ys.length d) := CX.out.cell 2
      have CY0 : w5.cell? ⟨w.heap.size + 1, 0, none⟩ = some (.bool false) := CY.out.cell 0
      have CY1 : w5.cell? ⟨w.heap.size + 1, 1, none⟩ = some (.slice A' xs'.length c') := CY.out.cell 1
      have CY2 : w5.cell? ⟨w.heap.size + 1, 2, none⟩ = some (.slice B' ys'.length d') := CY.out.cell 2
      go_wp2_with fail
      refine (high3_any HF.out.1 _ HF.out.2).mono ?_
      rintro e w6 ⟨rfl, hbl⟩
      replace R1 := Lib.hid (R1.out.below hbl)
      replace R2 := Lib.hid (R2.out.below hbl)
      replace R3 := Lib.hid (R3.out.below hbl)
      replace R4 := Lib.hid (R4.out.below hbl)
      replace CX := Lib.hid (CX.out.below hbl CX.out.lt)
      replace CY := Lib.hid (CY.out.below hbl CY.out.lt)
      replace HW := Lib.hid (bel_trans HW.out hbl); clear hbl
      clear CX0 CX1 CX2 CY0 CY1 CY2
      have CX0 : w6.cell? ⟨w.heap.size, 0, none⟩ = some (.bool true) := CX.out.cell 0
      have CX1 : w6.cell? ⟨w.heap.size, 1, none⟩ = some (.slice A xs.length c) := CX.out.cell 1
      have CX2 : w6.cell? ⟨w.heap.size, 2, none⟩ = some (.slice B ys.length d) := CX.out.cell 2
      have CY0 : w6.cell? ⟨w.heap.size + 1, 0, none⟩ = some (.bool false) := CY.out.cell 0
      have CY1 : w6.cell? ⟨w.heap.size + 1, 1, none⟩ = some (.slice A' xs'.length c') := CY.out.cell 1
      have CY2 : w6.cell? ⟨w.heap.size + 1, 2, none⟩ = some (.slice B' ys'.length d') := CY.out.cell 2
      go_wp2
      go_ret
      exact ⟨rfl, HW.out⟩

theorem law_orders3 (s s' : Bool) (A B A' B' : Option Addr) (c d c' d' : Nat) (x0 y0 x0' y0' : List Nat) (sz : Int) (w : World) (h1 : RdL w A x0) (h2 : RdL w B y0) (h3 : RdL w A' x0') (h4 : RdL w B' y0') (k1 : x0.length ≤ c) (k2 : y0.length ≤ d) (k3 : x0'.length ≤ c') (k4 : y0'.length ≤ d') (m1 : Lim x0) (m2 : Lim y0) (m3 : Lim x0') (m4 : Lim y0') :
    Calls Try.prog 7 #[.agg #[.bool s, .slice A x0.length c, .slice B y0.length d], .agg #[.bool s', .slice A' x0'.length c', .slice B' y0'.length d'], .int .i64 sz] w (RetT w) := by
  have l1 := Nat.le_trans (few_short x0) k1
  have l2 := Nat.le_trans (few_short y0) k2
  have l3 := Nat.le_trans (few_short x0') k3
  have l4 := Nat.le_trans (few_short y0') k4
  obtain ⟨ua, xa, ea, ba, hba⟩ := bits_ans false A B c d (few x0) (few y0) sz (few_lim m1) (few_lim m2) (few_le _) (few_le _) l1 l2
  obtain ⟨ub, xb, eb, bb, hbb⟩ := bits_ans false A' B' c' d' (few x0') (few y0') sz (few_lim m3) (few_lim m4) (few_le _) (few_le _) l3 l4
  obtain ⟨v, g, bg, hcm⟩ := cmp_ans A B A' B' c d c' d' (few x0) (few y0) (few x0') (few y0') (few_lim m1) (few_lim m2) (few_lim m3) (few_lim m4) (few_le _) (few_le _) (few_le _) (few_le _) l1 l2 l3 l4
  obtain ⟨uz, xz, ez, bz, hbz⟩ := bits_ans true A B c d (few x0) (few y0) sz (few_lim m1) (few_lim m2) (few_le _) (few_le _) l1 l2
  by_cases hea : ea ≠ 0
  · exact orders3_a s s' A B A' B' c d c' d' x0 y0 x0' y0' _ _ _ _ sz w h1 h2 h3 h4 k1 k2 k3 k4 rfl rfl rfl rfl hba hbb hcm hea
  obtain rfl : ea = 0 := by omega
  by_cases heb : eb ≠ 0
  · exact orders3_b s s' A B A' B' c d c' d' x0 y0 x0' y0' _ _ _ _ sz w h1 h2 h3 h4 k1 k2 k3 k4 rfl rfl rfl rfl hba hbb hcm heb
  obtain rfl : eb = 0 := by omega
  by_cases hg : g ≠ 0
  · exact orders3_c s s' A B A' B' c d c' d' x0 y0 x0' y0' _ _ _ _ sz w h1 h2 h3 h4 k1 k2 k3 k4 rfl rfl rfl rfl hba hbb hcm hg
  obtain rfl : g = 0 := by omega
  obtain ⟨p, q, t, n, d0, ca, hf, ex, ey, hn, hd, hq, hca, hoa, hua⟩ := ba.good rfl
  obtain ⟨p', q', t', m, f0, cb, hf', ex', ey', hm, hfd, hp, hcb, hob, hub⟩ := bb.good rfl
  obtain ⟨rfl, rfl, rfl⟩ := hf.same hf'
  have hv := bg rfl n d0 m f0 ex ey ex' ey'
  have hd0 := Nat.pos_of_ne_zero hq.den
  have hf0 := Nat.pos_of_ne_zero hp.den
  have hua2 : ua = ca := by rw [hua]; unfold sgn; rw [if_neg (by simp)]
  have hub2 : ub = cb := by rw [hub]; unfold sgn; rw [if_neg (by simp)]
  have hle : v ≤ 0 → ua ≤ ub := fun h => by
    rw [hv, cmpI_nonpos3] at h
    rw [hua2, hub2]
    exact hca.mono hcb hd0 hf0 h
  have hge : 0 ≤ v → ub ≤ ua := fun h => by
    rw [hv, cmpI_nonneg3] at h
    rw [hua2, hub2]
    exact hcb.mono hca hf0 hd0 h
  by_cases hez : ez = 0
  · subst hez
    obtain ⟨p', q', t', n', d', cz, hf', ex', ey', hn', hd', hq', hcz, hoz, huz⟩ := bz.good rfl
    obtain ⟨rfl, rfl, rfl⟩ := hf.same hf'
    obtain rfl := limbs_inj.1 (ex.symm.trans ex')
    obtain rfl := limbs_inj.1 (ey.symm.trans ey')
    obtain ⟨rfl, -⟩ := hca.uniq hcz hd0
    by_cases h0 : ua = 0
    · exact orders3_z s s' A B A' B' c d c' _ x0 y0 x0' y0' _ _ _ _ sz w h1 h2 h3 h4 k1 k2 k3 k4 rfl rfl rfl rfl hba hbb hcm hle hge hbz h0 (by rw [huz]; unfold sgn; rw [if_neg (by simp [← hua2, h0])]; omega)
    · obtain ⟨z, hz3⟩ : ∃ z : Nat, sz = (z : Int) + 1 := ⟨sz.toNat - 1, by have := hf.ok; omega⟩
      have hlt := fit_code hf hz3 hoa
      have hz63 : z ≤ 63 := by have := hf.ok; omega
      have hzz : sz.toNat - 1 = z := by omega
      refine orders3_p s s' A B A' B' c d c' _ x0 y0 x0' y0' _ _ _ _ sz w h1 h2 h3 h4 k1 k2 k3 k4 rfl rfl rfl rfl hba hbb hcm hle hge hbz p q t (2 ^ (sz.toNat - 1)) hf rfl h0 ?_
      rw [hua2, or_high hlt hz63 (by rw [hzz]), huz]
      unfold sgn
      rw [if_pos ⟨rfl, by rw [← hua2]; exact h0⟩]
  · refine orders3_e s s' A B A' B' c d c' d' x0 y0 x0' y0' _ _ _ _ sz w h1 h2 h3 h4 k1 k2 k3 k4 rfl rfl rfl rfl hba hbb hcm hle hge hbz hez ?_
    by_cases h0 : n = 0
    · rw [ex, h0]; rfl
    · exfalso
      have hqt : QR ⟨true, n, d0⟩ := ⟨hq.den, fun h => absurd h h0, hq.co⟩
      exact hez (bz.sure hf ex ey hn hd hqt hca hoa)
end Go.Proofs.Ytmbbdjpnecjleaa
