/-
  rat.Trunc, rat.Cmp, walked.
-/
import Derived.Test.YtmbbdjpnecjleaaQC
namespace Go.Proofs.Ytmbbdjpnecjleaa
open Go.RowKit

set_option maxRecDepth 100000 in
set_option maxHeartbeats 1000000 in
theorem trunc_bad (s : Bool) (A B : Option Addr) (c d : Nat) (xs ys : List Nat) (w : World) (h : RdL w A xs) (h' : RdL w B ys) (hx : Lim xs) (hy : Lim ys) (hl : xs.length ≤ 18) (hl' : ys.length ≤ 18) (hc : xs.length ≤ c) (hc' : ys.length ≤ d) (hr : rightB s xs ys = false) :
    Calls Try.prog 41 #[.agg #[.bool s, .slice A xs.length c, .slice B ys.length d]] w (RetQE noQ 1 w) := by
  have HL := Lib.hid (And.intro hx (And.intro hy (And.intro hc hc'))); clear hx hy hc hc'
  have HR := Lib.hid hr; clear hr
  have RA := Lib.hid h; clear h
  have RB := Lib.hid h'; clear h'
  obtain ⟨wa, hwa⟩ : ∃ wa, wa = (w.alloc (.cells #[.bool s, .slice A xs.length c, .slice B ys.length d] 25)).alloc (.cells #[.bool false, .slice none 0 0, .slice none 0 0] 25) := ⟨_, rfl⟩
  have hbl : Below w.heap.size w wa := by rw [hwa]; exact bel_alloc (bel_alloc (bel_refl _) _) _
  have CX : Blk wa (w.heap.size) 25 #[.bool s, .slice A xs.length c, .slice B ys.length d] := by
    have hz := Blk.new (w) 25 #[.bool s, .slice A xs.length c, .slice B ys.length d]
    rw [hwa]
    exact (hz.alloc _)
  have RES : Blk wa (w.heap.size + 1) 25 #[.bool false, .slice none 0 0, .slice none 0 0] := by
    have hz := Blk.new (w.alloc (.cells #[.bool s, .slice A xs.length c, .slice B ys.length d] 25)) 25 #[.bool false, .slice none 0 0, .slice none 0 0]
    rw [World.size_alloc] at hz
    rw [hwa]
    exact hz
  replace RA := Lib.hid (RA.out.below hbl)
  replace RB := Lib.hid (RB.out.below hbl)
  have HW := Lib.hid hbl; clear hbl
  replace CX := Lib.hid CX
  replace RES := Lib.hid RES
  go_enter Try.func41, Try.ntmps41
  go_wp2_with fail
  rw [← hwa]
  clear hwa
  have CX0 : wa.cell? ⟨w.heap.size, 0, none⟩ = some (.bool s) := CX.out.cell 0
  have CX1 : wa.cell? ⟨w.heap.size, 1, none⟩ = some (.slice A xs.length c) := CX.out.cell 1
  have CX2 : wa.cell? ⟨w.heap.size, 2, none⟩ = some (.slice B ys.length d) := CX.out.cell 2
  refine (ratRight_any s A B c d xs ys _ RA.out RB.out HL.out.1 HL.out.2.1 hl hl' HL.out.2.2.1 HL.out.2.2.2).mono ?_
  rintro e w1 ⟨rfl, hbl⟩
  replace RA := Lib.hid (RA.out.below hbl)
  replace RB := Lib.hid (RB.out.below hbl)
  replace CX := Lib.hid (CX.out.below hbl CX.out.lt)
  replace RES := Lib.hid (RES.out.below hbl RES.out.lt)
  replace HW := Lib.hid (bel_trans HW.out hbl); clear hbl
  clear CX0 CX1 CX2
  have CX0 : w1.cell? ⟨w.heap.size, 0, none⟩ = some (.bool s) := CX.out.cell 0
  have CX1 : w1.cell? ⟨w.heap.size, 1, none⟩ = some (.slice A xs.length c) := CX.out.cell 1
  have CX2 : w1.cell? ⟨w.heap.size, 2, none⟩ = some (.slice B ys.length d) := CX.out.cell 2
  rw [HR.out]
  have d0 : w1.cell? ⟨w.heap.size + 1, 0, none⟩ = some (.bool false) := RES.out.cell 0
  have f0 : w1.frozen? ⟨w.heap.size + 1, 0, none⟩ = false := RES.out.frozen 0
  have d1 : w1.cell? ⟨w.heap.size + 1, 1, none⟩ = some (.slice none 0 0) := RES.out.cell 1
  have f1 : w1.frozen? ⟨w.heap.size + 1, 1, none⟩ = false := RES.out.frozen 1
  have d2 : w1.cell? ⟨w.heap.size + 1, 2, none⟩ = some (.slice none 0 0) := RES.out.cell 2
  have f2 : w1.frozen? ⟨w.heap.size + 1, 2, none⟩ = false := RES.out.frozen 2
  have D := Lib.hid (And.intro (RES.out.put3 (.bool false) (.slice none 0 0) (.slice none 0 0)) (bel_set3 (g := w.heap.size + 1) HW.out (by omega) (.bool false) (.slice none 0 0) (.slice none 0 0)))
  have N0 := Lib.hid (RdN.set3 RES.out (RdN.none0 _) (.bool false) (.slice none 0 0) (.slice none 0 0))
  have N1 := Lib.hid (RdN.set3 RES.out (RdN.none0 _) (.bool false) (.slice none 0 0) (.slice none 0 0))
  go_wp2
  refine bodyPost_ret (v := .tuple #[.agg #[.bool false, .slice none 0 0, .slice none 0 0], .int .i64 1]) ?hr rfl ?hR
  case hR => exact ⟨_, _, rfl, N0.out, N1.out, D.out.2⟩
  case hr => exact results_row_tmp rfl _ _ (w.heap.size + 1) 25 _ (0, 0) _ _ rfl rfl D.out.1 Try.underlying25 rfl (by kernel_rfl)

set_option maxRecDepth 100000 in
set_option maxHeartbeats 1000000 in
theorem trunc_q {t : Q} (q : Q) (A B : Option Addr) (c d : Nat) (w : World) (h : RdL w A (limbs q.n)) (h' : RdL w B (limbs q.d)) (hc : (limbs q.n).length ≤ c) (hc' : (limbs q.d).length ≤ d) (hn : q.n < Top) (hd : q.d < Top) (hq : QR q) (he : redQ q.s (q.n / q.d) 1 = t) :
    Calls Try.prog 41 #[.agg #[.bool q.s, .slice A (limbs q.n).length c, .slice B (limbs q.d).length d]] w (RetQE t 0 w) := by
  have LA := Lib.hid (And.intro hn hc); clear hn hc
  have LB := Lib.hid (And.intro hd hc'); clear hd hc'
  have HQ := Lib.hid hq; clear hq
  have RA := Lib.hid h; clear h
  have RB := Lib.hid h'; clear h'
  have HE := Lib.hid he; clear he
  obtain ⟨wa, hwa⟩ : ∃ wa, wa = (w.alloc (.cells #[.bool q.s, .slice A (limbs q.n).length c, .slice B (limbs q.d).length d] 25)).alloc (.cells #[.bool false, .slice none 0 0, .slice none 0 0] 25) := ⟨_, rfl⟩
  have hbl : Below w.heap.size w wa := by rw [hwa]; exact bel_alloc (bel_alloc (bel_refl _) _) _
  have CX : Blk wa (w.heap.size) 25 #[.bool q.s, .slice A (limbs q.n).length c, .slice B (limbs q.d).length d] := by
    have hz := Blk.new (w) 25 #[.bool q.s, .slice A (limbs q.n).length c, .slice B (limbs q.d).length d]
    rw [hwa]
    exact (hz.alloc _)
  have RES : Blk wa (w.heap.size + 1) 25 #[.bool false, .slice none 0 0, .slice none 0 0] := by
    have hz := Blk.new (w.alloc (.cells #[.bool q.s, .slice A (limbs q.n).length c, .slice B (limbs q.d).length d] 25)) 25 #[.bool false, .slice none 0 0, .slice none 0 0]
    rw [World.size_alloc] at hz
    rw [hwa]
    exact hz
  replace RA := Lib.hid (RA.out.below hbl)
  replace RB := Lib.hid (RB.out.below hbl)
  have HW := Lib.hid hbl; clear hbl
  replace CX := Lib.hid CX
  replace RES := Lib.hid RES
  go_enter Try.func41, Try.ntmps41
  go_wp2_with fail
  rw [← hwa]
  clear hwa
  have CX0 : wa.cell? ⟨w.heap.size, 0, none⟩ = some (.bool q.s) := CX.out.cell 0
  have CX1 : wa.cell? ⟨w.heap.size, 1, none⟩ = some (.slice A (limbs q.n).length c) := CX.out.cell 1
  have CX2 : wa.cell? ⟨w.heap.size, 2, none⟩ = some (.slice B (limbs q.d).length d) := CX.out.cell 2
  refine (ratRight_q q A B c d _ RA.out RB.out LA.out.2 LB.out.2 LA.out.1 LB.out.1 HQ.out).mono ?_
  rintro e w1 ⟨rfl, hbl⟩
  replace RA := Lib.hid (RA.out.below hbl)
  replace RB := Lib.hid (RB.out.below hbl)
  replace CX := Lib.hid (CX.out.below hbl CX.out.lt)
  replace RES := Lib.hid (RES.out.below hbl RES.out.lt)
  replace HW := Lib.hid (bel_trans HW.out hbl); clear hbl
  clear CX0 CX1 CX2
  have CX0 : w1.cell? ⟨w.heap.size, 0, none⟩ = some (.bool q.s) := CX.out.cell 0
  have CX1 : w1.cell? ⟨w.heap.size, 1, none⟩ = some (.slice A (limbs q.n).length c) := CX.out.cell 1
  have CX2 : w1.cell? ⟨w.heap.size, 2, none⟩ = some (.slice B (limbs q.d).length d) := CX.out.cell 2
  go_wp2_with fail
  refine (div_num A B c d q.n q.d _ RA.out RB.out LA.out.1 LB.out.1 HQ.out.den).mono ?_
  rintro e w2 ⟨vq, vr, rfl, hnq, hnr, hbl⟩
  replace RA := Lib.hid (RA.out.below hbl)
  replace RB := Lib.hid (RB.out.below hbl)
  replace CX := Lib.hid (CX.out.below hbl CX.out.lt)
  replace RES := Lib.hid (RES.out.below hbl RES.out.lt)
  replace HW := Lib.hid (bel_trans HW.out hbl); clear hbl
  clear CX0 CX1 CX2
  have CX0 : w2.cell? ⟨w.heap.size, 0, none⟩ = some (.bool q.s) := CX.out.cell 0
  have CX1 : w2.cell? ⟨w.heap.size, 1, none⟩ = some (.slice A (limbs q.n).length c) := CX.out.cell 1
  have CX2 : w2.cell? ⟨w.heap.size, 2, none⟩ = some (.slice B (limbs q.d).length d) := CX.out.cell 2
  have HNq := Lib.hid hnq; clear hnq
  obtain ⟨Aq, cq, rfl, hcq, hrq⟩ := HNq.out.row
  have Rq := Lib.hid hrq; have HCq := Lib.hid hcq; clear hrq hcq
  have HNr := Lib.hid hnr; clear hnr
  obtain ⟨Ar, cr, rfl, hcr, hrr⟩ := HNr.out.row
  have Rr := Lib.hid hrr; have HCr := Lib.hid hcr; clear hrr hcr
  go_wp2_with fail
  refine wp_region_typed 5 (TOf [VIs (.pointer (some ⟨w.heap.size, 0, none⟩)),
      VIs (.bool q.s),
      VIs (.slice Aq (limbs (q.n / q.d)).length cq),
      VOk 1,
      VQ t]) (by kernel_rfl) (by kernel_rfl) (by kernel_rfl) (LiftAll.at_ (.cons (VIs.lift _) (.cons (VIs.lift _) (.cons (VIs.lift _) (.cons (VOk.lift _) (.cons (VQ.lift _) .nil)))))) (steps_all (steps_cons ?_ (steps_cons ?_ (steps_cons ?_ (steps_cons ?_ (steps_cons ?_ steps_zero)))))) ?fin
  · intro a0 w9 K9 hF hB hK hC
    have b1 := hF.base (k := 1) (v := .pointer (some ⟨w.heap.size, 0, none⟩)) (by kernel_rfl) rfl
    clear hF hB hK
    go_simp
    exact hC _ _ (bel_refl _) fun _ _ => rfl
  · intro a0 w9 K9 hF hB hK hC
    obtain ⟨v20, e20, z20⟩ := dep hK 0 (g := .data) (j := 0) (k := 20) rfl rfl rfl
    have z20 : v20 = .pointer (some ⟨w.heap.size, 0, none⟩) := z20
    subst z20
    have x9 : w9.cell? ⟨w.heap.size, 0, none⟩ = some (.bool q.s) := (CX.out.below hB CX.out.lt).cell 0
    clear hF hB hK
    go_simp
    exact hC _ _ (bel_refl _) fun _ _ => rfl
  · intro a0 w9 K9 hF hB hK hC
    have b4 := hF.base (k := 4) (v := .slice Aq (limbs (q.n / q.d)).length cq) (by kernel_rfl) rfl
    clear hF hB hK
    go_simp
    exact hC _ _ (bel_refl _) fun _ _ => rfl
  · intro a0 w9 K9 hF hB hK hC
    have HB9 := Lib.hid hB
    clear hF hB hK
    go_simp
    refine (one_any _).mono ?_
    rintro e w7 ⟨vo, rfl, hvo, hbl⟩
    exact hC _ _ hbl fun _ _ => ⟨small_top (by decide), hvo⟩
  · intro a0 w9 K9 hF hB hK hC
    obtain ⟨v21, e21, z21⟩ := dep hK 0 (g := .data) (j := 1) (k := 21) rfl rfl rfl
    have z21 : v21 = .bool q.s := z21
    subst z21
    obtain ⟨v22, e22, z22⟩ := dep hK 1 (g := .data) (j := 2) (k := 22) rfl rfl rfl
    have z22 : v22 = .slice Aq (limbs (q.n / q.d)).length cq := z22
    subst z22
    obtain ⟨v23, e23, z23⟩ := dep hK 2 (g := .data) (j := 3) (k := 23) rfl rfl rfl
    have z23 : 1 < Top ∧ RdN w9 v23 1 := z23
    obtain ⟨_, Ao, co, rfl, ico, ro⟩ := z23
    have HB9 := Lib.hid hB
    clear hF hB hK
    have RO := Lib.hid ro; have CO := Lib.hid ico; clear ro ico
    go_simp
    refine (reduced_q q.s Aq Ao cq co (q.n / q.d) 1 _ (Rq.out.below HB9.out) RO.out HCq.out CO.out (lt_top (Nat.div_le_self _ _) LA.out.1) (small_top (by decide)) (by decide) HE.out).mono ?_
    rintro e w7 ⟨x, y, rfl, hx, hy, hbl⟩
    exact hC _ _ hbl fun _ _ => ⟨x, y, rfl, hx, hy⟩
  case fin =>
    intro a0 w9 hF hB hK
    have b1 := hF.base (k := 1) (v := .pointer (some ⟨w.heap.size, 0, none⟩)) (by kernel_rfl) rfl
    have b2 := hF.base (k := 2) (v := .pointer (some ⟨w.heap.size + 1, 0, none⟩)) (by kernel_rfl) rfl
    have b4 := hF.base (k := 4) (v := .slice Aq (limbs (q.n / q.d)).length cq) (by kernel_rfl) rfl
    have hsz := hF.size
    have hdf := hF.defers
    clear hF
    obtain ⟨v24, e24, z24⟩ := known hK 4 (k := 24) (by decide) rfl
    have z24 : ∃ x y, v24 = .agg #[.bool t.s, x, y] ∧ RdN w9 x t.n ∧ RdN w9 y t.d := z24
    obtain ⟨x9, y9, rfl, p9, q9⟩ := z24
    have NX := Lib.hid p9; have NY := Lib.hid q9; clear p9 q9
    obtain ⟨E1, m1, rfl, _, _⟩ := NX.out.row
    obtain ⟨E2, m2, rfl, _, _⟩ := NY.out.row
    clear hK
    obtain ⟨⟨l0⟩, df⟩ := a0
    have hs0 : l0.length = 25 := hsz
    clear hsz
    replace hdf : df = _ := hdf
    subst hdf
    obtain ⟨u, rfl⟩ := lits_25 hs0
    clear hs0
    have q1 : u 1 = _ := Option.some.inj b1
    clear b1
    have q2 : u 2 = _ := Option.some.inj b2
    clear b2
    have q4 : u 4 = _ := Option.some.inj b4
    clear b4
    have q24 : u 24 = _ := Option.some.inj e24
    clear e24
    rw [q1, q2, q4, q24]
    clear q1 q2 q4 q24
    have hbl := hB; clear hB
    replace RA := Lib.hid (RA.out.below hbl)
    replace RB := Lib.hid (RB.out.below hbl)
    replace Rq := Lib.hid (Rq.out.below hbl)
    replace HNq := Lib.hid (HNq.out.below hbl)
    replace Rr := Lib.hid (Rr.out.below hbl)
    replace HNr := Lib.hid (HNr.out.below hbl)
    replace CX := Lib.hid (CX.out.below hbl CX.out.lt)
    replace RES := Lib.hid (RES.out.below hbl RES.out.lt)
    replace HW := Lib.hid (bel_trans HW.out hbl); clear hbl
    clear CX0 CX1 CX2
    have CX0 : w9.cell? ⟨w.heap.size, 0, none⟩ = some (.bool q.s) := CX.out.cell 0
    have CX1 : w9.cell? ⟨w.heap.size, 1, none⟩ = some (.slice A (limbs q.n).length c) := CX.out.cell 1
    have CX2 : w9.cell? ⟨w.heap.size, 2, none⟩ = some (.slice B (limbs q.d).length d) := CX.out.cell 2
    simp only [List.drop_succ_cons, List.drop_zero]
    have d0 : w9.cell? ⟨w.heap.size + 1, 0, none⟩ = some (.bool false) := RES.out.cell 0
    have f0 : w9.frozen? ⟨w.heap.size + 1, 0, none⟩ = false := RES.out.frozen 0
    have d1 : w9.cell? ⟨w.heap.size + 1, 1, none⟩ = some (.slice none 0 0) := RES.out.cell 1
    have f1 : w9.frozen? ⟨w.heap.size + 1, 1, none⟩ = false := RES.out.frozen 1
    have d2 : w9.cell? ⟨w.heap.size + 1, 2, none⟩ = some (.slice none 0 0) := RES.out.cell 2
    have f2 : w9.frozen? ⟨w.heap.size + 1, 2, none⟩ = false := RES.out.frozen 2
    have D := Lib.hid (And.intro (RES.out.put3 (.bool t.s) (.slice E1 (limbs t.n).length m1) (.slice E2 (limbs t.d).length m2)) (bel_set3 (g := w.heap.size + 1) HW.out (by omega) (.bool t.s) (.slice E1 (limbs t.n).length m1) (.slice E2 (limbs t.d).length m2)))
    have N0 := Lib.hid (RdN.set3 RES.out (NX.out) (.bool t.s) (.slice E1 (limbs t.n).length m1) (.slice E2 (limbs t.d).length m2))
    have N1 := Lib.hid (RdN.set3 RES.out (NY.out) (.bool t.s) (.slice E1 (limbs t.n).length m1) (.slice E2 (limbs t.d).length m2))
    go_wp2
    refine bodyPost_ret (v := .tuple #[.agg #[.bool t.s, .slice E1 (limbs t.n).length m1, .slice E2 (limbs t.d).length m2], .int .i64 0]) ?hr rfl ?hR
    case hR => exact ⟨_, _, rfl, N0.out, N1.out, D.out.2⟩
    case hr => exact results_row_tmp rfl _ _ (w.heap.size + 1) 25 _ (0, 0) _ _ rfl rfl D.out.1 Try.underlying25 rfl (by kernel_rfl)

theorem ratRight_s {s : Bool} (q : Q) (A B : Option Addr) (c d : Nat) (w : World) (h : RdL w A (limbs q.n)) (h' : RdL w B (limbs q.d)) (hc : (limbs q.n).length ≤ c) (hc' : (limbs q.d).length ≤ d) (hn : q.n < Top) (hd : q.d < Top) (hq : QR q) (hs : q.s = s) :
    Calls Try.prog 23 #[.agg #[.bool s, .slice A (limbs q.n).length c, .slice B (limbs q.d).length d]] w (RetBB true w) := by
  rw [← hs]
  exact ratRight_q q A B c d w h h' hc hc' hn hd hq
theorem mul_over (A A' : Option Addr) (cap cap' : Nat) (a b : Nat) (w : World) (h : RdL w A (limbs a)) (h' : RdL w A' (limbs b)) (ha : a < Top) (hb : b < Top) (hab : ¬ a * b < Top) :
    Calls Try.prog 66 #[.slice A (limbs a).length cap, .slice A' (limbs b).length cap'] w (RetNE 0 2 w) :=
  (mul_num A A' cap cap' a b w h h' ha hb).mono fun _ _ h => h.of (by unfold fitN; rw [if_neg hab]) (by unfold fitC; rw [if_neg hab])
theorem wrap_neg (x y : Nat) : wrap64 (-cmpI (x : Int) (y : Int)) = -cmpI (x : Int) (y : Int) := by
  unfold wrap64 cmpI
  split <;> (try split) <;> omega
theorem cmpI_nat (x y : Nat) : cmpI (x : Int) (y : Int) = (if x < y then -1 else if y < x then 1 else 0) := by
  unfold cmpI
  by_cases h : x < y
  · rw [if_pos (by omega), if_pos h]
  · rw [if_neg (by omega), if_neg h]
    by_cases h2 : y < x
    · rw [if_pos (by omega), if_pos h2]
    · rw [if_neg (by omega), if_neg h2]
set_option maxRecDepth 100000 in
set_option maxHeartbeats 1000000 in
theorem qcmp_bad_a (s s' : Bool) (A B A' B' : Option Addr) (c d c' d' : Nat) (xs ys xs' ys' : List Nat) (w : World) (h1 : RdL w A xs) (h2 : RdL w B ys) (m1 : Lim xs) (m2 : Lim ys) (l1 : xs.length ≤ 18) (l2 : ys.length ≤ 18) (k1 : xs.length ≤ c) (k2 : ys.length ≤ d) (hr : rightB s xs ys = false) :
    Calls Try.prog 40 #[.agg #[.bool s, .slice A xs.length c, .slice B ys.length d], .agg #[.bool s', .slice A' xs'.length c', .slice B' ys'.length d']] w (RetIEB 0 1 w) := by
  have R1 := Lib.hid h1; clear h1
  have R2 := Lib.hid h2; clear h2
  have K := Lib.hid (And.intro k1 k2); clear k1 k2
  have M := Lib.hid (And.intro m1 m2); clear m1 m2
  have HR := Lib.hid hr; clear hr
  obtain ⟨wa, hwa⟩ : ∃ wa, wa = (w.alloc (.cells #[.bool s, .slice A xs.length c, .slice B ys.length d] 25)).alloc (.cells #[.bool s', .slice A' xs'.length c', .slice B' ys'.length d'] 25) := ⟨_, rfl⟩
  have hbl : Below w.heap.size w wa := by rw [hwa]; exact bel_alloc (bel_alloc (bel_refl _) _) _
  have CX : Blk wa (w.heap.size) 25 #[.bool s, .slice A xs.length c, .slice B ys.length d] := by
    have hz := Blk.new (w) 25 #[.bool s, .slice A xs.length c, .slice B ys.length d]
    rw [hwa]
    exact (hz.alloc _)
  have CY : Blk wa (w.heap.size + 1) 25 #[.bool s', .slice A' xs'.length c', .slice B' ys'.length d'] := by
    have hz := Blk.new (w.alloc (.cells #[.bool s, .slice A xs.length c, .slice B ys.length d] 25)) 25 #[.bool s', .slice A' xs'.length c', .slice B' ys'.length d']
    rw [World.size_alloc] at hz
    rw [hwa]
    exact hz
  replace R1 := Lib.hid (R1.out.below hbl)
  replace R2 := Lib.hid (R2.out.below hbl)
  have HW := Lib.hid hbl; clear hbl
  replace CX := Lib.hid CX
  replace CY := Lib.hid CY
  go_enter Try.func40, Try.ntmps40
  go_wp2_with fail
  rw [← hwa]
  clear hwa
  have CX0 : wa.cell? ⟨w.heap.size, 0, none⟩ = some (.bool s) := CX.out.cell 0
  have CX1 : wa.cell? ⟨w.heap.size, 1, none⟩ = some (.slice A xs.length c) := CX.out.cell 1
  have CX2 : wa.cell? ⟨w.heap.size, 2, none⟩ = some (.slice B ys.length d) := CX.out.cell 2
  have CY0 : wa.cell? ⟨w.heap.size + 1, 0, none⟩ = some (.bool s') := CY.out.cell 0
  have CY1 : wa.cell? ⟨w.heap.size + 1, 1, none⟩ = some (.slice A' xs'.length c') := CY.out.cell 1
  have CY2 : wa.cell? ⟨w.heap.size + 1, 2, none⟩ = some (.slice B' ys'.length d') := CY.out.cell 2
  refine (ratRight_any s A B c d xs ys _ R1.out R2.out M.out.1 M.out.2 l1 l2 K.out.1 K.out.2).mono ?_
  rintro e w1 ⟨rfl, hbl⟩
  replace R1 := Lib.hid (R1.out.below hbl)
  replace R2 := Lib.hid (R2.out.below hbl)
  replace CX := Lib.hid (CX.out.below hbl CX.out.lt)
  replace CY := Lib.hid (CY.out.below hbl CY.out.lt)
  replace HW := Lib.hid (bel_trans HW.out hbl); clear hbl
  clear CX0 CX1 CX2 CY0 CY1 CY2
  have CX0 : w1.cell? ⟨w.heap.size, 0, none⟩ = some (.bool s) := CX.out.cell 0
  have CX1 : w1.cell? ⟨w.heap.size, 1, none⟩ = some (.slice A xs.length c) := CX.out.cell 1
  have CX2 : w1.cell? ⟨w.heap.size, 2, none⟩ = some (.slice B ys.length d) := CX.out.cell 2
  have CY0 : w1.cell? ⟨w.heap.size + 1, 0, none⟩ = some (.bool s') := CY.out.cell 0
  have CY1 : w1.cell? ⟨w.heap.size + 1, 1, none⟩ = some (.slice A' xs'.length c') := CY.out.cell 1
  have CY2 : w1.cell? ⟨w.heap.size + 1, 2, none⟩ = some (.slice B' ys'.length d') := CY.out.cell 2
  rw [HR.out]
  go_wp2
  go_ret2
  exact ⟨rfl, HW.out⟩

set_option maxRecDepth 100000 in
set_option maxHeartbeats 1000000 in
theorem qcmp_bad_b (s s' : Bool) (A B A' B' : Option Addr) (c d c' d' : Nat) (xs ys xs' ys' : List Nat) (w : World) (h1 : RdL w A xs) (h2 : RdL w B ys) (h3 : RdL w A' xs') (h4 : RdL w B' ys') (m1 : Lim xs) (m2 : Lim ys) (m3 : Lim xs') (m4 : Lim ys') (l1 : xs.length ≤ 18) (l2 : ys.length ≤ 18) (l3 : xs'.length ≤ 18) (l4 : ys'.length ≤ 18) (k1 : xs.length ≤ c) (k2 : ys.length ≤ d) (k3 : xs'.length ≤ c') (k4 : ys'.length ≤ d') (hr : rightB s xs ys = true) (hr2 : rightB s' xs' ys' = false) :
    Calls Try.prog 40 #[.agg #[.bool s, .slice A xs.length c, .slice B ys.length d], .agg #[.bool s', .slice A' xs'.length c', .slice B' ys'.length d']] w (RetIEB 0 1 w) := by
  have R1 := Lib.hid h1; clear h1
  have R2 := Lib.hid h2; clear h2
  have R3 := Lib.hid h3; clear h3
  have R4 := Lib.hid h4; clear h4
  have K := Lib.hid (And.intro k1 (And.intro k2 (And.intro k3 k4))); clear k1 k2 k3 k4
  have M := Lib.hid (And.intro m1 (And.intro m2 (And.intro m3 m4))); clear m1 m2 m3 m4
  have HR := Lib.hid (And.intro hr hr2); clear hr hr2
  obtain ⟨wa, hwa⟩ : ∃ wa, wa = (w.alloc (.cells #[.bool s, .slice A xs.length c, .slice B ys.length d] 25)).alloc (.cells #[.bool s', .slice A' xs'.length c', .slice B' ys'.length d'] 25) := ⟨_, rfl⟩
  have hbl : Below w.heap.size w wa := by rw [hwa]; exact bel_alloc (bel_alloc (bel_refl _) _) _
  have CX : Blk wa (w.heap.size) 25 #[.bool s, .slice A xs.length c, .slice B ys.length d] := by
    have hz := Blk.new (w) 25 #[.bool s, .slice A xs.length c, .slice B ys.length d]
    rw [hwa]
    exact (hz.alloc _)
  have CY : Blk wa (w.heap.size + 1) 25 #[.bool s', .slice A' xs'.length c', .slice B' ys'.length d'] := by
    have hz := Blk.new (w.alloc (.cells #[.bool s, .slice A xs.length c, .slice B ys.length d] 25)) 25 #[.bool s', .slice A' xs'.length c', .slice B' ys'.length d']
    rw [World.size_alloc] at hz
    rw [hwa]
    exact hz
  replace R1 := Lib.hid (R1.out.below hbl)
  replace R2 := Lib.hid (R2.out.below hbl)
  replace R3 := Lib.hid (R3.out.below hbl)
  replace R4 := Lib.hid (R4.out.below hbl)
  have HW := Lib.hid hbl; clear hbl
  replace CX := Lib.hid CX
  replace CY := Lib.hid CY
  go_enter Try.func40, Try.ntmps40
  go_wp2_with fail
  rw [← hwa]
  clear hwa
  have CX0 : wa.cell? ⟨w.heap.size, 0, none⟩ = some (.bool s) := CX.out.cell 0
  have CX1 : wa.cell? ⟨w.heap.size, 1, none⟩ = some (.slice A xs.length c) := CX.out.cell 1
  have CX2 : wa.cell? ⟨w.heap.size, 2, none⟩ = some (.slice B ys.length d) := CX.out.cell 2
  have CY0 : wa.cell? ⟨w.heap.size + 1, 0, none⟩ = some (.bool s') := CY.out.cell 0
  have CY1 : wa.cell? ⟨w.heap.size + 1, 1, none⟩ = some (.slice A' xs'.length c') := CY.out.cell 1
  have CY2 : wa.cell? ⟨w.heap.size + 1, 2, none⟩ = some (.slice B' ys'.length d') := CY.out.cell 2
  refine (ratRight_any s A B c d xs ys _ R1.out R2.out M.out.1 M.out.2.1 l1 l2 K.out.1 K.out.2.1).mono ?_
  rintro e w1 ⟨rfl, hbl⟩
  replace R1 := Lib.hid (R1.out.below hbl)
  replace R2 := Lib.hid (R2.out.below hbl)
  replace R3 := Lib.hid (R3.out.below hbl)
  replace R4 := Lib.hid (R4.out.below hbl)
  replace CX := Lib.hid (CX.out.below hbl CX.out.lt)
  replace CY := Lib.hid (CY.out.below hbl CY.out.lt)
  replace HW := Lib.hid (bel_trans HW.out hbl); clear hbl
  clear CX0 CX1 CX2 CY0 CY1 CY2
  have CX0 : w1.cell? ⟨w.heap.size, 0, none⟩ = some (.bool s) := CX.out.cell 0
  have CX1 : w1.cell? ⟨w.heap.size, 1, none⟩ = some (.slice A xs.length c) := CX.out.cell 1
  have CX2 : w1.cell? ⟨w.heap.size, 2, none⟩ = some (.slice B ys.length d) := CX.out.cell 2
  have CY0 : w1.cell? ⟨w.heap.size + 1, 0, none⟩ = some (.bool s') := CY.out.cell 0
  have CY1 : w1.cell? ⟨w.heap.size + 1, 1, none⟩ = some (.slice A' xs'.length c') := CY.out.cell 1
  have CY2 : w1.cell? ⟨w.heap.size + 1, 2, none⟩ = some (.slice B' ys'.length d') := CY.out.cell 2
  rw [HR.out.1]
  go_wp2_with fail
  refine (ratRight_any s' A' B' c' d' xs' ys' _ R3.out R4.out M.out.2.2.1 M.out.2.2.2 l3 l4 K.out.2.2.1 K.out.2.2.2).mono ?_
  rintro e w2 ⟨rfl, hbl⟩
  replace R1 := Lib.hid (R1.out.below hbl)
  replace R2 := Lib.hid (R2.out.below hbl)
  replace R3 := Lib.hid (R3.out.below hbl)
  replace R4 := Lib.hid (R4.out.below hbl)
  replace CX := Lib.hid (CX.out.below hbl CX.out.lt)
  replace CY := Lib.hid (CY.out.below hbl CY.out.lt)
  replace HW := Lib.hid (bel_trans HW.out hbl); clear hbl
  clear CX0 CX1 CX2 CY0 CY1 CY2
  have CX0 : w2.cell? ⟨w.heap.size, 0, none⟩ = some (.bool s) := CX.out.cell 0
  have CX1 : w2.cell? ⟨w.heap.size, 1, none⟩ = some (.slice A xs.length c) := CX.out.cell 1
  have CX2 : w2.cell? ⟨w.heap.size, 2, none⟩ = some (.slice B ys.length d) := CX.out.cell 2
  have CY0 : w2.cell? ⟨w.heap.size + 1, 0, none⟩ = some (.bool s') := CY.out.cell 0
  have CY1 : w2.cell? ⟨w.heap.size + 1, 1, none⟩ = some (.slice A' xs'.length c') := CY.out.cell 1
  have CY2 : w2.cell? ⟨w.heap.size + 1, 2, none⟩ = some (.slice B' ys'.length d') := CY.out.cell 2
  rw [HR.out.2]
  go_wp2
  go_ret2
  exact ⟨rfl, HW.out⟩

theorem qcmp_bad (s s' : Bool) (A B A' B' : Option Addr) (c d c' d' : Nat) (xs ys xs' ys' : List Nat) (w : World) (h1 : RdL w A xs) (h2 : RdL w B ys) (h3 : RdL w A' xs') (h4 : RdL w B' ys') (m1 : Lim xs) (m2 : Lim ys) (m3 : Lim xs') (m4 : Lim ys') (l1 : xs.length ≤ 18) (l2 : ys.length ≤ 18) (l3 : xs'.length ≤ 18) (l4 : ys'.length ≤ 18) (k1 : xs.length ≤ c) (k2 : ys.length ≤ d) (k3 : xs'.length ≤ c') (k4 : ys'.length ≤ d') (hr : (rightB s xs ys && rightB s' xs' ys') = false) :
    Calls Try.prog 40 #[.agg #[.bool s, .slice A xs.length c, .slice B ys.length d], .agg #[.bool s', .slice A' xs'.length c', .slice B' ys'.length d']] w (RetIEB 0 1 w) := by
  cases h : rightB s xs ys
  · exact qcmp_bad_a s s' A B A' B' c d c' d' xs ys xs' ys' w h1 h2 m1 m2 l1 l2 k1 k2 h
  · rw [h, Bool.true_and] at hr
    exact qcmp_bad_b s s' A B A' B' c d c' d' xs ys xs' ys' w h1 h2 h3 h4 m1 m2 m3 m4 l1 l2 l3 l4 k1 k2 k3 k4 h hr
set_option maxRecDepth 100000 in
set_option maxHeartbeats 1000000 in
theorem qcmp_over_x (A B A' B' : Option Addr) (c d c' d' : Nat) (a b : Q) (w : World) (h1 : RdL w A (limbs a.n)) (h2 : RdL w B (limbs a.d)) (h3 : RdL w A' (limbs b.n)) (h4 : RdL w B' (limbs b.d)) (k1 : (limbs a.n).length ≤ c) (k2 : (limbs a.d).length ≤ d) (k3 : (limbs b.n).length ≤ c') (k4 : (limbs b.d).length ≤ d') (t1 : a.n < Top) (t2 : a.d < Top) (t3 : b.n < Top) (t4 : b.d < Top) (ra : QR a) (rb : QR b) (hf : ¬ (a.n * b.d) < Top) :
    Calls Try.prog 40 #[.agg #[.bool a.s, .slice A (limbs a.n).length c, .slice B (limbs a.d).length d], .agg #[.bool b.s, .slice A' (limbs b.n).length c', .slice B' (limbs b.d).length d']] w (RetIEB 0 2 w) := by
  have R1 := Lib.hid h1; clear h1
  have R2 := Lib.hid h2; clear h2
  have R3 := Lib.hid h3; clear h3
  have R4 := Lib.hid h4; clear h4
  have K := Lib.hid (And.intro k1 (And.intro k2 (And.intro k3 k4))); clear k1 k2 k3 k4
  have T := Lib.hid (And.intro t1 (And.intro t2 (And.intro t3 t4))); clear t1 t2 t3 t4
  have HA := Lib.hid ra; clear ra
  have HB := Lib.hid rb; clear rb
  have HF := Lib.hid hf; clear hf
  obtain ⟨wa, hwa⟩ : ∃ wa, wa = (w.alloc (.cells #[.bool a.s, .slice A (limbs a.n).length c, .slice B (limbs a.d).length d] 25)).alloc (.cells #[.bool b.s, .slice A' (limbs b.n).length c', .slice B' (limbs b.d).length d'] 25) := ⟨_, rfl⟩
  have hbl : Below w.heap.size w wa := by rw [hwa]; exact bel_alloc (bel_alloc (bel_refl _) _) _
  have CX : Blk wa (w.heap.size) 25 #[.bool a.s, .slice A (limbs a.n).length c, .slice B (limbs a.d).length d] := by
    have hz := Blk.new (w) 25 #[.bool a.s, .slice A (limbs a.n).length c, .slice B (limbs a.d).length d]
    rw [hwa]
    exact (hz.alloc _)
  have CY : Blk wa (w.heap.size + 1) 25 #[.bool b.s, .slice A' (limbs b.n).length c', .slice B' (limbs b.d).length d'] := by
    have hz := Blk.new (w.alloc (.cells #[.bool a.s, .slice A (limbs a.n).length c, .slice B (limbs a.d).length d] 25)) 25 #[.bool b.s, .slice A' (limbs b.n).length c', .slice B' (limbs b.d).length d']
    rw [World.size_alloc] at hz
    rw [hwa]
    exact hz
  replace R1 := Lib.hid (R1.out.below hbl)
  replace R2 := Lib.hid (R2.out.below hbl)
  replace R3 := Lib.hid (R3.out.below hbl)
  replace R4 := Lib.hid (R4.out.below hbl)
  have HW := Lib.hid hbl; clear hbl
  replace CX := Lib.hid CX
  replace CY := Lib.hid CY
  go_enter Try.func40, Try.ntmps40
  go_wp2_with fail
  rw [← hwa]
  clear hwa
  have CX0 : wa.cell? ⟨w.heap.size, 0, none⟩ = some (.bool a.s) := CX.out.cell 0
  have CX1 : wa.cell? ⟨w.heap.size, 1, none⟩ = some (.slice A (limbs a.n).length c) := CX.out.cell 1
  have CX2 : wa.cell? ⟨w.heap.size, 2, none⟩ = some (.slice B (limbs a.d).length d) := CX.out.cell 2
  have CY0 : wa.cell? ⟨w.heap.size + 1, 0, none⟩ = some (.bool b.s) := CY.out.cell 0
  have CY1 : wa.cell? ⟨w.heap.size + 1, 1, none⟩ = some (.slice A' (limbs b.n).length c') := CY.out.cell 1
  have CY2 : wa.cell? ⟨w.heap.size + 1, 2, none⟩ = some (.slice B' (limbs b.d).length d') := CY.out.cell 2
  refine (ratRight_q a A B c d _ R1.out R2.out K.out.1 K.out.2.1 T.out.1 T.out.2.1 HA.out).mono ?_
  rintro e w1 ⟨rfl, hbl⟩
  replace R1 := Lib.hid (R1.out.below hbl)
  replace R2 := Lib.hid (R2.out.below hbl)
  replace R3 := Lib.hid (R3.out.below hbl)
  replace R4 := Lib.hid (R4.out.below hbl)
  replace CX := Lib.hid (CX.out.below hbl CX.out.lt)
  replace CY := Lib.hid (CY.out.below hbl CY.out.lt)
  replace HW := Lib.hid (bel_trans HW.out hbl); clear hbl
  clear CX0 CX1 CX2 CY0 CY1 CY2
  have CX0 : w1.cell? ⟨w.heap.size, 0, none⟩ = some (.bool a.s) := CX.out.cell 0
  have CX1 : w1.cell? ⟨w.heap.size, 1, none⟩ = some (.slice A (limbs a.n).length c) := CX.out.cell 1
  have CX2 : w1.cell? ⟨w.heap.size, 2, none⟩ = some (.slice B (limbs a.d).length d) := CX.out.cell 2
  have CY0 : w1.cell? ⟨w.heap.size + 1, 0, none⟩ = some (.bool b.s) := CY.out.cell 0
  have CY1 : w1.cell? ⟨w.heap.size + 1, 1, none⟩ = some (.slice A' (limbs b.n).length c') := CY.out.cell 1
  have CY2 : w1.cell? ⟨w.heap.size + 1, 2, none⟩ = some (.slice B' (limbs b.d).length d') := CY.out.cell 2
  go_wp2_with fail
  refine (ratRight_q b A' B' c' d' _ R3.out R4.out K.out.2.2.1 K.out.2.2.2 T.out.2.2.1 T.out.2.2.2 HB.out).mono ?_
  rintro e w2 ⟨rfl, hbl⟩
  replace R1 := Lib.hid (R1.out.below hbl)
  replace R2 := Lib.hid (R2.out.below hbl)
  replace R3 := Lib.hid (R3.out.below hbl)
  replace R4 := Lib.hid (R4.out.below hbl)
  replace CX := Lib.hid (CX.out.below hbl CX.out.lt)
  replace CY := Lib.hid (CY.out.below hbl CY.out.lt)
  replace HW := Lib.hid (bel_trans HW.out hbl); clear hbl
  clear CX0 CX1 CX2 CY0 CY1 CY2
  have CX0 : w2.cell? ⟨w.heap.size, 0, none⟩ = some (.bool a.s) := CX.out.cell 0
  have CX1 : w2.cell? ⟨w.heap.size, 1, none⟩ = some (.slice A (limbs a.n).length c) := CX.out.cell 1
  have CX2 : w2.cell? ⟨w.heap.size, 2, none⟩ = some (.slice B (limbs a.d).length d) := CX.out.cell 2
  have CY0 : w2.cell? ⟨w.heap.size + 1, 0, none⟩ = some (.bool b.s) := CY.out.cell 0
  have CY1 : w2.cell? ⟨w.heap.size + 1, 1, none⟩ = some (.slice A' (limbs b.n).length c') := CY.out.cell 1
  have CY2 : w2.cell? ⟨w.heap.size + 1, 2, none⟩ = some (.slice B' (limbs b.d).length d') := CY.out.cell 2
  go_wp2_with fail
  refine (mul_over A B' c d' a.n b.d _ R1.out R4.out T.out.1 T.out.2.2.2 HF.out).mono ?_
  rintro e w3 ⟨vx, rfl, hnx, hbl⟩
  replace R1 := Lib.hid (R1.out.below hbl)
  replace R2 := Lib.hid (R2.out.below hbl)
  replace R3 := Lib.hid (R3.out.below hbl)
  replace R4 := Lib.hid (R4.out.below hbl)
  replace CX := Lib.hid (CX.out.below hbl CX.out.lt)
  replace CY := Lib.hid (CY.out.below hbl CY.out.lt)
  replace HW := Lib.hid (bel_trans HW.out hbl); clear hbl
  clear CX0 CX1 CX2 CY0 CY1 CY2
  have CX0 : w3.cell? ⟨w.heap.size, 0, none⟩ = some (.bool a.s) := CX.out.cell 0
  have CX1 : w3.cell? ⟨w.heap.size, 1, none⟩ = some (.slice A (limbs a.n).length c) := CX.out.cell 1
  have CX2 : w3.cell? ⟨w.heap.size, 2, none⟩ = some (.slice B (limbs a.d).length d) := CX.out.cell 2
  have CY0 : w3.cell? ⟨w.heap.size + 1, 0, none⟩ = some (.bool b.s) := CY.out.cell 0
  have CY1 : w3.cell? ⟨w.heap.size + 1, 1, none⟩ = some (.slice A' (limbs b.n).length c') := CY.out.cell 1
  have CY2 : w3.cell? ⟨w.heap.size + 1, 2, none⟩ = some (.slice B' (limbs b.d).length d') := CY.out.cell 2
  have HNx := Lib.hid hnx; clear hnx
  obtain ⟨Ax, cx, rfl, hcx, hrx⟩ := HNx.out.row
  have Rx := Lib.hid hrx; have HCx := Lib.hid hcx; clear hrx hcx
  go_wp2_with fail
  refine (mul_num A' B c' d b.n a.d _ R3.out R2.out T.out.2.2.1 T.out.2.1).mono ?_
  rintro e w4 ⟨vy, rfl, hy, hbl⟩
  replace R1 := Lib.hid (R1.out.below hbl)
  replace R2 := Lib.hid (R2.out.below hbl)
  replace R3 := Lib.hid (R3.out.below hbl)
  replace R4 := Lib.hid (R4.out.below hbl)
  replace Rx := Lib.hid (Rx.out.below hbl)
  replace HNx := Lib.hid (HNx.out.below hbl)
  replace CX := Lib.hid (CX.out.below hbl CX.out.lt)
  replace CY := Lib.hid (CY.out.below hbl CY.out.lt)
  replace HW := Lib.hid (bel_trans HW.out hbl); clear hbl
  clear CX0 CX1 CX2 CY0 CY1 CY2
  have CX0 : w4.cell? ⟨w.heap.size, 0, none⟩ = some (.bool a.s) := CX.out.cell 0
  have CX1 : w4.cell? ⟨w.heap.size, 1, none⟩ = some (.slice A (limbs a.n).length c) := CX.out.cell 1
  have CX2 : w4.cell? ⟨w.heap.size, 2, none⟩ = some (.slice B (limbs a.d).length d) := CX.out.cell 2
  have CY0 : w4.cell? ⟨w.heap.size + 1, 0, none⟩ = some (.bool b.s) := CY.out.cell 0
  have CY1 : w4.cell? ⟨w.heap.size + 1, 1, none⟩ = some (.slice A' (limbs b.n).length c') := CY.out.cell 1
  have CY2 : w4.cell? ⟨w.heap.size + 1, 2, none⟩ = some (.slice B' (limbs b.d).length d') := CY.out.cell 2
  go_wp2
  go_ret2
  exact ⟨rfl, HW.out⟩

set_option maxRecDepth 100000 in
set_option maxHeartbeats 1000000 in
theorem qcmp_over_y (A B A' B' : Option Addr) (c d c' d' : Nat) (a b : Q) (w : World) (h1 : RdL w A (limbs a.n)) (h2 : RdL w B (limbs a.d)) (h3 : RdL w A' (limbs b.n)) (h4 : RdL w B' (limbs b.d)) (k1 : (limbs a.n).length ≤ c) (k2 : (limbs a.d).length ≤ d) (k3 : (limbs b.n).length ≤ c') (k4 : (limbs b.d).length ≤ d') (t1 : a.n < Top) (t2 : a.d < Top) (t3 : b.n < Top) (t4 : b.d < Top) (ra : QR a) (rb : QR b) (hf : (a.n * b.d) < Top ∧ ¬ (b.n * a.d) < Top) :
    Calls Try.prog 40 #[.agg #[.bool a.s, .slice A (limbs a.n).length c, .slice B (limbs a.d).length d], .agg #[.bool b.s, .slice A' (limbs b.n).length c', .slice B' (limbs b.d).length d']] w (RetIEB 0 2 w) := by
  have R1 := Lib.hid h1; clear h1
  have R2 := Lib.hid h2; clear h2
  have R3 := Lib.hid h3; clear h3
  have R4 := Lib.hid h4; clear h4
  have K := Lib.hid (And.intro k1 (And.intro k2 (And.intro k3 k4))); clear k1 k2 k3 k4
  have T := Lib.hid (And.intro t1 (And.intro t2 (And.intro t3 t4))); clear t1 t2 t3 t4
  have HA := Lib.hid ra; clear ra
  have HB := Lib.hid rb; clear rb
  have HF := Lib.hid hf; clear hf
  obtain ⟨wa, hwa⟩ : ∃ wa, wa = (w.alloc (.cells #[.bool a.s, .slice A (limbs a.n).length c, .slice B (limbs a.d).length d] 25)).alloc (.cells #[.bool b.s, .slice A' (limbs b.n).length c', .slice B' (limbs b.d).length d'] 25) := ⟨_, rfl⟩
  have hbl : Below w.heap.size w wa := by rw [hwa]; exact bel_alloc (bel_alloc (bel_refl _) _) _
  have CX : Blk wa (w.heap.size) 25 #[.bool a.s, .slice A (limbs a.n).length c, .slice B (limbs a.d).length d] := by
    have hz := Blk.new (w) 25 #[.bool a.s, .slice A (limbs a.n).length c, .slice B (limbs a.d).length d]
    rw [hwa]
    exact (hz.alloc _)
  have CY : Blk wa (w.heap.size + 1) 25 #[.bool b.s, .slice A' (limbs b.n).length c', .slice B' (limbs b.d).length d'] := by
    have hz := Blk.new (w.alloc (.cells #[.bool a.s, .slice A (limbs a.n).length c, .slice B (limbs a.d).length d] 25)) 25 #[.bool b.s, .slice A' (limbs b.n).length c', .slice B' (limbs b.d).length d']
    rw [World.size_alloc] at hz
    rw [hwa]
    exact hz
  replace R1 := Lib.hid (R1.out.below hbl)
  replace R2 := Lib.hid (R2.out.below hbl)
  replace R3 := Lib.hid (R3.out.below hbl)
  replace R4 := Lib.hid (R4.out.below hbl)
  have HW := Lib.hid hbl; clear hbl
  replace CX := Lib.hid CX
  replace CY := Lib.hid CY
  go_enter Try.func40, Try.ntmps40
  go_wp2_with fail
  rw [← hwa]
  clear hwa
  have CX0 : wa.cell? ⟨w.heap.size, 0, none⟩ = some (.bool a.s) := CX.out.cell 0
  have CX1 : wa.cell? ⟨w.heap.size, 1, none⟩ = some (.slice A (limbs a.n).length c) := CX.out.cell 1
  have CX2 : wa.cell? ⟨w.heap.size, 2, none⟩ = some (.slice B (limbs a.d).length d) := CX.out.cell 2
  have CY0 : wa.cell? ⟨w.heap.size + 1, 0, none⟩ = some (.bool b.s) := CY.out.cell 0
  have CY1 : wa.cell? ⟨w.heap.size + 1, 1, none⟩ = some (.slice A' (limbs b.n).length c') := CY.out.cell 1
  have CY2 : wa.cell? ⟨w.heap.size + 1, 2, none⟩ = some (.slice B' (limbs b.d).length d') := CY.out.cell 2
  refine (ratRight_q a A B c d _ R1.out R2.out K.out.1 K.out.2.1 T.out.1 T.out.2.1 HA.out).mono ?_
  rintro e w1 ⟨rfl, hbl⟩
  replace R1 := Lib.hid (R1.out.below hbl)
  replace R2 := Lib.hid (R2.out.below hbl)
  replace R3 := Lib.hid (R3.out.below hbl)
  replace R4 := Lib.hid (R4.out.below hbl)
  replace CX := Lib.hid (CX.out.below hbl CX.out.lt)
  replace CY := Lib.hid (CY.out.below hbl CY.out.lt)
  replace HW := Lib.hid (bel_trans HW.out hbl); clear hbl
  clear CX0 CX1 CX2 CY0 CY1 CY2
  have CX0 : w1.cell? ⟨w.heap.size, 0, none⟩ = some (.bool a.s) := CX.out.cell 0
  have CX1 : w1.cell? ⟨w.heap.size, 1, none⟩ = some (.slice A (limbs a.n).length c) := CX.out.cell 1
  have CX2 : w1.cell? ⟨w.heap.size, 2, none⟩ = some (.slice B (limbs a.d).length d) := CX.out.cell 2
  have CY0 : w1.cell? ⟨w.heap.size + 1, 0, none⟩ = some (.bool b.s) := CY.out.cell 0
  have CY1 : w1.cell? ⟨w.heap.size + 1, 1, none⟩ = some (.slice A' (limbs b.n).length c') := CY.out.cell 1
  have CY2 : w1.cell? ⟨w.heap.size + 1, 2, none⟩ = some (.slice B' (limbs b.d).length d') := CY.out.cell 2
  go_wp2_with fail
  refine (ratRight_q b A' B' c' d' _ R3.out R4.out K.out.2.2.1 K.out.2.2.2 T.out.2.2.1 T.out.2.2.2 HB.out).mono ?_
  rintro e w2 ⟨rfl, hbl⟩
  replace R1 := Lib.hid (R1.out.below hbl)
  replace R2 := Lib.hid (R2.out.below hbl)
  replace R3 := Lib.hid (R3.out.below hbl)
  replace R4 := Lib.hid (R4.out.below hbl)
  replace CX := Lib.hid (CX.out.below hbl CX.out.lt)
  replace CY := Lib.hid (CY.out.below hbl CY.out.lt)
  replace HW := Lib.hid (bel_trans HW.out hbl); clear hbl
  clear CX0 CX1 CX2 CY0 CY1 CY2
  have CX0 : w2.cell? ⟨w.heap.size, 0, none⟩ = some (.bool a.s) := CX.out.cell 0
  have CX1 : w2.cell? ⟨w.heap.size, 1, none⟩ = some (.slice A (limbs a.n).length c) := CX.out.cell 1
  have CX2 : w2.cell? ⟨w.heap.size, 2, none⟩ = some (.slice B (limbs a.d).length d) := CX.out.cell 2
  have CY0 : w2.cell? ⟨w.heap.size + 1, 0, none⟩ = some (.bool b.s) := CY.out.cell 0
  have CY1 : w2.cell? ⟨w.heap.size + 1, 1, none⟩ = some (.slice A' (limbs b.n).length c') := CY.out.cell 1
  have CY2 : w2.cell? ⟨w.heap.size + 1, 2, none⟩ = some (.slice B' (limbs b.d).length d') := CY.out.cell 2
  go_wp2_with fail
  refine (mul_small A B' c d' a.n b.d (a.n * b.d) _ R1.out R4.out T.out.1 T.out.2.2.2 rfl HF.out.1).mono ?_
  rintro e w3 ⟨vx, rfl, hnx, hbl⟩
  replace R1 := Lib.hid (R1.out.below hbl)
  replace R2 := Lib.hid (R2.out.below hbl)
  replace R3 := Lib.hid (R3.out.below hbl)
  replace R4 := Lib.hid (R4.out.below hbl)
  replace CX := Lib.hid (CX.out.below hbl CX.out.lt)
  replace CY := Lib.hid (CY.out.below hbl CY.out.lt)
  replace HW := Lib.hid (bel_trans HW.out hbl); clear hbl
  clear CX0 CX1 CX2 CY0 CY1 CY2
  have CX0 : w3.cell? ⟨w.heap.size, 0, none⟩ = some (.bool a.s) := CX.out.cell 0
  have CX1 : w3.cell? ⟨w.heap.size, 1, none⟩ = some (.slice A (limbs a.n).length c) := CX.out.cell 1
  have CX2 : w3.cell? ⟨w.heap.size, 2, none⟩ = some (.slice B (limbs a.d).length d) := CX.out.cell 2
  have CY0 : w3.cell? ⟨w.heap.size + 1, 0, none⟩ = some (.bool b.s) := CY.out.cell 0
  have CY1 : w3.cell? ⟨w.heap.size + 1, 1, none⟩ = some (.slice A' (limbs b.n).length c') := CY.out.cell 1
  have CY2 : w3.cell? ⟨w.heap.size + 1, 2, none⟩ = some (.slice B' (limbs b.d).length d') := CY.out.cell 2
  have HNx := Lib.hid hnx; clear hnx
  obtain ⟨Ax, cx, rfl, hcx, hrx⟩ := HNx.out.row
  have Rx := Lib.hid hrx; have HCx := Lib.hid hcx; clear hrx hcx
  go_wp2_with fail
  refine (mul_over A' B c' d b.n a.d _ R3.out R2.out T.out.2.2.1 T.out.2.1 HF.out.2).mono ?_
  rintro e w4 ⟨vy, rfl, hny, hbl⟩
  replace R1 := Lib.hid (R1.out.below hbl)
  replace R2 := Lib.hid (R2.out.below hbl)
  replace R3 := Lib.hid (R3.out.below hbl)
  replace R4 := Lib.hid (R4.out.below hbl)
  replace Rx := Lib.hid (Rx.out.below hbl)
  replace HNx := Lib.hid (HNx.out.below hbl)
  replace CX := Lib.hid (CX.out.below hbl CX.out.lt)
  replace CY := Lib.hid (CY.out.below hbl CY.out.lt)
  replace HW := Lib.hid (bel_trans HW.out hbl); clear hbl
  clear CX0 CX1 CX2 CY0 CY1 CY2
  have CX0 : w4.cell? ⟨w.heap.size, 0, none⟩ = some (.bool a.s) := CX.out.cell 0
  have CX1 : w4.cell? ⟨w.heap.size, 1, none⟩ = some (.slice A (limbs a.n).length c) := CX.out.cell 1
  have CX2 : w4.cell? ⟨w.heap.size, 2, none⟩ = some (.slice B (limbs a.d).length d) := CX.out.cell 2
  have CY0 : w4.cell? ⟨w.heap.size + 1, 0, none⟩ = some (.bool b.s) := CY.out.cell 0
  have CY1 : w4.cell? ⟨w.heap.size + 1, 1, none⟩ = some (.slice A' (limbs b.n).length c') := CY.out.cell 1
  have CY2 : w4.cell? ⟨w.heap.size + 1, 2, none⟩ = some (.slice B' (limbs b.d).length d') := CY.out.cell 2
  have HNy := Lib.hid hny; clear hny
  obtain ⟨Ay, cy, rfl, hcy, hry⟩ := HNy.out.row
  have Ry := Lib.hid hry; have HCy := Lib.hid hcy; clear hry hcy
  go_wp2
  go_ret2
  exact ⟨rfl, HW.out⟩

set_option maxRecDepth 100000 in
set_option maxHeartbeats 1000000 in
theorem qcmp_tt (A B A' B' : Option Addr) (c d c' d' : Nat) (a b : Q) (w : World) (h1 : RdL w A (limbs a.n)) (h2 : RdL w B (limbs a.d)) (h3 : RdL w A' (limbs b.n)) (h4 : RdL w B' (limbs b.d)) (k1 : (limbs a.n).length ≤ c) (k2 : (limbs a.d).length ≤ d) (k3 : (limbs b.n).length ≤ c') (k4 : (limbs b.d).length ≤ d') (t1 : a.n < Top) (t2 : a.d < Top) (t3 : b.n < Top) (t4 : b.d < Top) (ra : QR a) (rb : QR b) (hf : (a.n * b.d) < Top ∧ (b.n * a.d) < Top) (hs1 : a.s = true) (hs2 : b.s = true) :
    Calls Try.prog 40 #[.agg #[.bool a.s, .slice A (limbs a.n).length c, .slice B (limbs a.d).length d], .agg #[.bool b.s, .slice A' (limbs b.n).length c', .slice B' (limbs b.d).length d']] w (RetIEB (cmpS a.s b.s (a.n * b.d) (b.n * a.d)) 0 w) := by
  have R1 := Lib.hid h1; clear h1
  have R2 := Lib.hid h2; clear h2
  have R3 := Lib.hid h3; clear h3
  have R4 := Lib.hid h4; clear h4
  have K := Lib.hid (And.intro k1 (And.intro k2 (And.intro k3 k4))); clear k1 k2 k3 k4
  have T := Lib.hid (And.intro t1 (And.intro t2 (And.intro t3 t4))); clear t1 t2 t3 t4
  have HA := Lib.hid ra; clear ra
  have HB := Lib.hid rb; clear rb
  have HF := Lib.hid hf; clear hf
  have HS := Lib.hid (And.intro hs1 hs2)
  rw [hs1, hs2]
  clear hs1 hs2
  obtain ⟨x, hx⟩ : ∃ x, (a.n * b.d) = x := ⟨_, rfl⟩
  obtain ⟨y, hy⟩ : ∃ y, (b.n * a.d) = y := ⟨_, rfl⟩
  rw [hx, hy] at HF ⊢
  have HXY := Lib.hid (And.intro hx hy); clear hx hy
  obtain ⟨wa, hwa⟩ : ∃ wa, wa = (w.alloc (.cells #[.bool true, .slice A (limbs a.n).length c, .slice B (limbs a.d).length d] 25)).alloc (.cells #[.bool true, .slice A' (limbs b.n).length c', .slice B' (limbs b.d).length d'] 25) := ⟨_, rfl⟩
  have hbl : Below w.heap.size w wa := by rw [hwa]; exact bel_alloc (bel_alloc (bel_refl _) _) _
  have CX : Blk wa (w.heap.size) 25 #[.bool true, .slice A (limbs a.n).length c, .slice B (limbs a.d).length d] := by
    have hz := Blk.new (w) 25 #[.bool true, .slice A (limbs a.n).length c, .slice B (limbs a.d).length d]
    rw [hwa]
    exact (hz.alloc _)
  have CY : Blk wa (w.heap.size + 1) 25 #[.bool true, .slice A' (limbs b.n).length c', .slice B' (limbs b.d).length d'] := by
    have hz := Blk.new (w.alloc (.cells #[.bool true, .slice A (limbs a.n).length c, .slice B (limbs a.d).length d] 25)) 25 #[.bool true, .slice A' (limbs b.n).length c', .slice B' (limbs b.d).length d']
    rw [World.size_alloc] at hz
    rw [hwa]
    exact hz
  replace R1 := Lib.hid (R1.out.below hbl)
  replace R2 := Lib.hid (R2.out.below hbl)
  replace R3 := Lib.hid (R3.out.below hbl)
  replace R4 := Lib.hid (R4.out.below hbl)
  have HW := Lib.hid hbl; clear hbl
  replace CX := Lib.hid CX
  replace CY := Lib.hid CY
  go_enter Try.func40, Try.ntmps40
  go_wp2_with fail
  rw [← hwa]
  clear hwa
  have CX0 : wa.cell? ⟨w.heap.size, 0, none⟩ = some (.bool true) := CX.out.cell 0
  have CX1 : wa.cell? ⟨w.heap.size, 1, none⟩ = some (.slice A (limbs a.n).length c) := CX.out.cell 1
  have CX2 : wa.cell? ⟨w.heap.size, 2, none⟩ = some (.slice B (limbs a.d).length d) := CX.out.cell 2
  have CY0 : wa.cell? ⟨w.heap.size + 1, 0, none⟩ = some (.bool true) := CY.out.cell 0
  have CY1 : wa.cell? ⟨w.heap.size + 1, 1, none⟩ = some (.slice A' (limbs b.n).length c') := CY.out.cell 1
  have CY2 : wa.cell? ⟨w.heap.size + 1, 2, none⟩ = some (.slice B' (limbs b.d).length d') := CY.out.cell 2
  refine (ratRight_s a A B c d _ R1.out R2.out K.out.1 K.out.2.1 T.out.1 T.out.2.1 HA.out HS.out.1).mono ?_
  rintro e w1 ⟨rfl, hbl⟩
  replace R1 := Lib.hid (R1.out.below hbl)
  replace R2 := Lib.hid (R2.out.below hbl)
  replace R3 := Lib.hid (R3.out.below hbl)
  replace R4 := Lib.hid (R4.out.below hbl)
  replace CX := Lib.hid (CX.out.below hbl CX.out.lt)
  replace CY := Lib.hid (CY.out.below hbl CY.out.lt)
  replace HW := Lib.hid (bel_trans HW.out hbl); clear hbl
  clear CX0 CX1 CX2 CY0 CY1 CY2
  have CX0 : w1.cell? ⟨w.heap.size, 0, none⟩ = some (.bool true) := CX.out.cell 0
  have CX1 : w1.cell? ⟨w.heap.size, 1, none⟩ = some (.slice A (limbs a.n).length c) := CX.out.cell 1
  have CX2 : w1.cell? ⟨w.heap.size, 2, none⟩ = some (.slice B (limbs a.d).length d) := CX.out.cell 2
  have CY0 : w1.cell? ⟨w.heap.size + 1, 0, none⟩ = some (.bool true) := CY.out.cell 0
  have CY1 : w1.cell? ⟨w.heap.size + 1, 1, none⟩ = some (.slice A' (limbs b.n).length c') := CY.out.cell 1
  have CY2 : w1.cell? ⟨w.heap.size + 1, 2, none⟩ = some (.slice B' (limbs b.d).length d') := CY.out.cell 2
  go_wp2_with fail
  refine (ratRight_s b A' B' c' d' _ R3.out R4.out K.out.2.2.1 K.out.2.2.2 T.out.2.2.1 T.out.2.2.2 HB.out HS.out.2).mono ?_
  rintro e w2 ⟨rfl, hbl⟩
  replace R1 := Lib.hid (R1.out.below hbl)
  replace R2 := Lib.hid (R2.out.below hbl)
  replace R3 := Lib.hid (R3.out.below hbl)
  replace R4 := Lib.hid (R4.out.below hbl)
  replace CX := Lib.hid (CX.out.below hbl CX.out.lt)
  replace CY := Lib.hid (CY.out.below hbl CY.out.lt)
  replace HW := Lib.hid (bel_trans HW.out hbl); clear hbl
  clear CX0 CX1 CX2 CY0 CY1 CY2
  have CX0 : w2.cell? ⟨w.heap.size, 0, none⟩ = some (.bool true) := CX.out.cell 0
  have CX1 : w2.cell? ⟨w.heap.size, 1, none⟩ = some (.slice A (limbs a.n).length c) := CX.out.cell 1
  have CX2 : w2.cell? ⟨w.heap.size, 2, none⟩ = some (.slice B (limbs a.d).length d) := CX.out.cell 2
  have CY0 : w2.cell? ⟨w.heap.size + 1, 0, none⟩ = some (.bool true) := CY.out.cell 0
  have CY1 : w2.cell? ⟨w.heap.size + 1, 1, none⟩ = some (.slice A' (limbs b.n).length c') := CY.out.cell 1
  have CY2 : w2.cell? ⟨w.heap.size + 1, 2, none⟩ = some (.slice B' (limbs b.d).length d') := CY.out.cell 2
  go_wp2_with fail
  refine (mul_small A B' c d' a.n b.d x _ R1.out R4.out T.out.1 T.out.2.2.2 HXY.out.1 HF.out.1).mono ?_
  rintro e w3 ⟨vx, rfl, hnx, hbl⟩
  replace R1 := Lib.hid (R1.out.below hbl)
  replace R2 := Lib.hid (R2.out.below hbl)
  replace R3 := Lib.hid (R3.out.below hbl)
  replace R4 := Lib.hid (R4.out.below hbl)
  replace CX := Lib.hid (CX.out.below hbl CX.out.lt)
  replace CY := Lib.hid (CY.out.below hbl CY.out.lt)
  replace HW := Lib.hid (bel_trans HW.out hbl); clear hbl
  clear CX0 CX1 CX2 CY0 CY1 CY2
  have CX0 : w3.cell? ⟨w.heap.size, 0, none⟩ = some (.bool true) := CX.out.cell 0
  have CX1 : w3.cell? ⟨w.heap.size, 1, none⟩ = some (.slice A (limbs a.n).length c) := CX.out.cell 1
  have CX2 : w3.cell? ⟨w.heap.size, 2, none⟩ = some (.slice B (limbs a.d).length d) := CX.out.cell 2
  have CY0 : w3.cell? ⟨w.heap.size + 1, 0, none⟩ = some (.bool true) := CY.out.cell 0
  have CY1 : w3.cell? ⟨w.heap.size + 1, 1, none⟩ = some (.slice A' (limbs b.n).length c') := CY.out.cell 1
  have CY2 : w3.cell? ⟨w.heap.size + 1, 2, none⟩ = some (.slice B' (limbs b.d).length d') := CY.out.cell 2
  have HNx := Lib.hid hnx; clear hnx
  obtain ⟨Ax, cx, rfl, hcx, hrx⟩ := HNx.out.row
  have Rx := Lib.hid hrx; have HCx := Lib.hid hcx; clear hrx hcx
  go_wp2_with fail
  refine (mul_small A' B c' d b.n a.d y _ R3.out R2.out T.out.2.2.1 T.out.2.1 HXY.out.2 HF.out.2).mono ?_
  rintro e w4 ⟨vy, rfl, hny, hbl⟩
  replace R1 := Lib.hid (R1.out.below hbl)
  replace R2 := Lib.hid (R2.out.below hbl)
  replace R3 := Lib.hid (R3.out.below hbl)
  replace R4 := Lib.hid (R4.out.below hbl)
  replace Rx := Lib.hid (Rx.out.below hbl)
  replace HNx := Lib.hid (HNx.out.below hbl)
  replace CX := Lib.hid (CX.out.below hbl CX.out.lt)
  replace CY := Lib.hid (CY.out.below hbl CY.out.lt)
  replace HW := Lib.hid (bel_trans HW.out hbl); clear hbl
  clear CX0 CX1 CX2 CY0 CY1 CY2
  have CX0 : w4.cell? ⟨w.heap.size, 0, none⟩ = some (.bool true) := CX.out.cell 0
  have CX1 : w4.cell? ⟨w.heap.size, 1, none⟩ = some (.slice A (limbs a.n).length c) := CX.out.cell 1
  have CX2 : w4.cell? ⟨w.heap.size, 2, none⟩ = some (.slice B (limbs a.d).length d) := CX.out.cell 2
  have CY0 : w4.cell? ⟨w.heap.size + 1, 0, none⟩ = some (.bool true) := CY.out.cell 0
  have CY1 : w4.cell? ⟨w.heap.size + 1, 1, none⟩ = some (.slice A' (limbs b.n).length c') := CY.out.cell 1
  have CY2 : w4.cell? ⟨w.heap.size + 1, 2, none⟩ = some (.slice B' (limbs b.d).length d') := CY.out.cell 2
  have HNy := Lib.hid hny; clear hny
  obtain ⟨Ay, cy, rfl, hcy, hry⟩ := HNy.out.row
  have Ry := Lib.hid hry; have HCy := Lib.hid hcy; clear hry hcy
  go_wp2_with fail
  refine (cmp_num Ax Ay cx cy x y _ Rx.out Ry.out HF.out.1 HF.out.2).mono ?_
  rintro e w5 ⟨rfl, hbl⟩
  replace R1 := Lib.hid (R1.out.below hbl)
  replace R2 := Lib.hid (R2.out.below hbl)
  replace R3 := Lib.hid (R3.out.below hbl)
  replace R4 := Lib.hid (R4.out.below hbl)
  replace Rx := Lib.hid (Rx.out.below hbl)
  replace HNx := Lib.hid (HNx.out.below hbl)
  replace Ry := Lib.hid (Ry.out.below hbl)
  replace HNy := Lib.hid (HNy.out.below hbl)
  replace CX := Lib.hid (CX.out.below hbl CX.out.lt)
  replace CY := Lib.hid (CY.out.below hbl CY.out.lt)
  replace HW := Lib.hid (bel_trans HW.out hbl); clear hbl
  clear CX0 CX1 CX2 CY0 CY1 CY2
  have CX0 : w5.cell? ⟨w.heap.size, 0, none⟩ = some (.bool true) := CX.out.cell 0
  have CX1 : w5.cell? ⟨w.heap.size, 1, none⟩ = some (.slice A (limbs a.n).length c) := CX.out.cell 1
  have CX2 : w5.cell? ⟨w.heap.size, 2, none⟩ = some (.slice B (limbs a.d).length d) := CX.out.cell 2
  have CY0 : w5.cell? ⟨w.heap.size + 1, 0, none⟩ = some (.bool true) := CY.out.cell 0
  have CY1 : w5.cell? ⟨w.heap.size + 1, 1, none⟩ = some (.slice A' (limbs b.n).length c') := CY.out.cell 1
  have CY2 : w5.cell? ⟨w.heap.size + 1, 2, none⟩ = some (.slice B' (limbs b.d).length d') := CY.out.cell 2
  go_wp2
  go_ret2
  refine ⟨?_, HW.out⟩
  show Ending.returned (.tuple #[.int .i64 _, .int .i64 0]) = _
  rw [wrap_neg, cmpI_nat]
  rfl

set_option maxRecDepth 100000 in
set_option maxHeartbeats 1000000 in
theorem qcmp_tf (A B A' B' : Option Addr) (c d c' d' : Nat) (a b : Q) (w : World) (h1 : RdL w A (limbs a.n)) (h2 : RdL w B (limbs a.d)) (h3 : RdL w A' (limbs b.n)) (h4 : RdL w B' (limbs b.d)) (k1 : (limbs a.n).length ≤ c) (k2 : (limbs a.d).length ≤ d) (k3 : (limbs b.n).length ≤ c') (k4 : (limbs b.d).length ≤ d') (t1 : a.n < Top) (t2 : a.d < Top) (t3 : b.n < Top) (t4 : b.d < Top) (ra : QR a) (rb : QR b) (hf : (a.n * b.d) < Top ∧ (b.n * a.d) < Top) (hs1 : a.s = true) (hs2 : b.s = false) :
    Calls Try.prog 40 #[.agg #[.bool a.s, .slice A (limbs a.n).length c, .slice B (limbs a.d).length d], .agg #[.bool b.s, .slice A' (limbs b.n).length c', .slice B' (limbs b.d).length d']] w (RetIEB (cmpS a.s b.s (a.n * b.d) (b.n * a.d)) 0 w) := by
  have R1 := Lib.hid h1; clear h1
  have R2 := Lib.hid h2; clear h2
  have R3 := Lib.hid h3; clear h3
  have R4 := Lib.hid h4; clear h4
  have K := Lib.hid (And.intro k1 (And.intro k2 (And.intro k3 k4))); clear k1 k2 k3 k4
  have T := Lib.hid (And.intro t1 (And.intro t2 (And.intro t3 t4))); clear t1 t2 t3 t4
  have HA := Lib.hid ra; clear ra
  have HB := Lib.hid rb; clear rb
  have HF := Lib.hid hf; clear hf
  have HS := Lib.hid (And.intro hs1 hs2)
  rw [hs1, hs2]
  clear hs1 hs2
  obtain ⟨x, hx⟩ : ∃ x, (a.n * b.d) = x := ⟨_, rfl⟩
  obtain ⟨y, hy⟩ : ∃ y, (b.n * a.d) = y := ⟨_, rfl⟩
  rw [hx, hy] at HF ⊢
  have HXY := Lib.hid (And.intro hx hy); clear hx hy
  obtain ⟨wa, hwa⟩ : ∃ wa, wa = (w.alloc (.cells #[.bool true, .slice A (limbs a.n).length c, .slice B (limbs a.d).length d] 25)).alloc (.cells #[.bool false, .slice A' (limbs b.n).length c', .slice B' (limbs b.d).length d'] 25) := ⟨_, rfl⟩
  have hbl : Below w.heap.size w wa := by rw [hwa]; exact bel_alloc (bel_alloc (bel_refl _) _) _
  have CX : Blk wa (w.heap.size) 25 #[.bool true, .slice A (limbs a.n).length c, .slice B (limbs a.d).length d] := by
    have hz := Blk.new (w) 25 #[.bool true, .slice A (limbs a.n).length c, .slice B (limbs a.d).length d]
    rw [hwa]
    exact (hz.alloc _)
  have CY : Blk wa (w.heap.size + 1) 25 #[.bool false, .slice A' (limbs b.n).length c', .slice B' (limbs b.d).length d'] := by
    have hz := Blk.new (w.alloc (.cells #[.bool true, .slice A (limbs a.n).length c, .slice B (limbs a.d).length d] 25)) 25 #[.bool false, .slice A' (limbs b.n).length c', .slice B' (limbs b.d).length d']
    rw [World.size_alloc] at hz
    rw [hwa]
    exact hz
  replace R1 := Lib.hid (R1.out.below hbl)
  replace R2 := Lib.hid (R2.out.below hbl)
  replace R3 := Lib.hid (R3.out.below hbl)
  replace R4 := Lib.hid (R4.out.below hbl)
  have HW := Lib.hid hbl; clear hbl
  replace CX := Lib.hid CX
  replace CY := Lib.hid CY
  go_enter Try.func40, Try.ntmps40
  go_wp2_with fail
  rw [← hwa]
  clear hwa
  have CX0 : wa.cell? ⟨w.heap.size, 0, none⟩ = some (.bool true) := CX.out.cell 0
  have CX1 : wa.cell? ⟨w.heap.size, 1, none⟩ = some (.slice A (limbs a.n).length c) := CX.out.cell 1
  have CX2 : wa.cell? ⟨w.heap.size, 2, none⟩ = some (.slice B (limbs a.d).length d) := CX.out.cell 2
  have CY0 : wa.cell? ⟨w.heap.size + 1, 0, none⟩ = some (.bool false) := CY.out.cell 0
  have CY1 : wa.cell? ⟨w.heap.size + 1, 1, none⟩ = some (.slice A' (limbs b.n).length c') := CY.out.cell 1
  have CY2 : wa.cell? ⟨w.heap.size + 1, 2, none⟩ = some (.slice B' (limbs b.d).length d') := CY.out.cell 2
  refine (ratRight_s a A B c d _ R1.out R2.out K.out.1 K.out.2.1 T.out.1 T.out.2.1 HA.out HS.out.1).mono ?_
  rintro e w1 ⟨rfl, hbl⟩
  replace R1 := Lib.hid (R1.out.below hbl)
  replace R2 := Lib.hid (R2.out.below hbl)
  replace R3 := Lib.hid (R3.out.below hbl)
  replace R4 := Lib.hid (R4.out.below hbl)
  replace CX := Lib.hid (CX.out.below hbl CX.out.lt)
  replace CY := Lib.hid (CY.out.below hbl CY.out.lt)
  replace HW := Lib.hid (bel_trans HW.out hbl); clear hbl
  clear CX0 CX1 CX2 CY0 CY1 CY2
  have CX0 : w1.cell? ⟨w.heap.size, 0, none⟩ = some (.bool true) := CX.out.cell 0
  have CX1 : w1.cell? ⟨w.heap.size, 1, none⟩ = some (.slice A (limbs a.n).length c) := CX.out.cell 1
  have CX2 : w1.cell? ⟨w.heap.size, 2, none⟩ = some (.slice B (limbs a.d).length d) := CX.out.cell 2
  have CY0 : w1.cell? ⟨w.heap.size + 1, 0, none⟩ = some (.bool false) := CY.out.cell 0
  have CY1 : w1.cell? ⟨w.heap.size + 1, 1, none⟩ = some (.slice A' (limbs b.n).length c') := CY.out.cell 1
  have CY2 : w1.cell? ⟨w.heap.size + 1, 2, none⟩ = some (.slice B' (limbs b.d).length d') := CY.out.cell 2
  go_wp2_with fail
  refine (ratRight_s b A' B' c' d' _ R3.out R4.out K.out.2.2.1 K.out.2.2.2 T.out.2.2.1 T.out.2.2.2 HB.out HS.out.2).mono ?_
  rintro e w2 ⟨rfl, hbl⟩
  replace R1 := Lib.hid (R1.out.below hbl)
  replace R2 := Lib.hid (R2.out.below hbl)
  replace R3 := Lib.hid (R3.out.below hbl)
  replace R4 := Lib.hid (R4.out.below hbl)
  replace CX := Lib.hid (CX.out.below hbl CX.out.lt)
  replace CY := Lib.hid (CY.out.below hbl CY.out.lt)
  replace HW := Lib.hid (bel_trans HW.out hbl); clear hbl
  clear CX0 CX1 CX2 CY0 CY1 CY2
  have CX0 : w2.cell? ⟨w.heap.size, 0, none⟩ = some (.bool true) := CX.out.cell 0
  have CX1 : w2.cell? ⟨w.heap.size, 1, none⟩ = some (.slice A (limbs a.n).length c) := CX.out.cell 1
  have CX2 : w2.cell? ⟨w.heap.size, 2, none⟩ = some (.slice B (limbs a.d).length d) := CX.out.cell 2
  have CY0 : w2.cell? ⟨w.heap.size + 1, 0, none⟩ = some (.bool false) := CY.out.cell 0
  have CY1 : w2.cell? ⟨w.heap.size + 1, 1, none⟩ = some (.slice A' (limbs b.n).length c') := CY.out.cell 1
  have CY2 : w2.cell? ⟨w.heap.size + 1, 2, none⟩ = some (.slice B' (limbs b.d).length d') := CY.out.cell 2
  go_wp2_with fail
  refine (mul_small A B' c d' a.n b.d x _ R1.out R4.out T.out.1 T.out.2.2.2 HXY.out.1 HF.out.1).mono ?_
  rintro e w3 ⟨vx, rfl, hnx, hbl⟩
  replace R1 := Lib.hid (R1.out.below hbl)
  replace R2 := Lib.hid (R2.out.below hbl)
  replace R3 := Lib.hid (R3.out.below hbl)
  replace R4 := Lib.hid (R4.out.below hbl)
  replace CX := Lib.hid (CX.out.below hbl CX.out.lt)
  replace CY := Lib.hid (CY.out.below hbl CY.out.lt)
  replace HW := Lib.hid (bel_trans HW.out hbl); clear hbl
  clear CX0 CX1 CX2 CY0 CY1 CY2
  have CX0 : w3.cell? ⟨w.heap.size, 0, none⟩ = some (.bool true) := CX.out.cell 0
  have CX1 : w3.cell? ⟨w.heap.size, 1, none⟩ = some (.slice A (limbs a.n).length c) := CX.out.cell 1
  have CX2 : w3.cell? ⟨w.heap.size, 2, none⟩ = some (.slice B (limbs a.d).length d) := CX.out.cell 2
  have CY0 : w3.cell? ⟨w.heap.size + 1, 0, none⟩ = some (.bool false) := CY.out.cell 0
  have CY1 : w3.cell? ⟨w.heap.size + 1, 1, none⟩ = some (.slice A' (limbs b.n).length c') := CY.out.cell 1
  have CY2 : w3.cell? ⟨w.heap.size + 1, 2, none⟩ = some (.slice B' (limbs b.d).length d') := CY.out.cell 2
  have HNx := Lib.hid hnx; clear hnx
  obtain ⟨Ax, cx, rfl, hcx, hrx⟩ := HNx.out.row
  have Rx := Lib.hid hrx; have HCx := Lib.hid hcx; clear hrx hcx
  go_wp2_with fail
  refine (mul_small A' B c' d b.n a.d y _ R3.out R2.out T.out.2.2.1 T.out.2.1 HXY.out.2 HF.out.2).mono ?_
  rintro e w4 ⟨vy, rfl, hny, hbl⟩
  replace R1 := Lib.hid (R1.out.below hbl)
  replace R2 := Lib.hid (R2.out.below hbl)
  replace R3 := Lib.hid (R3.out.below hbl)
  replace R4 := Lib.hid (R4.out.below hbl)
  replace Rx := Lib.hid (Rx.out.below hbl)
  replace HNx := Lib.hid (HNx.out.below hbl)
  replace CX := Lib.hid (CX.out.below hbl CX.out.lt)
  replace CY := Lib.hid (CY.out.below hbl CY.out.lt)
  replace HW := Lib.hid (bel_trans HW.out hbl); clear hbl
  clear CX0 CX1 CX2 CY0 CY1 CY2
  have CX0 : w4.cell? ⟨w.heap.size, 0, none⟩ = some (.bool true) := CX.out.cell 0
  have CX1 : w4.cell? ⟨w.heap.size, 1, none⟩ = some (.slice A (limbs a.n).length c) := CX.out.cell 1
  have CX2 : w4.cell? ⟨w.heap.size, 2, none⟩ = some (.slice B (limbs a.d).length d) := CX.out.cell 2
  have CY0 : w4.cell? ⟨w.heap.size + 1, 0, none⟩ = some (.bool false) := CY.out.cell 0
  have CY1 : w4.cell? ⟨w.heap.size + 1, 1, none⟩ = some (.slice A' (limbs b.n).length c') := CY.out.cell 1
  have CY2 : w4.cell? ⟨w.heap.size + 1, 2, none⟩ = some (.slice B' (limbs b.d).length d') := CY.out.cell 2
  have HNy := Lib.hid hny; clear hny
  obtain ⟨Ay, cy, rfl, hcy, hry⟩ := HNy.out.row
  have Ry := Lib.hid hry; have HCy := Lib.hid hcy; clear hry hcy
  go_wp2_with fail
  refine (cmp_num Ax Ay cx cy x y _ Rx.out Ry.out HF.out.1 HF.out.2).mono ?_
  rintro e w5 ⟨rfl, hbl⟩
  replace R1 := Lib.hid (R1.out.below hbl)
  replace R2 := Lib.hid (R2.out.below hbl)
  replace R3 := Lib.hid (R3.out.below hbl)
  replace R4 := Lib.hid (R4.out.below hbl)
  replace Rx := Lib.hid (Rx.out.below hbl)
  replace HNx := Lib.hid (HNx.out.below hbl)
  replace Ry := Lib.hid (Ry.out.below hbl)
  replace HNy := Lib.hid (HNy.out.below hbl)
  replace CX := Lib.hid (CX.out.below hbl CX.out.lt)
  replace CY := Lib.hid (CY.out.below hbl CY.out.lt)
  replace HW := Lib.hid (bel_trans HW.out hbl); clear hbl
  clear CX0 CX1 CX2 CY0 CY1 CY2
  have CX0 : w5.cell? ⟨w.heap.size, 0, none⟩ = some (.bool true) := CX.out.cell 0
  have CX1 : w5.cell? ⟨w.heap.size, 1, none⟩ = some (.slice A (limbs a.n).length c) := CX.out.cell 1
  have CX2 : w5.cell? ⟨w.heap.size, 2, none⟩ = some (.slice B (limbs a.d).length d) := CX.out.cell 2
  have CY0 : w5.cell? ⟨w.heap.size + 1, 0, none⟩ = some (.bool false) := CY.out.cell 0
  have CY1 : w5.cell? ⟨w.heap.size + 1, 1, none⟩ = some (.slice A' (limbs b.n).length c') := CY.out.cell 1
  have CY2 : w5.cell? ⟨w.heap.size + 1, 2, none⟩ = some (.slice B' (limbs b.d).length d') := CY.out.cell 2
  go_wp2
  go_ret2
  refine ⟨?_, HW.out⟩
  show Ending.returned (.tuple #[.int .i64 _, .int .i64 0]) = _
  rfl

set_option maxRecDepth 100000 in
set_option maxHeartbeats 1000000 in
theorem qcmp_ft (A B A' B' : Option Addr) (c d c' d' : Nat) (a b : Q) (w : World) (h1 : RdL w A (limbs a.n)) (h2 : RdL w B (limbs a.d)) (h3 : RdL w A' (limbs b.n)) (h4 : RdL w B' (limbs b.d)) (k1 : (limbs a.n).length ≤ c) (k2 : (limbs a.d).length ≤ d) (k3 : (limbs b.n).length ≤ c') (k4 : (limbs b.d).length ≤ d') (t1 : a.n < Top) (t2 : a.d < Top) (t3 : b.n < Top) (t4 : b.d < Top) (ra : QR a) (rb : QR b) (hf : (a.n * b.d) < Top ∧ (b.n * a.d) < Top) (hs1 : a.s = false) (hs2 : b.s = true) :
    Calls Try.prog 40 #[.agg #[.bool a.s, .slice A (limbs a.n).length c, .slice B (limbs a.d).length d], .agg #[.bool b.s, .slice A' (limbs b.n).length c', .slice B' (limbs b.d).length d']] w (RetIEB (cmpS a.s b.s (a.n * b.d) (b.n * a.d)) 0 w) := by
  have R1 := Lib.hid h1; clear h1
  have R2 := Lib.hid h2; clear h2
  have R3 := Lib.hid h3; clear h3
  have R4 := Lib.hid h4; clear h4
  have K := Lib.hid (And.intro k1 (And.intro k2 (And.intro k3 k4))); clear k1 k2 k3 k4
  have T := Lib.hid (And.intro t1 (And.intro t2 (And.intro t3 t4))); clear t1 t2 t3 t4
  have HA := Lib.hid ra; clear ra
  have HB := Lib.hid rb; clear rb
  have HF := Lib.hid hf; clear hf
  have HS := Lib.hid (And.intro hs1 hs2)
  rw [hs1, hs2]
  clear hs1 hs2
  obtain ⟨x, hx⟩ : ∃ x, (a.n * b.d) = x := ⟨_, rfl⟩
  obtain ⟨y, hy⟩ : ∃ y, (b.n * a.d) = y := ⟨_, rfl⟩
  rw [hx, hy] at HF ⊢
  have HXY := Lib.hid (And.intro hx hy); clear hx hy
  obtain ⟨wa, hwa⟩ : ∃ wa, wa = (w.alloc (.cells #[.bool false, .slice A (limbs a.n).length c, .slice B (limbs a.d).length d] 25)).alloc (.cells #[.bool true, .slice A' (limbs b.n).length c', .slice B' (limbs b.d).length d'] 25) := ⟨_, rfl⟩
  have hbl : Below w.heap.size w wa := by rw [hwa]; exact bel_alloc (bel_alloc (bel_refl _) _) _
  have CX : Blk wa (w.heap.size) 25 #[.bool false, .slice A (limbs a.n).length c, .slice B (limbs a.d).length d] := by
    have hz := Blk.new (w) 25 #[.bool false, .slice A (limbs a.n).length c, .slice B (limbs a.d).length d]
    rw [hwa]
    exact (hz.alloc _)
  have CY : Blk wa (w.heap.size + 1) 25 #[.bool true, .slice A' (limbs b.n).length c', .slice B' (limbs b.d).length d'] := by
    have hz := Blk.new (w.alloc (.cells #[.bool false, .slice A (limbs a.n).length c, .slice B (limbs a.d).length d] 25)) 25 #[.bool true, .slice A' (limbs b.n).length c', .slice B' (limbs b.d).length d']
    rw [World.size_alloc] at hz
    rw [hwa]
    exact hz
  replace R1 := Lib.hid (R1.out.below hbl)
  replace R2 := Lib.hid (R2.out.below hbl)
  replace R3 := Lib.hid (R3.out.below hbl)
  replace R4 := Lib.hid (R4.out.below hbl)
  have HW := Lib.hid hbl; clear hbl
  replace CX := Lib.hid CX
  replace CY := Lib.hid CY
  go_enter Try.func40, Try.ntmps40
  go_wp2_with fail
  rw [← hwa]
  clear hwa
  have CX0 : wa.cell? ⟨w.heap.size, 0, none⟩ = some (.bool false) := CX.out.cell 0
  have CX1 : wa.cell? ⟨w.heap.size, 1, none⟩ = some (.slice A (limbs a.n).length c) := CX.out.cell 1
  have CX2 : wa.cell? ⟨w.heap.size, 2, none⟩ = some (.slice B (limbs a.d).length d) := CX.out.cell 2
  have CY0 : wa.cell? ⟨w.heap.size + 1, 0, none⟩ = some (.bool true) := CY.out.cell 0
  have CY1 : wa.cell? ⟨w.heap.size + 1, 1, none⟩ = some (.slice A' (limbs b.n).length c') := CY.out.cell 1
  have CY2 : wa.cell? ⟨w.heap.size + 1, 2, none⟩ = some (.slice B' (limbs b.d).length d') := CY.out.cell 2
  refine (ratRight_s a A B c d _ R1.out R2.out K.out.1 K.out.2.1 T.out.1 T.out.2.1 HA.out HS.out.1).mono ?_
  rintro e w1 ⟨rfl, hbl⟩
  replace R1 := Lib.hid (R1.out.below hbl)
  replace R2 := Lib.hid (R2.out.below hbl)
  replace R3 := Lib.hid (R3.out.below hbl)
  replace R4 := Lib.hid (R4.out.below hbl)
  replace CX := Lib.hid (CX.out.below hbl CX.out.lt)
  replace CY := Lib.hid (CY.out.below hbl CY.out.lt)
  replace HW := Lib.hid (bel_trans HW.out hbl); clear hbl
  clear CX0 CX1 CX2 CY0 CY1 CY2
  have CX0 : w1.cell? ⟨w.heap.size, 0, none⟩ = some (.bool false) := CX.out.cell 0
  have CX1 : w1.cell? ⟨w.heap.size, 1, none⟩ = some (.slice A (limbs a.n).length c) := CX.out.cell 1
  have CX2 : w1.cell? ⟨w.heap.size, 2, none⟩ = some (.slice B (limbs a.d).length d) := CX.out.cell 2
  have CY0 : w1.cell? ⟨w.heap.size + 1, 0, none⟩ = some (.bool true) := CY.out.cell 0
  have CY1 : w1.cell? ⟨w.heap.size + 1, 1, none⟩ = some (.slice A' (limbs b.n).length c') := CY.out.cell 1
  have CY2 : w1.cell? ⟨w.heap.size + 1, 2, none⟩ = some (.slice B' (limbs b.d).length d') := CY.out.cell 2
  go_wp2_with fail
  refine (ratRight_s b A' B' c' d' _ R3.out R4.out K.out.2.2.1 K.out.2.2.2 T.out.2.2.1 T.out.2.2.2 HB.out HS.out.2).mono ?_
  rintro e w2 ⟨rfl, hbl⟩
  replace R1 := Lib.hid (R1.out.below hbl)
  replace R2 := Lib.hid (R2.out.below hbl)
  replace R3 := Lib.hid (R3.out.below hbl)
  replace R4 := Lib.hid (R4.out.below hbl)
  replace CX := Lib.hid (CX.out.below hbl CX.out.lt)
  replace CY := Lib.hid (CY.out.below hbl CY.out.lt)
  replace HW := Lib.hid (bel_trans HW.out hbl); clear hbl
  clear CX0 CX1 CX2 CY0 CY1 CY2
  have CX0 : w2.cell? ⟨w.heap.size, 0, none⟩ = some (.bool false) := CX.out.cell 0
  have CX1 : w2.cell? ⟨w.heap.size, 1, none⟩ = some (.slice A (limbs a.n).length c) := CX.out.cell 1
  have CX2 : w2.cell? ⟨w.heap.size, 2, none⟩ = some (.slice B (limbs a.d).length d) := CX.out.cell 2
  have CY0 : w2.cell? ⟨w.heap.size + 1, 0, none⟩ = some (.bool true) := CY.out.cell 0
  have CY1 : w2.cell? ⟨w.heap.size + 1, 1, none⟩ = some (.slice A' (limbs b.n).length c') := CY.out.cell 1
  have CY2 : w2.cell? ⟨w.heap.size + 1, 2, none⟩ = some (.slice B' (limbs b.d).length d') := CY.out.cell 2
  go_wp2_with fail
  refine (mul_small A B' c d' a.n b.d x _ R1.out R4.out T.out.1 T.out.2.2.2 HXY.out.1 HF.out.1).mono ?_
  rintro e w3 ⟨vx, rfl, hnx, hbl⟩
  replace R1 := Lib.hid (R1.out.below hbl)
  replace R2 := Lib.hid (R2.out.below hbl)
  replace R3 := Lib.hid (R3.out.below hbl)
  replace R4 := Lib.hid (R4.out.below hbl)
  replace CX := Lib.hid (CX.out.below hbl CX.out.lt)
  replace CY := Lib.hid (CY.out.below hbl CY.out.lt)
  replace HW := Lib.hid (bel_trans HW.out hbl); clear hbl
  clear CX0 CX1 CX2 CY0 CY1 CY2
  have CX0 : w3.cell? ⟨w.heap.size, 0, none⟩ = some (.bool false) := CX.out.cell 0
  have CX1 : w3.cell? ⟨w.heap.size, 1, none⟩ = some (.slice A (limbs a.n).length c) := CX.out.cell 1
  have CX2 : w3.cell? ⟨w.heap.size, 2, none⟩ = some (.slice B (limbs a.d).length d) := CX.out.cell 2
  have CY0 : w3.cell? ⟨w.heap.size + 1, 0, none⟩ = some (.bool true) := CY.out.cell 0
  have CY1 : w3.cell? ⟨w.heap.size + 1, 1, none⟩ = some (.slice A' (limbs b.n).length c') := CY.out.cell 1
  have CY2 : w3.cell? ⟨w.heap.size + 1, 2, none⟩ = some (.slice B' (limbs b.d).length d') := CY.out.cell 2
  have HNx := Lib.hid hnx; clear hnx
  obtain ⟨Ax, cx, rfl, hcx, hrx⟩ := HNx.out.row
  have Rx := Lib.hid hrx; have HCx := Lib.hid hcx; clear hrx hcx
  go_wp2_with fail
  refine (mul_small A' B c' d b.n a.d y _ R3.out R2.out T.out.2.2.1 T.out.2.1 HXY.out.2 HF.out.2).mono ?_
  rintro e w4 ⟨vy, rfl, hny, hbl⟩
  replace R1 := Lib.hid (R1.out.below hbl)
  replace R2 := Lib.hid (R2.out.below hbl)
  replace R3 := Lib.hid (R3.out.below hbl)
  replace R4 := Lib.hid (R4.out.below hbl)
  replace Rx := Lib.hid (Rx.out.below hbl)
  replace HNx := Lib.hid (HNx.out.below hbl)
  replace CX := Lib.hid (CX.out.below hbl CX.out.lt)
  replace CY := Lib.hid (CY.out.below hbl CY.out.lt)
  replace HW := Lib.hid (bel_trans HW.out hbl); clear hbl
  clear CX0 CX1 CX2 CY0 CY1 CY2
  have CX0 : w4.cell? ⟨w.heap.size, 0, none⟩ = some (.bool false) := CX.out.cell 0
  have CX1 : w4.cell? ⟨w.heap.size, 1, none⟩ = some (.slice A (limbs a.n).length c) := CX.out.cell 1
  have CX2 : w4.cell? ⟨w.heap.size, 2, none⟩ = some (.slice B (limbs a.d).length d) := CX.out.cell 2
  have CY0 : w4.cell? ⟨w.heap.size + 1, 0, none⟩ = some (.bool true) := CY.out.cell 0
  have CY1 : w4.cell? ⟨w.heap.size + 1, 1, none⟩ = some (.slice A' (limbs b.n).length c') := CY.out.cell 1
  have CY2 : w4.cell? ⟨w.heap.size + 1, 2, none⟩ = some (.slice B' (limbs b.d).length d') := CY.out.cell 2
  have HNy := Lib.hid hny; clear hny
  obtain ⟨Ay, cy, rfl, hcy, hry⟩ := HNy.out.row
  have Ry := Lib.hid hry; have HCy := Lib.hid hcy; clear hry hcy
  go_wp2_with fail
  refine (cmp_num Ax Ay cx cy x y _ Rx.out Ry.out HF.out.1 HF.out.2).mono ?_
  rintro e w5 ⟨rfl, hbl⟩
  replace R1 := Lib.hid (R1.out.below hbl)
  replace R2 := Lib.hid (R2.out.below hbl)
  replace R3 := Lib.hid (R3.out.below hbl)
  replace R4 := Lib.hid (R4.out.below hbl)
  replace Rx := Lib.hid (Rx.out.below hbl)
  replace HNx := Lib.hid (HNx.out.below hbl)
  replace Ry := Lib.hid (Ry.out.below hbl)
  replace HNy := Lib.hid (HNy.out.below hbl)
  replace CX := Lib.hid (CX.out.below hbl CX.out.lt)
  replace CY := Lib.hid (CY.out.below hbl CY.out.lt)
  replace HW := Lib.hid (bel_trans HW.out hbl); clear hbl
  clear CX0 CX1 CX2 CY0 CY1 CY2
  have CX0 : w5.cell? ⟨w.heap.size, 0, none⟩ = some (.bool false) := CX.out.cell 0
  have CX1 : w5.cell? ⟨w.heap.size, 1, none⟩ = some (.slice A (limbs a.n).length c) := CX.out.cell 1
  have CX2 : w5.cell? ⟨w.heap.size, 2, none⟩ = some (.slice B (limbs a.d).length d) := CX.out.cell 2
  have CY0 : w5.cell? ⟨w.heap.size + 1, 0, none⟩ = some (.bool true) := CY.out.cell 0
  have CY1 : w5.cell? ⟨w.heap.size + 1, 1, none⟩ = some (.slice A' (limbs b.n).length c') := CY.out.cell 1
  have CY2 : w5.cell? ⟨w.heap.size + 1, 2, none⟩ = some (.slice B' (limbs b.d).length d') := CY.out.cell 2
  go_wp2
  go_ret2
  refine ⟨?_, HW.out⟩
  show Ending.returned (.tuple #[.int .i64 _, .int .i64 0]) = _
  rfl

set_option maxRecDepth 100000 in
set_option maxHeartbeats 1000000 in
theorem qcmp_ff (A B A' B' : Option Addr) (c d c' d' : Nat) (a b : Q) (w : World) (h1 : RdL w A (limbs a.n)) (h2 : RdL w B (limbs a.d)) (h3 : RdL w A' (limbs b.n)) (h4 : RdL w B' (limbs b.d)) (k1 : (limbs a.n).length ≤ c) (k2 : (limbs a.d).length ≤ d) (k3 : (limbs b.n).length ≤ c') (k4 : (limbs b.d).length ≤ d') (t1 : a.n < Top) (t2 : a.d < Top) (t3 : b.n < Top) (t4 : b.d < Top) (ra : QR a) (rb : QR b) (hf : (a.n * b.d) < Top ∧ (b.n * a.d) < Top) (hs1 : a.s = false) (hs2 : b.s = false) :
    Calls Try.prog 40 #[.agg #[.bool a.s, .slice A (limbs a.n).length c, .slice B (limbs a.d).length d], .agg #[.bool b.s, .slice A' (limbs b.n).length c', .slice B' (limbs b.d).length d']] w (RetIEB (cmpS a.s b.s (a.n * b.d) (b.n * a.d)) 0 w) := by
  have R1 := Lib.hid h1; clear h1
  have R2 := Lib.hid h2; clear h2
  have R3 := Lib.hid h3; clear h3
  have R4 := Lib.hid h4; clear h4
  have K := Lib.hid (And.intro k1 (And.intro k2 (And.intro k3 k4))); clear k1 k2 k3 k4
  have T := Lib.hid (And.intro t1 (And.intro t2 (And.intro t3 t4))); clear t1 t2 t3 t4
  have HA := Lib.hid ra; clear ra
  have HB := Lib.hid rb; clear rb
  have HF := Lib.hid hf; clear hf
  have HS := Lib.hid (And.intro hs1 hs2)
  rw [hs1, hs2]
  clear hs1 hs2
  obtain ⟨x, hx⟩ : ∃ x, (a.n * b.d) = x := ⟨_, rfl⟩
  obtain ⟨y, hy⟩ : ∃ y, (b.n * a.d) = y := ⟨_, rfl⟩
  rw [hx, hy] at HF ⊢
  have HXY := Lib.hid (And.intro hx hy); clear hx hy
  obtain ⟨wa, hwa⟩ : ∃ wa, wa = (w.alloc (.cells #[.bool false, .slice A (limbs a.n).length c, .slice B (limbs a.d).length d] 25)).alloc (.cells #[.bool false, .slice A' (limbs b.n).length c', .slice B' (limbs b.d).length d'] 25) := ⟨_, rfl⟩
  have hbl : Below w.heap.size w wa := by rw [hwa]; exact bel_alloc (bel_alloc (bel_refl _) _) _
  have CX : Blk wa (w.heap.size) 25 #[.bool false, .slice A (limbs a.n).length c, .slice B (limbs a.d).length d] := by
    have hz := Blk.new (w) 25 #[.bool false, .slice A (limbs a.n).length c, .slice B (limbs a.d).length d]
    rw [hwa]
    exact (hz.alloc _)
  have CY : Blk wa (w.heap.size + 1) 25 #[.bool false, .slice A' (limbs b.n).length c', .slice B' (limbs b.d).length d'] := by
    have hz := Blk.new (w.alloc (.cells #[.bool false, .slice A (limbs a.n).length c, .slice B (limbs a.d).length d] 25)) 25 #[.bool false, .slice A' (limbs b.n).length c', .slice B' (limbs b.d).length d']
    rw [World.size_alloc] at hz
    rw [hwa]
    exact hz
  replace R1 := Lib.hid (R1.out.below hbl)
  replace R2 := Lib.hid (R2.out.below hbl)
  replace R3 := Lib.hid (R3.out.below hbl)
  replace R4 := Lib.hid (R4.out.below hbl)
  have HW := Lib.hid hbl; clear hbl
  replace CX := Lib.hid CX
  replace CY := Lib.hid CY
  go_enter Try.func40, Try.ntmps40
  go_wp2_with fail
  rw [← hwa]
  clear hwa
  have CX0 : wa.cell? ⟨w.heap.size, 0, none⟩ = some (.bool false) := CX.out.cell 0
  have CX1 : wa.cell? ⟨w.heap.size, 1, none⟩ = some (.slice A (limbs a.n).length c) := CX.out.cell 1
  have CX2 : wa.cell? ⟨w.heap.size, 2, none⟩ = some (.slice B (limbs a.d).length d) := CX.out.cell 2
  have CY0 : wa.cell? ⟨w.heap.size + 1, 0, none⟩ = some (.bool false) := CY.out.cell 0
  have CY1 : wa.cell? ⟨w.heap.size + 1, 1, none⟩ = some (.slice A' (limbs b.n).length c') := CY.out.cell 1
  have CY2 : wa.cell? ⟨w.heap.size + 1, 2, none⟩ = some (.slice B' (limbs b.d).length d') := CY.out.cell 2
  refine (ratRight_s a A B c d _ R1.out R2.out K.out.1 K.out.2.1 T.out.1 T.out.2.1 HA.out HS.out.1).mono ?_
  rintro e w1 ⟨rfl, hbl⟩
  replace R1 := Lib.hid (R1.out.below hbl)
  replace R2 := Lib.hid (R2.out.below hbl)
  replace R3 := Lib.hid (R3.out.below hbl)
  replace R4 := Lib.hid (R4.out.below hbl)
  replace CX := Lib.hid (CX.out.below hbl CX.out.lt)
  replace CY := Lib.hid (CY.out.below hbl CY.out.lt)
  replace HW := Lib.hid (bel_trans HW.out hbl); clear hbl
  clear CX0 CX1 CX2 CY0 CY1 CY2
  have CX0 : w1.cell? ⟨w.heap.size, 0, none⟩ = some (.bool false) := CX.out.cell 0
  have CX1 : w1.cell? ⟨w.heap.size, 1, none⟩ = some (.slice A (limbs a.n).length c) := CX.out.cell 1
  have CX2 : w1.cell? ⟨w.heap.size, 2, none⟩ = some (.slice B (limbs a.d).length d) := CX.out.cell 2
  have CY0 : w1.cell? ⟨w.heap.size + 1, 0, none⟩ = some (.bool false) := CY.out.cell 0
  have CY1 : w1.cell? ⟨w.heap.size + 1, 1, none⟩ = some (.slice A' (limbs b.n).length c') := CY.out.cell 1
  have CY2 : w1.cell? ⟨w.heap.size + 1, 2, none⟩ = some (.slice B' (limbs b.d).length d') := CY.out.cell 2
  go_wp2_with fail
  refine (ratRight_s b A' B' c' d' _ R3.out R4.out K.out.2.2.1 K.out.2.2.2 T.out.2.2.1 T.out.2.2.2 HB.out HS.out.2).mono ?_
  rintro e w2 ⟨rfl, hbl⟩
  replace R1 := Lib.hid (R1.out.below hbl)
  replace R2 := Lib.hid (R2.out.below hbl)
  replace R3 := Lib.hid (R3.out.below hbl)
  replace R4 := Lib.hid (R4.out.below hbl)
  replace CX := Lib.hid (CX.out.below hbl CX.out.lt)
  replace CY := Lib.hid (CY.out.below hbl CY.out.lt)
  replace HW := Lib.hid (bel_trans HW.out hbl); clear hbl
  clear CX0 CX1 CX2 CY0 CY1 CY2
  have CX0 : w2.cell? ⟨w.heap.size, 0, none⟩ = some (.bool false) := CX.out.cell 0
  have CX1 : w2.cell? ⟨w.heap.size, 1, none⟩ = some (.slice A (limbs a.n).length c) := CX.out.cell 1
  have CX2 : w2.cell? ⟨w.heap.size, 2, none⟩ = some (.slice B (limbs a.d).length d) := CX.out.cell 2
  have CY0 : w2.cell? ⟨w.heap.size + 1, 0, none⟩ = some (.bool false) := CY.out.cell 0
  have CY1 : w2.cell? ⟨w.heap.size + 1, 1, none⟩ = some (.slice A' (limbs b.n).length c') := CY.out.cell 1
  have CY2 : w2.cell? ⟨w.heap.size + 1, 2, none⟩ = some (.slice B' (limbs b.d).length d') := CY.out.cell 2
  go_wp2_with fail
  refine (mul_small A B' c d' a.n b.d x _ R1.out R4.out T.out.1 T.out.2.2.2 HXY.out.1 HF.out.1).mono ?_
  rintro e w3 ⟨vx, rfl, hnx, hbl⟩
  replace R1 := Lib.hid (R1.out.below hbl)
  replace R2 := Lib.hid (R2.out.below hbl)
  replace R3 := Lib.hid (R3.out.below hbl)
  replace R4 := Lib.hid (R4.out.below hbl)
  replace CX := Lib.hid (CX.out.below hbl CX.out.lt)
  replace CY := Lib.hid (CY.out.below hbl CY.out.lt)
  replace HW := Lib.hid (bel_trans HW.out hbl); clear hbl
  clear CX0 CX1 CX2 CY0 CY1 CY2
  have CX0 : w3.cell? ⟨w.heap.size, 0, none⟩ = some (.bool false) := CX.out.cell 0
  have CX1 : w3.cell? ⟨w.heap.size, 1, none⟩ = some (.slice A (limbs a.n).length c) := CX.out.cell 1
  have CX2 : w3.cell? ⟨w.heap.size, 2, none⟩ = some (.slice B (limbs a.d).length d) := CX.out.cell 2
  have CY0 : w3.cell? ⟨w.heap.size + 1, 0, none⟩ = some (.bool false) := CY.out.cell 0
  have CY1 : w3.cell? ⟨w.heap.size + 1, 1, none⟩ = some (.slice A' (limbs b.n).length c') := CY.out.cell 1
  have CY2 : w3.cell? ⟨w.heap.size + 1, 2, none⟩ = some (.slice B' (limbs b.d).length d') := CY.out.cell 2
  have HNx := Lib.hid hnx; clear hnx
  obtain ⟨Ax, cx, rfl, hcx, hrx⟩ := HNx.out.row
  have Rx := Lib.hid hrx; have HCx := Lib.hid hcx; clear hrx hcx
  go_wp2_with fail
  refine (mul_small A' B c' d b.n a.d y _ R3.out R2.out T.out.2.2.1 T.out.2.1 HXY.out.2 HF.out.2).mono ?_
  rintro e w4 ⟨vy, rfl, hny, hbl⟩
  replace R1 := Lib.hid (R1.out.below hbl)
  replace R2 := Lib.hid (R2.out.below hbl)
  replace R3 := Lib.hid (R3.out.below hbl)
  replace R4 := Lib.hid (R4.out.below hbl)
  replace Rx := Lib.hid (Rx.out.below hbl)
  replace HNx := Lib.hid (HNx.out.below hbl)
  replace CX := Lib.hid (CX.out.below hbl CX.out.lt)
  replace CY := Lib.hid (CY.out.below hbl CY.out.lt)
  replace HW := Lib.hid (bel_trans HW.out hbl); clear hbl
  clear CX0 CX1 CX2 CY0 CY1 CY2
  have CX0 : w4.cell? ⟨w.heap.size, 0, none⟩ = some (.bool false) := CX.out.cell 0
  have CX1 : w4.cell? ⟨w.heap.size, 1, none⟩ = some (.slice A (limbs a.n).length c) := CX.out.cell 1
  have CX2 : w4.cell? ⟨w.heap.size, 2, none⟩ = some (.slice B (limbs a.d).length d) := CX.out.cell 2
  have CY0 : w4.cell? ⟨w.heap.size + 1, 0, none⟩ = some (.bool false) := CY.out.cell 0
  have CY1 : w4.cell? ⟨w.heap.size + 1, 1, none⟩ = some (.slice A' (limbs b.n).length c') := CY.out.cell 1
  have CY2 : w4.cell? ⟨w.heap.size + 1, 2, none⟩ = some (.slice B' (limbs b.d).length d') := CY.out.cell 2
  have HNy := Lib.hid hny; clear hny
  obtain ⟨Ay, cy, rfl, hcy, hry⟩ := HNy.out.row
  have Ry := Lib.hid hry; have HCy := Lib.hid hcy; clear hry hcy
  go_wp2_with fail
  refine (cmp_num Ax Ay cx cy x y _ Rx.out Ry.out HF.out.1 HF.out.2).mono ?_
  rintro e w5 ⟨rfl, hbl⟩
  replace R1 := Lib.hid (R1.out.below hbl)
  replace R2 := Lib.hid (R2.out.below hbl)
  replace R3 := Lib.hid (R3.out.below hbl)
  replace R4 := Lib.hid (R4.out.below hbl)
  replace Rx := Lib.hid (Rx.out.below hbl)
  replace HNx := Lib.hid (HNx.out.below hbl)
  replace Ry := Lib.hid (Ry.out.below hbl)
  replace HNy := Lib.hid (HNy.out.below hbl)
  replace CX := Lib.hid (CX.out.below hbl CX.out.lt)
  replace CY := Lib.hid (CY.out.below hbl CY.out.lt)
  replace HW := Lib.hid (bel_trans HW.out hbl); clear hbl
  clear CX0 CX1 CX2 CY0 CY1 CY2
  have CX0 : w5.cell? ⟨w.heap.size, 0, none⟩ = some (.bool false) := CX.out.cell 0
  have CX1 : w5.cell? ⟨w.heap.size, 1, none⟩ = some (.slice A (limbs a.n).length c) := CX.out.cell 1
  have CX2 : w5.cell? ⟨w.heap.size, 2, none⟩ = some (.slice B (limbs a.d).length d) := CX.out.cell 2
  have CY0 : w5.cell? ⟨w.heap.size + 1, 0, none⟩ = some (.bool false) := CY.out.cell 0
  have CY1 : w5.cell? ⟨w.heap.size + 1, 1, none⟩ = some (.slice A' (limbs b.n).length c') := CY.out.cell 1
  have CY2 : w5.cell? ⟨w.heap.size + 1, 2, none⟩ = some (.slice B' (limbs b.d).length d') := CY.out.cell 2
  go_wp2
  go_ret2
  refine ⟨?_, HW.out⟩
  show Ending.returned (.tuple #[.int .i64 _, .int .i64 0]) = _
  rw [cmpI_nat]
  rfl

theorem qcmp_ok (A B A' B' : Option Addr) (c d c' d' : Nat) (a b : Q) (w : World) (h1 : RdL w A (limbs a.n)) (h2 : RdL w B (limbs a.d)) (h3 : RdL w A' (limbs b.n)) (h4 : RdL w B' (limbs b.d)) (k1 : (limbs a.n).length ≤ c) (k2 : (limbs a.d).length ≤ d) (k3 : (limbs b.n).length ≤ c') (k4 : (limbs b.d).length ≤ d') (t1 : a.n < Top) (t2 : a.d < Top) (t3 : b.n < Top) (t4 : b.d < Top) (ra : QR a) (rb : QR b) (hf : (a.n * b.d) < Top ∧ (b.n * a.d) < Top) :
    Calls Try.prog 40 #[.agg #[.bool a.s, .slice A (limbs a.n).length c, .slice B (limbs a.d).length d], .agg #[.bool b.s, .slice A' (limbs b.n).length c', .slice B' (limbs b.d).length d']] w (RetIEB (cmpS a.s b.s (a.n * b.d) (b.n * a.d)) 0 w) := by
  rcases (show a.s = false ∨ a.s = true by cases a.s <;> simp) with hs1 | hs1 <;> rcases (show b.s = false ∨ b.s = true by cases b.s <;> simp) with hs2 | hs2
  · exact qcmp_ff A B A' B' c d c' d' a b w h1 h2 h3 h4 k1 k2 k3 k4 t1 t2 t3 t4 ra rb hf hs1 hs2
  · exact qcmp_ft A B A' B' c d c' d' a b w h1 h2 h3 h4 k1 k2 k3 k4 t1 t2 t3 t4 ra rb hf hs1 hs2
  · exact qcmp_tf A B A' B' c d c' d' a b w h1 h2 h3 h4 k1 k2 k3 k4 t1 t2 t3 t4 ra rb hf hs1 hs2
  · exact qcmp_tt A B A' B' c d c' d' a b w h1 h2 h3 h4 k1 k2 k3 k4 t1 t2 t3 t4 ra rb hf hs1 hs2
end Go.Proofs.Ytmbbdjpnecjleaa
