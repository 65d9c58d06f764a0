/-
 Parts: QCmp RoA.
-/
import Derived.Test.YtmbbdjpnecjleaaGreatH11
import Derived.Test.YtmbbdjpnecjleaaGreatH08
import Derived.MapKept
namespace Go.Proofs.YtmbbdjpnecjleaaGreat
section
set_option maxRecDepth 100000
set_option maxHeartbeats 1000000
open Go.RowKit

theorem trunc_q {t : Q} (q : Q) (A B : Option Addr) (c d : Nat) (w : World) (h : RdL w A (limbs q.n)) (h' : RdL w B (limbs q.d)) (hc : (limbs q.n).length ≤ c) (hc' : (limbs q.d).length ≤ d) (hn : q.n < Top) (hd : q.d < Top) (hq : QR q) (he : redQ q.s (q.n / q.d) 1 = t) :
 Calls Tryz.prog 102 #[.agg #[.bool q.s, .slice A (limbs q.n).length c, .slice B (limbs q.d).length d]] w (RetQE t 0 w) := by
 have LA := Lib.hid (And.intro hn hc); clear hn hc
 have LB := Lib.hid (And.intro hd hc'); clear hd hc'
 have HQ := Lib.hid hq; clear hq
 have RA := Lib.hid h; clear h
 have RB := Lib.hid h'; clear h'
 have HE := Lib.hid he; clear he
 obtain ⟨wa, hwa⟩ : ∃ wa, wa = (w.alloc (.cells #[.bool q.s, .slice A (limbs q.n).length c, .slice B (limbs q.d).length d] 25)).alloc (.cells #[.bool false, .slice none 0 0, .slice none 0 0] 25) := ⟨_, rfl⟩
 obtain ⟨hbl, CX, RES⟩ := sal2 hwa
 replace RA := hmR RA hbl
 replace RB := hmR RB hbl
 have HW := Lib.hid hbl; clear hbl
 go_enter Tryz.func102, Tryz.ntmps102
 go_wp2_with fail
 rw [← hwa]
 clear hwa
 have CX0 := CX.out.c0
 have CX1 := CX.out.c1
 have CX2 := CX.out.c2
 refine (ratRight_q q A B c d _ RA.out RB.out LA.out.2 LB.out.2 LA.out.1 LB.out.1 HQ.out).mono ?_
 rintro e w1 ⟨rfl, hbl⟩
 replace RA := hmR RA hbl
 replace RB := hmR RB hbl
 replace CX := hmB CX hbl
 replace RES := hmB RES hbl
 replace HW := hmW HW hbl; clear hbl
 clear CX0 CX1 CX2
 have CX0 := CX.out.c0
 have CX1 := CX.out.c1
 have CX2 := CX.out.c2
 go_wp2_with fail
 refine (div_num A B c d q.n q.d _ RA.out RB.out LA.out.1 LB.out.1 HQ.out.den).mono ?_
 rintro e w2 ⟨vq, vr, rfl, hnq, hnr, hbl⟩
 replace RA := hmR RA hbl
 replace RB := hmR RB hbl
 replace CX := hmB CX hbl
 replace RES := hmB RES hbl
 replace HW := hmW HW hbl; clear hbl
 clear CX0 CX1 CX2
 have CX0 := CX.out.c0
 have CX1 := CX.out.c1
 have CX2 := CX.out.c2
 have HNq := Lib.hid hnq; clear hnq
 obtain ⟨Aq, cq, rfl, hcq, hrq⟩ := HNq.out.row
 have Rq := Lib.hid hrq; have HCq := Lib.hid hcq; clear hrq hcq
 have HNr := Lib.hid hnr; clear hnr
 obtain ⟨Ar, cr, rfl, hcr, hrr⟩ := HNr.out.row
 have Rr := Lib.hid hrr; have HCr := Lib.hid hcr; clear hrr hcr
 go_wp2_with fail
 refine wp_region_typed 5 (TOf [VIs (.pointer (some ⟨w.heap.size, 0, none⟩)),
  VIs (.bool q.s),
  VIs (.slice Aq (limbs (q.n / q.d)).length cq),
  VOk 1,
  VQ t]) (by kernel_rfl) (by kernel_rfl) (by kernel_rfl) (LiftAll.at_ (.cons (VIs.lift _) (.cons (VIs.lift _) (.cons (VIs.lift _) (.cons (VOk.lift _) (.cons (VQ.lift _) .nil)))))) (steps_all (steps_cons ?_ (steps_cons ?_ (steps_cons ?_ (steps_cons ?_ (steps_cons ?_ steps_zero)))))) ?fin
 · intro a0 w9 K9 hF hB hK hC
   have b1 := hF.base (k := 1) (by kernel_rfl) rfl
   clear hF hB hK
   go_simp
   exact hC _ _ (bR _) fun _ _ => rfl
 · intro a0 w9 K9 hF hB hK hC
   have e20 := depV hK 0 rfl rfl rfl rfl
   have x9 := (CX.out.below hB CX.out.lt).c0
   clear hF hB hK
   go_simp
   exact hC _ _ (bR _) fun _ _ => rfl
 · intro a0 w9 K9 hF hB hK hC
   have b4 := hF.base (k := 4) (by kernel_rfl) rfl
   clear hF hB hK
   go_simp
   exact hC _ _ (bR _) fun _ _ => rfl
 · intro a0 w9 K9 hF hB hK hC
   have HB9 := Lib.hid hB
   clear hF hB hK
   go_simp
   refine (one_any _).mono ?_
   rintro e w7 ⟨vo, rfl, hvo, hbl⟩
   exact hC _ _ hbl fun _ _ => ⟨small_top (by decide), hvo⟩
 · intro a0 w9 K9 hF hB hK hC
   have e21 := depV hK 0 rfl rfl rfl rfl
   have e22 := depV hK 1 rfl rfl rfl rfl
   obtain ⟨v23, e23, z23⟩ := dep hK 2 (g := .data) (j := 3) (k := 23) rfl rfl rfl
   have z23 : 1 < Top ∧ RdN w9 v23 1 := z23
   obtain ⟨_, Ao, co, rfl, ico, ro⟩ := z23
   have HB9 := Lib.hid hB
   clear hF hB hK
   have RO := Lib.hid ro; have CO := Lib.hid ico; clear ro ico
   go_simp
   refine (reduced_q q.s Aq Ao cq co (q.n / q.d) 1 _ (Rq.out.below HB9.out) RO.out HCq.out CO.out (lt_top (Nat.div_le_self _ _) LA.out.1) (small_top (by decide)) (by decide) HE.out).mono ?_
   rintro e w7 ⟨x, y, rfl, hx, hy, hbl⟩
   exact hC _ _ hbl fun _ _ => ⟨x, y, rfl, hx, hy⟩
 case fin =>
  intro a0 w9 hF hB hK
  have b1 := hF.base (k := 1) (by kernel_rfl) rfl
  have b2 := hF.base (k := 2) (by kernel_rfl) rfl
  have b4 := hF.base (k := 4) (by kernel_rfl) rfl
  have hsz := hF.size
  have hdf := hF.defers
  clear hF
  obtain ⟨v24, e24, z24⟩ := known hK 4 (k := 24) (by decide) rfl
  have z24 : ∃ x y, v24 = .agg #[.bool t.s, x, y] ∧ RdN w9 x t.n ∧ RdN w9 y t.d := z24
  obtain ⟨x9, y9, rfl, p9, q9⟩ := z24
  have NX := Lib.hid p9; have NY := Lib.hid q9; clear p9 q9
  obtain ⟨E1, m1, rfl, _, _⟩ := NX.out.row
  obtain ⟨E2, m2, rfl, _, _⟩ := NY.out.row
  clear hK
  obtain ⟨⟨l0⟩, df⟩ := a0
  have hs0 : l0.length = 25 := hsz
  clear hsz
  replace hdf : df = _ := hdf
  subst hdf
  obtain ⟨u, rfl⟩ := lits_25 hs0
  clear hs0
  have q1 : u 1 = _ := Option.some.inj b1
  clear b1
  have q2 : u 2 = _ := Option.some.inj b2
  clear b2
  have q4 : u 4 = _ := Option.some.inj b4
  clear b4
  have q24 : u 24 = _ := Option.some.inj e24
  clear e24
  rw [q1, q2, q4, q24]
  clear q1 q2 q4 q24
  have hbl := hB; clear hB
  replace RA := hmR RA hbl
  replace RB := hmR RB hbl
  replace Rq := hmR Rq hbl
  replace HNq := hmN HNq hbl
  replace Rr := hmR Rr hbl
  replace HNr := hmN HNr hbl
  replace CX := hmB CX hbl
  replace RES := hmB RES hbl
  replace HW := hmW HW hbl; clear hbl
  clear CX0 CX1 CX2
  have CX0 := CX.out.c0
  have CX1 := CX.out.c1
  have CX2 := CX.out.c2
  simp only [List.drop_succ_cons, List.drop_zero]
  have d0 := RES.out.c0
  have f0 := RES.out.frozen 0
  have d1 := RES.out.c1
  have f1 := RES.out.frozen 1
  have d2 := RES.out.c2
  have f2 := RES.out.frozen 2
  go_wp2
  exact bodyPost_ret (results_row_tmp rfl _ _ (w.heap.size + 1) 25 _ (0, 0) _ _ rfl rfl (RES.out.put3 _ _ _) Tryz.underlying25 rfl (by kernel_rfl)) rfl ⟨_, _, rfl, (RdN.set3 RES.out (NX.out) _ _ _), (RdN.set3 RES.out (NY.out) _ _ _), (bel_set3 (g := w.heap.size + 1) HW.out (by omega) _ _ _)⟩

theorem cmpI_nat (x y : Nat) : cmpI (x : Int) (y : Int) = (if x < y then -1 else if y < x then 1 else 0) := by
 unfold cmpI
 by_cases h : x < y
 · rw [if_pos (by omega), if_pos h]
 · rw [if_neg (by omega), if_neg h]
   by_cases h2 : y < x
   · rw [if_pos (by omega), if_pos h2]
   · rw [if_neg (by omega), if_neg h2]
end
end Go.Proofs.YtmbbdjpnecjleaaGreat
namespace Go.Proofs.YtmbbdjpnecjleaaGreat
section
set_option maxRecDepth 100000
set_option maxHeartbeats 1000000
section
open Go.RowKit

def RetW (x : Int) (w : World) (e : Ending) (w' : World) : Prop := e = .returned (.int .u32 x) ∧ w' = w
theorem getD_none {xs : List Nat} {i : Nat} (h : ¬ i < xs.length) : xs.getD i 0 = 0 := by rw [List.getD_eq_getElem?_getD, List.getElem?_eq_none (by omega)]; rfl

theorem limb_any (A : Option Addr) (cap : Nat) (xs : List Nat) (i : Nat) (w : World) (h : RdL w A xs) :
 Calls Tryz.prog 162 #[.slice A xs.length cap, .int .i64 i] w (RetW (xs.getD i 0 : Nat) w) := by
 by_cases hi : i < xs.length
 · obtain ⟨b, off, rfl, hb, hc⟩ := h.at_ hi
   have hi' : (i : Int) < (xs.length : Int) := by omega
   obtain ⟨x, hx⟩ : ∃ x, x = xs.getD i 0 := ⟨_, rfl⟩
   rw [← hx] at hc ⊢
   have HX := Lib.hid hx; clear hx
   have H := Lib.hid h; clear h
   go_enter Tryz.func162, Tryz.ntmps162
   go_wp2
   go_ret
   exact ⟨rfl, rfl⟩
 · have hi' : ¬ (i : Int) < (xs.length : Int) := by omega
   rw [getD_none hi]
   go_enter Tryz.func162, Tryz.ntmps162
   go_wp2
   go_ret
   exact ⟨rfl, rfl⟩
theorem limb_is (A : Option Addr) (cap : Nat) (xs : List Nat) (i x : Nat) (w : World) (h : RdL w A xs) (hx : x = xs.getD i 0) :
 Calls Tryz.prog 162 #[.slice A xs.length cap, .int .i64 i] w (RetW (x : Int) w) := by
 rw [hx]
 exact limb_any A cap xs i w h

theorem lval_split (xs : List Nat) (k : Nat) : lval xs = lval (xs.take k) + B32 ^ k * lval (xs.drop k) := by
 induction k with
 | zero => simp [show lval [] = 0 from rfl]
 | succ k ih =>
  rw [lval_take_succ', ih, lval_drop xs k, Nat.mul_add, Nat.pow_succ, ← Nat.mul_assoc]
  omega
theorem lval_zero_take {xs : List Nat} {k : Nat} (h : k = xs.length) : lval (xs.take k) = lval xs := by rw [h, List.take_length]

theorem nonzero_any (A : Option Addr) (cap : Nat) (xs : List Nat) (w : World) (h : RdL w A xs) (hl : xs.length ≤ 1000) :
 Calls Tryz.prog 157 #[.slice A xs.length cap] w (RetB (decide (lval xs ≠ 0)) w) := by
 have H := Lib.hid h; clear h
 go_enter Tryz.func157, Tryz.ntmps157
 go_wp2
 go_loopw [7] (fun iv wr => ∃ k : Nat, iv = .int .i64 (k : Int) ∧ k ≤ xs.length ∧ lval (xs.take k) = 0 ∧ wr = w) (fun i _ => xs.length - (intOf i).toNat)
 case atStart => exact ⟨0, rfl, Nat.zero_le _, rfl, rfl⟩
 case round =>
  obtain ⟨k, rfl, hk, hrel, rfl⟩ := hrel
  have HR := Lib.hid hrel; clear hrel
  by_cases hlt : k < xs.length
  · have hlt' : (k : Int) < (xs.length : Int) := by omega
    obtain ⟨g, off, rfl, hg, hc⟩ := H.out.at_ hlt
    obtain ⟨x, hx⟩ : ∃ x, x = xs.getD k 0 := ⟨_, rfl⟩
    rw [← hx] at hc
    have HX := Lib.hid hx; clear hx
    by_cases hx0 : x = 0
    · have e1 : ((x : Int) != 0) = false := by simp [hx0]
      have e2 : (x : Int) = 0 := by omega
      have HX0 := Lib.hid hx0; clear hx0
      go_wp2
      go_roundw
      case rel =>
       exact ⟨k + 1, by go_num, by omega, by rw [lval_take_succ', HR.out, ← HX.out, HX0.out]; simp, trivial⟩
      case measure => simp [intOf]; omega
    · have e1 : ((x : Int) != 0) = true := by simp; omega
      have e2 : ¬ (x : Int) = 0 := by omega
      have HX0 := Lib.hid hx0; clear hx0
      go_wp2
      go_ret
      refine ⟨ret_bool ?_, rfl⟩
      refine (decide_eq_true ?_).symm
      have h1 := lval_split xs (k + 1)
      rw [lval_take_succ', HR.out, ← HX.out] at h1
      have h2 : 0 < B32 ^ k * x := Nat.mul_pos (Nat.pow_pos (by decide)) (Nat.pos_of_ne_zero HX0.out)
      omega
  · have hlt' : ¬ (k : Int) < (xs.length : Int) := by omega
    have HK := Lib.hid (show k = xs.length by omega)
    go_wp2
    go_ret
    refine ⟨ret_bool ?_, rfl⟩
    have := HR.out
    rw [lval_zero_take HK.out] at this
    rw [this]
    rfl

theorem lower_step {xs ys : List Nat} {k x y : Nat} (hx : x = xs.getD k 0) (hy : y = ys.getD k 0) (LX : Lim xs) (LY : Lim ys) (hne : x ≠ y) : decide (lval (xs.take (k + 1)) < lval (ys.take (k + 1))) = decide (x < y) := by
 rw [lval_take_succ', lval_take_succ', ← hx, ← hy, decide_eq_decide]
 have h1 : lval (xs.take k) < B32 ^ k := Nat.lt_of_lt_of_le (lval_lt fun z hz => LX z (List.mem_of_mem_take hz)) (Nat.pow_le_pow_right (by decide) (by rw [List.length_take]; omega))
 have h2 : lval (ys.take k) < B32 ^ k := Nat.lt_of_lt_of_le (lval_lt fun z hz => LY z (List.mem_of_mem_take hz)) (Nat.pow_le_pow_right (by decide) (by rw [List.length_take]; omega))
 generalize B32 ^ k = P at *
 rcases Nat.lt_or_ge x y with h | h
 · have h3 : P * (x + 1) ≤ P * y := Nat.mul_le_mul_left _ h
   rw [Nat.mul_add, Nat.mul_one] at h3
   constructor <;> intro <;> omega
 · have h3 : P * (y + 1) ≤ P * x := Nat.mul_le_mul_left _ (by omega)
   rw [Nat.mul_add, Nat.mul_one] at h3
   constructor <;> intro <;> omega

theorem lower_any (A A' : Option Addr) (cap cap' : Nat) (xs ys : List Nat) (w : World) (h : RdL w A xs) (h' : RdL w A' ys) (hx : Lim xs) (hy : Lim ys) (hl : xs.length ≤ 1000) (hl' : ys.length ≤ 1000) :
 Calls Tryz.prog 155 #[.slice A xs.length cap, .slice A' ys.length cap'] w (RetB (decide (lval xs < lval ys)) w) := by
 have H := Lib.hid h; clear h
 have H' := Lib.hid h'; clear h'
 have HX := Lib.hid hx; clear hx
 have HY := Lib.hid hy; clear hy
 obtain ⟨m, hm⟩ : ∃ m, m = max xs.length ys.length := ⟨_, rfl⟩
 have hmax : ∀ W, (Builtin.max_ #[3, 3] 3 #[.int .i64 (xs.length : Int), .int .i64 (ys.length : Int)]).run Tryz.prog W = .ok (.int .i64 (m : Int)) W := fun W => by
  rw [run_max_int2, hm]
  congr 2
  omega
 have hm1 : xs.length ≤ m := by omega
 have hm2 : ys.length ≤ m := by omega
 have hm3 : m ≤ 1000 := by omega
 clear hm
 go_enter Tryz.func155, Tryz.ntmps155
 go_wp2
 go_loopw [5] (fun iv wr => ∃ k : Nat, iv = .int .i64 ((k : Int) - 1) ∧ k ≤ m ∧ decide (lval xs < lval ys) = decide (lval (xs.take k) < lval (ys.take k)) ∧ wr = w) (fun i _ => (intOf i + 1).toNat)
 case atStart => exact ⟨m, by go_num, Nat.le_refl _, by rw [List.take_of_length_le hm1, List.take_of_length_le hm2], rfl⟩
 case round =>
  obtain ⟨k, rfl, hk, hrel, rfl⟩ := hrel
  have HR := Lib.hid hrel; clear hrel
  by_cases h0 : k = 0
  · subst h0
    go_wp2
    go_ret
    exact ⟨ret_bool (by rw [HR.out]; rfl), rfl⟩
  · obtain ⟨j, rfl⟩ : ∃ j, k = j + 1 := ⟨k - 1, by omega⟩
    have ej : ((j + 1 : Nat) : Int) - 1 = (j : Int) := by omega
    rw [ej]
    obtain ⟨x, hx⟩ : ∃ x, x = xs.getD j 0 := ⟨_, rfl⟩
    obtain ⟨y, hy⟩ : ∃ y, y = ys.getD j 0 := ⟨_, rfl⟩
    have Ex := Lib.hid hx; clear hx
    have Ey := Lib.hid hy; clear hy
    have hj0 : (0 : Int) ≤ (j : Int) := by omega
    have sj : IntKind.i64.wrap ((j : Int) - 1) = (j : Int) - 1 := by rw [IntKind.wrap_i64]; omega
    clear ej h0
    by_cases hxy : x = y
    · have e1 : ((x : Int) != (y : Int)) = false := by simp [hxy]
      have e2 : (x : Int) = (y : Int) := by omega
      have E := Lib.hid hxy; clear hxy
      go_wp2_with fail
      refine (limb_is A cap xs j x _ H.out Ex.out).mono ?_
      rintro e w1 ⟨rfl, rfl⟩
      go_wp2_with fail
      refine (limb_is A' cap' ys j y _ H'.out Ey.out).mono ?_
      rintro e w1 ⟨rfl, rfl⟩
      go_wp2
      go_roundw
      case rel =>
       refine ⟨j, by go_num, by omega, ?_, trivial⟩
       rw [HR.out, lval_take_succ', lval_take_succ', ← Ex.out, ← Ey.out, E.out, decide_eq_decide]
       omega
      case measure => simp [intOf]
    · have e1 : ((x : Int) != (y : Int)) = true := by simp; omega
      have e2 : ¬ (x : Int) = (y : Int) := by omega
      have E := Lib.hid hxy; clear hxy
      go_wp2_with fail
      refine (limb_is A cap xs j x _ H.out Ex.out).mono ?_
      rintro e w1 ⟨rfl, rfl⟩
      go_wp2_with fail
      refine (limb_is A' cap' ys j y _ H'.out Ey.out).mono ?_
      rintro e w1 ⟨rfl, rfl⟩
      go_wp2
      go_ret
      refine ⟨ret_bool ?_, rfl⟩
      rw [HR.out, lower_step Ex.out Ey.out HX.out HY.out E.out]
end
section
open Go.RowKit

theorem less_any (A A' : Option Addr) (cap cap' : Nat) (xs ys : List Nat) (w : World) (h : RdL w A xs) (h' : RdL w A' ys) (hx : Lim xs) (hy : Lim ys) (hl : xs.length ≤ 1000) (hl' : ys.length ≤ xs.length) (hle : lval ys ≤ lval xs) :
 Calls Tryz.prog 156 #[.slice A xs.length cap, .slice A' ys.length cap'] w (RetN (lval xs - lval ys) w) := by
 have H := Lib.hid h; clear h
 have H' := Lib.hid h'; clear h'
 have HX := Lib.hid hx; clear hx
 have HY := Lib.hid hy; clear hy
 have HLE := Lib.hid hle; clear hle
 obtain ⟨i0, hi, hz0, hz1, hz2⟩ := info_parts info_u32
 have HI := Lib.hid hi; clear hi
 go_enter Tryz.func156, Tryz.ntmps156
 go_wp2
 go_loopw [5, 6, 7, 8, 11] (fun v cv _ _ i wr => ∃ (k c : Nat) (out : List Nat), i = .int .i64 (k : Int) ∧ cv = .int .u64 (c : Int) ∧ k ≤ xs.length ∧ SubRel w wr xs ys v k c out) (fun _ _ _ _ i _ => xs.length - (intOf i).toNat)
 case atStart => exact ⟨0, 0, [], rfl, rfl, by omega, OutL.start w (bel_refl _), rfl, by omega, by simp [lval, val]⟩
 case round =>
  obtain ⟨k, c, out, rfl, rfl, hk, hrel⟩ := hrel
  have HA := Lib.hid hrel; clear hrel
  by_cases hlt : k < xs.length
  · have hlt' : (k : Int) < (xs.length : Int) := by omega
    have RX := Lib.hid (H.out.below HA.out.row.old)
    have RY := Lib.hid (H'.out.below HA.out.row.old)
    obtain ⟨g, off, rfl, hg, hcell⟩ := RX.out.at_ hlt
    obtain ⟨x, hx⟩ : ∃ x, x = xs.getD k 0 := ⟨_, rfl⟩
    obtain ⟨y, hy⟩ : ∃ y, y = ys.getD k 0 := ⟨_, rfl⟩
    have hx1 := HX.out.get k
    have hy1 := HY.out.get k
    rw [← hx] at hx1 hcell
    rw [← hy] at hy1
    have Ex := Lib.hid hx; clear hx
    have Ey := Lib.hid hy; clear hy
    have hc1 := HA.out.carry
    obtain ⟨p, hp⟩ : ∃ p : Nat, (p : Int) = ((x : Int) - (y : Int)) % 18446744073709551616 := ⟨(((x : Int) - (y : Int)) % 18446744073709551616).toNat, by omega⟩
    obtain ⟨q, hq⟩ : ∃ q : Nat, (q : Int) = ((p : Int) - (c : Int)) % 18446744073709551616 := ⟨(((p : Int) - (c : Int)) % 18446744073709551616).toNat, by omega⟩
    obtain ⟨l, hl3⟩ : ∃ l, l = q % 4294967296 := ⟨_, rfl⟩
    obtain ⟨c', hc'⟩ : ∃ c', c' = q / 9223372036854775808 := ⟨_, rfl⟩
    have sx : IntKind.u64.wrap (x : Int) = (x : Int) := by rw [IntKind.wrap_u64]; omega
    have sy : IntKind.u64.wrap (y : Int) = (y : Int) := by rw [IntKind.wrap_u64]; omega
    have s1 : IntKind.u64.wrap ((x : Int) - (y : Int)) = (p : Int) := by rw [IntKind.wrap_u64, hp]
    have s2 : IntKind.u64.wrap ((p : Int) - (c : Int)) = (q : Int) := by rw [IntKind.wrap_u64, hq]
    have s3 : IntKind.u32.wrap (q : Int) = (l : Int) := by rw [IntKind.wrap_u32', hl3]; omega
    have s4 : (q : Int) / 9223372036854775808 = (c' : Int) := by rw [hc']; omega
    have he : x + B32 * c' = l + (y + c) := by rw [B32_eq]; omega
    have hcc : c' ≤ 1 := by omega
    have hlb : l < B32 := by rw [B32_eq]; omega
    have hk16 : out.length ≤ 1000 := by have := HA.out.len; omega
    have HS := Lib.hid (And.intro he (And.intro hcc hlb)); clear he hcc hlb hp hq hl3 hc' hx1 hy1 hc1
    go_wp2
    go_quiet (first | (go_at_call 162; exact Calls.quiet_of_same (limb_is A' cap' ys k y _ (RY.out.drewN _) Ey.out)))
    go_wp2_with (at_builtin; refine wpList_push _ rfl _ _ 22 rfl w.heap.size 62 (.int .u32 0) 4 (by kernel_rfl) info_u32 rfl _ out.length (nums .u32 out) rfl (.int .u32 (l : Int)) rfl rfl (own_below HA.out.row.own (bel_drewN (bel_refl _) _)) (by unfold maxLen; omega) (by omega) HA.out.row.old.size ?_; intro v' w2 hown hbel; have HO := Lib.hid (And.intro hown hbel); clear hown hbel)
    go_roundw
    case rel =>
     obtain ⟨he, hcc, hlb⟩ := HS.out
     exact ⟨k + 1, c', out ++ [l], by go_num, rfl, by omega, HA.out.step Ex.out Ey.out hcc he (HA.out.row.more hlb ((bel_drewN (Below.refl _ _) _).trans HO.out.2) HO.out.1)⟩
    case measure => simp [intOf]; omega
  · have hlt' : ¬ (k : Int) < (xs.length : Int) := by omega
    have hkm : k = xs.length := by omega
    have hdone := Lib.hid (HA.out.done hkm hl' HLE.out)
    obtain ⟨A9, c9, hv, hc9, hm9, hr9, hf9⟩ := own_rdF HA.out.row.own rfl
    subst hv
    have R9 := Lib.hid hr9; clear hr9 hf9
    have HL := Lib.hid HA.out.row.lim
    have hlo : out.length ≤ 1000 := by have := HA.out.len; omega
    have OLD := Lib.hid HA.out.row.old; clear HA
    obtain ⟨wl, hwl⟩ : ∃ wl, wl = wr := ⟨_, rfl⟩
    rw [← hwl] at R9 OLD
    have HWL := Lib.hid hwl; clear hwl
    go_wp2
    go_loopw [5] (fun v wj => ∃ j : Nat, j ≤ out.length ∧ v = .slice A9 j c9 ∧ (∀ x ∈ out.drop j, x = 0) ∧ wj = wl) (fun v _ => match v with | .slice _ n _ => n | _ => 0)
    case atStart => exact ⟨out.length, Nat.le_refl _, rfl, by simp, HWL.out.symm⟩
    case round =>
     obtain ⟨j, hj, rfl, hrest, rfl⟩ := hrel
     have HR := Lib.hid hrest; clear hrest
     by_cases h0 : j = 0
     · subst h0
       go_wp2
       go_ret
       have e : lval out = 0 := val_zeros _ _ (by simpa using HR.out)
       rw [← hdone.out, e]
       exact ⟨_, rfl, ⟨A9, c9, rfl, Nat.zero_le _, RdL.nil⟩, OLD.out⟩
     · obtain ⟨b, off, rfl, hb, hc⟩ := R9.out.at_ (k := j - 1) (by omega)
       obtain ⟨x, hx⟩ : ∃ x, x = out.getD (j - 1) 0 := ⟨_, rfl⟩
       rw [← hx] at hc
       have HC := Lib.hid hx; clear hx
       have g0 : (0 : Int) < (j : Int) := by omega
       have g3 : (j : Int) - 1 = ((j - 1 : Nat) : Int) := by omega
       have g4 : ((j - 1 : Nat) : Int) < (j : Int) := by omega
       have hcut := fun W => run_cut_to (P := Tryz.prog) 22 62 i0 (by kernel_rfl) HI.out (some ⟨b, off, none⟩) j c9 (j - 1) (by omega) W
       by_cases hx0 : x = 0
       · have hz : ((x : Int) == 0) = true := by simp [hx0]
         have HX0 := Lib.hid hx0; clear hx0
         go_wp2
         go_roundw
         case rel => exact ⟨j - 1, by omega, rfl, trim_more hj h0 HR.out (by rw [← HC.out]; exact HX0.out), trivial⟩
         case measure => dsimp only; omega
       · have hz : ((x : Int) == 0) = false := by simp; omega
         have ht := Lib.hid (trim_done HL.out hj h0 HR.out (by rw [← HC.out]; exact hx0)); clear hx0
         go_wp2
         go_ret
         have e : (limbs (lval out)).length = j := by rw [ht.out, List.length_take, Nat.min_eq_left hj]
         rw [← hdone.out]
         refine ⟨_, rfl, ⟨some ⟨b, off, none⟩, c9, by rw [e]; rfl, by omega, ?_⟩, OLD.out⟩
         rw [ht.out]
         exact R9.out.take j
theorem less_num (A A' : Option Addr) (cap cap' : Nat) (a b : Nat) (w : World) (h : RdL w A (limbs a)) (h' : RdL w A' (limbs b)) (hl : (limbs a).length ≤ 1000) (hle : b ≤ a) :
 Calls Tryz.prog 156 #[.slice A (limbs a).length cap, .slice A' (limbs b).length cap'] w (RetN (a - b) w) := by
 have := less_any A A' cap cap' (limbs a) (limbs b) w h h' (limbs_lim a) (limbs_lim b) hl (limbs_le_len hle) (by rw [lval_limbs, lval_limbs]; exact hle)
 rwa [lval_limbs, lval_limbs] at this
theorem lower_num (A A' : Option Addr) (cap cap' : Nat) (a b : Nat) (w : World) (h : RdL w A (limbs a)) (h' : RdL w A' (limbs b)) (hl : (limbs a).length ≤ 1000) (hl' : (limbs b).length ≤ 1000) :
 Calls Tryz.prog 155 #[.slice A (limbs a).length cap, .slice A' (limbs b).length cap'] w (RetB (decide (a < b)) w) := by
 have := lower_any A A' cap cap' (limbs a) (limbs b) w h h' (limbs_lim a) (limbs_lim b) hl hl'
 rwa [lval_limbs, lval_limbs] at this
theorem nonzero_num (A : Option Addr) (cap : Nat) (a : Nat) (w : World) (h : RdL w A (limbs a)) (hl : (limbs a).length ≤ 1000) :
 Calls Tryz.prog 157 #[.slice A (limbs a).length cap] w (RetB (decide (a ≠ 0)) w) := by
 have := nonzero_any A cap (limbs a) w h hl
 rwa [lval_limbs] at this
end
section
open Go.RowKit

structure DbRel (w wr : World) (xs : List Nat) (b : Nat) (v : Value) (k c : Nat) (out : List Nat) : Prop where
 row : OutL w wr v out
 len : out.length = k
 carry : c ≤ 1
 sum : lval out + B32 ^ k * c = 2 * lval (xs.take k) + b
theorem DbRel.step {w wr w' : World} {xs out : List Nat} {b : Nat} {v v' : Value} {k c x l c' : Nat} (h : DbRel w wr xs b v k c out) (hx : x = xs.getD k 0) (hc' : c' ≤ 1) (he : l + B32 * c' = 2 * x + c) (ho : OutL w w' v' (out ++ [l])) : DbRel w w' xs b v' (k + 1) c' (out ++ [l]) := by
 refine ⟨ho, by rw [List.length_append, h.len]; rfl, hc', ?_⟩
 rw [lval_snoc, h.len, Nat.pow_succ, lval_take_succ', ← hx]
 have hs := h.sum
 have h3 : B32 ^ k * (l + B32 * c') = B32 ^ k * (2 * x + c) := by rw [he]
 simp only [Nat.mul_add] at h3
 have h4 : B32 ^ k * (2 * x) = 2 * (B32 ^ k * x) := by rw [Nat.mul_left_comm]
 rw [Nat.mul_assoc]
 omega
theorem or_bit01 {e b : Nat} (he : e % 2 = 0) (hb : b ≤ 1) : e ||| b = e + b := by
 have h := Nat.two_pow_add_eq_or_of_lt (i := 1) (b := b) (by omega) (e / 2)
 rw [show 2 ^ 1 * (e / 2) = e by omega] at h
 exact h.symm
theorem double_any (A : Option Addr) (cap : Nat) (xs : List Nat) (b : Nat) (w : World) (h : RdL w A xs) (hx : Lim xs) (hb : b ≤ 1) (hl : xs.length ≤ 1000) :
 Calls Tryz.prog 153 #[.slice A xs.length cap, .int .u32 (b : Int)] w (fun e w' => ∃ A' cap' zs, e = .returned (.slice A' (List.length zs) cap') ∧ zs.length ≤ cap' ∧ RdL w' A' zs ∧ Lim zs ∧ lval zs = 2 * lval xs + b ∧ zs.length ≤ xs.length + 1 ∧ (zs.length = xs.length + 1 → zs.getD xs.length 0 = 1) ∧ Below w.heap.size w w') := by
 have H := Lib.hid h; clear h
 have HX := Lib.hid hx; clear hx
 go_enter Tryz.func153, Tryz.ntmps153
 go_wp2
 go_loopw [1, 5, 7, 10] (fun cv v _ i wr => ∃ (k c : Nat) (out : List Nat), i = .int .i64 (k : Int) ∧ cv = .int .u32 (c : Int) ∧ k ≤ xs.length ∧ DbRel w wr xs b v k c out) (fun _ _ _ i _ => xs.length - (intOf i).toNat)
 case atStart => exact ⟨0, b, [], rfl, rfl, by omega, OutL.start w (bel_refl _), rfl, by omega, by simp [lval, val]⟩
 case round =>
  obtain ⟨k, c, out, rfl, rfl, hk, hrel⟩ := hrel
  have HA := Lib.hid hrel; clear hrel
  by_cases hlt : k < xs.length
  · have hlt' : (k : Int) < (xs.length : Int) := by omega
    have RX := Lib.hid (H.out.below HA.out.row.old)
    obtain ⟨g, off, rfl, hg, hcell⟩ := RX.out.at_ hlt
    obtain ⟨x, hx⟩ : ∃ x, x = xs.getD k 0 := ⟨_, rfl⟩
    have hx1 := HX.out.get k
    rw [← hx] at hx1 hcell
    have Ex := Lib.hid hx; clear hx
    have hc1 := HA.out.carry
    have hk16 : out.length ≤ 1000 := by have := HA.out.len; omega
    obtain ⟨l, hl3⟩ : ∃ l, l = 2 * x % 4294967296 + c := ⟨_, rfl⟩
    obtain ⟨c', hc'⟩ : ∃ c', c' = x / 2147483648 := ⟨_, rfl⟩
    have ev : bits BinOp.or IntKind.u32 ((x : Int) * 2 % 4294967296) (c : Int) = (l : Int) := by
     have h1 := u32_or_nat (2 * x % 4294967296) c (by omega) (by omega)
     rw [or_bit01 (by omega) hc1] at h1
     rw [hl3, ← h1]
     congr 1
     omega
    have s4 : (x : Int) / 2147483648 = (c' : Int) := by rw [hc']; omega
    have he : l + B32 * c' = 2 * x + c := by rw [B32_eq]; omega
    have hcc : c' ≤ 1 := by omega
    have hlb : l < B32 := by rw [B32_eq]; omega
    have HS := Lib.hid (And.intro he (And.intro hcc hlb)); clear he hcc hlb hl3 hc' hx1 hc1
    go_wp2_with (at_builtin; refine wpList_push _ rfl _ _ 22 rfl w.heap.size 62 (.int .u32 0) 4 (by kernel_rfl) info_u32 rfl _ out.length (nums .u32 out) rfl (.int .u32 (l : Int)) rfl rfl (own_below HA.out.row.own (bel_refl _)) (by unfold maxLen; omega) (by omega) HA.out.row.old.size ?_; intro v' w2 hown hbel; have HO := Lib.hid (And.intro hown hbel); clear hown hbel)
    go_roundw
    case rel =>
     obtain ⟨he, hcc, hlb⟩ := HS.out
     exact ⟨k + 1, c', out ++ [l], by go_num, rfl, by omega, HA.out.step Ex.out hcc he (HA.out.row.more hlb HO.out.2 HO.out.1)⟩
    case measure => simp [intOf]; omega
  · have hlt' : ¬ (k : Int) < (xs.length : Int) := by omega
    have hkm : k = xs.length := by omega
    have hc1 := HA.out.carry
    have hsum := HA.out.sum
    rw [lval_zero_take hkm] at hsum
    have hlo : out.length = xs.length := by rw [HA.out.len, hkm]
    by_cases hc0 : c = 0
    · have e1 : ((c : Int) != 0) = false := by simp [hc0]
      have e2 : (c : Int) = 0 := by omega
      obtain ⟨A9, c9, hv, hc9, hm9, hr9, hf9⟩ := own_rdF HA.out.row.own rfl
      have HS := Lib.hid (And.intro hr9 (And.intro hsum (And.intro hlo hc0))); clear hr9 hf9 hsum hlo hc0
      subst hv
      go_wp2
      go_ret
      obtain ⟨hr9, hsum, hlo, hc0⟩ := HS.out
      refine ⟨A9, c9, out, rfl, hc9, hr9, HA.out.row.lim, by rw [hc0, Nat.mul_zero] at hsum; exact hsum, by omega, fun h => absurd h (by omega), HA.out.row.old⟩
    · obtain rfl : c = 1 := by omega
      have HS := Lib.hid (And.intro hsum hlo); clear hsum hlo hc0 hc1
      have hk16 : out.length ≤ 1000 := by have := HS.out.2; omega
      go_wp2_with (at_builtin; refine wpList_push _ rfl _ _ 22 rfl w.heap.size 62 (.int .u32 0) 4 (by kernel_rfl) info_u32 rfl _ out.length (nums .u32 out) rfl (.int .u32 1) rfl rfl (own_below HA.out.row.own (bel_refl _)) (by unfold maxLen; omega) (by omega) HA.out.row.old.size ?_; intro v' w2 hown hbel; have HO := Lib.hid (And.intro hown hbel); clear hown hbel)
      go_ret
      have HN := HA.out.row.more (x := 1) (by rw [B32_eq]; decide) HO.out.2 HO.out.1
      obtain ⟨A9, c9, hv, hc9, hm9, hr9, hf9⟩ := own_rdF HN.own rfl
      subst hv
      refine ⟨A9, c9, out ++ [1], rfl, hc9, hr9, HN.lim, ?_, by rw [List.length_append, HS.out.2]; exact Nat.le_refl _, fun _ => by rw [← HS.out.2]; simp, HN.old⟩
      rw [lval_snoc, HA.out.len]
      exact HS.out.1
theorem norm_of {zs : List Nat} (hz : Lim zs) (h : zs.length ≠ 0 → B32 ^ (zs.length - 1) ≤ lval zs) : limbs (lval zs) = zs := by
 by_cases h0 : zs.length = 0
 · rw [List.eq_nil_of_length_eq_zero h0]; rfl
 · have ht := trim_done (k := zs.length) hz (Nat.le_refl _) h0 (by simp) (fun he => by
    have h1 := lval_take_succ' zs (zs.length - 1)
    rw [show zs.length - 1 + 1 = zs.length by omega, List.take_length, he, Nat.mul_zero, Nat.add_zero] at h1
    have h2 := lval_take_lt hz (k := zs.length - 1) (by omega)
    have := h h0
    omega)
   rw [ht, List.take_length]
theorem double_num (A : Option Addr) (cap : Nat) (n b : Nat) (w : World) (h : RdL w A (limbs n)) (hb : b ≤ 1) (hl : (limbs n).length ≤ 1000) :
 Calls Tryz.prog 153 #[.slice A (limbs n).length cap, .int .u32 (b : Int)] w (RetN (2 * n + b) w) := by
 refine (double_any A cap (limbs n) b w h (limbs_lim n) hb hl).mono ?_
 rintro e w' ⟨A', cap', zs, rfl, hc, hr, hz, hv, hlen, htop, hbel⟩
 rw [lval_limbs] at hv
 have hn : limbs (lval zs) = zs := norm_of hz fun h0 => by
  by_cases h1 : zs.length = (limbs n).length + 1
  · have ht := htop h1
    have h2 := lval_take_succ' zs (zs.length - 1)
    rw [show zs.length - 1 + 1 = zs.length by omega, List.take_length, h1, Nat.add_sub_cancel, ht] at h2
    rw [h1, Nat.add_sub_cancel]
    omega
  · by_cases hn0 : n = 0
    · rw [hn0] at hlen h1
      have : (limbs 0).length = 0 := rfl
      omega
    · have h2 : ¬ n < B32 ^ ((limbs n).length - 1) := fun h' => by
       have := limbs_len.2 h'
       have h5 : 0 < (limbs n).length := digs_len_pos B32_two hn0
       omega
      have h3 : B32 ^ (zs.length - 1) ≤ B32 ^ ((limbs n).length - 1) := Nat.pow_le_pow_right (by decide) (by omega)
      omega
 rw [← hv]
 exact ⟨_, rfl, ⟨A', cap', by rw [hn], by rw [hn]; exact hc, by rw [hn]; exact hr⟩, hbel⟩
end
section
open Go.RowKit

def bitI (a : Nat) (i : Int) : Nat := if i < 0 then 0 else a / 2 ^ i.toNat % 2
theorem bitI_neg {a : Nat} {i : Int} (h : i < 0) : bitI a i = 0 := if_pos h
theorem bitI_nat (a m : Nat) : bitI a (m : Int) = a / 2 ^ m % 2 := by unfold bitI; rw [if_neg (by omega)]; rfl

theorem bit_neg (A : Option Addr) (cap : Nat) (xs : List Nat) (i : Int) (w : World) (hi : i < 0) :
 Calls Tryz.prog 154 #[.slice A xs.length cap, .int .i64 i] w (RetW 0 w) := by
 go_enter Tryz.func154, Tryz.ntmps154
 go_wp2
 go_ret
 exact ⟨rfl, rfl⟩
theorem bit_nat (A : Option Addr) (cap : Nat) (a m : Nat) (w : World) (h : RdL w A (limbs a)) (hm : m ≤ 100000) :
 Calls Tryz.prog 154 #[.slice A (limbs a).length cap, .int .i64 (m : Int)] w (RetW (a / 2 ^ m % 2 : Nat) w) := by
 have hb := bit_at (limbs_lim a) m
 rw [lval_limbs] at hb
 rw [hb]
 obtain ⟨j, hj⟩ : ∃ j, j = m / 32 := ⟨_, rfl⟩
 obtain ⟨s, hs⟩ : ∃ s, s = m % 32 := ⟨_, rfl⟩
 have hs32 : s < 32 := by omega
 have hm0 : ¬ (m : Int) < 0 := by omega
 have sj : (m : Int) / 32 = (j : Int) := by omega
 have ss : (m : Int) % 32 = (s : Int) := by omega
 have sj2 : (m : Int).tdiv 32 = (j : Int) := by rw [Int.tdiv_eq_ediv_of_nonneg (by omega)]; exact sj
 have ss2 : (m : Int).tmod 32 = (s : Int) := by rw [Int.tmod_eq_emod_of_nonneg (by omega)]; exact ss
 have wj : IntKind.i64.wrap (j : Int) = (j : Int) := by rw [IntKind.wrap_i64]; omega
 have ws : IntKind.i64.wrap (s : Int) = (s : Int) := by rw [IntKind.wrap_i64]; omega
 rw [← hj, ← hs]
 have HS := Lib.hid (And.intro hj hs); clear hj hs hb
 have H := Lib.hid h; clear h
 by_cases hlt : j < (limbs a).length
 · have hlt' : (j : Int) < ((limbs a).length : Int) := by omega
   have hge : ¬ ((limbs a).length : Int) ≤ (j : Int) := by omega
   obtain ⟨b, off, rfl, hb, hc⟩ := H.out.at_ hlt
   obtain ⟨x, hx⟩ : ∃ x, x = (limbs a).getD j 0 := ⟨_, rfl⟩
   have hx1 := (limbs_lim a).get j
   rw [← hx] at hc hx1 ⊢
   have HX := Lib.hid hx; clear hx
   have sbit : bits BinOp.and IntKind.u32 ((x : Int) / 2 ^ s) 1 = ((x / 2 ^ s % 2 : Nat) : Int) := by
    rw [← and_one (x / 2 ^ s) (Nat.lt_of_le_of_lt (Nat.div_le_self _ _) hx1)]
    congr 1
   obtain ⟨bt, hbt⟩ : ∃ bt, bt = x / 2 ^ s % 2 := ⟨_, rfl⟩
   rw [← hbt] at sbit ⊢
   have HBT := Lib.hid hbt; clear hbt
   go_enter Tryz.func154, Tryz.ntmps154
   go_wp2
   go_ret
   exact ⟨rfl, rfl⟩
 · have hge : ((limbs a).length : Int) ≤ (j : Int) := by omega
   rw [getD_none hlt, Nat.zero_div]
   go_enter Tryz.func154, Tryz.ntmps154
   go_wp2
   go_ret
   exact ⟨rfl, rfl⟩
theorem bit_any (A : Option Addr) (cap : Nat) (a : Nat) (i : Int) (w : World) (h : RdL w A (limbs a)) (hi : i ≤ 100000) :
 Calls Tryz.prog 154 #[.slice A (limbs a).length cap, .int .i64 i] w (RetW (bitI a i : Nat) w) := by
 by_cases h0 : i < 0
 · rw [bitI_neg h0]
   exact bit_neg A cap (limbs a) i w h0
 · obtain ⟨m, rfl⟩ : ∃ m : Nat, i = (m : Int) := ⟨i.toNat, by omega⟩
   rw [bitI_nat]
   exact bit_nat A cap a m w h (by omega)
theorem mod_pow_succ (a k : Nat) : a % 2 ^ (k + 1) = a % 2 ^ k + 2 ^ k * (a / 2 ^ k % 2) := by rw [Nat.pow_succ, Nat.mod_mul]

theorem rest_any (A : Option Addr) (cap : Nat) (a : Nat) (i : Int) (w : World) (h : RdL w A (limbs a)) (hi : i ≤ 100000) :
 Calls Tryz.prog 158 #[.slice A (limbs a).length cap, .int .i64 i] w (RetB (!decide (a % 2 ^ i.toNat = 0)) w) := by
 obtain ⟨m, hm⟩ : ∃ m, m = i.toNat := ⟨_, rfl⟩
 have hmax : ∀ W, (Builtin.max_ #[3, 3] 3 #[.int .i64 i, .int .i64 0]).run Tryz.prog W = .ok (.int .i64 (m : Int)) W := fun W => by
  rw [run_max_int2, hm]
  congr 2
  omega
 have hm1 : m ≤ 100000 := by omega
 rw [← hm]
 clear hm hi
 have H := Lib.hid h; clear h
 go_enter Tryz.func158, Tryz.ntmps158
 go_wp2
 clear hmax
 go_loopw [5, 8] (fun _ iv wr => ∃ k : Nat, iv = .int .i64 (k : Int) ∧ k ≤ m ∧ a % 2 ^ k = 0 ∧ wr = w) (fun _ i _ => m - (intOf i).toNat)
 case atStart => exact ⟨0, rfl, Nat.zero_le _, by simp [Nat.mod_one], rfl⟩
 case round =>
  obtain ⟨k, rfl, hk, hrel, rfl⟩ := hrel
  have HR := Lib.hid hrel; clear hrel
  by_cases hlt : k < m
  · have hlt' : (k : Int) < (m : Int) := by omega
    obtain ⟨bt, hbt⟩ : ∃ bt, a / 2 ^ k % 2 = bt := ⟨_, rfl⟩
    have hb2 : bt < 2 := by rw [← hbt]; exact Nat.mod_lt _ (by decide)
    have HB := Lib.hid hbt; clear hbt
    by_cases hb0 : bt = 0
    · subst hb0
      go_wp2_with fail
      refine (bit_nat A cap a k _ H.out (by omega)).mono ?_
      rintro e w1 ⟨rfl, rfl⟩
      rw [HB.out]
      go_wp2
      go_roundw
      case rel => exact ⟨k + 1, by go_num, by omega, by rw [mod_pow_succ, HR.out, HB.out]; simp, trivial⟩
      case measure => simp [intOf]; omega
    · obtain rfl : bt = 1 := by omega
      clear hb0 hb2
      go_wp2_with fail
      refine (bit_nat A cap a k _ H.out (by omega)).mono ?_
      rintro e w1 ⟨rfl, rfl⟩
      rw [HB.out]
      go_wp2
      go_ret
      have hz : ¬ a % 2 ^ m = 0 := fun hz => by
       have h1 : a % 2 ^ (k + 1) = 2 ^ k := by rw [mod_pow_succ, HR.out, HB.out]; omega
       have h2 : 2 ^ (k + 1) ∣ a := Nat.dvd_trans (Nat.pow_dvd_pow 2 hlt) (Nat.dvd_of_mod_eq_zero hz)
       rw [Nat.mod_eq_zero_of_dvd h2] at h1
       have := Nat.pow_pos (n := k) (show 0 < 2 by decide)
       omega
      exact ⟨ret_bool (by rw [decide_eq_false hz]; rfl), rfl⟩
  · have hlt' : ¬ (k : Int) < (m : Int) := by omega
    have HK := Lib.hid (show k = m by omega)
    go_wp2
    go_ret
    exact ⟨ret_bool (by rw [← HK.out, HR.out]; rfl), rfl⟩
end
section
open Go.RowKit

def preI (N : Nat) (i : Int) : Nat := if i < 0 then N * 2 ^ (-i).toNat else N / 2 ^ i.toNat
theorem preI_nat (N k : Nat) : preI N (k : Int) = N / 2 ^ k := by unfold preI; rw [if_neg (by omega)]; rfl
theorem preI_neg (N k : Nat) : preI N (-(k : Int)) = N * 2 ^ k := by
 unfold preI
 by_cases h : k = 0
 · subst h; simp
 · rw [if_pos (by omega)]
   congr 2
   omega
theorem preI_step (N : Nat) (i : Int) : preI N i = 2 * preI N (i + 1) + bitI N i := by
 by_cases h : i < 0
 · obtain ⟨k, rfl⟩ : ∃ k : Nat, i = -((k + 1 : Nat) : Int) := ⟨(-i).toNat - 1, by omega⟩
   rw [bitI_neg h, show -((k + 1 : Nat) : Int) + 1 = -(k : Int) by omega, preI_neg, preI_neg, Nat.pow_succ, Nat.add_zero, Nat.mul_comm (2 ^ k) 2, Nat.mul_left_comm]
 · obtain ⟨k, rfl⟩ : ∃ k : Nat, i = (k : Int) := ⟨i.toNat, by omega⟩
   rw [bitI_nat, preI_nat, show (k : Int) + 1 = ((k + 1 : Nat) : Int) by omega, preI_nat, Nat.pow_succ, ← Nat.div_div_eq_div_mul]
   omega
theorem preI_lt {N a : Nat} (h : N < 2 ^ a) {i : Int} (hi : i ≤ a) : preI N i < 2 ^ ((a : Int) - i).toNat := by
 by_cases h0 : i < 0
 · obtain ⟨k, rfl⟩ : ∃ k : Nat, i = -(k : Int) := ⟨(-i).toNat, by omega⟩
   rw [preI_neg, show ((a : Int) - -(k : Int)).toNat = a + k by omega, Nat.pow_add]
   exact Nat.mul_lt_mul_of_pos_right h (Nat.pow_pos (by decide))
 · obtain ⟨k, rfl⟩ : ∃ k : Nat, i = (k : Int) := ⟨i.toNat, by omega⟩
   rw [preI_nat, show ((a : Int) - (k : Int)).toNat = a - k by omega, Nat.div_lt_iff_lt_mul (Nat.pow_pos (by decide)), ← Nat.pow_add, Nat.sub_add_cancel (by omega)]
   exact h
theorem preI_top {N a : Nat} (h : N < 2 ^ a) : preI N (a : Int) = 0 := by
 have := preI_lt h (i := (a : Int)) (Int.le_refl _)
 simp at this
 exact this
theorem div_step {P D b : Nat} (hD : 0 < D) (hb : b ≤ 1) : (2 * P + b) / D = 2 * (P / D) + (if D ≤ 2 * (P % D) + b then 1 else 0) ∧ (2 * P + b) % D = (if D ≤ 2 * (P % D) + b then 2 * (P % D) + b - D else 2 * (P % D) + b) := by
 have h1 := Nat.div_add_mod P D
 have h2 := Nat.mod_lt P hD
 generalize P / D = q at *
 generalize P % D = r at *
 subst h1
 by_cases h : D ≤ 2 * r + b
 · rw [if_pos h, if_pos h]
   have e : 2 * (D * q + r) + b = (2 * r + b - D) + D * (2 * q + 1) := by
    rw [Nat.mul_add, Nat.mul_add D, Nat.mul_left_comm]
    omega
   rw [e, Nat.add_mul_div_left _ _ hD, Nat.add_mul_mod_self_left, Nat.div_eq_of_lt (by omega), Nat.mod_eq_of_lt (by omega), Nat.zero_add]
   exact ⟨rfl, rfl⟩
 · rw [if_neg h, if_neg h]
   have e : 2 * (D * q + r) + b = (2 * r + b) + D * (2 * q) := by
    rw [Nat.mul_add, Nat.mul_left_comm]
    omega
   rw [e, Nat.add_mul_div_left _ _ hD, Nat.add_mul_mod_self_left, Nat.div_eq_of_lt (by omega), Nat.mod_eq_of_lt (by omega), Nat.zero_add]
   exact ⟨by omega, rfl⟩

structure DgRel (w wr : World) (N D : Nat) (e i : Int) (m : Nat) (half : Bool) (v : Value) : Prop where
 old : Below w.heap.size w wr
 left : RdN wr v (preI N (i + 1) % D)
 up : e ≤ i + 1 → m = preI N (i + 1) / D * 2 ^ (i + 1 - e).toNat
 down : i + 1 < e → m = preI N e / D ∧ half = decide (preI N (e - 1) / D % 2 = 1)
theorem or_step {q s k : Nat} (hs : s = k + 1) : (q * 2 ^ s) ||| 2 ^ k = q * 2 ^ s + 2 ^ k := by
 subst hs
 have h := Nat.two_pow_add_eq_or_of_lt (i := k + 1) (b := 2 ^ k) (Nat.pow_lt_pow_right (by decide) (by omega)) q
 rw [Nat.mul_comm] at h
 exact h.symm
theorem quo_bound {P D t b k : Nat} (hP : P < 2 ^ t) (hD : 2 ^ b ≤ D) (ht : t + k ≤ 61 + b) : P / D * 2 ^ k < 2 ^ 61 := by
 refine Nat.lt_of_mul_lt_mul_right (a := 2 ^ b) ?_
 have h1 : P / D * 2 ^ b ≤ P := Nat.le_trans (Nat.mul_le_mul_left _ hD) (Nat.div_mul_le_self P D)
 rw [Nat.mul_right_comm]
 refine Nat.lt_of_le_of_lt (Nat.mul_le_mul_right _ h1) ?_
 refine Nat.lt_of_lt_of_le (Nat.mul_lt_mul_of_pos_right hP (Nat.pow_pos (by decide))) ?_
 rw [← Nat.pow_add, ← Nat.pow_add]
 exact Nat.pow_le_pow_right (by decide) ht
theorem lower_is {v : Bool} (A A' : Option Addr) (cap cap' : Nat) (a b : Nat) (w : World) (h : RdL w A (limbs a)) (h' : RdL w A' (limbs b)) (hl : (limbs a).length ≤ 1000) (hl' : (limbs b).length ≤ 1000) (hv : decide (a < b) = v) :
 Calls Tryz.prog 155 #[.slice A (limbs a).length cap, .slice A' (limbs b).length cap'] w (RetB v w) := by
 rw [← hv]
 exact lower_num A A' cap cap' a b w h h' hl hl'
theorem limbs_1000 {n : Nat} (h : n < 2 * Top) : (limbs n).length ≤ 1000 := by
 have h1 : n < B32 ^ 17 := Nat.lt_of_lt_of_le h (by
  show 2 * B32 ^ 16 ≤ B32 ^ 17
  rw [Nat.pow_succ, Nat.mul_comm]
  exact Nat.mul_le_mul_left _ B32_two)
 have := limbs_len.2 h1
 omega
def RetDg (m : Nat) (e : Int) (half more : Bool) (w : World) (E : Ending) (w' : World) : Prop := E = .returned (.tuple #[.int .u64 (m : Int), .int .i64 e, .bool half, .bool more]) ∧ Below w.heap.size w w'
theorem DgRel.step {w wr w' : World} {N D : Nat} {e i : Int} {m m' : Nat} {half half' : Bool} {v v' : Value} (h : DgRel w wr N D e i m half v) (hb : Below w.heap.size w w') (hD : 0 < D)
 (hl : RdN w' v' (if D ≤ 2 * (preI N (i + 1) % D) + bitI N i then 2 * (preI N (i + 1) % D) + bitI N i - D else 2 * (preI N (i + 1) % D) + bitI N i))
 (hm : e ≤ i → m' = m + (if D ≤ 2 * (preI N (i + 1) % D) + bitI N i then 2 ^ (i - e).toNat else 0)) (hm2 : i = e - 1 → m' = m ∧ half' = decide (D ≤ 2 * (preI N (i + 1) % D) + bitI N i)) (hi : e - 1 ≤ i) (hb1 : bitI N i ≤ 1) : DgRel w w' N D e (i - 1) m' half' v' := by
 obtain ⟨d1, d2⟩ := div_step (P := preI N (i + 1)) hD hb1
 rw [← preI_step] at d1 d2
 refine ⟨hb, by rw [show i - 1 + 1 = i by omega, d2]; exact hl, fun he => ?_, fun he => ?_⟩
 · rw [show i - 1 + 1 = i by omega] at he ⊢
   rw [hm he, h.up (by omega), d1, show (i + 1 - e).toNat = (i - e).toNat + 1 by omega, Nat.pow_succ]
   generalize preI N (i + 1) / D = q
   generalize 2 ^ (i - e).toNat = p
   split <;> grind
 · have hie : i = e - 1 := by omega
   obtain ⟨hm3, hh⟩ := hm2 hie
   have hu := h.up (by omega)
   rw [show i + 1 = e by omega] at hu
   refine ⟨by rw [hm3, hu]; simp, ?_⟩
   rw [hh, ← hie, d1, decide_eq_decide]
   split <;> omega
set_option maxHeartbeats 2000000 in
theorem digits_any (A B : Option Addr) (c d : Nat) (N D many least : Nat) (e : Int) (w : World) (h : RdL w A (limbs N)) (h' : RdL w B (limbs D)) (hN : N < Top) (hD : D < Top) (hD0 : D ≠ 0) (hm : many ≤ 60) (hl : least ≤ 2000) (he : e = max ((nbits N : Int) - nbits D - many) (-(least : Int))) :
 Calls Tryz.prog 138 #[.slice A (limbs N).length c, .slice B (limbs D).length d, .int .i64 (many : Int), .int .i64 (least : Int)] w
  (RetDg (preI N e / D) e (decide (preI N (e - 1) / D % 2 = 1)) (!decide (preI N (e - 1) % D = 0) || !decide (N % 2 ^ (e - 1).toNat = 0)) w) := by
 have ha1 := nbits_top hN
 have hb1 := nbits_top hD
 have ha2 := nbits_lt N
 have hb2 : 2 ^ (nbits D - 1) ≤ D := by
  unfold nbits
  rw [if_neg hD0, Nat.add_sub_cancel]
  exact Nat.log2_self_le hD0
 obtain ⟨a, ha⟩ : ∃ a, a = nbits N := ⟨_, rfl⟩
 obtain ⟨b, hb⟩ : ∃ b, b = nbits D := ⟨_, rfl⟩
 rw [← ha] at ha1 ha2 he
 rw [← hb] at hb1 hb2 he
 have hmax : ∀ W, (Builtin.max_ #[3, 3] 3 #[.int .i64 ((a : Int) - b - many), .int .i64 (-(least : Int))]).run Tryz.prog W = .ok (.int .i64 e) W := fun W => by
  rw [run_max_int2, he]
  congr 2
  omega
 have s1 : IntKind.i64.wrap ((a : Int) - b) = (a : Int) - b := by rw [IntKind.wrap_i64]; omega
 have s2 : IntKind.i64.wrap ((a : Int) - b - many) = (a : Int) - b - many := by rw [IntKind.wrap_i64]; omega
 have s3 : IntKind.i64.wrap (-(least : Int)) = -(least : Int) := by rw [IntKind.wrap_i64]; omega
 have s4 : IntKind.i64.wrap ((a : Int) - 1) = (a : Int) - 1 := by rw [IntKind.wrap_i64]; omega
 have s5 : IntKind.i64.wrap (e - 1) = e - 1 := by rw [IntKind.wrap_i64]; omega
 have hel : -2000 ≤ e := by omega
 have heu : e ≤ (a : Int) := by omega
 have hem : (a : Int) - b - e ≤ 60 := by omega
 have HA := Lib.hid (And.intro ha ha2); clear ha ha2
 have HB := Lib.hid (And.intro hb (And.intro hb2 hD0)); clear hb hb2 hD0
 clear he
 have LT := Lib.hid (And.intro hN hD); clear hN hD
 have RA := Lib.hid h; clear h
 have RB := Lib.hid h'; clear h'
 have HW := Lib.hid (bel_refl w)
 go_enter Tryz.func138, Tryz.ntmps138
 go_wp2_with fail
 refine (bits_num A c N _ RA.out LT.out.1).mono ?_
 rintro e1 w1 ⟨rfl, hbl⟩
 replace RA := hmR RA hbl
 replace RB := hmR RB hbl
 replace HW := hmW HW hbl; clear hbl
 rw [← HA.out.1]
 go_wp2_with fail
 refine (bits_num B d D _ RB.out LT.out.2).mono ?_
 rintro e1 w2 ⟨rfl, hbl⟩
 replace RA := hmR RA hbl
 replace RB := hmR RB hbl
 replace HW := hmW HW hbl; clear hbl
 rw [← HB.out.1]
 go_wp2
 clear hmax s1 s2 s3 s4
 go_loopw [8, 10, 16, 17, 18] (fun mv hv lv iv _ wr => ∃ (i : Int) (m : Nat) (half : Bool), mv = .int .u64 (m : Int) ∧ hv = .bool half ∧ iv = .int .i64 i ∧ e - 2 ≤ i ∧ i ≤ (a : Int) - 1 ∧ DgRel w2 wr N D e i m half lv) (fun _ _ _ iv _ _ => (intOf iv - e + 2).toNat)
 case atStart =>
  refine ⟨(a : Int) - 1, 0, false, rfl, rfl, rfl, by omega, by omega, ⟨bel_refl _, ?_, fun _ => ?_, fun h => absurd h (by omega)⟩⟩
  · rw [show (a : Int) - 1 + 1 = (a : Int) by omega, preI_top HA.out.2, Nat.zero_mod]
    exact ⟨none, 0, rfl, Nat.le_refl _, RdL.nil⟩
  · rw [show (a : Int) - 1 + 1 = (a : Int) by omega, preI_top HA.out.2, Nat.zero_div, Nat.zero_mul]
 case round =>
  obtain ⟨i, m, half, rfl, rfl, rfl, hi1, hi2, hrel⟩ := hrel
  have HR := Lib.hid hrel; clear hrel
  have RX := Lib.hid (RA.out.below HR.out.old)
  have RY := Lib.hid (RB.out.below HR.out.old)
  obtain ⟨L, hL⟩ : ∃ L, preI N (i + 1) % D = L := ⟨_, rfl⟩
  have hLD : L < D := by rw [← hL]; exact Nat.mod_lt _ (Nat.pos_of_ne_zero HB.out.2.2)
  have hrd := HR.out.left
  rw [hL] at hrd
  obtain ⟨A9, c9, rfl, hc9, hr9⟩ := hrd
  have R9 := Lib.hid hr9; clear hr9 hc9
  have HL := Lib.hid (And.intro hL hLD); clear hL hLD
  by_cases hge : e - 1 ≤ i
  · have s7 : IntKind.i64.wrap (i - 1) = i - 1 := by rw [IntKind.wrap_i64]; omega
    obtain ⟨bt, hbt⟩ : ∃ bt, bitI N i = bt := ⟨_, rfl⟩
    have hbt1 : bt ≤ 1 := by
     rw [← hbt]; unfold bitI; split
     · omega
     · omega
    have HBT := Lib.hid (And.intro hbt hbt1); clear hbt hbt1
    have hb10 : i ≤ 100000 := by omega
    go_wp2_with fail
    refine (bit_any A c N i _ RX.out hb10).mono ?_
    rintro e1 w3 ⟨rfl, rfl⟩
    rw [HBT.out.1]
    go_wp2_with fail
    refine (double_num A9 c9 L bt _ R9.out HBT.out.2 (limbs_1000 (by have := HL.out.2; have := LT.out.2; omega))).mono ?_
    rintro e1 w4 ⟨v4, rfl, hn4, hbl4⟩
    obtain ⟨A8, c8, rfl, hc8, hr8⟩ := hn4.row
    have N8 := Lib.hid hn4; clear hn4
    have R8 := Lib.hid hr8; clear hr8 hc8
    replace RY := Lib.hid (RY.out.below hbl4)
    have OLD := Lib.hid (bel_trans HR.out.old hbl4)
    have HB4 := Lib.hid hbl4; clear hbl4
    have h17 := Lib.hid (limbs_1000 (n := 2 * L + bt) (by have := HL.out.2; have := LT.out.2; have := HBT.out.2; omega))
    have h18 := Lib.hid (limbs_1000 (n := D) (by have := LT.out.2; omega))
    by_cases hle : D ≤ 2 * L + bt
    · have HLE := Lib.hid hle; clear hle
      go_wp2_with fail
      refine (lower_is (v := false) A8 B c8 d (2 * L + bt) D _ R8.out RY.out h17.out h18.out (decide_eq_false (by have := HLE.out; omega))).mono ?_
      rintro e1 w5 ⟨rfl, rfl⟩
      go_wp2_with fail
      refine (less_num A8 B c8 d (2 * L + bt) D _ R8.out RY.out h17.out HLE.out).mono ?_
      rintro e1 w6 ⟨v6, rfl, hn6, hbl6⟩
      have N6 := Lib.hid hn6; clear hn6
      replace OLD := Lib.hid (bel_trans OLD.out hbl6); clear hbl6
      have hcond : Hid (D ≤ 2 * (preI N (i + 1) % D) + bitI N i) := by show D ≤ _; rw [HL.out.1, HBT.out.1]; exact HLE.out
      have hnum : Hid (RdN w6 v6 (if D ≤ 2 * (preI N (i + 1) % D) + bitI N i then 2 * (preI N (i + 1) % D) + bitI N i - D else 2 * (preI N (i + 1) % D) + bitI N i)) := by
       show RdN _ _ _
       rw [if_pos hcond.out, HL.out.1, HBT.out.1]; exact N6.out
      by_cases hie : i = e - 1
      · have q1 : (i == e - 1) = true := by simp [hie]
        have HIE := Lib.hid hie; clear hie
        go_wp2
        go_roundw
        case rel => exact ⟨i - 1, m, true, rfl, rfl, by go_num, by omega, by omega, HR.out.step OLD.out (Nat.pos_of_ne_zero HB.out.2.2) hnum.out (fun h => absurd h (by have := HIE.out; omega)) (fun _ => ⟨rfl, (decide_eq_true hcond.out).symm⟩) hge (by rw [HBT.out.1]; exact HBT.out.2)⟩
        case measure => simp [intOf]; omega
      · have q1 : (i == e - 1) = false := by simp [hie]
        have hie2 : e ≤ i := by omega
        obtain ⟨k, hk⟩ : ∃ k : Nat, i - e = (k : Int) := ⟨(i - e).toNat, by omega⟩
        have s6 : IntKind.i64.wrap (i - e) = (k : Int) := by rw [IntKind.wrap_i64]; omega
        have hk0 : (0 : Int) ≤ (k : Int) := by omega
        have HK := Lib.hid (And.intro hk hie2); clear hk hie hie2
        have hup := HR.out.up (by have := HK.out; omega)
        have hP := preI_lt HA.out.2 (i := i + 1) (by omega)
        have hQ := preI_lt HA.out.2 (i := i) (by omega)
        have hke : (i + 1 - e).toNat = k + 1 := by have := HK.out; omega
        rw [hke] at hup
        have hDi : 2 ^ (b - 1) < 2 ^ ((a : Int) - i).toNat := by
         have h1 := preI_step N i
         have h2 := Nat.mod_le (preI N (i + 1)) D
         have h3 := hcond.out
         have h4 := HB.out.2.1
         omega
        have hbi := (Nat.pow_lt_pow_iff_right (show 1 < 2 by decide)).1 hDi
        have hk60 : k ≤ 60 := by have := HK.out; omega
        have hm61 := quo_bound hP HB.out.2.1 (k := k + 1) (by have := HK.out; omega)
        rw [← hup] at hm61
        obtain ⟨P2, hP2⟩ : ∃ P2 : Nat, P2 = 2 ^ k := ⟨_, rfl⟩
        have ev : bits BinOp.or IntKind.u64 (m : Int) (IntKind.u64.wrap (2 ^ min k 64)) = ((m + P2 : Nat) : Int) := by
         have hp : P2 ≤ 2 ^ 60 := by rw [hP2]; exact Nat.pow_le_pow_right (by decide) hk60
         have h1 := u64_or_nat m P2 (by omega) (by omega)
         have h3 : m ||| P2 = m + P2 := by rw [hup, hP2]; exact or_step rfl
         rw [h3] at h1
         rw [← h1]
         congr 1
         rw [show min k 64 = k by omega, IntKind.wrap_u64]
         have h2 : ((2 : Int) ^ k) = (P2 : Int) := by rw [hP2, Int.natCast_pow]; rfl
         rw [h2]
         omega
        have HUP := Lib.hid hP2; clear hup hP hQ hke hDi hbi hk60 hm61 hP2
        go_wp2
        go_roundw
        case rel => exact ⟨i - 1, m + P2, half, by rw [Int.natCast_add], rfl, by go_num, by omega, by omega, HR.out.step OLD.out (Nat.pos_of_ne_zero HB.out.2.2) hnum.out (fun _ => by rw [if_pos hcond.out, show (i - e).toNat = k by have := HK.out; omega, HUP.out]) (fun h => absurd h (by have := HK.out; omega)) hge (by rw [HBT.out.1]; exact HBT.out.2)⟩
        case measure => simp [intOf]; omega
    · have HLE := Lib.hid hle; clear hle
      go_wp2_with fail
      refine (lower_is (v := true) A8 B c8 d (2 * L + bt) D _ R8.out RY.out h17.out h18.out (decide_eq_true (by have := HLE.out; omega))).mono ?_
      rintro e1 w5 ⟨rfl, rfl⟩
      have hcond : Hid (¬ D ≤ 2 * (preI N (i + 1) % D) + bitI N i) := by show ¬ D ≤ _; rw [HL.out.1, HBT.out.1]; exact HLE.out
      have hnum : Hid (RdN w5 (.slice A8 (limbs (2 * L + bt)).length c8) (if D ≤ 2 * (preI N (i + 1) % D) + bitI N i then 2 * (preI N (i + 1) % D) + bitI N i - D else 2 * (preI N (i + 1) % D) + bitI N i)) := by
       show RdN _ _ _
       rw [if_neg hcond.out, HL.out.1, HBT.out.1]; exact N8.out
      by_cases hie : i = e - 1
      · have q1 : (i == e - 1) = true := by simp [hie]
        have HIE := Lib.hid hie; clear hie
        go_wp2
        go_roundw
        case rel => exact ⟨i - 1, m, false, rfl, rfl, by go_num, by omega, by omega, HR.out.step OLD.out (Nat.pos_of_ne_zero HB.out.2.2) hnum.out (fun h => absurd h (by have := HIE.out; omega)) (fun _ => ⟨rfl, (decide_eq_false hcond.out).symm⟩) hge (by rw [HBT.out.1]; exact HBT.out.2)⟩
        case measure => simp [intOf]; omega
      · have q1 : (i == e - 1) = false := by simp [hie]
        have HIE := Lib.hid hie; clear hie
        go_wp2
        go_roundw
        case rel => exact ⟨i - 1, m, half, rfl, rfl, by go_num, by omega, by omega, HR.out.step OLD.out (Nat.pos_of_ne_zero HB.out.2.2) hnum.out (fun _ => by rw [if_neg hcond.out]; rfl) (fun h => absurd h HIE.out) hge (by rw [HBT.out.1]; exact HBT.out.2)⟩
        case measure => simp [intOf]; omega
  · have hi3 : i + 1 = e - 1 := by omega
    obtain ⟨hmd, hhf⟩ := HR.out.down (by omega)
    have HD := Lib.hid (And.intro hmd (And.intro hhf (show preI N (e - 1) % D = L by rw [← hi3]; exact HL.out.1))); clear hmd hhf hi3
    have hl18 := Lib.hid (limbs_1000 (n := L) (by have := HL.out.2; have := LT.out.2; omega))
    have he1 : e - 1 ≤ 100000 := by omega
    by_cases hL0 : L = 0
    · have q1 : decide (L ≠ 0) = false := by simp [hL0]
      have HL0 := Lib.hid hL0; clear hL0
      go_wp2_with fail
      refine (nonzero_num A9 c9 L _ R9.out hl18.out).mono ?_
      rintro e1 w3 ⟨rfl, rfl⟩
      rw [q1]
      go_wp2_with fail
      refine (rest_any A c N (e - 1) _ RX.out he1).mono ?_
      rintro e1 w4 ⟨rfl, rfl⟩
      go_wp2
      refine bodyPost_ret (v := .tuple #[.int .u64 (m : Int), .int .i64 e, .bool half, .bool (!decide (N % 2 ^ (e - 1).toNat = 0))]) ?hr rfl ?hR
      case hr => simp [results, Tryz.results138]
      exact ⟨by rw [HD.out.2.2, ← HD.out.1, ← HD.out.2.1, HL0.out]; rfl, bel_trans HW.out HR.out.old⟩
    · have q1 : decide (L ≠ 0) = true := by simp [hL0]
      have HL0 := Lib.hid hL0; clear hL0
      go_wp2_with fail
      refine (nonzero_num A9 c9 L _ R9.out hl18.out).mono ?_
      rintro e1 w3 ⟨rfl, rfl⟩
      rw [q1]
      go_wp2
      refine bodyPost_ret (v := .tuple #[.int .u64 (m : Int), .int .i64 e, .bool half, .bool true]) ?hr2 rfl ?hR2
      case hr2 => simp [results, Tryz.results138]
      exact ⟨by rw [HD.out.2.2, ← HD.out.1, ← HD.out.2.1, decide_eq_false HL0.out]; rfl, bel_trans HW.out HR.out.old⟩
end
section
open Go.RowKit Go.MapKept

def entry (k : Int) (p q t : Int) (born : Nat) : MapEntry := { key := .int .i64 k, val := .agg #[.int .i64 p, .int .i64 q, .int .i64 t], born := born }
theorem upd_new (W : World) (g : Nat) (es : Array MapEntry) (clock : Nat) (k p q t : Int) (hb : W.heap[g]? = some (.map es clock)) (hf : Instr.findNow (.int .i64) (.int .i64 k) es.toList 0 = some none) :
 (Instr.mapUpdate 150 (.map (some g)) (.int .i64 k) (.agg #[.int .i64 p, .int .i64 q, .int .i64 t])).run Tryz.prog W = .ok () { W with heap := W.heap.setIfInBounds g (.map (es.push (entry k p q t clock)) (clock + 1)) } := by
 have h1 := Go.MapKept.run_getObj_map (P := Tryz.prog) hb
 have h2 : (Instr.checkKey false 10000 3 (.int .i64 k)).run Tryz.prog W = .ok () W := run_checkKey (kt := 3) Tryz.underlying3 (by simp [IsKey]) false 9999
 have h3 := run_findKey (w := W) Tryz.underlying3 hf
 have h4 := run_setObj_map (P := Tryz.prog) (.map (es.push (entry k p q t clock)) (clock + 1)) hb
 unfold entry at h4 ⊢
 simp [Instr.mapUpdate, Sem.run_bind, run_underlying Tryz.underlying150, Result.andThen, h1, h2, h3, h4]
theorem bel_map {w W : World} {g : Nat} (h : Below w.heap.size w W) (hg : w.heap.size ≤ g) (o : Obj) : Below w.heap.size w { W with heap := W.heap.setIfInBounds g o } :=
 ⟨h.os, h.tape, h.output, by simpa using h.size, fun k hk => by
  rw [← h.block k hk]
  simp [show g ≠ k by omega]⟩
def RetForms (w : World) (e : Ending) (w' : World) : Prop := e = .returned (.map (some w.heap.size)) ∧ w'.heap[w.heap.size]? = some (.map #[entry 32 24 149 104 0, entry 64 53 1074 971 1] 2) ∧ Below w.heap.size w w'
theorem forms_any (w : World) : Calls Tryz.prog 137 #[] w (RetForms w) := by
 have hmm := @run_makeMap Tryz.prog
 have b0 : (w.alloc (.map #[] 0)).heap[w.heap.size]? = some (.map #[] 0) := heap_alloc_new w _
 have u1 := upd_new (w.alloc (.map #[] 0)) w.heap.size #[] 0 32 24 149 104 b0 rfl
 obtain ⟨w1, hw1⟩ : ∃ w1, w1 = ({ w.alloc (.map #[] 0) with heap := (w.alloc (.map #[] 0)).heap.setIfInBounds w.heap.size (.map (#[].push (entry 32 24 149 104 0)) 1) } : World) := ⟨_, rfl⟩
 have b1 : w1.heap[w.heap.size]? = some (.map #[entry 32 24 149 104 0] 1) := by
  rw [hw1]
  simp
 have l1 : Below w.heap.size w w1 := by rw [hw1]; exact bel_map (bel_alloc (bel_refl _) _) (Nat.le_refl _) _
 have u2 := upd_new w1 w.heap.size #[entry 32 24 149 104 0] 1 64 53 1074 971 b1 rfl
 obtain ⟨w2, hw2⟩ : ∃ w2, w2 = ({ w1 with heap := w1.heap.setIfInBounds w.heap.size (.map (#[entry 32 24 149 104 0].push (entry 64 53 1074 971 1)) 2) } : World) := ⟨_, rfl⟩
 have b2 : w2.heap[w.heap.size]? = some (.map #[entry 32 24 149 104 0, entry 64 53 1074 971 1] 2) := by
  have hlt : w.heap.size < w1.heap.size := (Array.getElem?_eq_some_iff.1 b1).1
  rw [hw2]
  simp [hlt]
 have l2 : Below w.heap.size w w2 := by rw [hw2]; exact bel_map l1 (Nat.le_refl _) _
 simp only [Nat.zero_add, Nat.reduceAdd] at u1 u2
 rw [← hw1] at u1
 rw [← hw2] at u2
 have HX := Lib.hid (And.intro b2 l2); clear b0 b1 b2 l1 l2 hw1 hw2
 go_enter Tryz.func137, Tryz.ntmps137
 go_wp2
 go_ret
 exact ⟨rfl, HX.out.1, HX.out.2⟩
end
end
end Go.Proofs.YtmbbdjpnecjleaaGreat
