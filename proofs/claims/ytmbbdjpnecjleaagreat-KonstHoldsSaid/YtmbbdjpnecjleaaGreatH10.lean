/-
 Parts: K2 QB.
-/
import Derived.Test.YtmbbdjpnecjleaaGreatH02
import Derived.Test.YtmbbdjpnecjleaaGreatH09
import Derived.Defers
import Derived.Recover
import Derived.Laws.Pointers
namespace Go.Proofs.YtmbbdjpnecjleaaGreat
section
set_option maxRecDepth 100000
set_option maxHeartbeats 1000000
open Go.RowKit

def noneB (g : Bool) (n m : Nat) : Bool := !g && (decide (n = 0) && decide (m = 0))
theorem eq_zero {n : Nat} (h : ¬ n = 0) : ((n : Int) == 0) = false := by simp only [beq_eq_false_iff_ne, ne_eq]; omega
theorem kNone_any (g : Bool) (A B : Option Addr) (c d n m : Nat) (w : World) : Calls Tryz.prog 49 #[.agg #[.bool g, .slice A n c, .slice B m d]] w (RetBB (noneB g n m) w) := by
 cases g
 · by_cases h1 : n = 0
   · subst h1
     by_cases h2 : m = 0
     · subst h2
       go_enter Tryz.func49, Tryz.ntmps49
       go_wp2
       go_ret
       exact ⟨rfl, bel_alloc (bel_refl _) _⟩
     · have e2 := eq_zero h2
       have hr : noneB false 0 m = false := by simp [noneB, h2]
       rw [hr]
       clear hr
       go_enter Tryz.func49, Tryz.ntmps49
       go_wp2
       go_ret
       exact ⟨rfl, bel_alloc (bel_refl _) _⟩
   · have e1 := eq_zero h1
     have hr : noneB false n m = false := by simp [noneB, h1]
     rw [hr]
     clear hr
     go_enter Tryz.func49, Tryz.ntmps49
     go_wp2
     go_ret
     exact ⟨rfl, bel_alloc (bel_refl _) _⟩
 · go_enter Tryz.func49, Tryz.ntmps49
   go_wp2
   go_ret
   exact ⟨rfl, bel_alloc (bel_refl _) _⟩
theorem rNone_any (g : Bool) (A B : Option Addr) (c d n m : Nat) (w : World) : Calls Tryz.prog 31 #[.agg #[.bool g, .slice A n c, .slice B m d]] w (RetBB (noneB g n m) w) := by
 cases g
 · by_cases h1 : n = 0
   · subst h1
     by_cases h2 : m = 0
     · subst h2
       go_enter Tryz.func31, Tryz.ntmps31
       go_wp2
       go_ret
       exact ⟨rfl, bel_alloc (bel_refl _) _⟩
     · have e2 := eq_zero h2
       have hr : noneB false 0 m = false := by simp [noneB, h2]
       rw [hr]
       clear hr
       go_enter Tryz.func31, Tryz.ntmps31
       go_wp2
       go_ret
       exact ⟨rfl, bel_alloc (bel_refl _) _⟩
   · have e1 := eq_zero h1
     have hr : noneB false n m = false := by simp [noneB, h1]
     rw [hr]
     clear hr
     go_enter Tryz.func31, Tryz.ntmps31
     go_wp2
     go_ret
     exact ⟨rfl, bel_alloc (bel_refl _) _⟩
 · go_enter Tryz.func31, Tryz.ntmps31
   go_wp2
   go_ret
   exact ⟨rfl, bel_alloc (bel_refl _) _⟩
theorem str_full {s : ByteArray} (h : s ≠ ByteArray.empty) : ¬ s.toList = [] ∧ s.toList.isEmpty = false := by
 have h1 : ¬ s.toList = [] := fun e => h (by
  rw [ByteArray.toList_eq] at e
  exact ByteArray.ext (Array.ext' e))
 exact ⟨h1, by cases hl : s.toList with
  | nil => exact absurd hl h1
  | cons x r => rfl⟩
def emptyB (s : ByteArray) : Bool := decide (s = ByteArray.empty)
def rightV (k : Int) (b : Bool) (s : ByteArray) (g : Bool) (xs ys : List Nat) : Bool :=
 if k = 1 then emptyB s && noneB g xs.length ys.length
 else if k = 2 then !b && (noneB g xs.length ys.length && decide (s.size ≤ 200))
 else if k = 3 then !b && (emptyB s && rightB g xs ys)
 else false
theorem kd_ne {k n : Int} (h : ¬ k = n) : (k == n) = false := by simp only [beq_eq_false_iff_ne, ne_eq]; exact h
theorem kRight_any (k : Int) (b : Bool) (s : ByteArray) (g : Bool) (A B : Option Addr) (c d : Nat) (xs ys : List Nat) (w : World) (h : RdL w A xs) (h' : RdL w B ys) (hx : Lim xs) (hy : Lim ys) (hl : xs.length ≤ 18) (hl' : ys.length ≤ 18) (hc : xs.length ≤ c) (hc' : ys.length ≤ d) :
 Calls Tryz.prog 16 #[.agg #[.int .i64 k, .bool b, .string s, .bool g, .slice A xs.length c, .slice B ys.length d]] w (RetBB (rightV k b s g xs ys) w) := by
 have hbl := fun o => bel_alloc (bel_refl w) o
 have KN := Lib.hid (fun W => kNone_any g A B c d xs.length ys.length W)
 have KR := Lib.hid (fun (W : World) (hb : Below w.heap.size w W) => ratRight_any g A B c d xs ys W (h.below hb) (h'.below hb) hx hy hl hl' hc hc')
 have HB := Lib.hid hbl; clear hbl
 obtain ⟨N, hN⟩ : ∃ N, noneB g xs.length ys.length = N := ⟨_, rfl⟩
 obtain ⟨R, hR⟩ : ∃ R, rightB g xs ys = R := ⟨_, rfl⟩
 unfold rightV
 rw [hN, hR]
 rw [hN] at KN
 rw [hR] at KR
 clear hN hR h h' hx hy hl hl' hc hc'
 obtain ⟨n, hn⟩ : ∃ n, xs.length = n := ⟨_, rfl⟩
 obtain ⟨m, hm⟩ : ∃ m, ys.length = m := ⟨_, rfl⟩
 rw [hn, hm] at KN KR ⊢
 clear hn hm
 by_cases h1 : k = 1
 · subst h1
   rw [if_pos rfl]
   by_cases hs : s = ByteArray.empty
   rotate_left
   · obtain ⟨e1, e2⟩ := str_full hs
     rw [show emptyB s = false from decide_eq_false hs]
     clear hs
     go_enter Tryz.func16, Tryz.ntmps16
     go_wp2
     go_ret
     exact ⟨rfl, HB.out _⟩
   · subst hs
     rw [show emptyB ByteArray.empty = true from rfl]
     go_enter Tryz.func16, Tryz.ntmps16
     go_wp2_with fail
     refine (KN.out _).mono ?_
     rintro e w1 ⟨rfl, hb⟩
     have H1 := Lib.hid (bel_trans (HB.out _) hb); clear hb
     go_wp2
     go_ret
     exact ⟨rfl, H1.out⟩
 · rw [if_neg h1]
   have f1 := kd_ne h1
   by_cases h2 : k = 2
   · subst h2
     rw [if_pos rfl]
     cases b
     · go_enter Tryz.func16, Tryz.ntmps16
       go_wp2_with fail
       refine (KN.out _).mono ?_
       rintro e w1 ⟨rfl, hb⟩
       have H1 := Lib.hid (bel_trans (HB.out _) hb)
       have c2 : w1.cell? ⟨w.heap.size, 2, none⟩ = some (.string s) := (hb.cell (p := ⟨w.heap.size, 2, none⟩) (by simp)).trans (by simp)
       have clt : w.heap.size < w1.heap.size := by have := hb.size; simp at this; omega
       clear hb
       cases N
       · go_wp2
         go_ret
         exact ⟨rfl, H1.out⟩
       · by_cases hz2 : s.size ≤ 200
         · have hz3 : (s.size : Int) ≤ 200 := by omega
           go_wp2
           go_ret
           exact ⟨ret_b0 (by simp [hz2]), H1.out⟩
         · have hz3 : ¬ (s.size : Int) ≤ 200 := by omega
           go_wp2
           go_ret
           exact ⟨ret_b0 (by simp [hz2, hz3]), H1.out⟩
     · go_enter Tryz.func16, Tryz.ntmps16
       go_wp2
       go_ret
       exact ⟨rfl, HB.out _⟩
   · rw [if_neg h2]
     have f2 := kd_ne h2
     by_cases h3 : k = 3
     · subst h3
       rw [if_pos rfl]
       cases b
       · by_cases hs : s = ByteArray.empty
         rotate_left
         · obtain ⟨e1, e2⟩ := str_full hs
           rw [show emptyB s = false from decide_eq_false hs]
           clear hs
           go_enter Tryz.func16, Tryz.ntmps16
           go_wp2
           go_ret
           exact ⟨rfl, HB.out _⟩
         · subst hs
           rw [show emptyB ByteArray.empty = true from rfl]
           go_enter Tryz.func16, Tryz.ntmps16
           go_wp2_with fail
           refine (KR.out _ (HB.out _)).mono ?_
           rintro e w1 ⟨rfl, hb⟩
           have H1 := Lib.hid (bel_trans (HB.out _) hb); clear hb
           go_wp2
           go_ret
           exact ⟨rfl, H1.out⟩
       · go_enter Tryz.func16, Tryz.ntmps16
         go_wp2
         go_ret
         exact ⟨rfl, HB.out _⟩
     · rw [if_neg h3]
       have f3 := kd_ne h3
       go_enter Tryz.func16, Tryz.ntmps16
       go_wp2
       go_ret
       exact ⟨rfl, HB.out _⟩
theorem rRight_any (k : Int) (b : Bool) (s : ByteArray) (g : Bool) (A B : Option Addr) (c d : Nat) (xs ys : List Nat) (w : World) (h : RdL w A xs) (h' : RdL w B ys) (hx : Lim xs) (hy : Lim ys) (hl : xs.length ≤ 18) (hl' : ys.length ≤ 18) :
 Calls Tryz.prog 7 #[.agg #[.int .i64 k, .bool b, .string s, .bool g, .slice A xs.length c, .slice B ys.length d]] w (RetBB (rightV k b s g xs ys) w) := by
 have hbl := fun o => bel_alloc (bel_refl w) o
 have KN := Lib.hid (fun W => rNone_any g A B c d xs.length ys.length W)
 have KR := Lib.hid (fun (W : World) (hb : Below w.heap.size w W) => refRatRight_any g A B c d xs ys W (h.below hb) (h'.below hb) hx hy hl hl')
 have HB := Lib.hid hbl; clear hbl
 obtain ⟨N, hN⟩ : ∃ N, noneB g xs.length ys.length = N := ⟨_, rfl⟩
 obtain ⟨R, hR⟩ : ∃ R, rightB g xs ys = R := ⟨_, rfl⟩
 unfold rightV
 rw [hN, hR]
 rw [hN] at KN
 rw [hR] at KR
 clear hN hR h h' hx hy hl hl'
 obtain ⟨n, hn⟩ : ∃ n, xs.length = n := ⟨_, rfl⟩
 obtain ⟨m, hm⟩ : ∃ m, ys.length = m := ⟨_, rfl⟩
 rw [hn, hm] at KN KR ⊢
 clear hn hm
 by_cases h1 : k = 1
 · subst h1
   rw [if_pos rfl]
   by_cases hs : s = ByteArray.empty
   rotate_left
   · obtain ⟨e1, e2⟩ := str_full hs
     rw [show emptyB s = false from decide_eq_false hs]
     clear hs
     go_enter Tryz.func7, Tryz.ntmps7
     go_wp2
     go_ret
     exact ⟨rfl, HB.out _⟩
   · subst hs
     rw [show emptyB ByteArray.empty = true from rfl]
     go_enter Tryz.func7, Tryz.ntmps7
     go_wp2_with fail
     refine (KN.out _).mono ?_
     rintro e w1 ⟨rfl, hb⟩
     have H1 := Lib.hid (bel_trans (HB.out _) hb); clear hb
     go_wp2
     go_ret
     exact ⟨rfl, H1.out⟩
 · rw [if_neg h1]
   have f1 := kd_ne h1
   by_cases h2 : k = 2
   · subst h2
     rw [if_pos rfl]
     cases b
     · go_enter Tryz.func7, Tryz.ntmps7
       go_wp2_with fail
       refine (KN.out _).mono ?_
       rintro e w1 ⟨rfl, hb⟩
       have H1 := Lib.hid (bel_trans (HB.out _) hb)
       have c2 : w1.cell? ⟨w.heap.size, 2, none⟩ = some (.string s) := (hb.cell (p := ⟨w.heap.size, 2, none⟩) (by simp)).trans (by simp)
       have clt : w.heap.size < w1.heap.size := by have := hb.size; simp at this; omega
       clear hb
       cases N
       · go_wp2
         go_ret
         exact ⟨rfl, H1.out⟩
       · by_cases hz2 : s.size ≤ 200
         · have hz3 : (s.size : Int) ≤ 200 := by omega
           go_wp2
           go_ret
           exact ⟨ret_b0 (by simp [hz2]), H1.out⟩
         · have hz3 : ¬ (s.size : Int) ≤ 200 := by omega
           go_wp2
           go_ret
           exact ⟨ret_b0 (by simp [hz2, hz3]), H1.out⟩
     · go_enter Tryz.func7, Tryz.ntmps7
       go_wp2
       go_ret
       exact ⟨rfl, HB.out _⟩
   · rw [if_neg h2]
     have f2 := kd_ne h2
     by_cases h3 : k = 3
     · subst h3
       rw [if_pos rfl]
       cases b
       · by_cases hs : s = ByteArray.empty
         rotate_left
         · obtain ⟨e1, e2⟩ := str_full hs
           rw [show emptyB s = false from decide_eq_false hs]
           clear hs
           go_enter Tryz.func7, Tryz.ntmps7
           go_wp2
           go_ret
           exact ⟨rfl, HB.out _⟩
         · subst hs
           rw [show emptyB ByteArray.empty = true from rfl]
           go_enter Tryz.func7, Tryz.ntmps7
           go_wp2_with fail
           refine (KR.out _ (HB.out _)).mono ?_
           rintro e w1 ⟨rfl, hb⟩
           have H1 := Lib.hid (bel_trans (HB.out _) hb); clear hb
           go_wp2
           go_ret
           exact ⟨rfl, H1.out⟩
       · go_enter Tryz.func7, Tryz.ntmps7
         go_wp2
         go_ret
         exact ⟨rfl, HB.out _⟩
     · rw [if_neg h3]
       have f3 := kd_ne h3
       go_enter Tryz.func7, Tryz.ntmps7
       go_wp2
       go_ret
       exact ⟨rfl, HB.out _⟩
end
end Go.Proofs.YtmbbdjpnecjleaaGreat
namespace Go.Proofs.YtmbbdjpnecjleaaGreat
section
set_option maxRecDepth 100000
set_option maxHeartbeats 1000000
section
open Go.RowKit

theorem reduced_z (s : Bool) (A B : Option Addr) (c e : Nat) (n d : Nat) (w : World) (hn0 : n = 0) :
 Calls Tryz.prog 98 #[.bool s, .slice A (limbs n).length c, .slice B (limbs d).length e] w (RetQ (redQ s n d) w) := by
 have hx2 : ((limbs n).length : Int) = 0 := limbs_len0.2 hn0
 have hx : (((limbs n).length : Int) == 0) = true := by simpa using hx2
 rw [show redQ s n d = ⟨false, 0, 1⟩ by unfold redQ; rw [if_pos hn0]]
 clear hn0
 obtain ⟨wa, hwa⟩ : ∃ wa, wa = w.alloc (.cells #[.bool false, .slice none 0 0, .slice none 0 0] 25) := ⟨_, rfl⟩
 obtain ⟨hbl, RES⟩ := sal1 hwa
 have HW := Lib.hid hbl; clear hbl
 go_enter Tryz.func98, Tryz.ntmps98
 go_wp2_with fail
 rw [← hwa]
 clear hwa
 refine (one_any _).mono ?_
 rintro e w1 ⟨vo, rfl, hno, hbl⟩
 replace RES := hmB RES hbl
 replace HW := hmW HW hbl; clear hbl
 have HNo := Lib.hid hno; clear hno
 obtain ⟨Ao, co, rfl, hco, hro⟩ := HNo.out.row
 have Ro := Lib.hid hro; have HCo := Lib.hid hco; clear hro hco
 have d0 := RES.out.c0
 have f0 := RES.out.frozen 0
 have d1 := RES.out.c1
 have f1 := RES.out.frozen 1
 have d2 := RES.out.c2
 have f2 := RES.out.frozen 2
 go_wp2
 exact bodyPost_ret (results_cell_row rfl _ _ (w.heap.size) 25 _ (0, 0) _ rfl (RES.out.put3 _ _ _) Tryz.underlying25 rfl (by kernel_rfl)) rfl ⟨_, _, rfl, (RdN.set3 RES.out (RdN.none0 _) _ _ _), (RdN.set3 RES.out (HNo.out) _ _ _), (bel_set3 HW.out (Nat.le_refl _) _ _ _)⟩

theorem reduced_p (s : Bool) (A B : Option Addr) (c e : Nat) (n d : Nat) (w : World) (h : RdL w A (limbs n)) (h' : RdL w B (limbs d)) (hc : (limbs n).length ≤ c) (hc' : (limbs d).length ≤ e) (hn : n < Top) (hd : d < Top) (hd0 : d ≠ 0) (hn0 : n ≠ 0) :
 Calls Tryz.prog 98 #[.bool s, .slice A (limbs n).length c, .slice B (limbs d).length e] w (RetQ (redQ s n d) w) := by
 have hx2 : ¬ ((limbs n).length : Int) = 0 := mt limbs_len0.1 hn0
 have hx : (((limbs n).length : Int) == 0) = false := by simpa using hx2
 rw [show redQ s n d = ⟨s, n / Nat.gcd n d, d / Nat.gcd n d⟩ by unfold redQ; rw [if_neg hn0]]
 clear hn0
 have LA := Lib.hid (And.intro hn hc); clear hn hc
 have LB := Lib.hid (And.intro hd (And.intro hc' hd0)); clear hd hc' hd0
 have RA := Lib.hid h; clear h
 have RB := Lib.hid h'; clear h'
 have LG := Lib.hid (And.intro (gcd_top LA.out.1 LB.out.1) (Nat.ne_of_gt (Nat.gcd_pos_of_pos_right n (Nat.pos_of_ne_zero LB.out.2.2))))
 obtain ⟨wa, hwa⟩ : ∃ wa, wa = w.alloc (.cells #[.bool false, .slice none 0 0, .slice none 0 0] 25) := ⟨_, rfl⟩
 obtain ⟨hbl, RES⟩ := sal1 hwa
 replace RA := hmR RA hbl
 replace RB := hmR RB hbl
 have HW := Lib.hid hbl; clear hbl
 go_enter Tryz.func98, Tryz.ntmps98
 go_wp2_with fail
 rw [← hwa]
 clear hwa
 refine (common_num A B c e n d _ RA.out RB.out LA.out.2 LB.out.2.1 LA.out.1 LB.out.1).mono ?_
 rintro e w1 ⟨vg, rfl, hng, hbl⟩
 replace RA := hmR RA hbl
 replace RB := hmR RB hbl
 replace RES := hmB RES hbl
 replace HW := hmW HW hbl; clear hbl
 have HNg := Lib.hid hng; clear hng
 obtain ⟨Ag, cg, rfl, hcg, hrg⟩ := HNg.out.row
 have Rg := Lib.hid hrg; have HCg := Lib.hid hcg; clear hrg hcg
 go_wp2_with fail
 refine (div_num A Ag c cg n (Nat.gcd n d) _ RA.out Rg.out LA.out.1 LG.out.1 LG.out.2).mono ?_
 rintro e w2 ⟨vq, vr, rfl, hnq, hnr, hbl⟩
 replace RA := hmR RA hbl
 replace RB := hmR RB hbl
 replace Rg := hmR Rg hbl
 replace HNg := hmN HNg hbl
 replace RES := hmB RES hbl
 replace HW := hmW HW hbl; clear hbl
 have HNq := Lib.hid hnq; clear hnq
 obtain ⟨Aq, cq, rfl, hcq, hrq⟩ := HNq.out.row
 have Rq := Lib.hid hrq; have HCq := Lib.hid hcq; clear hrq hcq
 have HNr := Lib.hid hnr; clear hnr
 obtain ⟨Ar, cr, rfl, hcr, hrr⟩ := HNr.out.row
 have Rr := Lib.hid hrr; have HCr := Lib.hid hcr; clear hrr hcr
 go_wp2_with fail
 refine (div_num B Ag e cg d (Nat.gcd n d) _ RB.out Rg.out LB.out.1 LG.out.1 LG.out.2).mono ?_
 rintro e w3 ⟨vx, vy, rfl, hnx, hny, hbl⟩
 replace RA := hmR RA hbl
 replace RB := hmR RB hbl
 replace Rg := hmR Rg hbl
 replace HNg := hmN HNg hbl
 replace Rq := hmR Rq hbl
 replace HNq := hmN HNq hbl
 replace Rr := hmR Rr hbl
 replace HNr := hmN HNr hbl
 replace RES := hmB RES hbl
 replace HW := hmW HW hbl; clear hbl
 have HNx := Lib.hid hnx; clear hnx
 obtain ⟨Ax, cx, rfl, hcx, hrx⟩ := HNx.out.row
 have Rx := Lib.hid hrx; have HCx := Lib.hid hcx; clear hrx hcx
 have HNy := Lib.hid hny; clear hny
 obtain ⟨Ay, cy, rfl, hcy, hry⟩ := HNy.out.row
 have Ry := Lib.hid hry; have HCy := Lib.hid hcy; clear hry hcy
 have d0 := RES.out.c0
 have f0 := RES.out.frozen 0
 have d1 := RES.out.c1
 have f1 := RES.out.frozen 1
 have d2 := RES.out.c2
 have f2 := RES.out.frozen 2
 go_wp2
 exact bodyPost_ret (results_cell_row rfl _ _ (w.heap.size) 25 _ (0, 0) _ rfl (RES.out.put3 _ _ _) Tryz.underlying25 rfl (by kernel_rfl)) rfl ⟨_, _, rfl, (RdN.set3 RES.out (HNq.out) _ _ _), (RdN.set3 RES.out (HNx.out) _ _ _), (bel_set3 HW.out (Nat.le_refl _) _ _ _)⟩

theorem reduced_any (s : Bool) (A B : Option Addr) (c e : Nat) (n d : Nat) (w : World) (h : RdL w A (limbs n)) (h' : RdL w B (limbs d)) (hc : (limbs n).length ≤ c) (hc' : (limbs d).length ≤ e) (hn : n < Top) (hd : d < Top) (hd0 : d ≠ 0) :
 Calls Tryz.prog 98 #[.bool s, .slice A (limbs n).length c, .slice B (limbs d).length e] w (RetQ (redQ s n d) w) := by
 by_cases hn0 : n = 0
 · exact reduced_z s A B c e n d w hn0
 · exact reduced_p s A B c e n d w h h' hc hc' hn hd hd0 hn0
theorem RetQ.row {q : Q} {w w' : World} {e : Ending} (h : RetQ q w e w') : ∃ A B c d, e = .returned (.agg #[.bool q.s, .slice A (limbs q.n).length c, .slice B (limbs q.d).length d]) ∧ RdN w' (.slice A (limbs q.n).length c) q.n ∧ RdN w' (.slice B (limbs q.d).length d) q.d ∧ Below w.heap.size w w' := by
 obtain ⟨x, y, rfl, hx, hy, hb⟩ := h
 have hx' := hx; have hy' := hy
 obtain ⟨A, c, rfl, _, _⟩ := hx
 obtain ⟨B, d, rfl, _, _⟩ := hy
 exact ⟨A, B, c, d, rfl, hx', hy', hb⟩
theorem reduced_q {q : Q} (s : Bool) (A B : Option Addr) (c e : Nat) (n d : Nat) (w : World) (h : RdL w A (limbs n)) (h' : RdL w B (limbs d)) (hc : (limbs n).length ≤ c) (hc' : (limbs d).length ≤ e) (hn : n < Top) (hd : d < Top) (hd0 : d ≠ 0) (hq : redQ s n d = q) :
 Calls Tryz.prog 98 #[.bool s, .slice A (limbs n).length c, .slice B (limbs d).length e] w (RetQ q w) := by
 rw [← hq]
 exact reduced_any s A B c e n d w h h' hc hc' hn hd hd0
theorem make_ok {q : Q} (s : Bool) (A B : Option Addr) (c d : Nat) (a b : Nat) (w : World) (h : RdL w A (limbs a)) (h' : RdL w B (limbs b)) (hc : (limbs a).length ≤ c) (hc' : (limbs b).length ≤ d) (hn : a < Top) (hd : b < Top) (hd0 : b ≠ 0) (hq : redQ s a b = q) :
 Calls Tryz.prog 87 #[.bool s, .slice A (limbs a).length c, .slice B (limbs b).length d] w (RetQE q 0 w) := by
 have LA := Lib.hid (And.intro hn hc); clear hn hc
 have LB := Lib.hid (And.intro hd (And.intro hc' hd0))
 have hx2 : ¬ ((limbs b).length : Int) = 0 := mt limbs_len0.1 hd0
 have hx : (((limbs b).length : Int) == 0) = false := by simpa using hx2
 clear hd hc' hd0
 have HQ := Lib.hid hq; clear hq
 have RA := Lib.hid h; clear h
 have RB := Lib.hid h'; clear h'
 obtain ⟨wa, hwa⟩ : ∃ wa, wa = w.alloc (.cells #[.bool false, .slice none 0 0, .slice none 0 0] 25) := ⟨_, rfl⟩
 obtain ⟨hbl, RES⟩ := sal1 hwa
 replace RA := hmR RA hbl
 replace RB := hmR RB hbl
 have HW := Lib.hid hbl; clear hbl
 go_enter Tryz.func87, Tryz.ntmps87
 go_wp2_with fail
 rw [← hwa]
 clear hwa
 refine (rightR LA.out.1 A c _ RA.out).mono ?_
 rintro e w1 ⟨rfl, hbl⟩
 replace RA := hmR RA hbl
 replace RB := hmR RB hbl
 replace RES := hmB RES hbl
 replace HW := hmW HW hbl; clear hbl
 go_wp2_with fail
 refine (rightR LB.out.1 B d _ RB.out).mono ?_
 rintro e w2 ⟨rfl, hbl⟩
 replace RA := hmR RA hbl
 replace RB := hmR RB hbl
 replace RES := hmB RES hbl
 replace HW := hmW HW hbl; clear hbl
 go_wp2_with fail
 refine (reduced_q s A B c d a b _ RA.out RB.out LA.out.2 LB.out.2.1 LA.out.1 LB.out.1 LB.out.2.2 HQ.out).mono ?_
 rintro e w3 ⟨vx, vy, rfl, hnx, hny, hbl⟩
 replace RA := hmR RA hbl
 replace RB := hmR RB hbl
 replace RES := hmB RES hbl
 replace HW := hmW HW hbl; clear hbl
 have HNx := Lib.hid hnx; clear hnx
 obtain ⟨Ax, cx, rfl, hcx, hrx⟩ := HNx.out.row
 have Rx := Lib.hid hrx; have HCx := Lib.hid hcx; clear hrx hcx
 have HNy := Lib.hid hny; clear hny
 obtain ⟨Ay, cy, rfl, hcy, hry⟩ := HNy.out.row
 have Ry := Lib.hid hry; have HCy := Lib.hid hcy; clear hry hcy
 have d0 := RES.out.c0
 have f0 := RES.out.frozen 0
 have d1 := RES.out.c1
 have f1 := RES.out.frozen 1
 have d2 := RES.out.c2
 have f2 := RES.out.frozen 2
 go_wp2
 exact bodyPost_ret (results_row_tmp rfl _ _ (w.heap.size) 25 _ (0, 0) _ _ rfl rfl (RES.out.put3 _ _ _) Tryz.underlying25 rfl (by kernel_rfl)) rfl ⟨_, _, rfl, (RdN.set3 RES.out (HNx.out) _ _ _), (RdN.set3 RES.out (HNy.out) _ _ _), (bel_set3 HW.out (Nat.le_refl _) _ _ _)⟩
end
section
open Go.RowKit

theorem rightB_q {s : Bool} {n d : Nat} (hn : n < Top) (hd : d < Top) : rightB s (limbs n) (limbs d) = true ↔ QR ⟨s, n, d⟩ := by
 have e1 : decide ((limbs n).length = 0) = decide (n = 0) := by rw [decide_eq_decide]; have := @limbs_len0 n; omega
 have e2 : decide ((limbs d).length ≠ 0) = decide (d ≠ 0) := by rw [decide_eq_decide]; have := @limbs_len0 d; omega
 unfold rightB
 rw [lval_limbs, lval_limbs, rightL_limbs hn, rightL_limbs hd, e1, e2]
 constructor
 · intro h
   simp at h
   exact ⟨h.1.1, fun h0 => h.1.2.resolve_left (fun f => f h0), h.2⟩
 · intro h
   have h1 := h.den; have h2 := h.zero; have h3 := h.co
   simp only [] at h1 h2 h3
   simp [h1, h3]
   by_cases h0 : n = 0
   · exact Or.inr (h2 h0)
   · exact Or.inl h0
theorem rightB_num {s : Bool} {xs ys : List Nat} (hx : Lim xs) (hy : Lim ys) (h : rightB s xs ys = true) : ∃ q : Q, q.s = s ∧ xs = limbs q.n ∧ ys = limbs q.d ∧ q.n < Top ∧ q.d < Top ∧ QR q := by
 have h' := h
 unfold rightB at h'
 simp only [Bool.and_eq_true] at h'
 obtain ⟨n, rfl, hn⟩ := right_num hx h'.1.1.1.1
 obtain ⟨d, rfl, hd⟩ := right_num hy h'.1.1.1.2
 exact ⟨⟨s, n, d⟩, rfl, rfl, rfl, hn, hd, (rightB_q hn hd).1 h⟩
theorem ratRight_q (q : Q) (A B : Option Addr) (c d : Nat) (w : World) (h : RdL w A (limbs q.n)) (h' : RdL w B (limbs q.d)) (hc : (limbs q.n).length ≤ c) (hc' : (limbs q.d).length ≤ d) (hn : q.n < Top) (hd : q.d < Top) (hq : QR q) :
 Calls Tryz.prog 50 #[.agg #[.bool q.s, .slice A (limbs q.n).length c, .slice B (limbs q.d).length d]] w (RetBB true w) := by
 have := ratRight_any q.s A B c d (limbs q.n) (limbs q.d) w h h' (limbs_lim q.n) (limbs_lim q.d) (len18 hn) (len18 hd) hc hc'
 rwa [(rightB_q hn hd).2 hq] at this
theorem refRatRight_q (q : Q) (A B : Option Addr) (c d : Nat) (w : World) (h : RdL w A (limbs q.n)) (h' : RdL w B (limbs q.d)) (hn : q.n < Top) (hd : q.d < Top) (hq : QR q) :
 Calls Tryz.prog 32 #[.agg #[.bool q.s, .slice A (limbs q.n).length c, .slice B (limbs q.d).length d]] w (RetBB true w) := by
 have := refRatRight_any q.s A B c d (limbs q.n) (limbs q.d) w h h' (limbs_lim q.n) (limbs_lim q.d) (len18 hn) (len18 hd)
 rwa [(rightB_q hn hd).2 hq] at this
theorem equal_is (v : Bool) (A A' : Option Addr) (cap cap' : Nat) (xs ys : List Nat) (w : World) (h : RdL w A xs) (h' : RdL w A' ys) (hl : xs.length ≤ 18) (hv : decide (xs = ys) = v) : Calls Tryz.prog 63 #[.slice A xs.length cap, .slice A' ys.length cap'] w (RetBB v w) := by
 rw [← hv]
 exact equal_bb A A' cap cap' xs ys w h h' hl
def likeB (s s' : Bool) (xs ys xs' ys' : List Nat) : Bool := decide (s = s') && decide (xs = xs') && decide (ys = ys')
end
section
open Go.RowKit

def qText (s : Bool) (n d : Nat) : ByteArray :=
 let o := if s then ⟨#[45]⟩ ++ dec n else dec n
 if d = 1 then o else o ++ (⟨#[47]⟩ ++ dec d)
theorem qText_t (n d : Nat) (h : d ≠ 1) : qText true n d = ⟨#[45]⟩ ++ dec n ++ (⟨#[47]⟩ ++ dec d) := by unfold qText; rw [if_neg h]; rfl
theorem qText_f (n d : Nat) (h : d ≠ 1) : qText false n d = dec n ++ (⟨#[47]⟩ ++ dec d) := by unfold qText; rw [if_neg h]; rfl
theorem qText_t1 (n : Nat) : qText true n 1 = ⟨#[45]⟩ ++ dec n := rfl
theorem qText_f1 (n : Nat) : qText false n 1 = dec n := rfl
theorem decide_limbs (n m : Nat) : decide (limbs n = limbs m) = decide (n = m) := by rw [decide_eq_decide]; exact limbs_inj
theorem rtext_t1 (A B : Option Addr) (c e : Nat) (n d : Nat) (w : World) (h : RdL w A (limbs n)) (h' : RdL w B (limbs d)) (hc : (limbs n).length ≤ c) (hc' : (limbs d).length ≤ e) (hn : n < Top) (hd : d < Top) (hq : QR ⟨true, n, d⟩) (h1 : d = 1) :
 Calls Tryz.prog 71 #[.agg #[.bool true, .slice A (limbs n).length c, .slice B (limbs d).length e]] w (RetSE (qText true n d) 0 w) := by
 subst h1
 rw [qText_t1]

 have z1 : (dec n).size ≤ 160 := dec_len hn
 have z2 : (dec 1).size ≤ 160 := dec_len hd
 have sz1 : ¬ 9223372036854775807 < 1 + (dec n).size := by omega
 clear z1 z2
 have LA := Lib.hid (And.intro hn hc); clear hn hc
 have LB := Lib.hid (And.intro hd hc'); clear hd hc'
 have HQ := Lib.hid hq; clear hq
 have RA := Lib.hid h; clear h
 have RB := Lib.hid h'; clear h'
 obtain ⟨wa, hwa⟩ : ∃ wa, wa = w.alloc (.cells #[.bool true, .slice A (limbs n).length c, .slice B (limbs 1).length e] 25) := ⟨_, rfl⟩
 obtain ⟨hbl, CX⟩ := sal1 hwa
 replace RA := hmR RA hbl
 replace RB := hmR RB hbl
 have HW := Lib.hid hbl; clear hbl
 go_enter Tryz.func71, Tryz.ntmps71
 go_wp2_with fail
 rw [← hwa]
 clear hwa
 have CX0 := CX.out.c0
 have CX1 := CX.out.c1
 have CX2 := CX.out.c2
 refine (ratRight_q ⟨true, n, 1⟩ A B c e _ RA.out RB.out LA.out.2 LB.out.2 LA.out.1 LB.out.1 HQ.out).mono ?_
 rintro e w1 ⟨rfl, hbl⟩
 replace RA := hmR RA hbl
 replace RB := hmR RB hbl
 replace CX := hmB CX hbl
 replace HW := hmW HW hbl; clear hbl
 clear CX0 CX1 CX2
 have CX0 := CX.out.c0
 have CX1 := CX.out.c1
 have CX2 := CX.out.c2
 go_wp2_with fail
 refine (text_ok A c n _ RA.out LA.out.1).mono ?_
 rintro e w2 ⟨rfl, hbl⟩
 replace RA := hmR RA hbl
 replace RB := hmR RB hbl
 replace CX := hmB CX hbl
 replace HW := hmW HW hbl; clear hbl
 clear CX0 CX1 CX2
 have CX0 := CX.out.c0
 have CX1 := CX.out.c1
 have CX2 := CX.out.c2
 go_wp2_with fail
 go_region_held3 (fun w' => w'.cell? ⟨w.heap.size, 2, none⟩ = some (.slice B (limbs 1).length e) ∧ Below w2.heap.size w2 w')
  (first | exact ⟨CX2, (Below.refl _ _).drew⟩ | exact ⟨(CX.out.below hb2 CX.out.lt).cell 2, hb2⟩)
  (first
   | (go_at_call 91; have hH := ‹_ ∧ Below _ _ _›; (with_reducible refine (one_any _).mono ?_); rintro e w61 ⟨vo, rfl, hno, hbx⟩; have hb2 := bel_trans hH.2 hbx; obtain ⟨Ao, co, rfl, hco, hro⟩ := hno; clear hco; have Ro := Lib.hid hro; clear hro)
   | (go_at_call 63; have hH := ‹_ ∧ Below _ _ _›; (with_reducible refine (equal_is true B Ao e co (limbs 1) (limbs 1) _ (RB.out.below hH.2) Ro.out (len18 LB.out.1) (decide_eq_true rfl)).mono ?_); rintro e w62 ⟨rfl, hbx⟩; have hb2 := bel_trans hH.2 hbx))
 have hH := ‹_ ∧ Below _ _ _›
 have hbl := hH.2
 replace RA := hmR RA hbl
 replace RB := hmR RB hbl
 replace CX := hmB CX hbl
 replace HW := hmW HW hbl; clear hbl
 clear CX0 CX1 CX2
 have CX0 := CX.out.c0
 have CX1 := CX.out.c1
 have CX2 := CX.out.c2
 go_wp2
 go_ret2
 exact ⟨rfl, HW.out⟩

theorem rtext_td (A B : Option Addr) (c e : Nat) (n d : Nat) (w : World) (h : RdL w A (limbs n)) (h' : RdL w B (limbs d)) (hc : (limbs n).length ≤ c) (hc' : (limbs d).length ≤ e) (hn : n < Top) (hd : d < Top) (hq : QR ⟨true, n, d⟩) (h1 : d ≠ 1) :
 Calls Tryz.prog 71 #[.agg #[.bool true, .slice A (limbs n).length c, .slice B (limbs d).length e]] w (RetSE (qText true n d) 0 w) := by
 rw [qText_t n d h1]
 have HD := Lib.hid (show decide (limbs d = limbs 1) = false by rw [decide_limbs]; exact decide_eq_false h1); clear h1
 have z1 : (dec n).size ≤ 160 := dec_len hn
 have z2 : (dec d).size ≤ 160 := dec_len hd
 have sz1 : ¬ 9223372036854775807 < 1 + (dec n).size := by omega
 have sz2 : ¬ 9223372036854775807 < 1 + (dec d).size := by omega
 have sz3 : ¬ 9223372036854775807 < (dec n).size + (1 + (dec d).size) := by omega
 have sz4 : ¬ 9223372036854775807 < 1 + (dec n).size + (1 + (dec d).size) := by omega
 clear z1 z2
 have LA := Lib.hid (And.intro hn hc); clear hn hc
 have LB := Lib.hid (And.intro hd hc'); clear hd hc'
 have HQ := Lib.hid hq; clear hq
 have RA := Lib.hid h; clear h
 have RB := Lib.hid h'; clear h'
 obtain ⟨wa, hwa⟩ : ∃ wa, wa = w.alloc (.cells #[.bool true, .slice A (limbs n).length c, .slice B (limbs d).length e] 25) := ⟨_, rfl⟩
 obtain ⟨hbl, CX⟩ := sal1 hwa
 replace RA := hmR RA hbl
 replace RB := hmR RB hbl
 have HW := Lib.hid hbl; clear hbl
 go_enter Tryz.func71, Tryz.ntmps71
 go_wp2_with fail
 rw [← hwa]
 clear hwa
 have CX0 := CX.out.c0
 have CX1 := CX.out.c1
 have CX2 := CX.out.c2
 refine (ratRight_q ⟨true, n, d⟩ A B c e _ RA.out RB.out LA.out.2 LB.out.2 LA.out.1 LB.out.1 HQ.out).mono ?_
 rintro e w1 ⟨rfl, hbl⟩
 replace RA := hmR RA hbl
 replace RB := hmR RB hbl
 replace CX := hmB CX hbl
 replace HW := hmW HW hbl; clear hbl
 clear CX0 CX1 CX2
 have CX0 := CX.out.c0
 have CX1 := CX.out.c1
 have CX2 := CX.out.c2
 go_wp2_with fail
 refine (text_ok A c n _ RA.out LA.out.1).mono ?_
 rintro e w2 ⟨rfl, hbl⟩
 replace RA := hmR RA hbl
 replace RB := hmR RB hbl
 replace CX := hmB CX hbl
 replace HW := hmW HW hbl; clear hbl
 clear CX0 CX1 CX2
 have CX0 := CX.out.c0
 have CX1 := CX.out.c1
 have CX2 := CX.out.c2
 go_wp2_with fail
 go_region_held3 (fun w' => w'.cell? ⟨w.heap.size, 2, none⟩ = some (.slice B (limbs d).length e) ∧ Below w2.heap.size w2 w')
  (first | exact ⟨CX2, (Below.refl _ _).drew⟩ | exact ⟨(CX.out.below hb2 CX.out.lt).cell 2, hb2⟩)
  (first
   | (go_at_call 91; have hH := ‹_ ∧ Below _ _ _›; (with_reducible refine (one_any _).mono ?_); rintro e w61 ⟨vo, rfl, hno, hbx⟩; have hb2 := bel_trans hH.2 hbx; obtain ⟨Ao, co, rfl, hco, hro⟩ := hno; clear hco; have Ro := Lib.hid hro; clear hro)
   | (go_at_call 63; have hH := ‹_ ∧ Below _ _ _›; (with_reducible refine (equal_is false B Ao e co (limbs d) (limbs 1) _ (RB.out.below hH.2) Ro.out (len18 LB.out.1) HD.out).mono ?_); rintro e w62 ⟨rfl, hbx⟩; have hb2 := bel_trans hH.2 hbx))
 have hH := ‹_ ∧ Below _ _ _›
 have hbl := hH.2
 replace RA := hmR RA hbl
 replace RB := hmR RB hbl
 replace CX := hmB CX hbl
 replace HW := hmW HW hbl; clear hbl
 clear CX0 CX1 CX2
 have CX0 := CX.out.c0
 have CX1 := CX.out.c1
 have CX2 := CX.out.c2
 go_wp2_with fail
 refine (text_ok B e d _ RB.out LB.out.1).mono ?_
 rintro e w3 ⟨rfl, hbl⟩
 replace RA := hmR RA hbl
 replace RB := hmR RB hbl
 replace CX := hmB CX hbl
 replace HW := hmW HW hbl; clear hbl
 clear CX0 CX1 CX2
 have CX0 := CX.out.c0
 have CX1 := CX.out.c1
 have CX2 := CX.out.c2
 go_wp2
 go_ret2
 exact ⟨rfl, HW.out⟩

theorem rtext_f1 (A B : Option Addr) (c e : Nat) (n d : Nat) (w : World) (h : RdL w A (limbs n)) (h' : RdL w B (limbs d)) (hc : (limbs n).length ≤ c) (hc' : (limbs d).length ≤ e) (hn : n < Top) (hd : d < Top) (hq : QR ⟨false, n, d⟩) (h1 : d = 1) :
 Calls Tryz.prog 71 #[.agg #[.bool false, .slice A (limbs n).length c, .slice B (limbs d).length e]] w (RetSE (qText false n d) 0 w) := by
 subst h1
 rw [qText_f1]

 have z1 : (dec n).size ≤ 160 := dec_len hn
 have z2 : (dec 1).size ≤ 160 := dec_len hd
 have sz1 : ¬ 9223372036854775807 < 1 + (dec n).size := by omega
 clear z1 z2
 have LA := Lib.hid (And.intro hn hc); clear hn hc
 have LB := Lib.hid (And.intro hd hc'); clear hd hc'
 have HQ := Lib.hid hq; clear hq
 have RA := Lib.hid h; clear h
 have RB := Lib.hid h'; clear h'
 obtain ⟨wa, hwa⟩ : ∃ wa, wa = w.alloc (.cells #[.bool false, .slice A (limbs n).length c, .slice B (limbs 1).length e] 25) := ⟨_, rfl⟩
 obtain ⟨hbl, CX⟩ := sal1 hwa
 replace RA := hmR RA hbl
 replace RB := hmR RB hbl
 have HW := Lib.hid hbl; clear hbl
 go_enter Tryz.func71, Tryz.ntmps71
 go_wp2_with fail
 rw [← hwa]
 clear hwa
 have CX0 := CX.out.c0
 have CX1 := CX.out.c1
 have CX2 := CX.out.c2
 refine (ratRight_q ⟨false, n, 1⟩ A B c e _ RA.out RB.out LA.out.2 LB.out.2 LA.out.1 LB.out.1 HQ.out).mono ?_
 rintro e w1 ⟨rfl, hbl⟩
 replace RA := hmR RA hbl
 replace RB := hmR RB hbl
 replace CX := hmB CX hbl
 replace HW := hmW HW hbl; clear hbl
 clear CX0 CX1 CX2
 have CX0 := CX.out.c0
 have CX1 := CX.out.c1
 have CX2 := CX.out.c2
 go_wp2_with fail
 refine (text_ok A c n _ RA.out LA.out.1).mono ?_
 rintro e w2 ⟨rfl, hbl⟩
 replace RA := hmR RA hbl
 replace RB := hmR RB hbl
 replace CX := hmB CX hbl
 replace HW := hmW HW hbl; clear hbl
 clear CX0 CX1 CX2
 have CX0 := CX.out.c0
 have CX1 := CX.out.c1
 have CX2 := CX.out.c2
 go_wp2_with fail
 go_region_held3 (fun w' => w'.cell? ⟨w.heap.size, 2, none⟩ = some (.slice B (limbs 1).length e) ∧ Below w2.heap.size w2 w')
  (first | exact ⟨CX2, (Below.refl _ _).drew⟩ | exact ⟨(CX.out.below hb2 CX.out.lt).cell 2, hb2⟩)
  (first
   | (go_at_call 91; have hH := ‹_ ∧ Below _ _ _›; (with_reducible refine (one_any _).mono ?_); rintro e w61 ⟨vo, rfl, hno, hbx⟩; have hb2 := bel_trans hH.2 hbx; obtain ⟨Ao, co, rfl, hco, hro⟩ := hno; clear hco; have Ro := Lib.hid hro; clear hro)
   | (go_at_call 63; have hH := ‹_ ∧ Below _ _ _›; (with_reducible refine (equal_is true B Ao e co (limbs 1) (limbs 1) _ (RB.out.below hH.2) Ro.out (len18 LB.out.1) (decide_eq_true rfl)).mono ?_); rintro e w62 ⟨rfl, hbx⟩; have hb2 := bel_trans hH.2 hbx))
 have hH := ‹_ ∧ Below _ _ _›
 have hbl := hH.2
 replace RA := hmR RA hbl
 replace RB := hmR RB hbl
 replace CX := hmB CX hbl
 replace HW := hmW HW hbl; clear hbl
 clear CX0 CX1 CX2
 have CX0 := CX.out.c0
 have CX1 := CX.out.c1
 have CX2 := CX.out.c2
 go_wp2
 go_ret2
 exact ⟨rfl, HW.out⟩

theorem rtext_fd (A B : Option Addr) (c e : Nat) (n d : Nat) (w : World) (h : RdL w A (limbs n)) (h' : RdL w B (limbs d)) (hc : (limbs n).length ≤ c) (hc' : (limbs d).length ≤ e) (hn : n < Top) (hd : d < Top) (hq : QR ⟨false, n, d⟩) (h1 : d ≠ 1) :
 Calls Tryz.prog 71 #[.agg #[.bool false, .slice A (limbs n).length c, .slice B (limbs d).length e]] w (RetSE (qText false n d) 0 w) := by
 rw [qText_f n d h1]
 have HD := Lib.hid (show decide (limbs d = limbs 1) = false by rw [decide_limbs]; exact decide_eq_false h1); clear h1
 have z1 : (dec n).size ≤ 160 := dec_len hn
 have z2 : (dec d).size ≤ 160 := dec_len hd
 have sz1 : ¬ 9223372036854775807 < 1 + (dec n).size := by omega
 have sz2 : ¬ 9223372036854775807 < 1 + (dec d).size := by omega
 have sz3 : ¬ 9223372036854775807 < (dec n).size + (1 + (dec d).size) := by omega
 have sz4 : ¬ 9223372036854775807 < 1 + (dec n).size + (1 + (dec d).size) := by omega
 clear z1 z2
 have LA := Lib.hid (And.intro hn hc); clear hn hc
 have LB := Lib.hid (And.intro hd hc'); clear hd hc'
 have HQ := Lib.hid hq; clear hq
 have RA := Lib.hid h; clear h
 have RB := Lib.hid h'; clear h'
 obtain ⟨wa, hwa⟩ : ∃ wa, wa = w.alloc (.cells #[.bool false, .slice A (limbs n).length c, .slice B (limbs d).length e] 25) := ⟨_, rfl⟩
 obtain ⟨hbl, CX⟩ := sal1 hwa
 replace RA := hmR RA hbl
 replace RB := hmR RB hbl
 have HW := Lib.hid hbl; clear hbl
 go_enter Tryz.func71, Tryz.ntmps71
 go_wp2_with fail
 rw [← hwa]
 clear hwa
 have CX0 := CX.out.c0
 have CX1 := CX.out.c1
 have CX2 := CX.out.c2
 refine (ratRight_q ⟨false, n, d⟩ A B c e _ RA.out RB.out LA.out.2 LB.out.2 LA.out.1 LB.out.1 HQ.out).mono ?_
 rintro e w1 ⟨rfl, hbl⟩
 replace RA := hmR RA hbl
 replace RB := hmR RB hbl
 replace CX := hmB CX hbl
 replace HW := hmW HW hbl; clear hbl
 clear CX0 CX1 CX2
 have CX0 := CX.out.c0
 have CX1 := CX.out.c1
 have CX2 := CX.out.c2
 go_wp2_with fail
 refine (text_ok A c n _ RA.out LA.out.1).mono ?_
 rintro e w2 ⟨rfl, hbl⟩
 replace RA := hmR RA hbl
 replace RB := hmR RB hbl
 replace CX := hmB CX hbl
 replace HW := hmW HW hbl; clear hbl
 clear CX0 CX1 CX2
 have CX0 := CX.out.c0
 have CX1 := CX.out.c1
 have CX2 := CX.out.c2
 go_wp2_with fail
 go_region_held3 (fun w' => w'.cell? ⟨w.heap.size, 2, none⟩ = some (.slice B (limbs d).length e) ∧ Below w2.heap.size w2 w')
  (first | exact ⟨CX2, (Below.refl _ _).drew⟩ | exact ⟨(CX.out.below hb2 CX.out.lt).cell 2, hb2⟩)
  (first
   | (go_at_call 91; have hH := ‹_ ∧ Below _ _ _›; (with_reducible refine (one_any _).mono ?_); rintro e w61 ⟨vo, rfl, hno, hbx⟩; have hb2 := bel_trans hH.2 hbx; obtain ⟨Ao, co, rfl, hco, hro⟩ := hno; clear hco; have Ro := Lib.hid hro; clear hro)
   | (go_at_call 63; have hH := ‹_ ∧ Below _ _ _›; (with_reducible refine (equal_is false B Ao e co (limbs d) (limbs 1) _ (RB.out.below hH.2) Ro.out (len18 LB.out.1) HD.out).mono ?_); rintro e w62 ⟨rfl, hbx⟩; have hb2 := bel_trans hH.2 hbx))
 have hH := ‹_ ∧ Below _ _ _›
 have hbl := hH.2
 replace RA := hmR RA hbl
 replace RB := hmR RB hbl
 replace CX := hmB CX hbl
 replace HW := hmW HW hbl; clear hbl
 clear CX0 CX1 CX2
 have CX0 := CX.out.c0
 have CX1 := CX.out.c1
 have CX2 := CX.out.c2
 go_wp2_with fail
 refine (text_ok B e d _ RB.out LB.out.1).mono ?_
 rintro e w3 ⟨rfl, hbl⟩
 replace RA := hmR RA hbl
 replace RB := hmR RB hbl
 replace CX := hmB CX hbl
 replace HW := hmW HW hbl; clear hbl
 clear CX0 CX1 CX2
 have CX0 := CX.out.c0
 have CX1 := CX.out.c1
 have CX2 := CX.out.c2
 go_wp2
 go_ret2
 exact ⟨rfl, HW.out⟩

theorem rtext_q (q : Q) (A B : Option Addr) (c d : Nat) (w : World) (h : RdL w A (limbs q.n)) (h' : RdL w B (limbs q.d)) (hc : (limbs q.n).length ≤ c) (hc' : (limbs q.d).length ≤ d) (hn : q.n < Top) (hd : q.d < Top) (hq : QR q) :
 Calls Tryz.prog 71 #[.agg #[.bool q.s, .slice A (limbs q.n).length c, .slice B (limbs q.d).length d]] w (RetSE (qText q.s q.n q.d) 0 w) := by
 obtain ⟨s, n, e⟩ := q
 by_cases h1 : e = 1
 · cases s
   · exact rtext_f1 A B c d n e w h h' hc hc' hn hd hq h1
   · exact rtext_t1 A B c d n e w h h' hc hc' hn hd hq h1
 · cases s
   · exact rtext_fd A B c d n e w h h' hc hc' hn hd hq h1
   · exact rtext_td A B c d n e w h h' hc hc' hn hd hq h1
end
section
open Go.RowKit

def bad (c : Int) : PanicEntry := { v := .iface 29 (.int .i64 c), recovered := false }
theorem told_idle (p q : Addr) (w : World) :
 CallsD Tryz.prog 97 #[.pointer (some p), .pointer (some q)] .returning w fun e u' w' => e = .returned (.tuple #[]) ∧ u' = .returning ∧ w' = w := by
 refine callsD_of_wpS Tryz.func97 rfl fun c₀ cs hu => ?_
 apply wpS_seq
 apply wpS_region
 simp [wpOpsS, go_sem, recoverD, hu, Tryz.ntmps97, Exit.thenS]
 refine wpS_of_wp ?_
 simp only [Array.replicate_succ, Array.replicate_zero, List.push_toArray, List.append_toArray, List.nil_append, List.cons_append, List.setIfInBounds_toArray, List.set_cons_succ, List.set_cons_zero]
 go_wp2
 cases c₀
 simp_all [bodyPostS, results, Tryz.results97]
theorem as_errno (c : Int) (W : World) : (Instr.typeAssert (.iface 29 (.int .i64 c)) 20 29 true).run Tryz.prog W = .ok (.tuple #[.int .i64 c, .bool true]) W := by kernel_rfl
theorem told_caught (g g' : Nat) (c : Int) (older : List PanicEntry) (a0 a1 a2 : Value) (b0 : Value) (w : World) (h0 : w.cell? ⟨g, 0, none⟩ = some a0) (h1 : w.cell? ⟨g, 1, none⟩ = some a1) (h2 : w.cell? ⟨g, 2, none⟩ = some a2)
 (h3 : w.cell? ⟨g', 0, none⟩ = some b0) (f0 : w.frozen? ⟨g, 0, none⟩ = false) (f1 : w.frozen? ⟨g, 1, none⟩ = false) (f2 : w.frozen? ⟨g, 2, none⟩ = false) (f3 : w.frozen? ⟨g', 0, none⟩ = false) (hg : g' ≠ g) :
 CallsD Tryz.prog 97 #[.pointer (some ⟨g, 0, none⟩), .pointer (some ⟨g', 0, none⟩)] (.panicking ({ v := .iface 29 (.int .i64 c), recovered := false } :: older)) w fun e u' w' =>
  e = .returned (.tuple #[]) ∧ u' = .panicking ({ v := .iface 29 (.int .i64 c), recovered := true } :: older) ∧
  w' = (((w.setCell ⟨g, 0, none⟩ (.bool false)).setCell ⟨g, 1, none⟩ (.slice none 0 0)).setCell ⟨g, 2, none⟩ (.slice none 0 0)).setCell ⟨g', 0, none⟩ (.int .i64 c) := by
 have ha := fun W => as_errno c W
 refine callsD_of_wpS Tryz.func97 rfl fun c₀ cs hu => ?_
 apply wpS_seq
 apply wpS_region
 simp [wpOpsS, go_sem, recoverD, hu, Tryz.ntmps97, Exit.thenS]
 refine wpS_of_wp ?_
 simp only [Array.replicate_succ, Array.replicate_zero, List.push_toArray, List.append_toArray, List.nil_append, List.cons_append, List.setIfInBounds_toArray, List.set_cons_succ, List.set_cons_zero]
 go_wp2
 cases c₀
 simp_all [bodyPostS, results, Tryz.results97]

theorem must_ok (v : Value) (w : World) : Calls Tryz.prog 99 #[v, .int .i64 0] w fun e w' => e = .returned v ∧ w' = w := by
 go_enter Tryz.func99, Tryz.ntmps99
 go_wp2
 go_ret
 exact ⟨rfl, rfl⟩
theorem must_bad (v : Value) (c : Int) (w : World) (hc : ¬ c = 0) : Calls Tryz.prog 99 #[v, .int .i64 c] w fun e w' => e = .panicked [bad c] ∧ w' = w := by
 have hc2 : (c != 0) = true := by simpa using hc
 go_enter Tryz.func99, Tryz.ntmps99
 go_wp2
 exact ⟨rfl, rfl, rfl⟩
end
section
open Go.RowKit

theorem must_bb (v : Value) (w : World) : Calls Tryz.prog 99 #[v, .int .i64 0] w fun e w' => e = .returned v ∧ Below w.heap.size w w' :=
 (must_ok v w).mono fun _ _ h => ⟨h.1, by rw [h.2]; exact bel_refl _⟩
def RetBad (c : Int) (w : World) (e : Ending) (w' : World) : Prop := e = .panicked [bad c] ∧ Below w.heap.size w w'
theorem must_pp (v : Value) (c : Int) (w : World) (hc : ¬ c = 0) : Calls Tryz.prog 99 #[v, .int .i64 c] w (RetBad c w) :=
 (must_bad v c w hc).mono fun _ _ h => ⟨h.1, by rw [h.2]; exact bel_refl _⟩
theorem sub_small (A A' : Option Addr) (cap cap' : Nat) (a b : Nat) (w : World) (h : RdL w A (limbs a)) (h' : RdL w A' (limbs b)) (ha : a < Top) (hb : b < Top) (hab : b ≤ a) :
 Calls Tryz.prog 152 #[.slice A (limbs a).length cap, .slice A' (limbs b).length cap'] w (RetNE (a - b) 0 w) :=
 (sub_num A A' cap cap' a b w h h' ha hb).mono fun _ _ h => h.of rfl (by unfold subC; rw [if_neg (by omega)])
theorem add_over (A A' : Option Addr) (cap cap' : Nat) (a b : Nat) (w : World) (h : RdL w A (limbs a)) (h' : RdL w A' (limbs b)) (ha : a < Top) (hb : b < Top) (hab : ¬ a + b < Top) :
 Calls Tryz.prog 151 #[.slice A (limbs a).length cap, .slice A' (limbs b).length cap'] w (RetNE 0 2 w) :=
 (add_num A A' cap cap' a b w h h' ha hb).mono fun _ _ h => h.of (by unfold fitN; rw [if_neg hab]) (by unfold fitC; rw [if_neg hab])
theorem sum_same {q : Q} (s : Bool) (A B E : Option Addr) (c d k : Nat) (x y den : Nat) (w : World) (h : RdL w A (limbs x)) (h' : RdL w B (limbs y)) (h3 : RdL w E (limbs den)) (hc : (limbs x).length ≤ c) (hc' : (limbs y).length ≤ d) (hc3 : (limbs den).length ≤ k) (hx : x < Top) (hy : y < Top) (hd : den < Top) (hd0 : den ≠ 0) (hxy : x + y < Top) (hq : redQ s (x + y) den = q) :
 Calls Tryz.prog 135 #[.bool s, .bool s, .slice A (limbs x).length c, .slice B (limbs y).length d, .slice E (limbs den).length k] w (RetQ q w) := by
 have e1 : (s == s) = true := by simp
 have LA := Lib.hid (And.intro hx hc); clear hx hc
 have LB := Lib.hid (And.intro hy hc'); clear hy hc'
 have LD := Lib.hid (And.intro hd (And.intro hc3 hd0)); clear hd hc3 hd0
 have HXY := Lib.hid hxy; clear hxy
 have HQ := Lib.hid hq; clear hq
 have RA := Lib.hid h; clear h
 have RB := Lib.hid h'; clear h'
 have RE := Lib.hid h3; clear h3
 obtain ⟨wa, hwa⟩ : ∃ wa, wa = w.alloc (.cells #[.bool false, .slice none 0 0, .slice none 0 0] 25) := ⟨_, rfl⟩
 obtain ⟨hbl, RES⟩ := sal1 hwa
 replace RA := hmR RA hbl
 replace RB := hmR RB hbl
 replace RE := hmR RE hbl
 have HW := Lib.hid hbl; clear hbl
 go_enter Tryz.func135, Tryz.ntmps135
 go_wp2_with fail
 rw [← hwa]
 clear hwa
 refine (add_small A B c d x y (x + y) _ RA.out RB.out LA.out.1 LB.out.1 rfl HXY.out).mono ?_
 rintro e w1 ⟨va, rfl, hna, hbl⟩
 replace RA := hmR RA hbl
 replace RB := hmR RB hbl
 replace RE := hmR RE hbl
 replace RES := hmB RES hbl
 replace HW := hmW HW hbl; clear hbl
 have HNa := Lib.hid hna; clear hna
 obtain ⟨Aa, ca, rfl, hca, hra⟩ := HNa.out.row
 have Ra := Lib.hid hra; have HCa := Lib.hid hca; clear hra hca
 go_wp2_with fail
 refine (must_bb _ _).mono ?_
 rintro e w2 ⟨rfl, hbl⟩
 replace RA := hmR RA hbl
 replace RB := hmR RB hbl
 replace RE := hmR RE hbl
 replace Ra := hmR Ra hbl
 replace HNa := hmN HNa hbl
 replace RES := hmB RES hbl
 replace HW := hmW HW hbl; clear hbl
 go_wp2_with fail
 refine (reduced_q s Aa E ca k (x + y) den _ Ra.out RE.out HCa.out LD.out.2.1 HXY.out LD.out.1 LD.out.2.2 HQ.out).mono ?_
 rintro e w3 ⟨vp, vq, rfl, hnp, hnq, hbl⟩
 replace RA := hmR RA hbl
 replace RB := hmR RB hbl
 replace RE := hmR RE hbl
 replace Ra := hmR Ra hbl
 replace HNa := hmN HNa hbl
 replace RES := hmB RES hbl
 replace HW := hmW HW hbl; clear hbl
 have HNp := Lib.hid hnp; clear hnp
 obtain ⟨Ap, cp, rfl, hcp, hrp⟩ := HNp.out.row
 have Rp := Lib.hid hrp; have HCp := Lib.hid hcp; clear hrp hcp
 have HNq := Lib.hid hnq; clear hnq
 obtain ⟨Aq, cq, rfl, hcq, hrq⟩ := HNq.out.row
 have Rq := Lib.hid hrq; have HCq := Lib.hid hcq; clear hrq hcq
 have d0 := RES.out.c0
 have f0 := RES.out.frozen 0
 have d1 := RES.out.c1
 have f1 := RES.out.frozen 1
 have d2 := RES.out.c2
 have f2 := RES.out.frozen 2
 go_wp2
 exact bodyPost_ret (results_cell_row rfl _ _ (w.heap.size) 25 _ (0, 0) _ rfl (RES.out.put3 _ _ _) Tryz.underlying25 rfl (by kernel_rfl)) rfl ⟨_, _, rfl, (RdN.set3 RES.out (HNp.out) _ _ _), (RdN.set3 RES.out (HNq.out) _ _ _), (bel_set3 HW.out (Nat.le_refl _) _ _ _)⟩

theorem sum_lt {q : Q} (s s' : Bool) (A B E : Option Addr) (c d k : Nat) (x y den : Nat) (w : World) (h : RdL w A (limbs x)) (h' : RdL w B (limbs y)) (h3 : RdL w E (limbs den)) (hc : (limbs x).length ≤ c) (hc' : (limbs y).length ≤ d) (hc3 : (limbs den).length ≤ k) (hx : x < Top) (hy : y < Top) (hd : den < Top) (hd0 : den ≠ 0) (hxy : x + y < Top) (hs : ¬ s = s') (hl : x < y) (hq : redQ s' (y - x) den = q) :
 Calls Tryz.prog 135 #[.bool s, .bool s', .slice A (limbs x).length c, .slice B (limbs y).length d, .slice E (limbs den).length k] w (RetQ q w) := by
 have e1 : (s == s') = false := by simp [hs]
 clear hs
 have HL := Lib.hid hl
 have e2 : cmpI (x : Int) (y : Int) < 0 := by rw [cmpI_lt (by omega)]; decide
 clear hl
 have LA := Lib.hid (And.intro hx hc); clear hx hc
 have LB := Lib.hid (And.intro hy hc'); clear hy hc'
 have LD := Lib.hid (And.intro hd (And.intro hc3 hd0)); clear hd hc3 hd0
 have HXY := Lib.hid hxy; clear hxy
 have HQ := Lib.hid hq; clear hq
 have RA := Lib.hid h; clear h
 have RB := Lib.hid h'; clear h'
 have RE := Lib.hid h3; clear h3
 obtain ⟨wa, hwa⟩ : ∃ wa, wa = w.alloc (.cells #[.bool false, .slice none 0 0, .slice none 0 0] 25) := ⟨_, rfl⟩
 obtain ⟨hbl, RES⟩ := sal1 hwa
 replace RA := hmR RA hbl
 replace RB := hmR RB hbl
 replace RE := hmR RE hbl
 have HW := Lib.hid hbl; clear hbl
 go_enter Tryz.func135, Tryz.ntmps135
 go_wp2_with fail
 rw [← hwa]
 clear hwa
 refine (add_small A B c d x y (x + y) _ RA.out RB.out LA.out.1 LB.out.1 rfl HXY.out).mono ?_
 rintro e w1 ⟨va, rfl, hna, hbl⟩
 replace RA := hmR RA hbl
 replace RB := hmR RB hbl
 replace RE := hmR RE hbl
 replace RES := hmB RES hbl
 replace HW := hmW HW hbl; clear hbl
 have HNa := Lib.hid hna; clear hna
 obtain ⟨Aa, ca, rfl, hca, hra⟩ := HNa.out.row
 have Ra := Lib.hid hra; have HCa := Lib.hid hca; clear hra hca
 go_wp2_with fail
 refine (must_bb _ _).mono ?_
 rintro e w2 ⟨rfl, hbl⟩
 replace RA := hmR RA hbl
 replace RB := hmR RB hbl
 replace RE := hmR RE hbl
 replace Ra := hmR Ra hbl
 replace HNa := hmN HNa hbl
 replace RES := hmB RES hbl
 replace HW := hmW HW hbl; clear hbl
 go_wp2_with fail
 refine (cmp_num A B c d x y _ RA.out RB.out LA.out.1 LB.out.1).mono ?_
 rintro e w3 ⟨rfl, hbl⟩
 replace RA := hmR RA hbl
 replace RB := hmR RB hbl
 replace RE := hmR RE hbl
 replace Ra := hmR Ra hbl
 replace HNa := hmN HNa hbl
 replace RES := hmB RES hbl
 replace HW := hmW HW hbl; clear hbl
 go_wp2_with fail
 refine (sub_small B A d c y x _ RB.out RA.out LB.out.1 LA.out.1 (Nat.le_of_lt HL.out)).mono ?_
 rintro e w4 ⟨vb, rfl, hnb, hbl⟩
 replace RA := hmR RA hbl
 replace RB := hmR RB hbl
 replace RE := hmR RE hbl
 replace Ra := hmR Ra hbl
 replace HNa := hmN HNa hbl
 replace RES := hmB RES hbl
 replace HW := hmW HW hbl; clear hbl
 have HNb := Lib.hid hnb; clear hnb
 obtain ⟨Ab, cb, rfl, hcb, hrb⟩ := HNb.out.row
 have Rb := Lib.hid hrb; have HCb := Lib.hid hcb; clear hrb hcb
 go_wp2_with fail
 refine (must_bb _ _).mono ?_
 rintro e w5 ⟨rfl, hbl⟩
 replace RA := hmR RA hbl
 replace RB := hmR RB hbl
 replace RE := hmR RE hbl
 replace Ra := hmR Ra hbl
 replace HNa := hmN HNa hbl
 replace Rb := hmR Rb hbl
 replace HNb := hmN HNb hbl
 replace RES := hmB RES hbl
 replace HW := hmW HW hbl; clear hbl
 go_wp2_with fail
 refine (reduced_q s' Ab E cb k (y - x) den _ Rb.out RE.out HCb.out LD.out.2.1 (lt_top (Nat.sub_le _ _) LB.out.1) LD.out.1 LD.out.2.2 HQ.out).mono ?_
 rintro e w6 ⟨vp, vq, rfl, hnp, hnq, hbl⟩
 replace RA := hmR RA hbl
 replace RB := hmR RB hbl
 replace RE := hmR RE hbl
 replace Ra := hmR Ra hbl
 replace HNa := hmN HNa hbl
 replace Rb := hmR Rb hbl
 replace HNb := hmN HNb hbl
 replace RES := hmB RES hbl
 replace HW := hmW HW hbl; clear hbl
 have HNp := Lib.hid hnp; clear hnp
 obtain ⟨Ap, cp, rfl, hcp, hrp⟩ := HNp.out.row
 have Rp := Lib.hid hrp; have HCp := Lib.hid hcp; clear hrp hcp
 have HNq := Lib.hid hnq; clear hnq
 obtain ⟨Aq, cq, rfl, hcq, hrq⟩ := HNq.out.row
 have Rq := Lib.hid hrq; have HCq := Lib.hid hcq; clear hrq hcq
 have d0 := RES.out.c0
 have f0 := RES.out.frozen 0
 have d1 := RES.out.c1
 have f1 := RES.out.frozen 1
 have d2 := RES.out.c2
 have f2 := RES.out.frozen 2
 go_wp2
 exact bodyPost_ret (results_cell_row rfl _ _ (w.heap.size) 25 _ (0, 0) _ rfl (RES.out.put3 _ _ _) Tryz.underlying25 rfl (by kernel_rfl)) rfl ⟨_, _, rfl, (RdN.set3 RES.out (HNp.out) _ _ _), (RdN.set3 RES.out (HNq.out) _ _ _), (bel_set3 HW.out (Nat.le_refl _) _ _ _)⟩

theorem sum_ge {q : Q} (s s' : Bool) (A B E : Option Addr) (c d k : Nat) (x y den : Nat) (w : World) (h : RdL w A (limbs x)) (h' : RdL w B (limbs y)) (h3 : RdL w E (limbs den)) (hc : (limbs x).length ≤ c) (hc' : (limbs y).length ≤ d) (hc3 : (limbs den).length ≤ k) (hx : x < Top) (hy : y < Top) (hd : den < Top) (hd0 : den ≠ 0) (hxy : x + y < Top) (hs : ¬ s = s') (hl : y ≤ x) (hq : redQ s (x - y) den = q) :
 Calls Tryz.prog 135 #[.bool s, .bool s', .slice A (limbs x).length c, .slice B (limbs y).length d, .slice E (limbs den).length k] w (RetQ q w) := by
 have e1 : (s == s') = false := by simp [hs]
 clear hs
 have HL := Lib.hid hl
 have e2 : ¬ cmpI (x : Int) (y : Int) < 0 := by have := cmp_ge (a := x) (b := y) (by omega); omega
 clear hl
 have LA := Lib.hid (And.intro hx hc); clear hx hc
 have LB := Lib.hid (And.intro hy hc'); clear hy hc'
 have LD := Lib.hid (And.intro hd (And.intro hc3 hd0)); clear hd hc3 hd0
 have HXY := Lib.hid hxy; clear hxy
 have HQ := Lib.hid hq; clear hq
 have RA := Lib.hid h; clear h
 have RB := Lib.hid h'; clear h'
 have RE := Lib.hid h3; clear h3
 obtain ⟨wa, hwa⟩ : ∃ wa, wa = w.alloc (.cells #[.bool false, .slice none 0 0, .slice none 0 0] 25) := ⟨_, rfl⟩
 obtain ⟨hbl, RES⟩ := sal1 hwa
 replace RA := hmR RA hbl
 replace RB := hmR RB hbl
 replace RE := hmR RE hbl
 have HW := Lib.hid hbl; clear hbl
 go_enter Tryz.func135, Tryz.ntmps135
 go_wp2_with fail
 rw [← hwa]
 clear hwa
 refine (add_small A B c d x y (x + y) _ RA.out RB.out LA.out.1 LB.out.1 rfl HXY.out).mono ?_
 rintro e w1 ⟨va, rfl, hna, hbl⟩
 replace RA := hmR RA hbl
 replace RB := hmR RB hbl
 replace RE := hmR RE hbl
 replace RES := hmB RES hbl
 replace HW := hmW HW hbl; clear hbl
 have HNa := Lib.hid hna; clear hna
 obtain ⟨Aa, ca, rfl, hca, hra⟩ := HNa.out.row
 have Ra := Lib.hid hra; have HCa := Lib.hid hca; clear hra hca
 go_wp2_with fail
 refine (must_bb _ _).mono ?_
 rintro e w2 ⟨rfl, hbl⟩
 replace RA := hmR RA hbl
 replace RB := hmR RB hbl
 replace RE := hmR RE hbl
 replace Ra := hmR Ra hbl
 replace HNa := hmN HNa hbl
 replace RES := hmB RES hbl
 replace HW := hmW HW hbl; clear hbl
 go_wp2_with fail
 refine (cmp_num A B c d x y _ RA.out RB.out LA.out.1 LB.out.1).mono ?_
 rintro e w3 ⟨rfl, hbl⟩
 replace RA := hmR RA hbl
 replace RB := hmR RB hbl
 replace RE := hmR RE hbl
 replace Ra := hmR Ra hbl
 replace HNa := hmN HNa hbl
 replace RES := hmB RES hbl
 replace HW := hmW HW hbl; clear hbl
 go_wp2_with fail
 refine (sub_small A B c d x y _ RA.out RB.out LA.out.1 LB.out.1 HL.out).mono ?_
 rintro e w4 ⟨vb, rfl, hnb, hbl⟩
 replace RA := hmR RA hbl
 replace RB := hmR RB hbl
 replace RE := hmR RE hbl
 replace Ra := hmR Ra hbl
 replace HNa := hmN HNa hbl
 replace RES := hmB RES hbl
 replace HW := hmW HW hbl; clear hbl
 have HNb := Lib.hid hnb; clear hnb
 obtain ⟨Ab, cb, rfl, hcb, hrb⟩ := HNb.out.row
 have Rb := Lib.hid hrb; have HCb := Lib.hid hcb; clear hrb hcb
 go_wp2_with fail
 refine (must_bb _ _).mono ?_
 rintro e w5 ⟨rfl, hbl⟩
 replace RA := hmR RA hbl
 replace RB := hmR RB hbl
 replace RE := hmR RE hbl
 replace Ra := hmR Ra hbl
 replace HNa := hmN HNa hbl
 replace Rb := hmR Rb hbl
 replace HNb := hmN HNb hbl
 replace RES := hmB RES hbl
 replace HW := hmW HW hbl; clear hbl
 go_wp2_with fail
 refine (reduced_q s Ab E cb k (x - y) den _ Rb.out RE.out HCb.out LD.out.2.1 (lt_top (Nat.sub_le _ _) LA.out.1) LD.out.1 LD.out.2.2 HQ.out).mono ?_
 rintro e w6 ⟨vp, vq, rfl, hnp, hnq, hbl⟩
 replace RA := hmR RA hbl
 replace RB := hmR RB hbl
 replace RE := hmR RE hbl
 replace Ra := hmR Ra hbl
 replace HNa := hmN HNa hbl
 replace Rb := hmR Rb hbl
 replace HNb := hmN HNb hbl
 replace RES := hmB RES hbl
 replace HW := hmW HW hbl; clear hbl
 have HNp := Lib.hid hnp; clear hnp
 obtain ⟨Ap, cp, rfl, hcp, hrp⟩ := HNp.out.row
 have Rp := Lib.hid hrp; have HCp := Lib.hid hcp; clear hrp hcp
 have HNq := Lib.hid hnq; clear hnq
 obtain ⟨Aq, cq, rfl, hcq, hrq⟩ := HNq.out.row
 have Rq := Lib.hid hrq; have HCq := Lib.hid hcq; clear hrq hcq
 have d0 := RES.out.c0
 have f0 := RES.out.frozen 0
 have d1 := RES.out.c1
 have f1 := RES.out.frozen 1
 have d2 := RES.out.c2
 have f2 := RES.out.frozen 2
 go_wp2
 exact bodyPost_ret (results_cell_row rfl _ _ (w.heap.size) 25 _ (0, 0) _ rfl (RES.out.put3 _ _ _) Tryz.underlying25 rfl (by kernel_rfl)) rfl ⟨_, _, rfl, (RdN.set3 RES.out (HNp.out) _ _ _), (RdN.set3 RES.out (HNq.out) _ _ _), (bel_set3 HW.out (Nat.le_refl _) _ _ _)⟩

theorem sum_over (s s' : Bool) (A B : Option Addr) (z : Value) (c d : Nat) (x y : Nat) (w : World) (h : RdL w A (limbs x)) (h' : RdL w B (limbs y)) (hx : x < Top) (hy : y < Top) (hxy : ¬ x + y < Top) :
 Calls Tryz.prog 135 #[.bool s, .bool s', .slice A (limbs x).length c, .slice B (limbs y).length d, z] w (RetBad 2 w) := by
 have LA := Lib.hid hx; clear hx
 have LB := Lib.hid hy; clear hy
 have HXY := Lib.hid hxy; clear hxy
 have RA := Lib.hid h; clear h
 have RB := Lib.hid h'; clear h'
 obtain ⟨wa, hwa⟩ : ∃ wa, wa = w.alloc (.cells #[.bool false, .slice none 0 0, .slice none 0 0] 25) := ⟨_, rfl⟩
 obtain ⟨hbl, RES⟩ := sal1 hwa
 replace RA := hmR RA hbl
 replace RB := hmR RB hbl
 have HW := Lib.hid hbl; clear hbl
 go_enter Tryz.func135, Tryz.ntmps135
 go_wp2_with fail
 rw [← hwa]
 clear hwa
 refine (add_over A B c d x y _ RA.out RB.out LA.out LB.out HXY.out).mono ?_
 rintro e w1 ⟨va, rfl, hna, hbl⟩
 replace RA := hmR RA hbl
 replace RB := hmR RB hbl
 replace RES := hmB RES hbl
 replace HW := hmW HW hbl; clear hbl
 have HNa := Lib.hid hna; clear hna
 obtain ⟨Aa, ca, rfl, hca, hra⟩ := HNa.out.row
 have Ra := Lib.hid hra; have HCa := Lib.hid hca; clear hra hca
 go_wp2_with fail
 refine (must_pp _ 2 _ (by decide)).mono ?_
 rintro e w9 ⟨rfl, hbl⟩
 exact ⟨rfl, rfl, bel_trans HW.out hbl⟩

theorem sum_any {q : Q} (s s' : Bool) (A B E : Option Addr) (c d k : Nat) (x y den : Nat) (w : World) (h : RdL w A (limbs x)) (h' : RdL w B (limbs y)) (h3 : RdL w E (limbs den)) (hc : (limbs x).length ≤ c) (hc' : (limbs y).length ≤ d) (hc3 : (limbs den).length ≤ k) (hx : x < Top) (hy : y < Top) (hd : den < Top) (hd0 : den ≠ 0) (hxy : x + y < Top) (hq : sumQ s s' x y den = q) :
 Calls Tryz.prog 135 #[.bool s, .bool s', .slice A (limbs x).length c, .slice B (limbs y).length d, .slice E (limbs den).length k] w (RetQ q w) := by
 unfold sumQ at hq
 by_cases hs : s = s'
 · rw [if_pos hs] at hq
   subst hs
   exact sum_same s A B E c d k x y den w h h' h3 hc hc' hc3 hx hy hd hd0 hxy hq
 · rw [if_neg hs] at hq
   by_cases hl : x < y
   · rw [if_pos hl] at hq
     exact sum_lt s s' A B E c d k x y den w h h' h3 hc hc' hc3 hx hy hd hd0 hxy hs hl hq
   · rw [if_neg hl] at hq
     exact sum_ge s s' A B E c d k x y den w h h' h3 hc hc' hc3 hx hy hd hd0 hxy hs (Nat.le_of_not_lt hl) hq
end
end
end Go.Proofs.YtmbbdjpnecjleaaGreat
