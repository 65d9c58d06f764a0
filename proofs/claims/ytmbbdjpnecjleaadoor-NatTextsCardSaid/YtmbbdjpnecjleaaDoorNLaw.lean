/-
  few, is, alive of the laws of layer 1.
-/
import Derived.Test.YtmbbdjpnecjleaaDoorRText
namespace Go.Proofs.YtmbbdjpnecjleaaDoor
open Go.RowKit

/-- The first 18. -/
def few (xs : List Nat) : List Nat := xs.take 18
def RetFew (A : Option Addr) (cap : Nat) (xs : List Nat) (w : World) (e : Ending) (w' : World) : Prop := e = .returned (.slice A (few xs).length cap) ∧ w' = w

theorem few_len (xs : List Nat) : (few xs).length = min xs.length 18 := by unfold few; rw [List.length_take]; omega
theorem few_le (xs : List Nat) : (few xs).length ≤ 18 := by rw [few_len]; omega
theorem few_lim {xs : List Nat} (h : Lim xs) : Lim (few xs) := fun x hx => h x (List.mem_of_mem_take hx)

set_option maxHeartbeats 400000 in
theorem few_any (A : Option Addr) (cap : Nat) (xs : List Nat) (w : World) (hcap : xs.length ≤ cap) :
    Calls Tryd.prog 8 #[.slice A xs.length cap] w (RetFew A cap xs w) := by
  obtain ⟨n, hn⟩ : ∃ n, n = (few xs).length := ⟨_, rfl⟩
  have hn2 := few_len xs
  rw [← hn] at hn2
  have hmin : ∀ W, (Builtin.min_ #[3, 3] 3 #[.int .i64 (xs.length : Int), .int .i64 18]).run Tryd.prog W = .ok (.int .i64 (n : Int)) W := fun W => by
    rw [run_min_int2, hn2]
    congr 2
    omega
  obtain ⟨i0, hi, hz0, hz1, hz2⟩ := info_parts info_u32
  have hcut := fun W => run_cut_to (P := Tryd.prog) 23 59 i0 (by kernel_rfl) hi A xs.length cap n (by omega) W
  unfold RetFew
  rw [← hn]
  have HN := Lib.hid (And.intro hn (And.intro hn2 hi)); clear hn hn2 hi
  go_enter Tryd.func8, Tryd.ntmps8
  go_wp2
  go_ret
  exact ⟨rfl, rfl⟩

set_option maxHeartbeats 400000 in
theorem is_any (v : Value) (N : Nat) (c : Int) (w : World) (hv : RdN w v (fitN N)) (hc : c = fitC N) :
    Calls Tryd.prog 19 #[v, .int .i64 c, .string (dec N)] w (RetBB true w) := by
  obtain ⟨A, cap, rfl, hcap, hr⟩ := hv.row
  have R := Lib.hid hr; clear hr
  unfold fitN at R ⊢
  unfold fitC at hc
  by_cases hN : N < Top
  · rw [if_pos hN] at R hc ⊢
    subst hc
    have hl := limbs_len16 hN
    have ho : decide (Top ≤ N) = false := decide_eq_false (by omega)
    have HN := Lib.hid hN; clear hN
    have HO := Lib.hid ho; clear ho
    go_enter Tryd.func19, Tryd.ntmps19
    go_wp2_with fail
    refine (refOver_any N _).mono ?_
    rintro e w1 ⟨rfl, hb1⟩
    rw [HO.out]
    have HB1 := Lib.hid hb1; clear hb1
    go_wp2_with fail
    refine (right_any A cap (limbs N) _ (R.out.below HB1.out) (by omega)).mono ?_
    rintro e w2 ⟨rfl, n2, rfl⟩
    rw [rightL_limbs HN.out]
    go_wp2_with fail
    refine (refText_any A cap (limbs N) _ ((R.out.below HB1.out).drewN n2) (limbs_lim N) (by omega)).mono ?_
    rintro e w3 ⟨rfl, hb3⟩
    rw [lval_limbs]
    have HB3 := Lib.hid hb3; clear hb3
    go_wp2
    go_ret
    exact ⟨rfl, bel_trans HB1.out (bel_trans (bel_drewN (bel_refl _) _) HB3.out)⟩
  · rw [if_neg hN] at R hc ⊢
    subst hc
    have ho : decide (Top ≤ N) = true := decide_eq_true (by omega)
    have HO := Lib.hid ho; clear ho hN
    have e0 : (limbs 0).length = 0 := rfl
    rw [e0]
    go_enter Tryd.func19, Tryd.ntmps19
    go_wp2_with fail
    refine (refOver_any N _).mono ?_
    rintro e w1 ⟨rfl, hb1⟩
    rw [HO.out]
    have HB1 := Lib.hid hb1; clear hb1
    go_wp2
    go_ret
    exact ⟨rfl, HB1.out⟩

def aliveText : ByteArray := ⟨#[49, 48, 48, 48, 48, 48, 48, 48, 48, 48, 48]⟩
theorem alive_num : numOf 16 (codes aliveText) = 1099511627776 := by decide +kernel
theorem alive_odd : oddIn 16 (codes aliveText) = false := by decide +kernel
theorem alive_q : dec 109951162777 = ⟨#[49, 48, 57, 57, 53, 49, 49, 54, 50, 55, 55, 55]⟩ := by decide +kernel
theorem limbs_6 : limbs 6 = [6] := by decide +kernel
theorem small_top {n : Nat} (h : n < 18446744073709551616) : n < Top := Nat.lt_of_lt_of_le h (by
  show B32 ^ 2 ≤ B32 ^ 16
  exact Nat.pow_le_pow_right (by decide) (by decide))
theorem fit_small {n : Nat} (h : n < Top) : fitN n = n ∧ fitC n = 0 := by unfold fitN fitC; rw [if_pos h, if_pos h]; exact ⟨rfl, rfl⟩

set_option maxHeartbeats 1000000 in
theorem alive_any (w : World) (ht : Bases w) : Calls Tryd.prog 16 #[] w (RetBB true w) := by
  have T := Lib.hid ht; clear ht
  have hp := parse_ok aliveText 16 w (by decide) T.out (by decide) (by decide) (by decide) (by decide) alive_odd
  rw [alive_num, (fit_small (small_top (n := 1099511627776) (by decide))).1, (fit_small (small_top (n := 1099511627776) (by decide))).2] at hp
  have hp' : Calls Tryd.prog 10 #[.string ⟨#[49, 48, 48, 48, 48, 48, 48, 48, 48, 48, 48]⟩, .int .i64 16] w (RetNE 1099511627776 0 w) := hp
  have HP := Lib.hid hp'; clear hp hp'
  have ho : ∀ W, Calls Tryd.prog 11 #[.int .u64 10] W (RetN 10 W) := fun W => of_any 10 W (by decide)
  have HO := Lib.hid ho; clear ho
  go_enter Tryd.func16, Tryd.ntmps16
  go_wp2_with fail
  refine HP.out.mono ?_
  rintro e w1 ⟨v1, rfl, hn1, hb1⟩
  have HN1 := Lib.hid hn1; clear hn1
  have HB1 := Lib.hid hb1; clear hb1
  go_wp2_with fail
  refine (HO.out _).mono ?_
  rintro e w2 ⟨v2, rfl, hn2, hb2⟩
  have HB2 := Lib.hid hb2; clear hb2
  obtain ⟨A1, c1, rfl, hc1, hr1⟩ := (HN1.out.below HB2.out).row
  obtain ⟨A2, c2, rfl, hc2, hr2⟩ := hn2.row
  have R1 := Lib.hid hr1; clear hr1 hc1
  have R2 := Lib.hid hr2; clear hr2 hc2 hn2
  go_wp2_with fail
  have hd := div_right A1 A2 c1 c2 1099511627776 10 w2 R1.out R2.out (small_top (by decide)) (small_top (by decide)) (by decide)
  rw [show 1099511627776 / 10 = 109951162777 from rfl, show 1099511627776 % 10 = 6 from rfl] at hd
  refine hd.mono ?_
  rintro e w3 ⟨v3, v4, rfl, hn3, hn4, hb3⟩
  clear hd
  obtain ⟨A3, c3, rfl, hc3, hr3⟩ := hn3.row
  have R3 := Lib.hid hr3; clear hr3 hc3 hn3
  have HN4 := Lib.hid hn4; clear hn4
  have HB3 := Lib.hid hb3; clear hb3
  go_wp2_with fail
  refine (text_right A3 c3 109951162777 _ R3.out (small_top (by decide))).mono ?_
  rintro e w5 ⟨rfl, hb5⟩
  rw [alive_q]
  have HB5 := Lib.hid hb5; clear hb5
  obtain ⟨A4, c4, rfl, hc4, hr4⟩ := (HN4.out.below HB5.out).row
  rw [limbs_6] at hr4 ⊢
  obtain ⟨g, off, rfl, hg, hcell⟩ := hr4.at_ (k := 0) (by decide)
  have hcell' : w5.cell? ⟨g, off, none⟩ = some (.int .u32 6) := hcell
  clear hcell hr4 hc4
  go_wp2
  go_ret
  exact ⟨rfl, bel_trans HB1.out (bel_trans HB2.out (bel_trans HB3.out HB5.out))⟩

/-! The same contracts, with a world that is only said to have kept what was there. -/
def RetT (w : World) (e : Ending) (w' : World) : Prop := e = .returned (.bool true) ∧ Below w.heap.size w w'
def RetIEB (i c : Int) (w : World) (e : Ending) (w' : World) : Prop := e = .returned (.tuple #[.int .i64 i, .int .i64 c]) ∧ Below w.heap.size w w'
def RetIB (i : Int) (w : World) (e : Ending) (w' : World) : Prop := e = .returned (.int .i64 i) ∧ Below w.heap.size w w'
theorem RetBD.bb {b : Bool} {w w' : World} {e : Ending} (h : RetBD b w e w') : RetBB b w e w' := by
  obtain ⟨rfl, n, rfl⟩ := h
  exact ⟨rfl, bel_drewN (bel_refl _) _⟩
theorem right_bb (A : Option Addr) (cap : Nat) (xs : List Nat) (w : World) (h : RdL w A xs) (hl : xs.length ≤ 18) : Calls Tryd.prog 12 #[.slice A xs.length cap] w (RetBB (rightL xs) w) :=
  (right_any A cap xs w h (by omega)).mono fun _ _ => RetBD.bb
theorem refRight_bb (A : Option Addr) (cap : Nat) (xs : List Nat) (w : World) (h : RdL w A xs) (hl : xs.length ≤ 18) : Calls Tryd.prog 17 #[.slice A xs.length cap] w (RetBB (rightL xs) w) :=
  (refRight_any A cap xs w h (by omega)).mono fun _ _ => RetBD.bb
theorem same_bb (A A' : Option Addr) (cap cap' : Nat) (xs ys : List Nat) (w : World) (h : RdL w A xs) (h' : RdL w A' ys) (hl : xs.length ≤ 18) : Calls Tryd.prog 30 #[.slice A xs.length cap, .slice A' ys.length cap'] w (RetBB (decide (xs = ys)) w) :=
  (same_any A A' cap cap' xs ys w h h' (by omega)).mono fun _ _ => RetBD.bb
theorem refCmp_bb (a b : Nat) (w : World) : Calls Tryd.prog 24 #[.string (dec a), .string (dec b)] w (RetIB (cmpI a b) w) :=
  (refCmp_any a b w).mono fun _ _ h => by
    obtain ⟨rfl, n, rfl⟩ := h
    exact ⟨rfl, bel_drewN (bel_refl _) _⟩
theorem syntax_bb (s : ByteArray) (b : Nat) (w : World) (hl : s.size ≤ 1000) : Calls Tryd.prog 18 #[.string s, .int .i64 b] w (RetBB (!oddIn b (codes s) && decide (0 < s.size)) w) :=
  (syntax_any s b w (by omega)).mono fun _ _ => RetBD.bb
theorem cmp_wrong (A A' : Option Addr) (cap cap' : Nat) (xs ys : List Nat) (w : World) (h : RdL w A xs) (h' : RdL w A' ys) (hx : Lim xs) (hy : Lim ys) (hl : xs.length ≤ 18) (hl' : ys.length ≤ 18) (hr : (rightL xs && rightL ys) = false) :
    Calls Tryd.prog 31 #[.slice A xs.length cap, .slice A' ys.length cap'] w (RetIEB 0 1 w) := by
  have hc := cmp_any A A' cap cap' xs ys w h h' hx hy (by omega) (by omega)
  rw [if_neg (by rw [hr]; simp)] at hc
  exact hc.mono fun _ _ h => by
    obtain ⟨rfl, n, rfl⟩ := h
    exact ⟨rfl, bel_drewN (bel_refl _) _⟩
theorem len18 {n : Nat} (h : n < Top) : (limbs n).length ≤ 18 := by have := limbs_len16 h; omega
theorem cmp_num (A A' : Option Addr) (cap cap' : Nat) (a b : Nat) (w : World) (h : RdL w A (limbs a)) (h' : RdL w A' (limbs b)) (ha : a < Top) (hb : b < Top) :
    Calls Tryd.prog 31 #[.slice A (limbs a).length cap, .slice A' (limbs b).length cap'] w (RetIEB (cmpI a b) 0 w) := by
  have hc := cmp_any A A' cap cap' (limbs a) (limbs b) w h h' (limbs_lim a) (limbs_lim b) (by have := len18 ha; omega) (by have := len18 hb; omega)
  rw [if_pos (by rw [rightL_limbs ha, rightL_limbs hb]; rfl), lval_limbs, lval_limbs] at hc
  exact hc.mono fun _ _ h => by
    obtain ⟨rfl, n, rfl⟩ := h
    exact ⟨rfl, bel_drewN (bel_refl _) _⟩
theorem add_num (A A' : Option Addr) (cap cap' : Nat) (a b : Nat) (w : World) (h : RdL w A (limbs a)) (h' : RdL w A' (limbs b)) (ha : a < Top) (hb : b < Top) :
    Calls Tryd.prog 28 #[.slice A (limbs a).length cap, .slice A' (limbs b).length cap'] w (RetNE (fitN (a + b)) (fitC (a + b)) w) := by
  have hc := add_right A A' cap cap' (limbs a) (limbs b) w h h' (limbs_lim a) (limbs_lim b) (rightL_limbs ha) (rightL_limbs hb) (limbs_len16 ha) (limbs_len16 hb)
  rwa [lval_limbs, lval_limbs] at hc
theorem sub_num (A A' : Option Addr) (cap cap' : Nat) (a b : Nat) (w : World) (h : RdL w A (limbs a)) (h' : RdL w A' (limbs b)) (ha : a < Top) (hb : b < Top) :
    Calls Tryd.prog 32 #[.slice A (limbs a).length cap, .slice A' (limbs b).length cap'] w (RetNE (a - b) (subC a b) w) := by
  have hc := sub_right A A' cap cap' (limbs a) (limbs b) w h h' (limbs_lim a) (limbs_lim b) (rightL_limbs ha) (rightL_limbs hb) (limbs_len16 ha) (limbs_len16 hb)
  rwa [lval_limbs, lval_limbs] at hc
theorem mul_num (A A' : Option Addr) (cap cap' : Nat) (a b : Nat) (w : World) (h : RdL w A (limbs a)) (h' : RdL w A' (limbs b)) (ha : a < Top) (hb : b < Top) :
    Calls Tryd.prog 29 #[.slice A (limbs a).length cap, .slice A' (limbs b).length cap'] w (RetNE (fitN (a * b)) (fitC (a * b)) w) := by
  have hc := mul_right A A' cap cap' (limbs a) (limbs b) w h h' (limbs_lim a) (limbs_lim b) (rightL_limbs ha) (rightL_limbs hb) (limbs_len16 ha) (limbs_len16 hb)
  rwa [lval_limbs, lval_limbs] at hc
theorem bits_num (A : Option Addr) (cap : Nat) (a : Nat) (w : World) (h : RdL w A (limbs a)) (ha : a < Top) :
    Calls Tryd.prog 23 #[.slice A (limbs a).length cap] w (RetIEB (nbits a) 0 w) := by
  have hc := bits_any A cap (limbs a) w h (limbs_lim a) (len18 ha)
  rw [if_pos (rightL_limbs ha), lval_limbs] at hc
  exact hc.mono fun _ _ h => by
    obtain ⟨rfl, n, rfl⟩ := h
    exact ⟨rfl, bel_drewN (bel_refl _) _⟩
theorem bits_wrong (A : Option Addr) (cap : Nat) (xs : List Nat) (w : World) (h : RdL w A xs) (hx : Lim xs) (hl : xs.length ≤ 18) (hr : rightL xs = false) :
    Calls Tryd.prog 23 #[.slice A xs.length cap] w (RetIEB 0 1 w) := by
  have hc := bits_any A cap xs w h hx hl
  rw [if_neg (by rw [hr]; simp)] at hc
  exact hc.mono fun _ _ h => by
    obtain ⟨rfl, n, rfl⟩ := h
    exact ⟨rfl, bel_drewN (bel_refl _) _⟩
theorem text_num (A : Option Addr) (cap : Nat) (a : Nat) (w : World) (h : RdL w A (limbs a)) (ha : a < Top) :
    Calls Tryd.prog 13 #[.slice A (limbs a).length cap] w (RetS (dec a) w) := by
  have hc := refText_any A cap (limbs a) w h (limbs_lim a) (len18 ha)
  rwa [lval_limbs] at hc
theorem rightR {a : Nat} (h : a < Top) (A : Option Addr) (cap : Nat) (w : World) (hr : RdL w A (limbs a)) : Calls Tryd.prog 12 #[.slice A (limbs a).length cap] w (RetBB true w) := by
  have hc := right_bb A cap (limbs a) w hr (len18 h)
  rwa [rightL_limbs h] at hc
theorem refRightR {a : Nat} (h : a < Top) (A : Option Addr) (cap : Nat) (w : World) (hr : RdL w A (limbs a)) : Calls Tryd.prog 17 #[.slice A (limbs a).length cap] w (RetBB true w) := by
  have hc := refRight_bb A cap (limbs a) w hr (len18 h)
  rwa [rightL_limbs h] at hc
theorem few_is (A : Option Addr) (cap : Nat) (x0 xs : List Nat) (w : World) (hcap : x0.length ≤ cap) (h : few x0 = xs) : Calls Tryd.prog 8 #[.slice A x0.length cap] w (fun e w' => e = .returned (.slice A xs.length cap) ∧ Below w.heap.size w w') := by
  subst h
  exact (few_any A cap x0 w hcap).mono fun _ _ h => by
    obtain ⟨rfl, rfl⟩ := h
    exact ⟨rfl, bel_refl _⟩
/-- A number that may be is the limbs of one below 2^512. -/
theorem right_num {xs : List Nat} (hx : Lim xs) (h : rightL xs = true) : ∃ n, xs = limbs n ∧ n < Top := by
  obtain ⟨a, b⟩ := (rightL_iff hx).1 h
  exact ⟨lval xs, a.symm, b⟩
theorem div_neg {xs ys : List Nat} (h : (rightL xs && rightL ys) = false) : rightL xs = false ∨ (rightL xs = true ∧ rightL ys = false) := by
  cases h1 : rightL xs
  · exact .inl rfl
  · rw [h1, Bool.true_and] at h
    exact .inr ⟨rfl, h⟩
theorem limbs0 : (limbs 0).length = 0 := rfl
end Go.Proofs.YtmbbdjpnecjleaaDoor
