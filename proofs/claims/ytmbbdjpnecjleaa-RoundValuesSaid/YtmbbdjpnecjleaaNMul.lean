/-
  Mul, walked.
-/
import Derived.Test.YtmbbdjpnecjleaaNUp
namespace Go.Proofs.Ytmbbdjpnecjleaa
set_option maxRecDepth 100000
open Go.RowKit

def limbV (x : Nat) : Value := .int .u32 (x : Int)
theorem limbV_eq (x : Nat) : limbV x = .int .u32 (x : Int) := rfl

theorem lval_set {u : List Nat} {j : Nat} (v : Nat) (h : j < u.length) : lval (u.set j v) + B32 ^ j * u.getD j 0 = lval u + B32 ^ j * v := by
  induction u generalizing j with
  | nil => simp at h
  | cons y r ih =>
    cases j with
    | zero => simp only [List.set_cons_zero, lval, val, Nat.pow_zero, Nat.one_mul, List.getD_cons_zero]; omega
    | succ j =>
      have hj : j < r.length := by simpa using h
      have := ih hj
      unfold lval at this
      simp only [List.set_cons_succ, lval, val, List.getD_cons_succ, Nat.pow_succ]
      rw [Nat.mul_comm (B32 ^ j) B32, Nat.mul_assoc, Nat.mul_assoc, Nat.add_assoc, Nat.add_assoc, ← Nat.mul_add, ← Nat.mul_add, this]
theorem Lim.set {u : List Nat} (h : Lim u) (j : Nat) {v : Nat} (hv : v < B32) : Lim (u.set j v) := by
  intro x hx
  rcases List.mem_or_eq_of_mem_set hx with hx | rfl
  · exact h x hx
  · exact hv
theorem getD_set_far {u : List Nat} {j k : Nat} (v : Nat) (h : j ≠ k) : (u.set j v).getD k 0 = u.getD k 0 := by
  rw [List.getD_eq_getElem?_getD, List.getD_eq_getElem?_getD, List.getElem?_set_ne h]

/-- The product so far: the outer loop. -/
structure MulO (w wr : World) (g : Nat) (xs ys : List Nat) (i : Nat) (u : List Nat) : Prop where
  old : Below w.heap.size w wr
  blk : Blk wr g 80 (arr limbV u)
  new : w.heap.size ≤ g
  len : u.length = xs.length + ys.length
  lim : Lim u
  sum : lval u = lval (xs.take i) * lval ys
  high : ∀ j, i + ys.length ≤ j → u.getD j 0 = 0
/-- .. and the inner one. -/
structure MulI (w wr : World) (g : Nat) (xs ys : List Nat) (i x k c : Nat) (u : List Nat) : Prop where
  old : Below w.heap.size w wr
  blk : Blk wr g 80 (arr limbV u)
  new : w.heap.size ≤ g
  len : u.length = xs.length + ys.length
  lim : Lim u
  carry : c < B32
  sum : lval u + B32 ^ (i + k) * (c + x * lval (ys.drop k)) = lval (xs.take i) * lval ys + B32 ^ i * (x * lval ys)
  high : ∀ j, i + ys.length ≤ j → u.getD j 0 = 0

theorem mul_alg (P B lu lu' x y o c D R t q m : Nat) (ht : t = c + (x * y + o)) (hq : m + B * q = t) (hs : lu' + P * o = lu + P * m) (h : lu + P * (c + x * (y + B * D)) = R) :
    lu' + P * B * (q + x * D) = R := by
  have h1 : P * (c + x * (y + B * D)) + P * o = P * t + P * B * (x * D) := by
    subst ht
    have e : x * (B * D) = B * (x * D) := Nat.mul_left_comm x B D
    simp only [Nat.mul_add, e, Nat.mul_assoc]
    omega
  have h2 : P * m + P * B * q = P * t := by rw [← hq, Nat.mul_add, Nat.mul_assoc]
  rw [Nat.mul_add]
  omega

theorem MulI.step {w wr w' : World} {g : Nat} {xs ys u : List Nat} {i x k c y o t : Nat} (h : MulI w wr g xs ys i x k c u) (hi : i < xs.length) (hk : k < ys.length) (hy : y = ys.getD k 0) (ho : o = u.getD (i + k) 0)
    (ht : t = c + (x * y + o)) (hc : t / B32 < B32) (hold : Below w.heap.size w w') (hblk : Blk w' g 80 (arr limbV (u.set (i + k) (t % B32)))) :
    MulI w w' g xs ys i x (k + 1) (t / B32) (u.set (i + k) (t % B32)) := by
  refine ⟨hold, hblk, h.new, by rw [List.length_set]; exact h.len, h.lim.set _ (Nat.mod_lt _ (by decide)), hc, ?_, fun j hj => by rw [getD_set_far _ (by omega)]; exact h.high j hj⟩
  have hs := lval_set (u := u) (j := i + k) (t % B32) (by rw [h.len]; omega)
  rw [← ho] at hs
  have hd := h.sum
  rw [lval_drop ys k, ← hy] at hd
  rw [← Nat.add_assoc, Nat.pow_succ]
  exact mul_alg _ _ _ _ _ _ _ _ _ _ _ _ _ ht (Nat.mod_add_div t B32) hs hd
theorem MulI.done {w wr w' : World} {g : Nat} {xs ys u : List Nat} {i x c : Nat} (h : MulI w wr g xs ys i x ys.length c u) (hi : i < xs.length) (hx : x = xs.getD i 0)
    (hold : Below w.heap.size w w') (hblk : Blk w' g 80 (arr limbV (u.set (i + ys.length) c))) : MulO w w' g xs ys (i + 1) (u.set (i + ys.length) c) := by
  refine ⟨hold, hblk, h.new, by rw [List.length_set]; exact h.len, h.lim.set _ h.carry, ?_, fun j hj => by rw [getD_set_far _ (by omega)]; exact h.high j (by omega)⟩
  have hs := lval_set (u := u) (j := i + ys.length) c (by rw [h.len]; omega)
  rw [h.high _ (Nat.le_refl _), Nat.mul_zero, Nat.add_zero] at hs
  have hd := h.sum
  rw [List.drop_length] at hd
  have hz : lval [] = 0 := rfl
  rw [hz, Nat.mul_zero, Nat.add_zero] at hd
  rw [hs, hd, lval_take_succ', ← hx, Nat.add_mul, Nat.mul_assoc]

theorem mul_bound {x y o c : Nat} (hx : x < 4294967296) (hy : y < 4294967296) (ho : o < 4294967296) (hc : c < 4294967296) : c + (x * y + o) < 18446744073709551616 := by
  have h1 : x * y ≤ 4294967295 * 4294967295 := Nat.mul_le_mul (by omega) (by omega)
  omega

set_option maxRecDepth 100000 in
set_option maxHeartbeats 1000000 in
theorem mul_right (A A' : Option Addr) (cap cap' : Nat) (xs ys : List Nat) (w : World) (h : RdL w A xs) (h' : RdL w A' ys) (hx : Lim xs) (hy : Lim ys) (hr : rightL xs = true) (hr' : rightL ys = true) (hl : xs.length ≤ 16) (hl' : ys.length ≤ 16) :
    Calls Try.prog 66 #[.slice A xs.length cap, .slice A' ys.length cap'] w (RetNE (fitN (lval xs * lval ys)) (fitC (lval xs * lval ys)) w) := by
  have H := Lib.hid h; clear h
  have H' := Lib.hid h'; clear h'
  have HX := Lib.hid hx; clear hx
  have HY := Lib.hid hy; clear hy
  obtain ⟨n, hn⟩ : ∃ n, n = xs.length + ys.length := ⟨_, rfl⟩
  have hsum : IntKind.i64.wrap ((xs.length : Int) + (ys.length : Int)) = (n : Int) := by rw [IntKind.wrap_i64]; omega
  have hmk := fun W => run_mk (P := Try.prog) limbV 0 23 80 4 (by kernel_rfl) info_u32 rfl n (by omega) (by omega) W
  have HN := Lib.hid hn; clear hn
  go_enter Try.func66, Try.ntmps66
  go_wp2_with fail
  refine (both_any A A' cap cap' xs ys _ H.out H'.out (by omega) (by omega)).mono ?_
  rintro e w1 ⟨rfl, m, rfl⟩
  rw [hr, hr']
  have HR := Lib.hid hr; clear hr
  have HR' := Lib.hid hr'; clear hr'
  go_wp2
  go_loopw [24] (fun i wr => ∃ (k : Nat) (u : List Nat), i = .int .i64 (k : Int) ∧ k ≤ xs.length ∧ MulO w wr w.heap.size xs ys k u) (fun i _ => xs.length - (intOf i).toNat)
  case atStart =>
    refine ⟨0, List.replicate n 0, rfl, Nat.zero_le _, bel_alloc (bel_drewN (bel_refl _) _) _, Blk.new (w.drewN m) _ _, Nat.le_refl _, by rw [List.length_replicate, HN.out], ?_, ?_, ?_⟩
    · intro x hx; rw [List.eq_of_mem_replicate hx]; decide
    · rw [List.take_zero]
      show val _ _ = val _ [] * _
      rw [val_zeros _ _ (fun x hx => List.eq_of_mem_replicate hx)]
      simp [val]
    · intro j _
      rw [List.getD_eq_getElem?_getD, List.getElem?_replicate]
      split <;> rfl
  case round =>
    obtain ⟨i, u, rfl, hi, hrel⟩ := hrel
    have HA := Lib.hid hrel; clear hrel
    by_cases hlt : i < xs.length
    · have hlt' : (i : Int) < (xs.length : Int) := by omega
      have RX := Lib.hid (H.out.below HA.out.old)
      obtain ⟨g, off, rfl, hg, hcell⟩ := RX.out.at_ hlt
      obtain ⟨x, hx⟩ : ∃ x, x = xs.getD i 0 := ⟨_, rfl⟩
      have hx1 := HX.out.get i
      rw [← hx] at hx1 hcell
      have Ex := Lib.hid hx; clear hx
      have sx : IntKind.u64.wrap (x : Int) = (x : Int) := by rw [IntKind.wrap_u64]; omega
      have HX1 := Lib.hid hx1; clear hx1
      have HI : Hid (MulI w wr w.heap.size xs ys i x 0 0 u) := ⟨HA.out.old, HA.out.blk, HA.out.new, HA.out.len, HA.out.lim, by decide, by rw [HA.out.sum, List.drop_zero]; simp, HA.out.high⟩
      go_wp2
      go_loopw [9, 31] (fun cv j wj => ∃ (k c : Nat) (u : List Nat), j = .int .i64 (k : Int) ∧ cv = .int .u64 (c : Int) ∧ k ≤ ys.length ∧ MulI w wj w.heap.size xs ys i x k c u) (fun _ j _ => ys.length - (intOf j).toNat)
      case atStart => exact ⟨0, 0, u, rfl, rfl, Nat.zero_le _, HI.out⟩
      case round =>
        obtain ⟨k, c, v, rfl, rfl, hk, hin⟩ := hrel
        have HJ := Lib.hid hin; clear hin
        clear hcell
        by_cases hkl : k < ys.length
        · have hkl' : (k : Int) < (ys.length : Int) := by omega
          have RY := Lib.hid (H'.out.below HJ.out.old)
          obtain ⟨g', off', rfl, hg', hcell'⟩ := RY.out.at_ hkl
          obtain ⟨y, hy⟩ : ∃ y, y = ys.getD k 0 := ⟨_, rfl⟩
          have hy1 := HY.out.get k
          rw [← hy] at hy1 hcell'
          have Ey := Lib.hid hy; clear hy
          obtain ⟨j, hj⟩ : ∃ j, j = i + k := ⟨_, rfl⟩
          have hjn : j < n := by rw [hj, HN.out]; omega
          have hcj := HJ.out.blk.at_ 0 (k := j) (by rw [HJ.out.len, ← HN.out]; exact hjn)
          obtain ⟨o, ho⟩ : ∃ o, o = v.getD j 0 := ⟨_, rfl⟩
          have ho1 := HJ.out.lim.get j
          rw [← ho] at hcj ho1
          rw [limbV_eq] at hcj
          have hfz : wr.frozen? ⟨w.heap.size, j, none⟩ = false := HJ.out.blk.frozen j
          have hc1 := HJ.out.carry
          rw [B32_eq] at hc1
          have hx1 := HX1.out
          have hbd := mul_bound hx1 hy1 ho1 hc1
          obtain ⟨p, hp⟩ : ∃ p : Nat, p = x * y := ⟨_, rfl⟩
          rw [← hp] at hbd
          obtain ⟨q, hq⟩ : ∃ q : Nat, q = p + o := ⟨_, rfl⟩
          obtain ⟨t, ht⟩ : ∃ t : Nat, t = c + q := ⟨_, rfl⟩
          obtain ⟨l, hl3⟩ : ∃ l, l = t % 4294967296 := ⟨_, rfl⟩
          obtain ⟨c', hc'⟩ : ∃ c', c' = t / 4294967296 := ⟨_, rfl⟩
          have sij : IntKind.i64.wrap ((i : Int) + (k : Int)) = (j : Int) := by rw [IntKind.wrap_i64]; omega
          have sjn : (j : Int) < (n : Int) := by omega
          have sy : IntKind.u64.wrap (y : Int) = (y : Int) := by rw [IntKind.wrap_u64]; omega
          have so : IntKind.u64.wrap (o : Int) = (o : Int) := by rw [IntKind.wrap_u64]; omega
          have s1 : IntKind.u64.wrap ((x : Int) * (y : Int)) = (p : Int) := by rw [IntKind.wrap_u64, ← Int.natCast_mul, ← hp]; omega
          have s2 : IntKind.u64.wrap ((p : Int) + (o : Int)) = (q : Int) := by rw [IntKind.wrap_u64]; omega
          have s3 : IntKind.u64.wrap ((c : Int) + (q : Int)) = (t : Int) := by rw [IntKind.wrap_u64]; omega
          have s4 : IntKind.u32.wrap (t : Int) = (l : Int) := by rw [IntKind.wrap_u32', hl3]; omega
          have s5 : (t : Int) / 4294967296 = (c' : Int) := by rw [hc']; omega
          have hcc : c' < 4294967296 := by omega
          have HS := Lib.hid (And.intro hp (And.intro hq (And.intro ht (And.intro hl3 (And.intro hc' (And.intro hcc (And.intro hj ho))))))); clear hp hq ht hcc hl3 hc' hx1 hc1 hbd hy1 ho1 ho hj hjn
          go_wp2
          go_roundw
          case rel =>
            obtain ⟨hp, hq, ht, hl3, hc', hcc, hj, ho⟩ := HS.out
            subst hc' hl3
            rw [hj] at ho
            refine ⟨k + 1, t / 4294967296, v.set j (t % 4294967296), by go_num, rfl, by omega, ?_⟩
            have e2 := hj
            subst e2
            exact HJ.out.step hlt hkl Ey.out ho (by omega) hcc (HJ.out.old.setCell HJ.out.new _) (HJ.out.blk.set_ _ _)
          case measure => simp [intOf]; omega
        · have hke : k = ys.length := by omega
          subst hke
          obtain ⟨j, hj⟩ : ∃ j, j = i + ys.length := ⟨_, rfl⟩
          have hjn : j < n := by rw [hj, HN.out]; omega
          have hfz : wr.frozen? ⟨w.heap.size, j, none⟩ = false := HJ.out.blk.frozen j
          have hcj := HJ.out.blk.at_ 0 (k := j) (by rw [HJ.out.len, ← HN.out]; exact hjn)
          rw [limbV_eq] at hcj
          have sij : IntKind.i64.wrap ((i : Int) + (ys.length : Int)) = (j : Int) := by rw [IntKind.wrap_i64]; omega
          have sjn : (j : Int) < (n : Int) := by omega
          have hc1 := HJ.out.carry
          rw [B32_eq] at hc1
          have s4 : IntKind.u32.wrap (c : Int) = (c : Int) := by rw [IntKind.wrap_u32']; omega
          have HS := Lib.hid (And.intro hj hc1); clear hj hjn hc1
          go_wp2
          go_roundw
          case rel =>
            obtain ⟨hj, hc1⟩ := HS.out
            refine ⟨i + 1, v.set j c, by go_num, by omega, ?_⟩
            subst hj
            exact HJ.out.done hlt Ex.out (HJ.out.old.setCell HJ.out.new _) (HJ.out.blk.set_ _ _)
          case measure => simp [intOf]; omega
    · have hie : i = xs.length := by omega
      subst hie
      have hdone : Hid (lval u = lval xs * lval ys) := by
        show lval u = _
        rw [HA.out.sum, List.take_length]
      have hun : Hid (u.length = n) := by rw [HA.out.len, HN.out]; exact rfl
      have R9 : Hid (RdL wr (some ⟨w.heap.size, 0, none⟩) u) := HA.out.blk.rd 0 _ (Nat.le_refl _)
      go_wp2_with fail
      have hf := fits_any (some ⟨w.heap.size, 0, none⟩) n u _ R9.out HA.out.lim (by rw [hun.out]; exact Nat.le_refl _) (by rw [hun.out, HN.out]; omega)
      rw [hun.out, hdone.out] at hf
      refine hf.mono ?_
      rintro e w2 ⟨v2, rfl, hn2, hb2⟩
      have HN2 := Lib.hid hn2; clear hn2
      have HB2 := Lib.hid hb2; clear hb2
      go_wp2
      go_ret2
      exact ⟨_, rfl, HN2.out, bel_trans HA.out.old HB2.out⟩

set_option maxHeartbeats 400000 in
theorem mul_wrong (A A' : Option Addr) (cap cap' : Nat) (xs ys : List Nat) (w : World) (h : RdL w A xs) (h' : RdL w A' ys) (hl : xs.length ≤ 4611686018427387900) (hl' : ys.length ≤ 4611686018427387900) (hr : (rightL xs && rightL ys) = false) :
    Calls Try.prog 66 #[.slice A xs.length cap, .slice A' ys.length cap'] w (RetNE 0 1 w) := by
  have H := Lib.hid h; clear h
  have H' := Lib.hid h'; clear h'
  go_enter Try.func66, Try.ntmps66
  go_wp2_with fail
  refine (both_any A A' cap cap' xs ys _ H.out H'.out hl hl').mono ?_
  rintro e w1 ⟨rfl, n, rfl⟩
  rw [hr]
  go_wp2
  go_ret2
  exact ⟨_, rfl, RdN.zero, bel_drewN (bel_refl _) _⟩
end Go.Proofs.Ytmbbdjpnecjleaa
