/-
 Parts: NSmall NUp NMul NDiv Shelf.
-/
import Derived.Test.YtmbbdjpnecjleaaGreatH03
import Derived.RegionTactic
import Derived.Shelf.Small.Bits
import Derived.Shelf.Small.Wraps
import Derived.Shelf.Slices.Turned
import Derived.Ground.Names2Prog
import Derived.Shelf.Slices.SearchI
import Derived.Test.YtmbbdjpnecjleaaGreatProg
namespace Go.Proofs.YtmbbdjpnecjleaaGreat
section
set_option maxRecDepth 100000
set_option maxHeartbeats 1000000
open Go.RowKit

structure SmRel (w wr : World) (xs : List Nat) (b d : Nat) (v : Value) (k c : Nat) (out : List Nat) : Prop where
 row : OutL w wr v out
 len : out.length = k
 carry : c < B32
 sum : lval out + B32 ^ k * (c + b * lval (xs.drop k)) = b * lval xs + d

theorem SmRel.step {w wr w' : World} {xs out : List Nat} {b d : Nat} {v v' : Value} {k c x : Nat} (h : SmRel w wr xs b d v k c out) (hx : x = xs.getD k 0)
 (hc' : (c + x * b) / B32 < B32) (ho : OutL w w' v' (out ++ [(c + x * b) % B32])) : SmRel w w' xs b d v' (k + 1) ((c + x * b) / B32) (out ++ [(c + x * b) % B32]) := by
 refine ⟨ho, by rw [List.length_append, h.len]; rfl, hc', ?_⟩
 rw [lval_snoc, h.len, Nat.add_assoc, Nat.pow_succ, carry_step, ← h.sum, lval_drop xs k, ← hx, Nat.mul_add b, Nat.mul_comm b x, Nat.mul_left_comm b B32, Nat.add_assoc c]
theorem SmRel.done {w wr : World} {xs out : List Nat} {b d : Nat} {v : Value} {k c : Nat} (h : SmRel w wr xs b d v k c out) (hk : k = xs.length) : lval (out ++ [c]) = b * lval xs + d := by
 rw [lval_snoc, h.len, ← h.sum, hk, List.drop_length]
 simp [lval, val]

end
end Go.Proofs.YtmbbdjpnecjleaaGreat
namespace Go.Proofs.YtmbbdjpnecjleaaGreat
section
set_option maxRecDepth 100000
set_option maxHeartbeats 1000000
open Go.RowKit

theorem or_bit (p c : Nat) (hc : c ≤ 1) (hp : p < 4294967296) (h2 : p % 2 = 0) : bits BinOp.or IntKind.u32 (p : Int) (c : Int) = ((p + c : Nat) : Int) := by
 rw [u32_or_nat p c hp (by omega)]
 have h := Nat.two_pow_add_eq_or_of_lt (i := 1) (b := c) (by omega) (p / 2)
 rw [show 2 ^ 1 * (p / 2) = p by omega] at h
 rw [← h]

structure UpRel (w wr : World) (xs : List Nat) (d : Nat) (v : Value) (k c : Nat) (out : List Nat) : Prop where
 row : OutL w wr v out
 len : out.length = k
 carry : c ≤ 1
 sum : lval out + B32 ^ k * (c + 2 * lval (xs.drop k)) = 2 * lval xs + d

theorem UpRel.step {w wr w' : World} {xs out : List Nat} {d : Nat} {v v' : Value} {k c x : Nat} (h : UpRel w wr xs d v k c out) (hx : x = xs.getD k 0)
 (hc' : (c + x * 2) / B32 ≤ 1) (ho : OutL w w' v' (out ++ [(c + x * 2) % B32])) : UpRel w w' xs d v' (k + 1) ((c + x * 2) / B32) (out ++ [(c + x * 2) % B32]) := by
 refine ⟨ho, by rw [List.length_append, h.len]; rfl, hc', ?_⟩
 rw [lval_snoc, h.len, Nat.add_assoc, Nat.pow_succ, carry_step, ← h.sum, lval_drop xs k, ← hx, Nat.mul_add 2, Nat.mul_comm 2 x, Nat.mul_left_comm 2 B32, Nat.add_assoc c]
theorem UpRel.done {w wr : World} {xs out : List Nat} {d : Nat} {v : Value} {k c : Nat} (h : UpRel w wr xs d v k c out) (hk : k = xs.length) : lval (out ++ [c]) = 2 * lval xs + d := by
 rw [lval_snoc, h.len, ← h.sum, hk, List.drop_length]
 simp [lval, val]

theorem up_any (A : Option Addr) (cap : Nat) (xs : List Nat) (d : Nat) (w : World) (h : RdL w A xs) (hx : Lim xs) (hl : xs.length ≤ 18) (hd : d ≤ 1) :
 Calls Tryz.prog 149 #[.slice A xs.length cap, .int .u32 d] w (RetF w.heap.size (2 * lval xs + d) w) := by
 have H := Lib.hid h; clear h
 have HX := Lib.hid hx; clear hx
 have HD := Lib.hid hd; clear hd
 go_enter Tryz.func149, Tryz.ntmps149
 go_wp2
 go_loopw [1, 5, 7, 10] (fun cv v _ i wr => ∃ (k c : Nat) (out : List Nat), i = .int .i64 (k : Int) ∧ cv = .int .u32 (c : Int) ∧ k ≤ xs.length ∧ UpRel w wr xs d v k c out) (fun _ _ _ i _ => xs.length - (intOf i).toNat)
 case atStart => exact ⟨0, d, [], rfl, rfl, by omega, OutL.start w (bel_refl _), rfl, HD.out, by simp [lval, val, Nat.add_comm]⟩
 case round =>
  obtain ⟨k, c, out, rfl, rfl, hk, hrel⟩ := hrel
  have HA := Lib.hid hrel; clear hrel
  by_cases hlt : k < xs.length
  · have hlt' : (k : Int) < (xs.length : Int) := by omega
    have RX := Lib.hid (H.out.below HA.out.row.old)
    obtain ⟨g, off, rfl, hg, hcell⟩ := RX.out.at_ hlt
    obtain ⟨x, hx⟩ : ∃ x, x = xs.getD k 0 := ⟨_, rfl⟩
    have hx1 := HX.out.get k
    rw [← hx] at hx1 hcell
    have Ex := Lib.hid hx; clear hx
    have hc1 := HA.out.carry
    have hk16 : out.length ≤ 18 := by have := HA.out.len; omega
    obtain ⟨l, hl3⟩ : ∃ l, l = (c + x * 2) % 4294967296 := ⟨_, rfl⟩
    obtain ⟨c', hc'⟩ : ∃ c', c' = (c + x * 2) / 4294967296 := ⟨_, rfl⟩
    have s1 : bits BinOp.or IntKind.u32 ((x : Int) * 2 % 4294967296) (c : Int) = (l : Int) := by
     have := or_bit (x * 2 % 4294967296) c hc1 (by omega) (by omega)
     rw [show ((x * 2 % 4294967296 : Nat) : Int) = (x : Int) * 2 % 4294967296 by omega] at this
     rw [this]; omega
    have s2 : (x : Int) / 2147483648 = (c' : Int) := by omega
    have hcc : c' ≤ 1 := by omega
    have HS := Lib.hid (And.intro hl3 (And.intro hc' hcc)); clear hl3 hc' hcc hc1 hx1
    go_wp2_with (at_builtin; refine wpList_push _ rfl _ _ 23 rfl w.heap.size 62 (.int .u32 0) 4 (by kernel_rfl) info_u32 rfl _ out.length (nums .u32 out) rfl (.int .u32 (l : Int)) rfl rfl ?_ ?_ ?_ ?_ ?_; exact HA.out.row.own; (unfold maxLen; omega); omega; exact HA.out.row.old.size; intro v' w2 hown hbel; have HO := Lib.hid (And.intro hown hbel); clear hown hbel)
    go_roundw
    case rel =>
     obtain ⟨hl3, hc', hcc⟩ := HS.out
     subst hl3 hc'
     exact ⟨k + 1, _, _, by go_num, rfl, by omega, HA.out.step Ex.out hcc (HA.out.row.more (Nat.mod_lt _ (by decide)) HO.out.2 HO.out.1)⟩
    case measure => simp [intOf]; omega
  · have hkm : k = xs.length := by omega
    have hdone := Lib.hid (HA.out.done hkm)
    have hc1 := HA.out.carry
    have HC := Lib.hid hc1; clear hc1
    have hlo : out.length ≤ 18 := by have := HA.out.len; omega
    go_wp2_with (at_builtin; refine wpList_push _ rfl _ _ 23 rfl w.heap.size 62 (.int .u32 0) 4 (by kernel_rfl) info_u32 rfl _ out.length (nums .u32 out) rfl (.int .u32 (c : Int)) rfl rfl ?_ ?_ ?_ ?_ ?_; exact HA.out.row.own; (unfold maxLen; omega); omega; exact HA.out.row.old.size; intro v' w2 hown hbel; have HO := Lib.hid (And.intro hown hbel); clear hown hbel)
    have hO2 := HA.out.row.more (x := c) (by have := HC.out; rw [B32_eq]; omega) HO.out.2 HO.out.1
    obtain ⟨A9, c9, hv, hc9, hm9, hr9, hf9⟩ := own_rdF hO2.own rfl
    have hl9 : (out ++ [c]).length ≤ 19 := by rw [List.length_append]; simp; omega
    subst hv
    have R9 := Lib.hid hr9; clear hr9
    have O2 := Lib.hid hO2; clear hO2
    have F9 := Lib.hid hf9; clear hf9
    refine (trim_F w.heap.size A9 c9 (out ++ [c]) _ R9.out O2.out.lim hc9 (by omega) F9.out).mono ?_
    rintro e w3 ⟨v3, rfl, hn2, hf2, hb2⟩
    have HF2 := Lib.hid hf2; clear hf2
    have HN2 := Lib.hid hn2; clear hn2
    have HB2 := Lib.hid hb2; clear hb2
    go_wp2
    go_ret
    rw [← hdone.out]
    exact ⟨_, rfl, HN2.out, HF2.out, bel_trans O2.out.old HB2.out⟩

theorem of_any (n : Nat) (w : World) (hn : n < 18446744073709551616) : Calls Tryz.prog 105 #[.int .u64 n] w (RetN n w) := by
 obtain ⟨lo, hlo⟩ : ∃ lo, lo = n % 4294967296 := ⟨_, rfl⟩
 obtain ⟨hi, hhi⟩ : ∃ hi, hi = n / 4294967296 := ⟨_, rfl⟩
 have s1 : IntKind.u32.wrap (n : Int) = (lo : Int) := by rw [IntKind.wrap_u32']; omega
 have s2 : (n : Int) / 4294967296 = (hi : Int) := by omega
 have s3 : IntKind.u32.wrap (hi : Int) = (hi : Int) := by rw [IntKind.wrap_u32']; omega
 have hlo1 : lo < 4294967296 := by omega
 have hhi1 : hi < 4294967296 := by omega
 have HE : Hid (n = lo + 4294967296 * hi) := by show n = _; omega
 clear hlo hhi hn
 go_enter Tryz.func105, Tryz.ntmps105
 go_wp2_with fail
 have hblk := Blk.new w 62 (nums .u32 [lo, hi]).toArray
 have hrow : Hid (RdL (w.alloc (.cells #[.int .u32 (lo : Int), .int .u32 (hi : Int)] 62)) (some ⟨w.heap.size, 0, none⟩) [lo, hi]) := fun _ =>
  ⟨w.heap.size, 0, rfl, by simp, fun k hk => by
   rw [Nat.zero_add]
   refine (hblk.cell k).trans ?_
   match k, hk with
   | 0, _ => rfl
   | 1, _ => rfl⟩
 refine (trim_N _ 2 [lo, hi] _ hrow.out (by intro x hx; simp at hx; rw [B32_eq]; omega) (Nat.le_refl _) (by simp)).mono ?_
 rintro e w3 ⟨v3, rfl, hn2, hb2⟩
 have HN2 := Lib.hid hn2; clear hn2
 have HB2 := Lib.hid hb2; clear hb2
 go_wp2
 go_ret
 have e : lval [lo, hi] = n := by rw [HE.out]; simp [lval, val, B32_eq]
 rw [e] at HN2
 exact ⟨_, rfl, HN2.out, bel_trans (bel_alloc (bel_refl _) _) HB2.out⟩
end
end Go.Proofs.YtmbbdjpnecjleaaGreat
namespace Go.Proofs.YtmbbdjpnecjleaaGreat
section
set_option maxRecDepth 100000
set_option maxHeartbeats 1000000
open Go.RowKit

def limbV (x : Nat) : Value := .int .u32 (x : Int)
theorem limbV_eq (x : Nat) : limbV x = .int .u32 (x : Int) := rfl

theorem lval_set {u : List Nat} {j : Nat} (v : Nat) (h : j < u.length) : lval (u.set j v) + B32 ^ j * u.getD j 0 = lval u + B32 ^ j * v := by
 induction u generalizing j with
 | nil => simp at h
 | cons y r ih =>
  cases j with
  | zero => simp only [List.set_cons_zero, lval, val, Nat.pow_zero, Nat.one_mul, List.getD_cons_zero]; omega
  | succ j =>
   have hj : j < r.length := by simpa using h
   have := ih hj
   unfold lval at this
   simp only [List.set_cons_succ, lval, val, List.getD_cons_succ, Nat.pow_succ]
   rw [Nat.mul_comm (B32 ^ j) B32, Nat.mul_assoc, Nat.mul_assoc, Nat.add_assoc, Nat.add_assoc, ← Nat.mul_add, ← Nat.mul_add, this]
theorem Lim.set {u : List Nat} (h : Lim u) (j : Nat) {v : Nat} (hv : v < B32) : Lim (u.set j v) := by
 intro x hx
 rcases List.mem_or_eq_of_mem_set hx with hx | rfl
 · exact h x hx
 · exact hv
theorem getD_set_far {u : List Nat} {j k : Nat} (v : Nat) (h : j ≠ k) : (u.set j v).getD k 0 = u.getD k 0 := by
 rw [List.getD_eq_getElem?_getD, List.getD_eq_getElem?_getD, List.getElem?_set_ne h]

structure MulO (w wr : World) (g : Nat) (xs ys : List Nat) (i : Nat) (u : List Nat) : Prop where
 old : Below w.heap.size w wr
 blk : Blk wr g 62 (arr limbV u)
 new : w.heap.size ≤ g
 len : u.length = xs.length + ys.length
 lim : Lim u
 sum : lval u = lval (xs.take i) * lval ys
 high : ∀ j, i + ys.length ≤ j → u.getD j 0 = 0
structure MulI (w wr : World) (g : Nat) (xs ys : List Nat) (i x k c : Nat) (u : List Nat) : Prop where
 old : Below w.heap.size w wr
 blk : Blk wr g 62 (arr limbV u)
 new : w.heap.size ≤ g
 len : u.length = xs.length + ys.length
 lim : Lim u
 carry : c < B32
 sum : lval u + B32 ^ (i + k) * (c + x * lval (ys.drop k)) = lval (xs.take i) * lval ys + B32 ^ i * (x * lval ys)
 high : ∀ j, i + ys.length ≤ j → u.getD j 0 = 0

theorem mul_alg (P B lu lu' x y o c D R t q m : Nat) (ht : t = c + (x * y + o)) (hq : m + B * q = t) (hs : lu' + P * o = lu + P * m) (h : lu + P * (c + x * (y + B * D)) = R) :
 lu' + P * B * (q + x * D) = R := by
 have h1 : P * (c + x * (y + B * D)) + P * o = P * t + P * B * (x * D) := by
  subst ht
  have e : x * (B * D) = B * (x * D) := Nat.mul_left_comm x B D
  simp only [Nat.mul_add, e, Nat.mul_assoc]
  omega
 have h2 : P * m + P * B * q = P * t := by rw [← hq, Nat.mul_add, Nat.mul_assoc]
 rw [Nat.mul_add]
 omega

theorem MulI.step {w wr w' : World} {g : Nat} {xs ys u : List Nat} {i x k c y o t : Nat} (h : MulI w wr g xs ys i x k c u) (hi : i < xs.length) (hk : k < ys.length) (hy : y = ys.getD k 0) (ho : o = u.getD (i + k) 0)
 (ht : t = c + (x * y + o)) (hc : t / B32 < B32) (hold : Below w.heap.size w w') (hblk : Blk w' g 62 (arr limbV (u.set (i + k) (t % B32)))) :
 MulI w w' g xs ys i x (k + 1) (t / B32) (u.set (i + k) (t % B32)) := by
 refine ⟨hold, hblk, h.new, by rw [List.length_set]; exact h.len, h.lim.set _ (Nat.mod_lt _ (by decide)), hc, ?_, fun j hj => by rw [getD_set_far _ (by omega)]; exact h.high j hj⟩
 have hs := lval_set (u := u) (j := i + k) (t % B32) (by rw [h.len]; omega)
 rw [← ho] at hs
 have hd := h.sum
 rw [lval_drop ys k, ← hy] at hd
 rw [← Nat.add_assoc, Nat.pow_succ]
 exact mul_alg _ _ _ _ _ _ _ _ _ _ _ _ _ ht (Nat.mod_add_div t B32) hs hd
theorem MulI.done {w wr w' : World} {g : Nat} {xs ys u : List Nat} {i x c : Nat} (h : MulI w wr g xs ys i x ys.length c u) (hi : i < xs.length) (hx : x = xs.getD i 0)
 (hold : Below w.heap.size w w') (hblk : Blk w' g 62 (arr limbV (u.set (i + ys.length) c))) : MulO w w' g xs ys (i + 1) (u.set (i + ys.length) c) := by
 refine ⟨hold, hblk, h.new, by rw [List.length_set]; exact h.len, h.lim.set _ h.carry, ?_, fun j hj => by rw [getD_set_far _ (by omega)]; exact h.high j (by omega)⟩
 have hs := lval_set (u := u) (j := i + ys.length) c (by rw [h.len]; omega)
 rw [h.high _ (Nat.le_refl _), Nat.mul_zero, Nat.add_zero] at hs
 have hd := h.sum
 rw [List.drop_length] at hd
 have hz : lval [] = 0 := rfl
 rw [hz, Nat.mul_zero, Nat.add_zero] at hd
 rw [hs, hd, lval_take_succ', ← hx, Nat.add_mul, Nat.mul_assoc]

theorem mul_bound {x y o c : Nat} (hx : x < 4294967296) (hy : y < 4294967296) (ho : o < 4294967296) (hc : c < 4294967296) : c + (x * y + o) < 18446744073709551616 := by
 have h1 : x * y ≤ 4294967295 * 4294967295 := Nat.mul_le_mul (by omega) (by omega)
 omega

theorem mul_right (A A' : Option Addr) (cap cap' : Nat) (xs ys : List Nat) (w : World) (h : RdL w A xs) (h' : RdL w A' ys) (hx : Lim xs) (hy : Lim ys) (hr : rightL xs = true) (hr' : rightL ys = true) (hl : xs.length ≤ 16) (hl' : ys.length ≤ 16) :
 Calls Tryz.prog 100 #[.slice A xs.length cap, .slice A' ys.length cap'] w (RetNE (fitN (lval xs * lval ys)) (fitC (lval xs * lval ys)) w) := by
 have H := Lib.hid h; clear h
 have H' := Lib.hid h'; clear h'
 have HX := Lib.hid hx; clear hx
 have HY := Lib.hid hy; clear hy
 obtain ⟨n, hn⟩ : ∃ n, n = xs.length + ys.length := ⟨_, rfl⟩
 have hsum : IntKind.i64.wrap ((xs.length : Int) + (ys.length : Int)) = (n : Int) := by rw [IntKind.wrap_i64]; omega
 have hmk := fun W => run_mk (P := Tryz.prog) limbV 0 23 62 4 (by kernel_rfl) info_u32 rfl n (by omega) (by omega) W
 have HN := Lib.hid hn; clear hn
 go_enter Tryz.func100, Tryz.ntmps100
 go_wp2_with fail
 refine (both_any A A' cap cap' xs ys _ H.out H'.out (by omega) (by omega)).mono ?_
 rintro e w1 ⟨rfl, m, rfl⟩
 rw [hr, hr']
 have HR := Lib.hid hr; clear hr
 have HR' := Lib.hid hr'; clear hr'
 go_wp2
 go_loopw [24] (fun i wr => ∃ (k : Nat) (u : List Nat), i = .int .i64 (k : Int) ∧ k ≤ xs.length ∧ MulO w wr w.heap.size xs ys k u) (fun i _ => xs.length - (intOf i).toNat)
 case atStart =>
  refine ⟨0, List.replicate n 0, rfl, Nat.zero_le _, bel_alloc (bel_drewN (bel_refl _) _) _, Blk.new (w.drewN m) _ _, Nat.le_refl _, by rw [List.length_replicate, HN.out], ?_, ?_, ?_⟩
  · intro x hx; rw [List.eq_of_mem_replicate hx]; decide
  · rw [List.take_zero]
    show val _ _ = val _ [] * _
    rw [val_zeros _ _ (fun x hx => List.eq_of_mem_replicate hx)]
    simp [val]
  · intro j _
    rw [List.getD_eq_getElem?_getD, List.getElem?_replicate]
    split <;> rfl
 case round =>
  obtain ⟨i, u, rfl, hi, hrel⟩ := hrel
  have HA := Lib.hid hrel; clear hrel
  by_cases hlt : i < xs.length
  · have hlt' : (i : Int) < (xs.length : Int) := by omega
    have RX := Lib.hid (H.out.below HA.out.old)
    obtain ⟨g, off, rfl, hg, hcell⟩ := RX.out.at_ hlt
    obtain ⟨x, hx⟩ : ∃ x, x = xs.getD i 0 := ⟨_, rfl⟩
    have hx1 := HX.out.get i
    rw [← hx] at hx1 hcell
    have Ex := Lib.hid hx; clear hx
    have sx : IntKind.u64.wrap (x : Int) = (x : Int) := by rw [IntKind.wrap_u64]; omega
    have HX1 := Lib.hid hx1; clear hx1
    have HI : Hid (MulI w wr w.heap.size xs ys i x 0 0 u) := ⟨HA.out.old, HA.out.blk, HA.out.new, HA.out.len, HA.out.lim, by decide, by rw [HA.out.sum, List.drop_zero]; simp, HA.out.high⟩
    go_wp2
    go_loopw [9, 31] (fun cv j wj => ∃ (k c : Nat) (u : List Nat), j = .int .i64 (k : Int) ∧ cv = .int .u64 (c : Int) ∧ k ≤ ys.length ∧ MulI w wj w.heap.size xs ys i x k c u) (fun _ j _ => ys.length - (intOf j).toNat)
    case atStart => exact ⟨0, 0, u, rfl, rfl, Nat.zero_le _, HI.out⟩
    case round =>
     obtain ⟨k, c, v, rfl, rfl, hk, hin⟩ := hrel
     have HJ := Lib.hid hin; clear hin
     clear hcell
     by_cases hkl : k < ys.length
     · have hkl' : (k : Int) < (ys.length : Int) := by omega
       have RY := Lib.hid (H'.out.below HJ.out.old)
       obtain ⟨g', off', rfl, hg', hcell'⟩ := RY.out.at_ hkl
       obtain ⟨y, hy⟩ : ∃ y, y = ys.getD k 0 := ⟨_, rfl⟩
       have hy1 := HY.out.get k
       rw [← hy] at hy1 hcell'
       have Ey := Lib.hid hy; clear hy
       obtain ⟨j, hj⟩ : ∃ j, j = i + k := ⟨_, rfl⟩
       have hjn : j < n := by rw [hj, HN.out]; omega
       have hcj := HJ.out.blk.at_ 0 (k := j) (by rw [HJ.out.len, ← HN.out]; exact hjn)
       obtain ⟨o, ho⟩ : ∃ o, o = v.getD j 0 := ⟨_, rfl⟩
       have ho1 := HJ.out.lim.get j
       rw [← ho] at hcj ho1
       rw [limbV_eq] at hcj
       have hfz : wr.frozen? ⟨w.heap.size, j, none⟩ = false := HJ.out.blk.frozen j
       have hc1 := HJ.out.carry
       rw [B32_eq] at hc1
       have hx1 := HX1.out
       have hbd := mul_bound hx1 hy1 ho1 hc1
       obtain ⟨p, hp⟩ : ∃ p : Nat, p = x * y := ⟨_, rfl⟩
       rw [← hp] at hbd
       obtain ⟨q, hq⟩ : ∃ q : Nat, q = p + o := ⟨_, rfl⟩
       obtain ⟨t, ht⟩ : ∃ t : Nat, t = c + q := ⟨_, rfl⟩
       obtain ⟨l, hl3⟩ : ∃ l, l = t % 4294967296 := ⟨_, rfl⟩
       obtain ⟨c', hc'⟩ : ∃ c', c' = t / 4294967296 := ⟨_, rfl⟩
       have sij : IntKind.i64.wrap ((i : Int) + (k : Int)) = (j : Int) := by rw [IntKind.wrap_i64]; omega
       have sjn : (j : Int) < (n : Int) := by omega
       have sy : IntKind.u64.wrap (y : Int) = (y : Int) := by rw [IntKind.wrap_u64]; omega
       have so : IntKind.u64.wrap (o : Int) = (o : Int) := by rw [IntKind.wrap_u64]; omega
       have s1 : IntKind.u64.wrap ((x : Int) * (y : Int)) = (p : Int) := by rw [IntKind.wrap_u64, ← Int.natCast_mul, ← hp]; omega
       have s2 : IntKind.u64.wrap ((p : Int) + (o : Int)) = (q : Int) := by rw [IntKind.wrap_u64]; omega
       have s3 : IntKind.u64.wrap ((c : Int) + (q : Int)) = (t : Int) := by rw [IntKind.wrap_u64]; omega
       have s4 : IntKind.u32.wrap (t : Int) = (l : Int) := by rw [IntKind.wrap_u32', hl3]; omega
       have s5 : (t : Int) / 4294967296 = (c' : Int) := by rw [hc']; omega
       have hcc : c' < 4294967296 := by omega
       have HS := Lib.hid (And.intro hp (And.intro hq (And.intro ht (And.intro hl3 (And.intro hc' (And.intro hcc (And.intro hj ho))))))); clear hp hq ht hcc hl3 hc' hx1 hc1 hbd hy1 ho1 ho hj hjn
       go_wp2
       go_roundw
       case rel =>
        obtain ⟨hp, hq, ht, hl3, hc', hcc, hj, ho⟩ := HS.out
        subst hc' hl3
        rw [hj] at ho
        refine ⟨k + 1, t / 4294967296, v.set j (t % 4294967296), by go_num, rfl, by omega, ?_⟩
        have e2 := hj
        subst e2
        exact HJ.out.step hlt hkl Ey.out ho (by omega) hcc (HJ.out.old.setCell HJ.out.new _) (HJ.out.blk.set_ _ _)
       case measure => simp [intOf]; omega
     · have hke : k = ys.length := by omega
       subst hke
       obtain ⟨j, hj⟩ : ∃ j, j = i + ys.length := ⟨_, rfl⟩
       have hjn : j < n := by rw [hj, HN.out]; omega
       have hfz : wr.frozen? ⟨w.heap.size, j, none⟩ = false := HJ.out.blk.frozen j
       have hcj := HJ.out.blk.at_ 0 (k := j) (by rw [HJ.out.len, ← HN.out]; exact hjn)
       rw [limbV_eq] at hcj
       have sij : IntKind.i64.wrap ((i : Int) + (ys.length : Int)) = (j : Int) := by rw [IntKind.wrap_i64]; omega
       have sjn : (j : Int) < (n : Int) := by omega
       have hc1 := HJ.out.carry
       rw [B32_eq] at hc1
       have s4 : IntKind.u32.wrap (c : Int) = (c : Int) := by rw [IntKind.wrap_u32']; omega
       have HS := Lib.hid (And.intro hj hc1); clear hj hjn hc1
       go_wp2
       go_roundw
       case rel =>
        obtain ⟨hj, hc1⟩ := HS.out
        refine ⟨i + 1, v.set j c, by go_num, by omega, ?_⟩
        subst hj
        exact HJ.out.done hlt Ex.out (HJ.out.old.setCell HJ.out.new _) (HJ.out.blk.set_ _ _)
       case measure => simp [intOf]; omega
  · have hie : i = xs.length := by omega
    subst hie
    have hdone : Hid (lval u = lval xs * lval ys) := by
     show lval u = _
     rw [HA.out.sum, List.take_length]
    have hun : Hid (u.length = n) := by rw [HA.out.len, HN.out]; exact rfl
    have R9 : Hid (RdL wr (some ⟨w.heap.size, 0, none⟩) u) := HA.out.blk.rd 0 _ (Nat.le_refl _)
    go_wp2_with fail
    have hf := fits_any (some ⟨w.heap.size, 0, none⟩) n u _ R9.out HA.out.lim (by rw [hun.out]; exact Nat.le_refl _) (by rw [hun.out, HN.out]; omega)
    rw [hun.out, hdone.out] at hf
    refine hf.mono ?_
    rintro e w2 ⟨v2, rfl, hn2, hb2⟩
    have HN2 := Lib.hid hn2; clear hn2
    have HB2 := Lib.hid hb2; clear hb2
    go_wp2
    go_ret2
    exact ⟨_, rfl, HN2.out, bel_trans HA.out.old HB2.out⟩

end
end Go.Proofs.YtmbbdjpnecjleaaGreat
namespace Go.Proofs.YtmbbdjpnecjleaaGreat
section
set_option maxRecDepth 100000
set_option maxHeartbeats 1000000
open Go.RowKit

theorem B32_pow (j : Nat) : B32 ^ j = 2 ^ (32 * j) := by
 rw [Nat.pow_mul]; rfl
theorem lval_div {xs : List Nat} (h : Lim xs) (j : Nat) : lval xs / B32 ^ j = lval (xs.drop j) := by
 have e : lval xs = lval (xs.take j) + B32 ^ j * lval (xs.drop j) := by
  by_cases hj : j ≤ xs.length
  · conv => lhs; rw [← List.take_append_drop j xs]
    unfold lval
    rw [val_app, List.length_take, Nat.min_eq_left hj]
  · rw [List.take_of_length_le (by omega), List.drop_of_length_le (by omega)]
    simp [lval, val]
 have hlt : lval (xs.take j) < B32 ^ j := Nat.lt_of_lt_of_le (lval_lt fun x hx => h x (List.mem_of_mem_take hx)) (Nat.pow_le_pow_right (by decide) (List.length_take_le ..))
 rw [e, Nat.add_mul_div_left _ _ (Nat.pow_pos (by decide)), Nat.div_eq_of_lt hlt, Nat.zero_add]
theorem bit_at {xs : List Nat} (h : Lim xs) (i : Nat) : lval xs / 2 ^ i % 2 = xs.getD (i / 32) 0 / 2 ^ (i % 32) % 2 := by
 have e : 2 ^ i = B32 ^ (i / 32) * 2 ^ (i % 32) := by
  rw [B32_pow, ← Nat.pow_add]
  congr 1
  omega
 rw [e, ← Nat.div_div_eq_div_mul, lval_div h, lval_drop]
 have hs : i % 32 < 32 := Nat.mod_lt _ (by decide)
 generalize i % 32 = s at hs
 generalize xs.getD (i / 32) 0 = x
 generalize lval (xs.drop (i / 32 + 1)) = R
 have e2 : B32 * R = 2 ^ s * (2 * (2 ^ (31 - s) * R)) := by
  have : B32 = 2 ^ s * 2 * 2 ^ (31 - s) := by
   rw [← Nat.pow_succ, ← Nat.pow_add, show s.succ + (31 - s) = 32 by omega]
   rfl
  rw [this]
  simp only [Nat.mul_assoc]
 rw [e2, Nat.add_mul_div_left _ _ (Nat.pow_pos (by decide)), Nat.add_mul_mod_self_left]

theorem and_one (p : Nat) (hp : p < 4294967296) : bits BinOp.and IntKind.u32 (p : Int) 1 = ((p % 2 : Nat) : Int) := by
 have := u32_and_nat p 1 hp (by omega)
 rw [Nat.and_one_is_mod] at this
 exact this

structure DivRel (w wr : World) (n b r len : Nat) (v : Value) (u : List Nat) : Prop where
 old : Below w.heap.size w wr
 blk : Blk wr w.heap.size 62 (arr limbV u)
 len : u.length = len
 lim : Lim u
 left : RdN wr v (n / 2 ^ r % b)
 fresh : FreshV (w.heap.size + 1) v
 quo : lval u = n / 2 ^ r / b * 2 ^ r

theorem div_less {n b i l t bit : Nat} (hl : l = n / 2 ^ (i + 1) % b) (hbit : bit = n / 2 ^ i % 2) (ht : t = 2 * l + bit) (hlt : t < b) :
 n / 2 ^ i % b = t ∧ n / 2 ^ i / b = 2 * (n / 2 ^ (i + 1) / b) := by
 have e : n / 2 ^ i = t + b * (2 * (n / 2 ^ (i + 1) / b)) := by
  have h1 : n / 2 ^ i = 2 * (n / 2 ^ (i + 1)) + bit := by rw [hbit, Nat.pow_succ, ← Nat.div_div_eq_div_mul]; omega
  have h2 := Nat.mod_add_div (n / 2 ^ (i + 1)) b
  rw [← hl] at h2
  rw [h1, Nat.mul_left_comm]
  omega
 rw [e, Nat.add_mul_mod_self_left, Nat.mod_eq_of_lt hlt, Nat.add_mul_div_left _ _ (by omega), Nat.div_eq_of_lt hlt]
 exact ⟨rfl, by omega⟩
theorem div_more {n b i l t bit : Nat} (hb : b ≠ 0) (hl : l = n / 2 ^ (i + 1) % b) (hbit : bit = n / 2 ^ i % 2) (ht : t = 2 * l + bit) (hge : b ≤ t) :
 n / 2 ^ i % b = t - b ∧ n / 2 ^ i / b = 2 * (n / 2 ^ (i + 1) / b) + 1 := by
 have hlb : l < b := by rw [hl]; exact Nat.mod_lt _ (by omega)
 have hlt : t - b < b := by omega
 have e : n / 2 ^ i = (t - b) + b * (2 * (n / 2 ^ (i + 1) / b) + 1) := by
  have h1 : n / 2 ^ i = 2 * (n / 2 ^ (i + 1)) + bit := by rw [hbit, Nat.pow_succ, ← Nat.div_div_eq_div_mul]; omega
  have h2 := Nat.mod_add_div (n / 2 ^ (i + 1)) b
  rw [← hl] at h2
  rw [h1, Nat.mul_add, Nat.mul_left_comm]
  omega
 rw [e, Nat.add_mul_mod_self_left, Nat.mod_eq_of_lt hlt, Nat.add_mul_div_left _ _ (by omega), Nat.div_eq_of_lt hlt]
 exact ⟨rfl, by omega⟩
theorem limb_get {u : List Nat} (h : Lim u) (j : Nat) : u.getD j 0 = lval u / B32 ^ j % B32 := by
 rw [lval_div h, lval_drop, Nat.add_mul_mod_self_left]
 exact (Nat.mod_eq_of_lt (show _ < B32 from h.get j)).symm
theorem put_bit {u : List Nat} (h : Lim u) {Q i j s o : Nat} (hu : lval u = Q * 2 ^ (i + 1)) (hj : j = i / 32) (hs : s = i % 32) (ho : o = u.getD j 0) (hl : j < u.length) :
 o ||| 2 ^ s = o + 2 ^ s ∧ o + 2 ^ s < B32 ∧ lval (u.set j (o + 2 ^ s)) = (2 * Q + 1) * 2 ^ i := by
 have hs32 : s < 32 := by omega
 have hB : B32 = 2 ^ (s + 1) * 2 ^ (31 - s) := by rw [← Nat.pow_add, show s + 1 + (31 - s) = 32 by omega]; rfl
 have hi : i = 32 * j + s := by omega
 have ho2 : o = 2 ^ (s + 1) * (Q % 2 ^ (31 - s)) := by
  rw [ho, limb_get h, hu, B32_pow, hi, Nat.add_assoc, Nat.pow_add, Nat.mul_left_comm, Nat.mul_div_cancel_left _ (Nat.pow_pos (by decide)), hB, Nat.mul_comm Q, Nat.mul_mod_mul_left]
 have hq : Q % 2 ^ (31 - s) + 1 ≤ 2 ^ (31 - s) := Nat.mod_lt _ (Nat.pow_pos (by decide))
 have hlt : o + 2 ^ s < B32 := by
  have h1 : 2 ^ (s + 1) * (Q % 2 ^ (31 - s) + 1) ≤ B32 := by rw [hB]; exact Nat.mul_le_mul_left _ hq
  rw [Nat.mul_add, ← ho2, Nat.mul_one, Nat.pow_succ] at h1
  have h2 : 0 < 2 ^ s := Nat.pow_pos (by decide)
  omega
 refine ⟨?_, hlt, ?_⟩
 · have hp : 2 ^ s < 2 ^ (s + 1) := Nat.pow_lt_pow_right (by decide) (by omega)
   have := Nat.two_pow_add_eq_or_of_lt hp (Q % 2 ^ (31 - s))
   rw [← ho2] at this
   exact this.symm
 · have hset := lval_set (u := u) (j := j) (o + 2 ^ s) hl
   rw [← ho, hu, Nat.mul_add] at hset
   have e : B32 ^ j * 2 ^ s = 2 ^ i := by rw [B32_pow, ← Nat.pow_add, ← hi]
   rw [e, Nat.pow_succ] at hset
   rw [Nat.add_mul, Nat.one_mul, Nat.mul_comm 2 Q, Nat.mul_assoc, Nat.mul_comm 2]
   omega

def RetD (q r : Nat) (c : Int) (w : World) (e : Ending) (w' : World) : Prop := ∃ v v', e = .returned (.tuple #[v, v', .int .i64 c]) ∧ RdN w' v q ∧ RdN w' v' r ∧ Below w.heap.size w w'

theorem div_right (A A' : Option Addr) (cap cap' : Nat) (n b : Nat) (w : World) (h : RdL w A (limbs n)) (h' : RdL w A' (limbs b)) (hn : n < Top) (hb : b < Top) (hb0 : b ≠ 0) :
 Calls Tryz.prog 134 #[.slice A (limbs n).length cap, .slice A' (limbs b).length cap'] w (RetD (n / b) (n % b) 0 w) := by
 have hl := limbs_len16 hn
 have hl' := limbs_len16 hb
 have h0 : (limbs b).length ≠ 0 := by have := digs_len_pos B32_two hb0; show (digs B32 b).length ≠ 0; omega
 have H := Lib.hid h; clear h
 have H' := Lib.hid h'; clear h'
 have HN := Lib.hid hn; clear hn
 have HB := Lib.hid hb; clear hb
 have HB0 := Lib.hid hb0; clear hb0
 have hmk := fun W => run_mk (P := Tryz.prog) limbV 0 23 62 4 (by kernel_rfl) info_u32 rfl (limbs n).length (by omega) (by omega) W
 have g0 : (((limbs b).length : Int) == 0) = false := beq_eq_false_iff_ne.2 (by omega)
 go_enter Tryz.func134, Tryz.ntmps134
 go_wp2_with fail
 refine (both_any A A' cap cap' (limbs n) (limbs b) _ H.out H'.out (by omega) (by omega)).mono ?_
 rintro e w1 ⟨rfl, m, rfl⟩
 rw [rightL_limbs HN.out, rightL_limbs HB.out]
 go_wp2
 go_loopw [8, 9] (fun v i wr => ∃ (r : Nat) (u : List Nat), i = .int .i64 ((r : Int) - 1) ∧ r ≤ 32 * (limbs n).length ∧ DivRel w wr n b r (limbs n).length v u) (fun _ i _ => (intOf i + 1).toNat)
 case atStart =>
  have hz : n / 2 ^ (32 * (limbs n).length) = 0 := by
   rw [← B32_pow]
   exact Nat.div_eq_of_lt (limbs_len.1 (Nat.le_refl _))
  refine ⟨32 * (limbs n).length, List.replicate (limbs n).length 0, by go_num, Nat.le_refl _, bel_alloc (bel_drewN (bel_refl _) _) _, Blk.new (w.drewN m) _ _, by rw [List.length_replicate], ?_, ?_, ?_, ?_⟩
  · intro x hx; rw [List.eq_of_mem_replicate hx]; decide
  · rw [hz, Nat.zero_mod]; exact RdN.zero
  · intro a n c e; cases e
  · rw [hz, Nat.zero_div, Nat.zero_mul]
    exact val_zeros _ _ (fun x hx => List.eq_of_mem_replicate hx)
 case round =>
  obtain ⟨r, u, rfl, hr, hrel⟩ := hrel
  have HA := Lib.hid hrel; clear hrel
  by_cases hr0 : r = 0
  · subst hr0
    have hq := HA.out.quo
    have hl := HA.out.left
    rw [Nat.pow_zero, Nat.div_one, Nat.mul_one] at hq
    rw [Nat.pow_zero, Nat.div_one] at hl
    have HQ := Lib.hid hq; clear hq
    have HL := Lib.hid hl; clear hl
    have R9 : Hid (RdL wr (some ⟨w.heap.size, 0, none⟩) u) := HA.out.blk.rd 0 _ (Nat.le_refl _)
    go_wp2_with fail
    have hf := trim_N (some ⟨w.heap.size, 0, none⟩) (limbs n).length u _ R9.out HA.out.lim (by rw [HA.out.len]; exact Nat.le_refl _) (by rw [HA.out.len]; omega)
    rw [HA.out.len, HQ.out] at hf
    refine hf.mono ?_
    rintro e w2 ⟨v2, rfl, hn2, hb2⟩
    have HN2 := Lib.hid hn2; clear hn2
    have HB2 := Lib.hid hb2; clear hb2
    go_wp2
    go_ret3
    exact ⟨_, _, rfl, HN2.out, HL.out.below HB2.out, bel_trans HA.out.old HB2.out⟩
  · obtain ⟨i, rfl⟩ : ∃ i, r = i + 1 := ⟨r - 1, by omega⟩
    have hi : ((i + 1 : Nat) : Int) - 1 = (i : Int) := by omega
    rw [hi]
    have hi0 : (i : Int) ≤ 512 := by omega
    have RX := Lib.hid (H.out.below HA.out.old)
    obtain ⟨j, hj⟩ : ∃ j, j = i / 32 := ⟨_, rfl⟩
    obtain ⟨s, hs⟩ : ∃ s, s = i % 32 := ⟨_, rfl⟩
    have hjl : j < (limbs n).length := by omega
    obtain ⟨g, off, rfl, hg, hcell⟩ := RX.out.at_ hjl
    obtain ⟨x, hx⟩ : ∃ x, x = (limbs n).getD j 0 := ⟨_, rfl⟩
    have hx1 := (limbs_lim n).get j
    rw [← hx] at hcell hx1
    have Ex := Lib.hid hx; clear hx
    have sj : (i : Int) / 32 = (j : Int) := by omega
    have ss : (i : Int) % 32 = (s : Int) := by omega
    have hjl' : (j : Int) < ((limbs n).length : Int) := by omega
    obtain ⟨bit, hbit⟩ : ∃ bit, bit = x / 2 ^ s % 2 := ⟨_, rfl⟩
    have hb1 : bit ≤ 1 := by omega
    have sbit : bits BinOp.and IntKind.u32 ((x : Int) / 2 ^ s) 1 = (bit : Int) := by
     rw [hbit, ← and_one (x / 2 ^ s) (Nat.lt_of_le_of_lt (Nat.div_le_self _ _) hx1)]
     congr 1
    have ebit : Hid (bit = n / 2 ^ i % 2) := by
     show bit = _
     have := bit_at (limbs_lim n) i
     rw [lval_limbs, ← hj, ← hs, ← Ex.out, ← hbit] at this
     exact this.symm
    have HS := Lib.hid (And.intro hj (And.intro hs (And.intro hbit hx1))); clear hj hs hbit hx1
    obtain ⟨A9, c9, hv9, hc9, hr9⟩ := HA.out.left.row
    obtain ⟨l, hl9⟩ : ∃ l, l = n / 2 ^ (i + 1) % b := ⟨_, rfl⟩
    rw [← hl9] at hv9 hc9 hr9
    subst hv9
    have hlb : l < b := by rw [hl9]; exact Nat.mod_lt _ (by have := HB0.out; omega)
    have hl16 : (limbs l).length ≤ 16 := limbs_len16 (Nat.lt_trans hlb HB.out)
    have R9 := Lib.hid hr9; clear hr9
    have EL := Lib.hid hl9; clear hl9
    have HLB := Lib.hid hlb; clear hlb
    go_wp2_with fail
    refine (up_any A9 c9 (limbs l) bit _ R9.out (limbs_lim l) (by omega) hb1).mono ?_
    rintro e w2 ⟨v2, rfl, hn2, hf2, hb2⟩
    have HF2 := Lib.hid (hf2.mono (B := w.heap.size + 1) HA.out.blk.lt); clear hf2
    rw [lval_limbs] at hn2
    obtain ⟨t, ht⟩ : ∃ t, t = 2 * l + bit := ⟨_, rfl⟩
    rw [← ht] at hn2
    have ET := Lib.hid ht; clear ht
    have HN2 := Lib.hid hn2
    obtain ⟨A2, c2, hv2, hc2, hr2⟩ := hn2.row
    subst hv2
    clear hn2
    have R2 := Lib.hid hr2; clear hr2
    have HB2 := Lib.hid hb2; clear hb2
    have htl : (limbs t).length ≤ 17 := limbs_len.2 (by
     have h1 : l < B32 ^ 16 := Nat.lt_trans HLB.out HB.out
     rw [ET.out, show B32 ^ 17 = B32 ^ 16 * B32 from Nat.pow_succ ..]
     generalize B32 ^ 16 = P at h1
     rw [B32_eq]
     omega)
    have RB2 := Lib.hid ((H'.out.below HA.out.old).below HB2.out)
    go_wp2_with fail
    refine (compare_any A2 A' c2 cap' t b _ R2.out RB2.out (by omega)).mono ?_
    rintro e w3 ⟨rfl, m3, rfl⟩
    by_cases hge : b ≤ t
    · have hc : decide (0 ≤ cmpI (t : Int) (b : Int)) = true := decide_eq_true (by unfold cmpI; rw [if_neg (by omega)]; split <;> omega)
      have hc' : 0 ≤ cmpI (t : Int) (b : Int) := of_decide_eq_true hc
      have HGE := Lib.hid hge; clear hge
      go_wp2_with fail
      have hsub := sub_any A2 A' c2 cap' (limbs t) (limbs b) (w2.drewN m3) (R2.out.drewN _) (RB2.out.drewN _) (limbs_lim t) (limbs_lim b) (by omega) (limbs_le_len HGE.out) (by rw [lval_limbs, lval_limbs]; exact HGE.out)
      rw [lval_limbs, lval_limbs] at hsub
      refine hsub.mono ?_
      rintro e w4 ⟨v4, rfl, hn4, hf4, hb4⟩
      have HF4 := Lib.hid (hf4.mono (B := w.heap.size + 1) (by have := HA.out.blk.lt; have := HB2.out.size; simp; omega)); clear hf4
      have HN4 := Lib.hid hn4; clear hn4
      have HB4 := Lib.hid hb4; clear hb4
      clear hcell hsub
      have hbl4 : Hid (Below wr.heap.size wr w4) := bel_trans (bel_drewN HB2.out _) HB4.out
      have K4 : Hid (Blk w4 w.heap.size 62 (arr limbV u)) := HA.out.blk.below hbl4.out HA.out.blk.lt
      have hcq := K4.out.at_ 0 (k := j) (by rw [HA.out.len]; exact hjl)
      obtain ⟨o, ho⟩ : ∃ o, o = u.getD j 0 := ⟨_, rfl⟩
      rw [← ho, limbV_eq] at hcq
      have hfz : w4.frozen? ⟨w.heap.size, j, none⟩ = false := K4.out.frozen j
      have HO := Lib.hid ho; clear ho
      go_wp2
      go_region
      go_wp2
      go_roundw
      case rel =>
       obtain ⟨hj, hs, hbit, hx1⟩ := HS.out
       obtain ⟨p1, p2, p3⟩ := put_bit HA.out.lim HA.out.quo hj hs HO.out (by rw [HA.out.len]; exact hjl)
       obtain ⟨d1, d2⟩ := div_more HB0.out EL.out ebit.out ET.out HGE.out
       have ho1 : o < 4294967296 := by rw [HO.out]; exact HA.out.lim.get j
       have hs1 : 2 ^ s < 4294967296 := by
        have := Nat.pow_lt_pow_right (a := 2) (by decide) (show s < 32 by omega)
        exact this
       have ev : bits BinOp.or IntKind.u32 (o : Int) (2 ^ s % 4294967296) = ((o + 2 ^ s : Nat) : Int) := by
        rw [← p1, ← u32_or_nat o (2 ^ s) ho1 hs1]
        congr 1
        rw [Int.natCast_pow]
        have : ((2 ^ s : Nat) : Int) < 4294967296 := by omega
        rw [Int.natCast_pow] at this
        exact Int.emod_eq_of_lt (Int.pow_nonneg (by decide)) this
       rw [ev]
       refine ⟨i, u.set j (o + 2 ^ s), by go_num, by omega, ?_⟩
       refine ⟨bel_trans HA.out.old hbl4.out |>.setCell (Nat.le_refl _) _ |>.drew, (K4.out.set_ _ _).drew, by rw [List.length_set]; exact HA.out.len, HA.out.lim.set _ p2, ?_, HF4.out, ?_⟩
       · rw [d1]; exact (HN4.out.setCell HF4.out (Nat.lt_succ_self _)).below (Below.refl _ _).drew
       · rw [p3, d2]
      case measure => simp [intOf]
    · have hc : decide (0 ≤ cmpI (t : Int) (b : Int)) = false := decide_eq_false (by rw [cmpI_lt (by omega)]; omega)
      have hc' : ¬ 0 ≤ cmpI (t : Int) (b : Int) := of_decide_eq_false hc
      have HLT : Hid (t < b) := Lib.hid (by omega)
      go_wp2
      go_roundw
      case rel =>
       obtain ⟨d1, d2⟩ := div_less EL.out ebit.out ET.out HLT.out
       refine ⟨i, u, by go_num, by omega, bel_trans HA.out.old (bel_drewN HB2.out _), HA.out.blk.below (bel_drewN HB2.out _) HA.out.blk.lt, HA.out.len, HA.out.lim, ?_, HF2.out, ?_⟩
       · rw [d1]; exact HN2.out.below (bel_drewN (bel_refl _) _)
       · rw [HA.out.quo, d2, Nat.pow_succ, Nat.mul_comm 2, Nat.mul_assoc, Nat.mul_comm 2]
      case measure => simp [intOf]
end
end Go.Proofs.YtmbbdjpnecjleaaGreat
namespace Go.Proofs
section
open Go.Shelf
def Tryz.lays128_ren : Go.Shelf.Ren := ⟨fun | 128 => 146 | n => n, fun | 51 => 62 | 3 => 3 | 4 => 4 | 46 => 145 | 5 => 5 | 9 => 9 | n => n, fun | n => n⟩
theorem Tryz.lays128 : Go.Proofs.Lays.n128 Tryz.prog Tryz.lays128_ren := {
 mixed := by kernel_rfl
 f128 := Tryz.func146.trans (congrArg some (by kernel_rfl))
 t3 := Tryz.underlying3
 a3 := Tryz.isAgg3
 z3 := Tryz.sizeOf3
 v3 := Tryz.zeroValue3
 t4 := Tryz.underlying4
 a4 := Tryz.isAgg4
 z4 := Tryz.sizeOf4
 v4 := Tryz.zeroValue4
 t5 := Tryz.underlying5
 a5 := Tryz.isAgg5
 z5 := Tryz.sizeOf5
 v5 := Tryz.zeroValue5
 t9 := Tryz.underlying9
 a9 := Tryz.isAgg9
 z9 := Tryz.sizeOf9
 v9 := Tryz.zeroValue9
 t46 := Tryz.underlying145
 a46 := Tryz.isAgg145
 z46 := Tryz.sizeOf145
 v46 := Tryz.zeroValue145
 t51 := Tryz.underlying62
 a51 := Tryz.isAgg62
 z51 := Tryz.sizeOf62
 v51 := Tryz.zeroValue62 }
theorem Tryz.bits_Len32 (x : Int) (w : World) (h0 : 0 ≤ x) (h1 : x ≤ 4294967295) :
 Calls Tryz.prog 146 #[.int .u32 x] w fun e w' => e = .returned (.int .i64 (Lib.bitLen x.toNat)) ∧ w' = w := Any.bits_Len32 Tryz.lays128 x w h0 h1
def Tryz.lays110_ren : Go.Shelf.Ren := ⟨fun | 110 => 44 | 109 => 82 | n => n, fun | 31 => 67 | 9 => 9 | 4 => 4 | 3 => 3 | 0 => 0 | n => n, fun | n => n⟩
theorem Tryz.lays110 : Go.Proofs.Lays.n110 Tryz.prog Tryz.lays110_ren := {
 mixed := by kernel_rfl
 f109 := Tryz.func82.trans (congrArg some (by kernel_rfl))
 f110 := Tryz.func44.trans (congrArg some (by kernel_rfl))
 t0 := Tryz.underlying0
 a0 := Tryz.isAgg0
 z0 := Tryz.sizeOf0
 v0 := Tryz.zeroValue0
 t3 := Tryz.underlying3
 a3 := Tryz.isAgg3
 z3 := Tryz.sizeOf3
 v3 := Tryz.zeroValue3
 t4 := Tryz.underlying4
 a4 := Tryz.isAgg4
 z4 := Tryz.sizeOf4
 v4 := Tryz.zeroValue4
 t9 := Tryz.underlying9
 a9 := Tryz.isAgg9
 z9 := Tryz.sizeOf9
 v9 := Tryz.zeroValue9
 t31 := Tryz.underlying67
 a31 := Tryz.isAgg67
 z31 := Tryz.sizeOf67
 v31 := Tryz.zeroValue67 }
open Go.Lib in
theorem Tryz.slices_Contains_string (b off n c : Nat) (zs : List ByteArray) (x : ByteArray) (w : World) (hz : n ≤ zs.length) (hbig : n ≤ 9223372036854775807) (hc : ∀ j, j < zs.length → w.cell? ⟨b, off + j, none⟩ = some (.string (zs.getD j ByteArray.empty))) :
 Calls Tryz.prog 44 #[.slice (some ⟨b, off, none⟩) n c, .string x] w fun e w' => e = .returned (.bool (Lib.containsS (zs.take n) x)) ∧ w' = w := Any.slices_Contains_string Tryz.lays110 b off n c zs x w hz hbig hc
end
end Go.Proofs
