/-
 Parts: RoC.
-/
import Derived.Test.YtmbbdjpnecjleaaGreatH15
import Derived.Test.YtmbbdjpnecjleaaGreatH09
import Derived.Deep.Cut
import Derived.Deep.DeepCutAuto
import Derived.Test.YtmbbdjpnecjleaaGreatH10
import Derived.Test.YtmbbdjpnecjleaaGreatH11
import Derived.Deep.CutRange
namespace Go.Proofs.YtmbbdjpnecjleaaGreat
section
set_option maxRecDepth 100000
set_option maxHeartbeats 1000000
section
open Go.RowKit

theorem preI_ge {N a : Nat} (h : 2 ^ a ≤ N) {i : Int} (hi : i ≤ a) : 2 ^ ((a : Int) - i).toNat ≤ preI N i := by
 by_cases h0 : i < 0
 · obtain ⟨k, rfl⟩ : ∃ k : Nat, i = -(k : Int) := ⟨(-i).toNat, by omega⟩
   rw [preI_neg, show ((a : Int) - -(k : Int)).toNat = a + k by omega, Nat.pow_add]
   exact Nat.mul_le_mul_right _ h
 · obtain ⟨k, rfl⟩ : ∃ k : Nat, i = (k : Int) := ⟨i.toNat, by omega⟩
   rw [preI_nat, show ((a : Int) - (k : Int)).toNat = a - k by omega, Nat.le_div_iff_mul_le (Nat.pow_pos (by decide)), ← Nat.pow_add, Nat.sub_add_cancel (by omega)]
   exact h
theorem preI_X (N q f : Nat) : preI N ((f : Int) - q - 1) = N * 2 ^ (q + 1) / 2 ^ f := by
 by_cases h : f ≤ q + 1
 · obtain ⟨k, hk⟩ : ∃ k, q + 1 = f + k := ⟨q + 1 - f, by omega⟩
   rw [show (f : Int) - q - 1 = -(k : Int) by omega, preI_neg, hk, Nat.pow_add, Nat.mul_left_comm, Nat.mul_div_cancel_left _ (Nat.pow_pos (by decide))]
 · obtain ⟨k, rfl⟩ : ∃ k, f = q + 1 + k := ⟨f - (q + 1), by omega⟩
   rw [show ((q + 1 + k : Nat) : Int) - q - 1 = (k : Int) by omega, preI_nat, Nat.pow_add 2 (q + 1) k, Nat.mul_comm, Nat.mul_div_mul_left _ _ (Nat.pow_pos (by decide))]
theorem rest_X (N q f : Nat) : (N * 2 ^ (q + 1) % 2 ^ f = 0) ↔ (N % 2 ^ ((f : Int) - q - 1).toNat = 0) := by
 by_cases h : f ≤ q + 1
 · obtain ⟨k, hk⟩ : ∃ k, q + 1 = f + k := ⟨q + 1 - f, by omega⟩
   rw [show ((f : Int) - q - 1).toNat = 0 by omega, hk, Nat.pow_add, Nat.mul_left_comm, Nat.mul_mod_right]
   simp [Nat.mod_one]
 · obtain ⟨k, rfl⟩ : ∃ k, f = q + 1 + k := ⟨f - (q + 1), by omega⟩
   rw [show (((q + 1 + k : Nat) : Int) - q - 1).toNat = k by omega, Nat.pow_add 2 (q + 1) k, Nat.mul_comm, Nat.mul_mod_mul_left]
   have hp : 2 ^ (q + 1) ≠ 0 := Nat.ne_of_gt (Nat.pow_pos (by decide))
   exact ⟨fun h => (Nat.mul_eq_zero.1 h).resolve_left hp, fun h => by rw [h]; rfl⟩
theorem more_is {x y P : Nat} (hP : P ≠ 0) : (!decide (y = 0) || !decide (x = 0)) = !decide (x + P * y = 0) := by
 by_cases a : x = 0
 · by_cases b : y = 0
   · simp [a, b]
   · simp [a, b, Nat.mul_eq_zero, hP]
 · simp [a]
theorem St.start {p N D q f : Nat} {e : Int} (hf : e = (f : Int) - q) (hN : N ≠ 0) (hD : D ≠ 0) (he : e = max ((nbits N : Int) - nbits D - ((p + 1 : Nat) : Int)) (-(q : Int))) :
 St p (N * 2 ^ (q + 1)) D f (preI N e / D) (decide (preI N (e - 1) / D % 2 = 1)) (!decide (preI N (e - 1) % D = 0) || !decide (N % 2 ^ (e - 1).toNat = 0)) := by
 have h1 : preI N (e - 1) = N * 2 ^ (q + 1) / 2 ^ f := by rw [hf]; exact preI_X N q f
 have h2 : preI N e = preI N (e - 1) / 2 := by
  have h := preI_step N (e - 1)
  rw [show e - 1 + 1 = e by omega] at h
  have hb : bitI N (e - 1) ≤ 1 := by
   unfold bitI; split
   · omega
   · omega
  omega
 have hX := rest_X N q f
 refine ⟨?_, ?_, ?_, ?_⟩
 · rw [h2, h1, Nat.mul_comm D, ← Nat.div_div_eq_div_mul, Nat.div_div_eq_div_mul, Nat.mul_comm 2 D, ← Nat.div_div_eq_div_mul]
 · rw [h1, Nat.mul_comm D, ← Nat.div_div_eq_div_mul]
 · rw [h1, Nat.mul_comm D, Nat.mod_mul, show e - 1 = (f : Int) - q - 1 by omega, decide_eq_decide.2 hX.symm]
   exact more_is (Nat.ne_of_gt (Nat.pow_pos (by decide)))
 · by_cases h0 : f = 0
   · exact .inl h0
   · right
     have hb2 := nbits_lt D
     have ha2 : 2 ^ (nbits N - 1) ≤ N := by
      unfold nbits
      rw [if_neg hN, Nat.add_sub_cancel]
      exact Nat.log2_self_le hN
     have hb0 : 1 ≤ nbits D := by
      unfold nbits
      rw [if_neg hD]
      omega
     have ha0 : 1 ≤ nbits N := by
      unfold nbits
      rw [if_neg hN]
      omega
     have hee : e = (nbits N : Int) - nbits D - ((p + 1 : Nat) : Int) := by omega
     have h3 := preI_ge ha2 (i := e) (by omega)
     rw [show (((nbits N - 1 : Nat) : Int) - e).toNat = p + nbits D by omega, Nat.pow_add] at h3
     rw [Nat.le_div_iff_mul_le (Nat.pos_of_ne_zero hD)]
     refine Nat.le_trans (Nat.mul_le_mul ?_ (Nat.le_of_lt hb2)) h3
     exact Nat.pow_le_pow_right (by decide) (Nat.sub_le _ _)
def Fm (sz : Int) (p q t : Nat) : Prop := (sz = 32 ∧ p = 24 ∧ q = 149 ∧ t = 104) ∨ (sz = 64 ∧ p = 53 ∧ q = 1074 ∧ t = 971)
theorem Fm.ok {sz : Int} {p q t : Nat} (h : Fm sz p q t) : 1 < p ∧ p ≤ 53 ∧ 0 < q ∧ q ≤ 1074 ∧ t ≤ 971 ∧ (p : Int) < sz ∧ sz ≤ 64 := by
 rcases h with ⟨rfl, rfl, rfl, rfl⟩ | ⟨rfl, rfl, rfl, rfl⟩ <;> omega
def table : Obj := .map #[entry 32 24 149 104 0, entry 64 53 1074 971 1] 2
theorem look_form {w : World} {g : Nat} {sz : Int} {p q t : Nat} (hb : w.heap[g]? = some table) (hf : Fm sz p q t) : (Instr.lookup 150 (.map (some g)) (.int .i64 sz) true).run Tryz.prog w = .ok (.tuple #[.agg #[.int .i64 (p : Int), .int .i64 (q : Int), .int .i64 (t : Int)], .bool true]) w := by
 have h1 := Go.MapKept.run_getObj_map (P := Tryz.prog) hb
 have h2 : ∀ e, (Instr.checkKey e 10000 3 (.int .i64 sz)).run Tryz.prog w = .ok () w := fun e => Go.MapKept.run_checkKey (kt := 3) Tryz.underlying3 (by simp [Go.MapKept.IsKey]) e 9999
 rcases hf with ⟨rfl, rfl, rfl, rfl⟩ | ⟨rfl, rfl, rfl, rfl⟩
 · have h3 := Go.MapKept.run_findKey (w := w) (P := Tryz.prog) (kt := 3) (k := .int .i64 32) (l := #[entry 32 24 149 104 0, entry 64 53 1074 971 1].toList) Tryz.underlying3 (a := some (0, .agg #[.int .i64 24, .int .i64 149, .int .i64 104])) rfl
   simp [Instr.lookup, Sem.run_bind, run_underlying Tryz.underlying150, Result.andThen, h1, h2, h3]
 · have h3 := Go.MapKept.run_findKey (w := w) (P := Tryz.prog) (kt := 3) (k := .int .i64 64) (l := #[entry 32 24 149 104 0, entry 64 53 1074 971 1].toList) Tryz.underlying3 (a := some (1, .agg #[.int .i64 53, .int .i64 1074, .int .i64 971])) rfl
   simp [Instr.lookup, Sem.run_bind, run_underlying Tryz.underlying150, Result.andThen, h1, h2, h3]
def RetBits (u : Nat) (b : Bool) (c : Int) (w : World) (E : Ending) (w' : World) : Prop := E = .returned (.tuple #[.int .u64 (u : Int), .bool b, .int .i64 c]) ∧ Below w.heap.size w w'
theorem limbs_18 {n : Nat} (h : n < Top) : (limbs n).length ≤ 18 := by have := limbs_len.2 (show n < B32 ^ 16 from h); omega
theorem rbits_zero (s : Bool) (A B : Option Addr) (c d : Nat) (n e : Nat) (sz : Int) (p q t : Nat) (w : World) (h : RdL w A (limbs n)) (h' : RdL w B (limbs e)) (hc : (limbs n).length ≤ c) (hc' : (limbs e).length ≤ d) (hn : n < Top) (he : e < Top) (hr : rightB s (limbs n) (limbs e) = true) (hf : Fm sz p q t) (h0 : n = 0) :
 Calls Tryz.prog 107 #[.agg #[.bool s, .slice A (limbs n).length c, .slice B (limbs e).length d], .int .i64 sz] w (RetBits 0 true 0 w) := by
 have hz2 : ((limbs n).length : Int) = 0 := limbs_len0.2 h0
 have hz : (((limbs n).length : Int) == 0) = true := by simpa using hz2
 clear h0
 have HL := Lib.hid (And.intro hc (And.intro hc' (And.intro hn (And.intro he hr)))); clear hc hc' hn he hr
 have HF := Lib.hid hf; clear hf
 have RA := Lib.hid h; clear h
 have RB := Lib.hid h'; clear h'
 obtain ⟨wa, hwa⟩ : ∃ wa, wa = w.alloc (.cells #[.bool s, .slice A (limbs n).length c, .slice B (limbs e).length d] 25) := ⟨_, rfl⟩
 obtain ⟨hbl, CX⟩ := sal1 hwa
 replace RA := hmR RA hbl
 replace RB := hmR RB hbl
 have HW := Lib.hid hbl; clear hbl
 go_enter Tryz.func107, Tryz.ntmps107
 go_wp2_with fail
 rw [← hwa]
 clear hwa
 have CX0 := CX.out.c0
 have CX1 := CX.out.c1
 have CX2 := CX.out.c2
 refine (forms_any _).mono ?_
 rintro e w1 ⟨rfl, hmap, hbl⟩
 replace RA := hmR RA hbl
 replace RB := hmR RB hbl
 replace CX := hmB CX hbl
 replace HW := hmW HW hbl; clear hbl
 clear CX0 CX1 CX2
 have CX0 := CX.out.c0
 have CX1 := CX.out.c1
 have CX2 := CX.out.c2
 have hlk := look_form hmap HF.out
 clear hmap
 go_upto_region 2 with fail
 obtain ⟨wm, hwm⟩ : ∃ wm, wm = w1.alloc (.cells #[.int .i64 (p : Int), .int .i64 (q : Int), .int .i64 (t : Int)] 148) := ⟨_, rfl⟩
 rw [← hwm]
 obtain ⟨hbl, CF⟩ := sal1 hwm
 clear hwm
 replace RA := hmR RA hbl
 replace RB := hmR RB hbl
 replace CX := hmB CX hbl
 replace HW := hmW HW hbl; clear hbl
 clear CX0 CX1 CX2
 have CX0 := CX.out.c0
 have CX1 := CX.out.c1
 have CX2 := CX.out.c2
 have CF0 := CF.out.c0
 have CF1 := CF.out.c1
 have CF2 := CF.out.c2
 go_wp2_with fail
 refine (ratRight_any s A B c d (limbs n) (limbs e) _ RA.out RB.out (limbs_lim n) (limbs_lim e) (limbs_18 HL.out.2.2.1) (limbs_18 HL.out.2.2.2.1) HL.out.1 HL.out.2.1).mono ?_
 rintro e w2 ⟨rfl, hbl⟩
 replace RA := hmR RA hbl
 replace RB := hmR RB hbl
 replace CX := hmB CX hbl
 replace CF := hmB CF hbl
 replace HW := hmW HW hbl; clear hbl
 clear CX0 CX1 CX2 CF0 CF1 CF2
 have CX0 := CX.out.c0
 have CX1 := CX.out.c1
 have CX2 := CX.out.c2
 have CF0 := CF.out.c0
 have CF1 := CF.out.c1
 have CF2 := CF.out.c2
 rw [HL.out.2.2.2.2]
 go_wp2
 refine bodyPost_ret (v := .tuple #[.int .u64 0, .bool true, .int .i64 0]) ?hr rfl ?hR
 case hr => simp [results, Tryz.results107]
 exact ⟨rfl, HW.out⟩
end
section
open Go.RowKit

theorem Code.uniq {p q N D c c' : Nat} {x x' : Bool} (h : Code p q N D c x) (h' : Code p q N D c' x') (hD : 0 < D) : c = c' ∧ x = x' := by
 have e := h.congr h' hD hD rfl
 refine ⟨e, ?_⟩
 rw [h.exact_iff, h'.exact_iff, e]
structure BtRel (w1 wr : World) (p q n e m f k : Nat) (h r : Bool) : Prop where
 same : wr = w1
 st : St p (n * 2 ^ (q + 1)) e f m h r
 lt : m < 2 ^ k
 k61 : k ≤ 61
 fk : f + k ≤ q + 700
theorem code_is {p q n e cc f m M H C : Nat} {ex h r o up ex1 : Bool} (hC : Code p q n e cc ex) (st : St p (n * 2 ^ (q + 1)) e f m h r) (hp : 1 < p) (he : e ≠ 0) (hm : m < 2 ^ p) (ho : decide (m % 2 = 1) = o) (hu : (h && (r || o)) = up) (hx : (!h && !r) = ex1) (hM : M = m + up.toNat) (hH : H = 2 ^ (p - 1)) (hc : C = M + f * H) : cc = C ∧ ex = ex1 := by
 obtain ⟨h1, h2⟩ := hC.uniq (st.code hp (Nat.pos_of_ne_zero he) hm) (Nat.pos_of_ne_zero he)
 rw [ho, hu, ← hH] at h1
 refine ⟨?_, h2.trans hx⟩
 omega
theorem code_over {t q f2 M2 H C : Nat} (hC : C = M2 + f2 * H) (hM : M2 < 2 * H) (hf : f2 = 0 ∨ H ≤ M2) : t + q < f2 ↔ (t + q + 2) * H ≤ C := by
 constructor
 · intro h
   have h1 : (t + q + 1) * H ≤ f2 * H := Nat.mul_le_mul_right _ h
   rw [show t + q + 2 = t + q + 1 + 1 by omega, Nat.add_mul (t + q + 1) 1]
   omega
 · intro h
   rcases Nat.lt_or_ge (t + q) f2 with h1 | h1
   · exact h1
   · have h2 : f2 * H ≤ (t + q) * H := Nat.mul_le_mul_right _ h1
     rw [Nat.add_mul] at h
     omega
theorem small_code {f2 M2 H C D : Nat} (hC : C = M2 + f2 * H) (hf : f2 = 0 ∨ H ≤ M2) (hD : D = M2 / H) (h0 : D = 0) (hH : 0 < H) : M2 = C := by
 rw [h0] at hD
 have h1 := (Nat.div_eq_zero_iff_lt hH).1 hD.symm
 rcases hf with h | h
 · rw [hC, h]; simp
 · omega
theorem norm_code {p q t f2 M2 H C F J L H1 : Nat} (hC : C = M2 + f2 * H) (hM : M2 < 2 * H) (hge : H ≤ M2) (hH : H = 2 ^ (p - 1)) (hp : 1 < p) (hp2 : p ≤ 53) (hF : F = f2 + 1) (hJ : J = M2 % H) (hL : L = F * H) (hH1 : H1 = H - 1) (hf : f2 ≤ t + q) (hq : q ≤ 1074) (ht : t ≤ 971) :
 H ≤ 4503599627370496 ∧ L ≤ 2046 * 4503599627370496 ∧ J ||| L = C ∧ M2 &&& H1 = J := by
 have h1 : H ≤ 4503599627370496 := by rw [hH]; exact Nat.pow_le_pow_right (n := 2) (j := 52) (by decide) (by omega)
 have hH0 : 0 < H := by rw [hH]; exact Nat.pow_pos (by decide)
 have hJ2 : J = M2 - H := by
  rw [hJ, Nat.mod_eq_sub_mod hge, Nat.mod_eq_of_lt (by omega)]
 have hJlt : J < 2 ^ (p - 1) := by rw [← hH]; omega
 refine ⟨h1, ?_, ?_, ?_⟩
 · rw [hL]
   exact Nat.mul_le_mul (by omega) h1
 · have h3 := Nat.two_pow_add_eq_or_of_lt hJlt F
   rw [Nat.or_comm, hL, Nat.mul_comm, hH, ← h3, ← hH, hC, hF, hJ2, Nat.mul_add, Nat.mul_comm H f2]
   omega
 · rw [hH1, hJ, hH]
   exact Nat.and_two_pow_sub_one_eq_mod M2 (p - 1)
theorem fit_code {sz : Int} {p q t C z : Nat} (hf : Fm sz p q t) (hz : sz = (z : Int) + 1) (h : ¬ (t + q + 2) * 2 ^ (p - 1) ≤ C) : C < 2 ^ z := by
 rcases hf with ⟨rfl, rfl, rfl, rfl⟩ | ⟨rfl, rfl, rfl, rfl⟩
 · obtain rfl : z = 31 := by omega
   omega
 · obtain rfl : z = 63 := by omega
   omega
theorem or_sign {C z : Nat} (h : C < 2 ^ z) (hz : z ≤ 63) : bits BinOp.or IntKind.u64 (C : Int) (IntKind.u64.wrap (2 ^ min z 64)) = ((C + 2 ^ z : Nat) : Int) := by
 have h1 : 2 ^ z ≤ 9223372036854775808 := Nat.pow_le_pow_right (n := 2) (j := 63) (by decide) hz
 have h2 : ((2 : Int) ^ z) = ((2 ^ z : Nat) : Int) := by rw [Int.natCast_pow]; rfl
 have h3 := Nat.two_pow_add_eq_or_of_lt h 1
 rw [Nat.mul_one] at h3
 rw [show min z 64 = z by omega, h2]
 generalize 2 ^ z = P at *
 rw [show IntKind.u64.wrap (P : Int) = (P : Int) by rw [IntKind.wrap_u64]; omega, u64_or_nat _ _ (by omega) (by omega), Nat.or_comm, ← h3, Nat.add_comm]
theorem u64_and_one (m : Nat) (h : m < 18446744073709551616) : bits BinOp.and IntKind.u64 (m : Int) 1 = ((m % 2 : Nat) : Int) := by
 have h1 := u64_and_nat m 1 h (by decide)
 rwa [Nat.and_one_is_mod] at h1
theorem odd_beq (m : Nat) : (((m % 2 : Nat) : Int) == 1) = decide (m % 2 = 1) := by
 rcases Nat.mod_two_eq_zero_or_one m with h | h <;> rw [h] <;> rfl
theorem right_den {s : Bool} {n e : Nat} (hn : n < Top) (he : e < Top) (hr : rightB s (limbs n) (limbs e) = true) : e ≠ 0 := ((rightB_q hn he).1 hr).den
theorem bits_bound {n e p q f : Nat} (hn : n < Top) (he : e < Top) (he0 : e ≠ 0) (hE : (f : Int) - q = max ((nbits n : Int) - nbits e - ((p + 1 : Nat) : Int)) (-(q : Int))) (hp : p ≤ 53) : preI n ((f : Int) - q) / e < 2 ^ 61 ∧ f + 61 ≤ q + 700 := by
 have ha1 := nbits_top hn
 have hb1 := nbits_top he
 have ha2 := nbits_lt n
 have hb2 : 2 ^ (nbits e - 1) ≤ e := by
  unfold nbits
  rw [if_neg he0, Nat.add_sub_cancel]
  exact Nat.log2_self_le he0
 have hP := preI_lt ha2 (i := (f : Int) - q) (by omega)
 have h1 := quo_bound hP hb2 (k := 0) (by omega)
 rw [Nat.pow_zero, Nat.mul_one] at h1
 exact ⟨h1, by omega⟩
def RetCode (s : Bool) (sz : Int) (p q t cc : Nat) (ex : Bool) (w : World) (E : Ending) (w' : World) : Prop := RetBits (if (t + q + 2) * 2 ^ (p - 1) ≤ cc then 0 else if s = true ∧ cc ≠ 0 then cc + 2 ^ (sz.toNat - 1) else cc) (if (t + q + 2) * 2 ^ (p - 1) ≤ cc then false else ex) (if (t + q + 2) * 2 ^ (p - 1) ≤ cc then 2 else 0) w E w'
theorem RetCode.over {s : Bool} {sz : Int} {p q t cc : Nat} {ex : Bool} {w w' : World} (h : (t + q + 2) * 2 ^ (p - 1) ≤ cc) (hb : Below w.heap.size w w') : RetCode s sz p q t cc ex w (.returned (.tuple #[.int .u64 0, .bool false, .int .i64 2])) w' := by
 unfold RetCode
 rw [if_pos h, if_pos h, if_pos h]
 exact ⟨rfl, hb⟩
theorem RetCode.fit {s : Bool} {sz : Int} {p q t cc U : Nat} {ex : Bool} {w w' : World} (h : ¬ (t + q + 2) * 2 ^ (p - 1) ≤ cc) (hU : U = if s = true ∧ cc ≠ 0 then cc + 2 ^ (sz.toNat - 1) else cc) (hb : Below w.heap.size w w') : RetCode s sz p q t cc ex w (.returned (.tuple #[.int .u64 (U : Int), .bool ex, .int .i64 0])) w' := by
 unfold RetCode
 rw [if_neg h, if_neg h, if_neg h, ← hU]
 exact ⟨rfl, hb⟩
theorem rbits_code {cc : Nat} {ex : Bool} (s : Bool) (A B : Option Addr) (c d : Nat) (n e : Nat) (sz : Int) (p q t : Nat) (w : World) (h : RdL w A (limbs n)) (h' : RdL w B (limbs e)) (hc : (limbs n).length ≤ c) (hc' : (limbs e).length ≤ d) (hn : n < Top) (he : e < Top) (hr : rightB s (limbs n) (limbs e) = true) (hf : Fm sz p q t) (h0 : n ≠ 0) (hC : Code p q n e cc ex) :
 Calls Tryz.prog 107 #[.agg #[.bool s, .slice A (limbs n).length c, .slice B (limbs e).length d], .int .i64 sz] w (RetCode s sz p q t cc ex w) := by
 have hz2 : ¬ ((limbs n).length : Int) = 0 := mt limbs_len0.1 h0
 have hz : (((limbs n).length : Int) == 0) = false := by simpa using hz2
 obtain ⟨op1, op2, oq0, oq, ot, os1, os2⟩ := hf.ok
 have s1 : IntKind.i64.wrap ((p : Int) + 1) = ((p + 1 : Nat) : Int) := by rw [IntKind.wrap_i64]; omega
 have HE0 := Lib.hid (right_den hn he hr)
 have H0 := Lib.hid h0; clear h0
 have HC := Lib.hid hC; clear hC
 have HL := Lib.hid (And.intro hc (And.intro hc' (And.intro hn (And.intro he hr)))); clear hc hc' hn he hr
 have HF := Lib.hid hf; clear hf
 have RA := Lib.hid h; clear h
 have RB := Lib.hid h'; clear h'
 obtain ⟨wa, hwa⟩ : ∃ wa, wa = w.alloc (.cells #[.bool s, .slice A (limbs n).length c, .slice B (limbs e).length d] 25) := ⟨_, rfl⟩
 obtain ⟨hbl, CX⟩ := sal1 hwa
 replace RA := hmR RA hbl
 replace RB := hmR RB hbl
 have HW := Lib.hid hbl; clear hbl
 go_enter Tryz.func107, Tryz.ntmps107
 go_wp2_with fail
 rw [← hwa]
 clear hwa
 have CX0 := CX.out.c0
 have CX1 := CX.out.c1
 have CX2 := CX.out.c2
 refine (forms_any _).mono ?_
 rintro e w1 ⟨rfl, hmap, hbl⟩
 replace RA := hmR RA hbl
 replace RB := hmR RB hbl
 replace CX := hmB CX hbl
 replace HW := hmW HW hbl; clear hbl
 clear CX0 CX1 CX2
 have CX0 := CX.out.c0
 have CX1 := CX.out.c1
 have CX2 := CX.out.c2
 have hlk := look_form hmap HF.out
 clear hmap
 go_upto_region 2 with fail
 obtain ⟨wm, hwm⟩ : ∃ wm, wm = w1.alloc (.cells #[.int .i64 (p : Int), .int .i64 (q : Int), .int .i64 (t : Int)] 148) := ⟨_, rfl⟩
 rw [← hwm]
 obtain ⟨hbl, CF⟩ := sal1 hwm
 clear hwm
 replace RA := hmR RA hbl
 replace RB := hmR RB hbl
 replace CX := hmB CX hbl
 replace HW := hmW HW hbl; clear hbl
 clear CX0 CX1 CX2
 have CX0 := CX.out.c0
 have CX1 := CX.out.c1
 have CX2 := CX.out.c2
 have CF0 := CF.out.c0
 have CF1 := CF.out.c1
 have CF2 := CF.out.c2
 go_wp2_with fail
 refine (ratRight_any s A B c d (limbs n) (limbs e) _ RA.out RB.out (limbs_lim n) (limbs_lim e) (limbs_18 HL.out.2.2.1) (limbs_18 HL.out.2.2.2.1) HL.out.1 HL.out.2.1).mono ?_
 rintro e w2 ⟨rfl, hbl⟩
 replace RA := hmR RA hbl
 replace RB := hmR RB hbl
 replace CX := hmB CX hbl
 replace CF := hmB CF hbl
 replace HW := hmW HW hbl; clear hbl
 clear CX0 CX1 CX2 CF0 CF1 CF2
 have CX0 := CX.out.c0
 have CX1 := CX.out.c1
 have CX2 := CX.out.c2
 have CF0 := CF.out.c0
 have CF1 := CF.out.c1
 have CF2 := CF.out.c2
 rw [HL.out.2.2.2.2]
 obtain ⟨E, hE⟩ : ∃ E, E = max ((nbits n : Int) - nbits e - ((p + 1 : Nat) : Int)) (-(q : Int)) := ⟨_, rfl⟩
 obtain ⟨f0, hf0⟩ : ∃ f0 : Nat, E = (f0 : Int) - q := ⟨(E + q).toNat, by omega⟩
 go_wp2_with fail
 refine (digits_any A B c d n e (p + 1) q E _ RA.out RB.out HL.out.2.2.1 HL.out.2.2.2.1 HE0.out (by omega) (by omega) hE).mono ?_
 rintro e w3 ⟨rfl, hbl⟩
 replace RA := hmR RA hbl
 replace RB := hmR RB hbl
 replace CX := hmB CX hbl
 replace CF := hmB CF hbl
 replace HW := hmW HW hbl; clear hbl
 clear CX0 CX1 CX2 CF0 CF1 CF2
 have CX0 := CX.out.c0
 have CX1 := CX.out.c1
 have CX2 := CX.out.c2
 have CF0 := CF.out.c0
 have CF1 := CF.out.c1
 have CF2 := CF.out.c2
 have hst := St.start hf0 H0.out HE0.out hE
 subst hf0
 obtain ⟨m0, hm0⟩ : ∃ m, preI n ((f0 : Int) - q) / e = m := ⟨_, rfl⟩
 obtain ⟨b0, hb0⟩ : ∃ b, decide (preI n ((f0 : Int) - q - 1) / e % 2 = 1) = b := ⟨_, rfl⟩
 obtain ⟨r0, hr0⟩ : ∃ b, (!decide (preI n ((f0 : Int) - q - 1) % e = 0) || !decide (n % 2 ^ ((f0 : Int) - q - 1).toNat = 0)) = b := ⟨_, rfl⟩
 rw [hm0, hb0, hr0] at hst
 rw [hm0, hb0, hr0]
 have hbound : m0 < 2 ^ 61 ∧ f0 + 61 ≤ q + 700 := by rw [← hm0]; exact bits_bound HL.out.2.2.1 HL.out.2.2.2.1 HE0.out hE op2
 have HS := Lib.hid (And.intro hst hbound); clear hst hbound hm0 hb0 hr0 hE
 clear s1 hz hz2
 go_wp2_with fail
 go_loopw [9, 10, 11, 12] (fun mv ev hv rv wr => ∃ (m f k : Nat) (h r : Bool), mv = .int .u64 (m : Int) ∧ ev = .int .i64 ((f : Int) - q) ∧ hv = .bool h ∧ rv = .bool r ∧ BtRel w3 wr p q n e m f k h r) (fun mv _ _ _ _ => (intOf mv).toNat)
 case atStart => exact ⟨m0, f0, 61, b0, r0, rfl, rfl, rfl, rfl, rfl, HS.out.1, HS.out.2.1, by omega, HS.out.2.2⟩
 case round =>
  obtain ⟨m, f, k, h, r, rfl, rfl, rfl, rfl, hrel⟩ := hrel
  have hw := hrel.same
  subst hw
  have HR := Lib.hid hrel; clear hrel
  have hk61 := HR.out.k61
  have hmk := HR.out.lt
  have hfk := HR.out.fk
  have hm61 : m < 2305843009213693952 := Nat.lt_of_lt_of_le hmk (Nat.pow_le_pow_right (n := 2) (j := 61) (by decide) hk61)
  obtain ⟨o, ho⟩ : ∃ o, decide (m % 2 = 1) = o := ⟨_, rfl⟩
  have hb : (bits BinOp.and IntKind.u64 (m : Int) 1 == 1) = o := by rw [u64_and_one m (by omega), ← ho]; exact odd_beq m
  have HO := Lib.hid ho; clear ho
  obtain ⟨P, hP⟩ : ∃ P, P = 2 ^ p := ⟨_, rfl⟩
  have q1 : (2 : Int) ^ p = (P : Int) := by rw [hP, Int.natCast_pow]; rfl
  have q2 : (m : Int) / (P : Int) = ((m / P : Nat) : Int) := (Int.natCast_ediv m P).symm
  obtain ⟨D, hD⟩ : ∃ D, D = m / P := ⟨_, rfl⟩
  rw [← hD] at q2
  by_cases hmp : D = 0
  · have c1 : ((D : Int) != 0) = false := by simp [hmp]
    have hmP : m < P := by rw [hmp] at hD; exact (Nat.div_eq_zero_iff_lt (by rw [hP]; exact Nat.pow_pos (by decide))).1 hD.symm
    have HP := Lib.hid (And.intro hP (And.intro hD hmP)); clear hP hD hmP hmp
    go_upto_region 12 with fail
    go_cut [13] (fun v wx => v = .bool (!h && !r) ∧ wx = wr)
    case first => (cases h <;> cases r <;> (go_wp2_with fail; go_meet; exact ⟨rfl, rfl⟩))
    case rest =>
     obtain ⟨rfl, rfl⟩ := hcut
     obtain ⟨ex1, hex1⟩ : ∃ x, (!h && !r) = x := ⟨_, rfl⟩
     rw [hex1]
     have HX1 := Lib.hid hex1; clear hex1
     go_upto_region 13 with fail
     go_cut [77] (fun v wx => v = .bool (h && (r || o)) ∧ wx = wc)
     case first => (cases h <;> cases r <;> cases o <;> (go_wp2_with fail; go_meet; exact ⟨rfl, rfl⟩))
     case rest =>
      obtain ⟨rfl, rfl⟩ := hcut
      obtain ⟨up, hup⟩ : ∃ x, (h && (r || o)) = x := ⟨_, rfl⟩
      rw [hup]
      have HU := Lib.hid hup; clear hup
      obtain ⟨M, hM⟩ : ∃ M, M = m + up.toNat := ⟨_, rfl⟩
      have hMP : M ≤ P := by have := HP.out.2.2; have := Bool.toNat_le up; omega
      have s9 : IntKind.u64.wrap ((m : Int) + 1) = ((m + 1 : Nat) : Int) := by rw [IntKind.wrap_u64]; omega
      have HM := Lib.hid hM; clear hM
      go_upto_if 77 with fail
      go_cut [9] (fun v wx => v = .int .u64 (M : Int) ∧ wx = wc)
      case first => (cases up <;> (go_wp2_with fail; go_meet; exact ⟨by rw [HM.out]; rfl, rfl⟩))
      case rest =>
       obtain ⟨rfl, rfl⟩ := hcut
       clear s9
       obtain ⟨H, hH⟩ : ∃ H, H = 2 ^ (p - 1) := ⟨_, rfl⟩
       have hPH : P = 2 * H := by rw [HP.out.1, hH, Nat.mul_comm, ← Nat.pow_succ, show (p - 1).succ = p by omega]
       have hH0 : 0 < H := by rw [hH]; exact Nat.pow_pos (by decide)
       have hlow := HR.out.st.low
       rw [← hH] at hlow
       have q3 : (M : Int) / (P : Int) = ((M / P : Nat) : Int) := (Int.natCast_ediv M P).symm
       obtain ⟨D2, hD2⟩ : ∃ D2, D2 = M / P := ⟨_, rfl⟩
       rw [← hD2] at q3
       have HH := Lib.hid (And.intro hH (And.intro hPH hH0)); clear hH hPH hH0
       have HL2 := Lib.hid hlow; clear hlow
       have HD2 := Lib.hid hD2; clear hD2
       go_upto_if 84 with fail
       go_cut [9, 10] (fun v v2 wx => wx = wc ∧ ∃ (M2 f2 : Nat), v = .int .u64 (M2 : Int) ∧ v2 = .int .i64 ((f2 : Int) - q) ∧ M2 + f2 * H = M + f * H ∧ M2 < 2 * H ∧ (f2 = 0 ∨ H ≤ M2) ∧ f2 ≤ f + 1)
       case first =>
        by_cases hd : D2 = 0
        · have c2 : ((D2 : Int) != 0) = false := by simp [hd]
          have HD3 := Lib.hid hd; clear hd
          go_wp2_with fail
          go_meet
          exact ⟨rfl, M, f, rfl, rfl, rfl, by have h1 := HD2.out; rw [HD3.out] at h1; have h2 := (Nat.div_eq_zero_iff_lt (show 0 < P by have := HH.out.2.1; have := HH.out.2.2; omega)).1 h1.symm; rw [← HH.out.2.1]; exact h2, HL2.out.imp id (fun h => by have := HM.out; omega), by omega⟩
        · have c2 : ((D2 : Int) != 0) = true := by simp [hd]
          have hME : M = P := by rcases Nat.lt_or_eq_of_le hMP with h | h; exact absurd (HD2.out.trans (Nat.div_eq_of_lt h)) hd; exact h
          have s9 : IntKind.i64.wrap ((f : Int) - q + 1) = (f : Int) + 1 - q := by rw [IntKind.wrap_i64]; omega
          have q5 : (M : Int) / 2 = (H : Int) := by rw [hME, HH.out.2.1]; omega
          have HD3 := Lib.hid hME; clear hME hd
          go_wp2_with fail
          go_meet
          exact ⟨rfl, H, f + 1, rfl, by rw [Int.natCast_add]; rfl, by rw [HD3.out, HH.out.2.1, Nat.add_mul]; omega, by have := HH.out.2.2; omega, .inr (Nat.le_refl _), Nat.le_refl _⟩
       case rest =>
        obtain ⟨rfl, M2, f2, rfl, rfl, hcode, hM2, hf2, hff⟩ := hcut
        clear q3 hMP
        obtain ⟨C, hC⟩ : ∃ C, C = M2 + f2 * H := ⟨_, rfl⟩
        have hcc := code_is HC.out HR.out.st op1 HE0.out (by rw [← HP.out.1]; exact HP.out.2.2) HO.out HU.out HX1.out HM.out HH.out.1 (hC.trans hcode)
        have HQ := Lib.hid (And.intro hC (And.intro hM2 (And.intro hf2 hcc))); clear hC hM2 hcc hcode
        by_cases hov : (t : Int) < (f2 : Int) - q
        · have hov2 := (code_over HQ.out.1 HQ.out.2.1 HQ.out.2.2.1).1 (show t + q < f2 by omega)
          go_wp2
          refine bodyPost_ret (v := .tuple #[.int .u64 0, .bool false, .int .i64 2]) ?hr rfl ?hR
          case hr => simp [results, Tryz.results107]
          exact RetCode.over (by rw [HQ.out.2.2.2.1, ← HH.out.1]; exact hov2) HW.out
        · have hov2 := Lib.hid (mt (code_over HQ.out.1 HQ.out.2.1 HQ.out.2.2.1).2 (show ¬ t + q < f2 by omega))
          have g1 : IntKind.i64.wrap ((p : Int) - 1) = ((p - 1 : Nat) : Int) := by rw [IntKind.wrap_i64]; omega
          have q6 : (2 : Int) ^ (p - 1) = (H : Int) := by rw [HH.out.1, Int.natCast_pow]; rfl
          have q7 : (M2 : Int) / (H : Int) = ((M2 / H : Nat) : Int) := (Int.natCast_ediv M2 H).symm
          obtain ⟨D3, hD3⟩ : ∃ D3, D3 = M2 / H := ⟨_, rfl⟩
          rw [← hD3] at q7
          have HD3 := Lib.hid hD3; clear hD3
          go_upto_if 99 with fail
          go_cut [14] (fun v wx => v = .int .u64 (C : Int) ∧ Below w.heap.size w wx ∧ Blk wx (w.heap.size) 25 #[.bool s, .slice A (limbs n).length c, .slice B (limbs e).length d])
          case first =>
           by_cases hd : D3 = 0
           · have c3 : ((D3 : Int) != 0) = false := by simp [hd]
             have hM0 : M2 = C := small_code HQ.out.1 HQ.out.2.2.1 HD3.out hd HH.out.2.2
             have HM0 := Lib.hid hM0; clear hM0 hd
             go_wp2_with fail
             go_meet
             exact ⟨by rw [HM0.out], HW.out, CX.out⟩
           · have c3 : ((D3 : Int) != 0) = true := by simp [hd]
             have hge : H ≤ M2 := by rcases Nat.lt_or_ge M2 H with h | h; exact absurd (HD3.out.trans (Nat.div_eq_of_lt h)) hd; exact h
             obtain ⟨F, hF⟩ : ∃ F, F = f2 + 1 := ⟨_, rfl⟩
             obtain ⟨J, hJ⟩ : ∃ J, J = M2 % H := ⟨_, rfl⟩
             obtain ⟨L, hL⟩ : ∃ L, L = F * H := ⟨_, rfl⟩
             obtain ⟨H1, hH1⟩ : ∃ H1, H1 = H - 1 := ⟨_, rfl⟩
             obtain ⟨hHm, hLm, hJL, hJa⟩ := norm_code HQ.out.1 HQ.out.2.1 hge HH.out.1 op1 op2 hF hJ hL hH1 (by have := hov; omega) oq ot
             have hJ2 : M2 < 18446744073709551616 := by have := HQ.out.2.1; omega
             have hmin : min (p - 1) 64 = p - 1 := by omega
             have g2 : IntKind.u64.wrap (H : Int) = (H : Int) := by rw [IntKind.wrap_u64]; omega
             have g3 : IntKind.u64.wrap ((H : Int) - 1) = (H1 : Int) := by rw [IntKind.wrap_u64]; have := HH.out.2.2; omega
             have g4 : bits BinOp.and IntKind.u64 (M2 : Int) (H1 : Int) = (J : Int) := by rw [u64_and_nat _ _ hJ2 (by omega), hJa]
             have g5 : IntKind.i64.wrap (f2 : Int) = (f2 : Int) := by rw [IntKind.wrap_i64]; omega
             have g6 : IntKind.i64.wrap ((f2 : Int) + 1) = (F : Int) := by rw [IntKind.wrap_i64]; omega
             have g7 : IntKind.u64.wrap (F : Int) = (F : Int) := by rw [IntKind.wrap_u64]; omega
             have g8 : (F : Int) * (H : Int) = (L : Int) := by rw [hL, Int.natCast_mul]
             have g9 : IntKind.u64.wrap (L : Int) = (L : Int) := by rw [IntKind.wrap_u64]; omega
             have g10 : bits BinOp.or IntKind.u64 (J : Int) (L : Int) = (C : Int) := by rw [u64_or_nat _ _ (by have := Nat.mod_lt M2 HH.out.2.2; omega) (by omega), hJL]
             clear hHm hLm hJL hJa hJ2 hge hF hJ hL hH1 hd
             go_upto_region 22 with fail
             refine wp_region_typed 18 (TOf [VIs (.int .u64 (M2 : Int)),
              VIs (.pointer (some ⟨w1.heap.size, 0, none⟩)),
              VIs (.int .i64 (p : Int)),
              VIs (.int .i64 ((p - 1 : Nat) : Int)),
              VIs (.int .u64 (H : Int)),
              VIs (.int .u64 (H1 : Int)),
              VIs (.int .u64 (J : Int)),
              VIs (.int .i64 ((f2 : Int) - q)),
              VIs (.pointer (some ⟨w1.heap.size, 1, none⟩)),
              VIs (.int .i64 (q : Int)),
              VIs (.int .i64 (f2 : Int)),
              VIs (.int .i64 (F : Int)),
              VIs (.int .u64 (F : Int)),
              VIs (.pointer (some ⟨w1.heap.size, 0, none⟩)),
              VIs (.int .i64 (p : Int)),
              VIs (.int .i64 ((p - 1 : Nat) : Int)),
              VIs (.int .u64 (L : Int)),
              VIs (.int .u64 (C : Int))]) (by kernel_rfl) (by kernel_rfl) (by kernel_rfl) (LiftAll.at_ (.cons (VIs.lift _) (.cons (VIs.lift _) (.cons (VIs.lift _) (.cons (VIs.lift _) (.cons (VIs.lift _) (.cons (VIs.lift _) (.cons (VIs.lift _) (.cons (VIs.lift _) (.cons (VIs.lift _) (.cons (VIs.lift _) (.cons (VIs.lift _) (.cons (VIs.lift _) (.cons (VIs.lift _) (.cons (VIs.lift _) (.cons (VIs.lift _) (.cons (VIs.lift _) (.cons (VIs.lift _) (.cons (VIs.lift _) .nil))))))))))))))))))) (steps_all (steps_cons ?_ (steps_cons ?_ (steps_cons ?_ (steps_cons ?_ (steps_cons ?_ (steps_cons ?_ (steps_cons ?_ (steps_cons ?_ (steps_cons ?_ (steps_cons ?_ (steps_cons ?_ (steps_cons ?_ (steps_cons ?_ (steps_cons ?_ (steps_cons ?_ (steps_cons ?_ (steps_cons ?_ (steps_cons ?_ steps_zero))))))))))))))))))) ?fin
             · intro a0 w9 K9 hF hB hK hC
               have b9 := hF.base (k := 9) (by kernel_rfl) rfl
               clear hF hB hK
               go_simp
               exact hC _ _ (bR _) fun _ _ => rfl
             · intro a0 w9 K9 hF hB hK hC
               have b7 := hF.base (k := 7) (by kernel_rfl) rfl
               clear hF hB hK
               go_simp
               exact hC _ _ (bR _) fun _ _ => rfl
             · intro a0 w9 K9 hF hB hK hC
               have e101 := depV hK 0 rfl rfl rfl rfl
               have x9 := (CF.out.below hB CF.out.lt).c0
               clear hF hB hK
               go_simp
               exact hC _ _ (bR _) fun _ _ => rfl
             · intro a0 w9 K9 hF hB hK hC
               have e102 := depV hK 0 rfl rfl rfl rfl
               have HB9 := Lib.hid hB
               clear hF hB hK
               go_simp
               exact hC _ _ (bR _) fun _ _ => rfl
             · intro a0 w9 K9 hF hB hK hC
               have e103 := depV hK 0 rfl rfl rfl rfl
               have HB9 := Lib.hid hB
               clear hF hB hK
               go_simp
               exact hC _ _ (bR _) fun _ _ => rfl
             · intro a0 w9 K9 hF hB hK hC
               have e104 := depV hK 0 rfl rfl rfl rfl
               have HB9 := Lib.hid hB
               clear hF hB hK
               go_simp
               exact hC _ _ (bR _) fun _ _ => rfl
             · intro a0 w9 K9 hF hB hK hC
               have e100 := depV hK 0 rfl rfl rfl rfl
               have e105 := depV hK 1 rfl rfl rfl rfl
               have HB9 := Lib.hid hB
               clear hF hB hK
               go_simp
               exact hC _ _ (bR _) fun _ _ => rfl
             · intro a0 w9 K9 hF hB hK hC
               have b10 := hF.base (k := 10) (by kernel_rfl) rfl
               clear hF hB hK
               go_simp
               exact hC _ _ (bR _) fun _ _ => rfl
             · intro a0 w9 K9 hF hB hK hC
               have b7 := hF.base (k := 7) (by kernel_rfl) rfl
               clear hF hB hK
               go_simp
               exact hC _ _ (bR _) fun _ _ => rfl
             · intro a0 w9 K9 hF hB hK hC
               have e108 := depV hK 0 rfl rfl rfl rfl
               have x9 := (CF.out.below hB CF.out.lt).c1
               clear hF hB hK
               go_simp
               exact hC _ _ (bR _) fun _ _ => rfl
             · intro a0 w9 K9 hF hB hK hC
               have e107 := depV hK 0 rfl rfl rfl rfl
               have e109 := depV hK 1 rfl rfl rfl rfl
               have HB9 := Lib.hid hB
               clear hF hB hK
               go_simp
               exact hC _ _ (bR _) fun _ _ => rfl
             · intro a0 w9 K9 hF hB hK hC
               have e110 := depV hK 0 rfl rfl rfl rfl
               have HB9 := Lib.hid hB
               clear hF hB hK
               go_simp
               exact hC _ _ (bR _) fun _ _ => rfl
             · intro a0 w9 K9 hF hB hK hC
               have e111 := depV hK 0 rfl rfl rfl rfl
               have HB9 := Lib.hid hB
               clear hF hB hK
               go_simp
               exact hC _ _ (bR _) fun _ _ => rfl
             · intro a0 w9 K9 hF hB hK hC
               have b7 := hF.base (k := 7) (by kernel_rfl) rfl
               clear hF hB hK
               go_simp
               exact hC _ _ (bR _) fun _ _ => rfl
             · intro a0 w9 K9 hF hB hK hC
               have e113 := depV hK 0 rfl rfl rfl rfl
               have x9 := (CF.out.below hB CF.out.lt).c0
               clear hF hB hK
               go_simp
               exact hC _ _ (bR _) fun _ _ => rfl
             · intro a0 w9 K9 hF hB hK hC
               have e114 := depV hK 0 rfl rfl rfl rfl
               have HB9 := Lib.hid hB
               clear hF hB hK
               go_simp
               exact hC _ _ (bR _) fun _ _ => rfl
             · intro a0 w9 K9 hF hB hK hC
               have e112 := depV hK 0 rfl rfl rfl rfl
               have e115 := depV hK 1 rfl rfl rfl rfl
               have HB9 := Lib.hid hB
               clear hF hB hK
               go_simp
               exact hC _ _ (bR _) fun _ _ => rfl
             · intro a0 w9 K9 hF hB hK hC
               have e106 := depV hK 0 rfl rfl rfl rfl
               have e116 := depV hK 1 rfl rfl rfl rfl
               have HB9 := Lib.hid hB
               clear hF hB hK
               go_simp
               exact hC _ _ (bR _) fun _ _ => rfl
             case fin =>
              intro a0 w9 hF hB hK
              have b0 := hF.base (k := 0) (by kernel_rfl) rfl
              have b1 := hF.base (k := 1) (by kernel_rfl) rfl
              have b2 := hF.base (k := 2) (by kernel_rfl) rfl
              have b3 := hF.base (k := 3) (by kernel_rfl) rfl
              have b4 := hF.base (k := 4) (by kernel_rfl) rfl
              have b5 := hF.base (k := 5) (by kernel_rfl) rfl
              have b6 := hF.base (k := 6) (by kernel_rfl) rfl
              have b7 := hF.base (k := 7) (by kernel_rfl) rfl
              have b8 := hF.base (k := 8) (by kernel_rfl) rfl
              have b9 := hF.base (k := 9) (by kernel_rfl) rfl
              have b10 := hF.base (k := 10) (by kernel_rfl) rfl
              have b11 := hF.base (k := 11) (by kernel_rfl) rfl
              have b12 := hF.base (k := 12) (by kernel_rfl) rfl
              have b13 := hF.base (k := 13) (by kernel_rfl) rfl
              have hsz := hF.size
              have hdf := hF.defers
              clear hF
              obtain ⟨v117, e117, z117⟩ := known hK 17 (k := 117) (by decide) rfl
              have z117 : v117 = .int .u64 (C : Int) := z117
              subst z117
              clear hK
              obtain ⟨⟨l0⟩, df⟩ := a0
              have hs0 : l0.length = 131 := hsz
              clear hsz
              replace hdf : df = _ := hdf
              subst hdf
              obtain ⟨u, rfl⟩ := lits_131 hs0
              clear hs0
              have q0 : u 0 = _ := Option.some.inj b0
              clear b0
              have q1 : u 1 = _ := Option.some.inj b1
              clear b1
              have q2 : u 2 = _ := Option.some.inj b2
              clear b2
              have q3 : u 3 = _ := Option.some.inj b3
              clear b3
              have q4 : u 4 = _ := Option.some.inj b4
              clear b4
              have q5 : u 5 = _ := Option.some.inj b5
              clear b5
              have q6 : u 6 = _ := Option.some.inj b6
              clear b6
              have q7 : u 7 = _ := Option.some.inj b7
              clear b7
              have q8 : u 8 = _ := Option.some.inj b8
              clear b8
              have q9 : u 9 = _ := Option.some.inj b9
              clear b9
              have q10 : u 10 = _ := Option.some.inj b10
              clear b10
              have q11 : u 11 = _ := Option.some.inj b11
              clear b11
              have q12 : u 12 = _ := Option.some.inj b12
              clear b12
              have q13 : u 13 = _ := Option.some.inj b13
              clear b13
              have q117 : u 117 = _ := Option.some.inj e117
              clear e117
              rw [q0, q1, q2, q3, q4, q5, q6, q7, q8, q9, q10, q11, q12, q13, q117]
              clear q0 q1 q2 q3 q4 q5 q6 q7 q8 q9 q10 q11 q12 q13 q117
              have hbl := hB; clear hB
              replace RA := hmR RA hbl
              replace RB := hmR RB hbl
              replace CX := hmB CX hbl
              replace CF := hmB CF hbl
              replace HW := hmW HW hbl; clear hbl
              clear CX0 CX1 CX2 CF0 CF1 CF2
              have CX0 := CX.out.c0
              have CX1 := CX.out.c1
              have CX2 := CX.out.c2
              have CF0 := CF.out.c0
              have CF1 := CF.out.c1
              have CF2 := CF.out.c2
              simp only [List.drop_succ_cons, List.drop_zero]
              go_wp2_with fail
              go_meet
              exact ⟨rfl, HW.out, CX.out⟩
          case rest =>
           obtain ⟨rfl, hwn, hcx⟩ := hcut
           replace HW := Lib.hid hwn; replace CX := Lib.hid hcx; clear hwn hcx
           clear CX0 CX1 CX2 CF0 CF1 CF2
           have CX0 := CX.out.cell 0
           obtain ⟨z, hz⟩ : ∃ z : Nat, sz = (z : Int) + 1 := ⟨sz.toNat - 1, by omega⟩
           have g2 : IntKind.i64.wrap (sz - 1) = (z : Int) := by rw [IntKind.wrap_i64]; omega
           have hlt : C < 2 ^ z := fit_code HF.out hz (by rw [← HH.out.1]; exact hov2.out)
           have hz63 : z ≤ 63 := by omega
           have g3 : bits BinOp.or IntKind.u64 (C : Int) (IntKind.u64.wrap (2 ^ min z 64)) = ((C + 2 ^ z : Nat) : Int) := or_sign hlt hz63
           have hzz : sz.toNat - 1 = z := by omega
           obtain ⟨U, hU⟩ : ∃ U, U = C + 2 ^ z := ⟨_, rfl⟩
           rw [← hU] at g3
           have HZ := Lib.hid (And.intro hzz hU); clear hzz hU hlt hz63 hz
           cases s
           · go_wp2
             refine bodyPost_ret (v := .tuple #[.int .u64 (C : Int), .bool ex1, .int .i64 0]) ?hr1 rfl ?hR1
             case hr1 => simp [results, Tryz.results107]
             rw [HQ.out.2.2.2.1, HQ.out.2.2.2.2]
             exact RetCode.fit (by rw [← HH.out.1]; exact hov2.out) (if_neg (by simp)).symm HW.out
           · by_cases hC0 : C = 0
             · have c4 : ((C : Int) != 0) = false := by simp [hC0]
               have HC0 := Lib.hid hC0; clear hC0
               go_wp2
               refine bodyPost_ret (v := .tuple #[.int .u64 (C : Int), .bool ex1, .int .i64 0]) ?hr2 rfl ?hR2
               case hr2 => simp [results, Tryz.results107]
               rw [HQ.out.2.2.2.1, HQ.out.2.2.2.2]
               exact RetCode.fit (by rw [← HH.out.1]; exact hov2.out) (if_neg (by simp [HC0.out])).symm HW.out
             · have c4 : ((C : Int) != 0) = true := by simp [hC0]
               have HC0 := Lib.hid hC0; clear hC0
               go_wp2
               refine bodyPost_ret (v := .tuple #[.int .u64 (U : Int), .bool ex1, .int .i64 0]) ?hr3 rfl ?hR3
               case hr3 => simp [results, Tryz.results107]
               rw [HQ.out.2.2.2.1, HQ.out.2.2.2.2]
               exact RetCode.fit (by rw [← HH.out.1]; exact hov2.out) (by rw [if_pos ⟨rfl, HC0.out⟩, HZ.out.1]; exact HZ.out.2) HW.out
  · have c1 : ((D : Int) != 0) = true := by simp [hmp]
    have hmP : P ≤ m := by rcases Nat.lt_or_ge m P with h | h; exact absurd (hD.trans (Nat.div_eq_of_lt h)) hmp; exact h
    have hst := HR.out.st.step (by omega) (Nat.pos_of_ne_zero HE0.out) (by rw [← hP, ← hD]; exact hmp)
    rw [HO.out] at hst
    have hP2 : 2 ≤ P := by rw [hP]; exact Nat.pow_le_pow_right (n := 2) (i := 1) (by decide) (by omega)
    have hk0 : 1 ≤ k := by rcases Nat.eq_zero_or_pos k with h | h; rw [h] at hmk; omega; exact h
    have hmk2 : m / 2 < 2 ^ (k - 1) := by obtain ⟨j, rfl⟩ : ∃ j, k = j + 1 := ⟨k - 1, by omega⟩; rw [Nat.pow_succ] at hmk; rw [Nat.add_sub_cancel]; omega
    have s9 : IntKind.i64.wrap ((f : Int) - q + 1) = (f : Int) + 1 - q := by rw [IntKind.wrap_i64]; omega
    have HN := Lib.hid (And.intro hst (And.intro hmk2 (show m / 2 < m by omega))); clear hst hmk2 hmP hP hD hmp hP2 hmk
    have HK := Lib.hid (And.intro hk61 (And.intro hfk hk0)); clear hk61 hfk hk0
    cases r
    · go_wp2
      go_roundw
      case rel => exact ⟨m / 2, f + 1, k - 1, o, h, by rw [Int.natCast_ediv]; rfl, by rw [Int.natCast_add]; rfl, rfl, rfl, rfl, HN.out.1, HN.out.2.1, by have := HK.out.1; omega, by have := HK.out.2.1; have := HK.out.2.2; omega⟩
      case measure => (have := HN.out.2.2; simp [intOf]; omega)
    · go_wp2
      go_roundw
      case rel => exact ⟨m / 2, f + 1, k - 1, o, true, by rw [Int.natCast_ediv]; rfl, by rw [Int.natCast_add]; rfl, rfl, rfl, rfl, HN.out.1, HN.out.2.1, by have := HK.out.1; omega, by have := HK.out.2.1; have := HK.out.2.2; omega⟩
      case measure => (have := HN.out.2.2; simp [intOf]; omega)
end
end
end Go.Proofs.YtmbbdjpnecjleaaGreat
