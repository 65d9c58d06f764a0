/-
  For the law NatTexts.
-/
import Derived.Test.YtmbbdjpnecjleaaDoorNNat
namespace Go.Proofs.YtmbbdjpnecjleaaDoor
open Go.RowKit

theorem min_int (m n : Nat) (c : Int) (hc : c = (m : Int)) : ∀ W, (Builtin.min_ #[3, 3] 3 #[.int .i64 (n : Int), .int .i64 c]).run Tryd.prog W = .ok (.int .i64 ((min n m : Nat) : Int)) W := fun W => by
  subst hc
  rw [run_min_int2]
  congr 2
  omega
theorem cut_str (s : ByteArray) (m : Nat) : ∃ n s', n = min s.size m ∧ s.extract 0 n = s' ∧ s'.size = n ∧ n ≤ s.size ∧ n ≤ m := ⟨_, _, rfl, rfl, by simp, by omega, by omega⟩
def RetFewS (A : Option Addr) (cap : Nat) (xs : List Nat) (w : World) (e : Ending) (w' : World) : Prop := e = .returned (.slice A xs.length cap) ∧ w' = w
theorem few_same (A : Option Addr) (cap : Nat) (x0 xs : List Nat) (w : World) (hcap : x0.length ≤ cap) (h : few x0 = xs) : Calls Tryd.prog 8 #[.slice A x0.length cap] w (fun e w' => e = .returned (.slice A xs.length cap) ∧ w' = w) := by
  subst h
  exact few_any A cap x0 w hcap
theorem small_one (h : Nat) (w : World) (hh : h ≤ 4294967296) : Calls Tryd.prog 14 #[.string ⟨#[49]⟩, .int .i64 h, .int .i64 0] w (RetS (dec h) w) := by
  have := refSmall_lit 1 h 0 (h : Int) 0 rfl rfl w (by decide +kernel) hh (by decide)
  rwa [dec_one, Nat.one_mul, Nat.add_zero] at this
theorem small_32 (a more n : Nat) (w : World) (ha : a ≤ 4294967296) (hm : more ≤ 4294967296) (hn : a * 4294967296 + more = n) : Calls Tryd.prog 14 #[.string (dec a), .int .i64 4294967296, .int .i64 more] w (RetS (dec n) w) := by
  have := refSmall_lit a 4294967296 more 4294967296 (more : Int) rfl rfl w (Nat.le_trans (decL_top (small_top (n := a) (by omega))) (by decide)) (by decide) hm
  rwa [hn] at this
theorem text_lim (A : Option Addr) (cap : Nat) (n : Nat) (w : World) (h : RdL w A (limbs n)) (hn : n < Top) :
    Calls Tryd.prog 13 #[.slice A (limbs n).length cap] w (RetS (dec n) w) := text_num A cap n w h hn
/-- A whole number of 64 bits, its halves. -/
theorem halves (n : Nat) (hn : n < 18446744073709551616) : ∃ h l : Nat, (n : Int) / 4294967296 = (h : Int) ∧ IntKind.i64.wrap (h : Int) = (h : Int) ∧ bits .and .u64 (n : Int) 4294967295 = (l : Int) ∧ IntKind.i64.wrap (l : Int) = (l : Int) ∧ h ≤ 4294967296 ∧ l ≤ 4294967296 ∧ h * 4294967296 + l = n := by
  refine ⟨n / 4294967296, n % 4294967296, by omega, by rw [IntKind.wrap_i64]; omega, ?_, by rw [IntKind.wrap_i64]; omega, by omega, by omega, by omega⟩
  have := u64_and_nat n 4294967295 hn (by decide)
  rw [show (4294967295 : Nat) = 2 ^ 32 - 1 from rfl, Nat.and_two_pow_sub_one_eq_mod] at this
  exact this
/-- A text that is none of a base. -/
theorem parse_syn (s : ByteArray) (b : Nat) (w : World) (hb : isBase b = true) (ht : Bases w) (hl : s.size ≤ 1000) (h : (!oddIn b (codes s) && decide (0 < s.size)) = false) :
    Calls Tryd.prog 10 #[.string s, .int .i64 b] w (RetNE 0 5 w) := by
  by_cases h0 : s.size = 0
  · exact parse_empty s b w hb ht h0
  · refine parse_odd s b w hb ht (by omega) hl ?_
    rw [decide_eq_true (show 0 < s.size by omega), Bool.and_true] at h
    cases ho : oddIn b (codes s)
    · rw [ho] at h; cases h
    · rfl
theorem syn_is (s : ByteArray) (b : Nat) (x : Bool) (w : World) (hl : s.size ≤ 1000) (h : (!oddIn b (codes s) && decide (0 < s.size)) = x) : Calls Tryd.prog 18 #[.string s, .int .i64 b] w (RetBB x w) := by
  rw [← h]
  exact syntax_bb s b w hl
theorem syn_parts {s : ByteArray} {b : Nat} (h : (!oddIn b (codes s) && decide (0 < s.size)) = true) : 0 < s.size ∧ oddIn b (codes s) = false := by
  rw [Bool.and_eq_true, decide_eq_true_eq, Bool.not_eq_true'] at h
  exact ⟨h.2, h.1⟩
theorem base_is {b : Nat} (h : isBase b = true) : (((b : Int) != 2) = false) ∨ (((b : Int) != 2) = true ∧ ((b : Int) != 8) = false) ∨ (((b : Int) != 2) = true ∧ ((b : Int) != 8) = true ∧ ((b : Int) != 10) = false) ∨ (((b : Int) != 2) = true ∧ ((b : Int) != 8) = true ∧ ((b : Int) != 10) = true ∧ ((b : Int) != 16) = false) := by
  have h' : (b : Int) ∈ ([2, 8, 10, 16] : List Int) := by unfold isBase at h; rwa [List.contains_iff_mem] at h
  simp only [List.mem_cons, List.not_mem_nil, or_false] at h'
  simp only [bne_eq_false_iff_eq, bne_iff_ne]
  omega
theorem base_not {i : Int} (h : isBase i = false) : (i != 2) = true ∧ (i != 8) = true ∧ (i != 10) = true ∧ (i != 16) = true := by
  have h' : ¬ i ∈ ([2, 8, 10, 16] : List Int) := by intro h'; unfold isBase at h; rw [List.contains_iff_mem.2 h'] at h; cases h
  simp only [List.mem_cons, List.not_mem_nil, or_false] at h'
  simp only [bne_iff_ne]
  omega
theorem base_le {b : Nat} (h : isBase b = true) : 1 ≤ b ∧ b ≤ 16 := by
  have h' : (b : Int) ∈ ([2, 8, 10, 16] : List Int) := by unfold isBase at h; rwa [List.contains_iff_mem] at h
  simp only [List.mem_cons, List.not_mem_nil, or_false] at h'
  omega
theorem base_nat {i : Int} (h : isBase i = true) : ∃ b : Nat, i = (b : Int) := by
  have h' : i ∈ ([2, 8, 10, 16] : List Int) := by unfold isBase at h; rwa [List.contains_iff_mem] at h
  simp only [List.mem_cons, List.not_mem_nil, or_false] at h'
  exact ⟨i.toNat, by omega⟩
end Go.Proofs.YtmbbdjpnecjleaaDoor
