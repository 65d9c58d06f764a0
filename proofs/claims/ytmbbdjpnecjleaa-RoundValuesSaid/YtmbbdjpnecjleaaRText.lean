/-
  The reference's Text, Power, Over, Syntax, Parse, Same; few.
-/
import Derived.Test.YtmbbdjpnecjleaaRDiv
namespace Go.Proofs.Ytmbbdjpnecjleaa
set_option maxRecDepth 100000
open Go.RowKit

theorem dec_one : dec 1 = ⟨#[49]⟩ := by decide +kernel
theorem B32_ten : B32 ≤ 10 ^ 10 := by decide
/-- Few limbs make few digits. -/
theorem decL_limbs {n k : Nat} (h : n < B32 ^ k) (hk : 1 ≤ k) : (decL n).length ≤ 10 * k := by
  refine decL_len_le (Nat.lt_of_lt_of_le h ?_) (by omega)
  rw [Nat.pow_mul]
  exact Nat.pow_le_pow_left B32_ten k
theorem decL_top {n : Nat} (h : n < Top) : (decL n).length ≤ 160 := decL_limbs (k := 16) h (by decide)

set_option maxRecDepth 100000 in
set_option maxHeartbeats 1000000 in
theorem refText_any (A : Option Addr) (cap : Nat) (xs : List Nat) (w : World) (h : RdL w A xs) (hx : Lim xs) (hl : xs.length ≤ 18) :
    Calls Try.prog 16 #[.slice A xs.length cap] w (RetS (dec (lval xs)) w) := by
  have H := Lib.hid h; clear h
  have HX := Lib.hid hx; clear hx
  go_enter Try.func16, Try.ntmps16
  go_wp2
  go_loopw [3, 4] (fun v iv wr => ∃ k : Nat, iv = .int .i64 ((k : Int) - 1) ∧ k ≤ xs.length ∧ v = .string (dec (lval (xs.drop k))) ∧ Below w.heap.size w wr) (fun _ i _ => (intOf i + 1).toNat)
  case atStart => exact ⟨xs.length, by go_num, Nat.le_refl _, by rw [List.drop_length]; rfl, bel_refl _⟩
  case round =>
    obtain ⟨k, rfl, hk, rfl, hb⟩ := hrel
    have HB := Lib.hid hb; clear hb
    by_cases hk0 : k = 0
    · subst hk0
      rw [List.drop_zero]
      go_wp2
      go_ret
      exact ⟨rfl, HB.out⟩
    · obtain ⟨j, rfl⟩ : ∃ j, k = j + 1 := ⟨k - 1, by omega⟩
      have hj : ((j + 1 : Nat) : Int) - 1 = (j : Int) := by omega
      rw [hj]
      have hjl : j < xs.length := by omega
      have hjl' : (j : Int) < (xs.length : Int) := by omega
      obtain ⟨g, off, rfl, hg, hcell⟩ := RdL.at_ (H.out.below HB.out) hjl
      obtain ⟨x, hxe⟩ : ∃ x, x = xs.getD j 0 := ⟨_, rfl⟩
      have hx1 := HX.out.get j
      rw [← hxe] at hcell hx1
      have sx : IntKind.i64.wrap (x : Int) = (x : Int) := by rw [IntKind.wrap_i64]; omega
      obtain ⟨N, hN⟩ : ∃ N, N = lval (xs.drop (j + 1)) := ⟨_, rfl⟩
      have hNl : (decL N).length ≤ 180 := by
        have h1 : N < B32 ^ 18 := by
          rw [hN]
          refine Nat.lt_of_lt_of_le (lval_lt fun y hy => HX.out y (List.mem_of_mem_drop hy)) (Nat.pow_le_pow_right (by decide) ?_)
          rw [List.length_drop]; omega
        exact decL_limbs h1 (by decide)
      rw [← hN]
      have hstep : Hid (N * 4294967296 + x = lval (xs.drop j)) := by
        show _ = _
        rw [lval_drop, ← hxe, ← hN, B32_eq, Nat.mul_comm, Nat.add_comm]
      have HX1 := Lib.hid (And.intro hx1 (And.intro hNl (And.intro hxe hN))); clear hx1 hNl hxe hN
      go_wp2_with (go_at_call 55; (with_reducible refine (refSmall_lit N 4294967296 x 4294967296 (x : Int) rfl rfl _ ?_ ?_ ?_).mono ?_); (have := HX1.out.2.1; omega); omega; (have := HX1.out.1; omega); rintro e w2 ⟨rfl, hb2⟩; rw [hstep.out]; have HB2 := Lib.hid hb2; clear hb2)
      go_roundw
      case rel => exact ⟨j, by go_num, by omega, rfl, bel_trans HB.out HB2.out⟩
      case measure => simp [intOf]

set_option maxRecDepth 100000 in
set_option maxHeartbeats 1000000 in
theorem refPower_any (n : Nat) (w : World) (hn : n ≤ 1100) :
    Calls Try.prog 74 #[.int .i64 n] w (RetS (dec (2 ^ n)) w) := by
  go_enter Try.func74, Try.ntmps74
  go_wp2
  go_loopw [3, 4] (fun v iv wr => ∃ k : Nat, iv = .int .i64 (k : Int) ∧ k ≤ n ∧ v = .string (dec (2 ^ k)) ∧ Below w.heap.size w wr) (fun _ i _ => n - (intOf i).toNat)
  case atStart => exact ⟨0, rfl, Nat.zero_le _, by rw [Nat.pow_zero, dec_one], bel_refl _⟩
  case round =>
    obtain ⟨k, rfl, hk, rfl, hb⟩ := hrel
    have HB := Lib.hid hb; clear hb
    by_cases hlt : k < n
    · have hlt' : (k : Int) < (n : Int) := by omega
      obtain ⟨N, hN⟩ : ∃ N, N = 2 ^ k := ⟨_, rfl⟩
      have hNl : (decL N).length ≤ 1101 := by
        refine Nat.le_trans (decL_len_le (k := k + 1) ?_ (by omega)) (by omega)
        rw [hN]
        exact Nat.lt_of_le_of_lt (Nat.pow_le_pow_left (by decide) k) (Nat.pow_lt_pow_right (by decide) (Nat.lt_succ_self k))
      rw [← hN]
      have hstep : Hid (N * 2 + 0 = 2 ^ (k + 1)) := by show _ = _; rw [hN, Nat.pow_succ, Nat.add_zero]
      have HN := Lib.hid (And.intro hN hNl); clear hN hNl
      go_wp2_with (go_at_call 55; (with_reducible refine (refSmall_lit N 2 0 2 0 rfl rfl _ ?_ ?_ ?_).mono ?_); (have := HN.out.2; omega); omega; omega; rintro e w2 ⟨rfl, hb2⟩; rw [hstep.out]; have HB2 := Lib.hid hb2; clear hb2)
      go_roundw
      case rel => exact ⟨k + 1, by go_num, by omega, rfl, bel_trans HB.out HB2.out⟩
      case measure => simp [intOf]; omega
    · have hkn : k = n := by omega
      subst hkn
      go_wp2
      go_ret
      exact ⟨rfl, HB.out⟩

def RetBB (b : Bool) (w : World) (e : Ending) (w' : World) : Prop := e = .returned (.bool b) ∧ Below w.heap.size w w'

theorem refPower_512 (w : World) : Calls Try.prog 74 #[.int .i64 512] w (RetS (dec Top) w) := by
  have h := refPower_any E512 w (by rw [E512_eq]; omega)
  rw [← top_pow] at h
  exact h
theorem cmp_ge {a b : Nat} (h : b ≤ a) : 0 ≤ cmpI (a : Int) (b : Int) := by unfold cmpI; rw [if_neg (by omega)]; split <;> omega
set_option maxHeartbeats 400000 in
theorem refOver_any (n : Nat) (w : World) : Calls Try.prog 45 #[.string (dec n)] w (RetBB (decide (Top ≤ n)) w) := by
  have hp := refPower_512 w
  obtain ⟨T, hT⟩ : ∃ T, T = Top := ⟨_, rfl⟩
  rw [← hT] at hp ⊢
  clear hT
  go_enter Try.func45, Try.ntmps45
  go_wp2_with fail
  refine hp.mono ?_
  rintro e w2 ⟨rfl, hb2⟩
  have HB2 := Lib.hid hb2; clear hb2 hp
  go_wp2_with fail
  refine (refCmp_any n T _).mono ?_
  rintro e w3 ⟨rfl, n3, rfl⟩
  have hc : Hid (decide (0 ≤ cmpI (n : Int) (T : Int)) = decide (T ≤ n)) := by
    show decide _ = decide _
    rw [Bool.eq_iff_iff, decide_eq_true_eq, decide_eq_true_eq]
    constructor
    · intro h
      by_cases h' : T ≤ n
      · exact h'
      · rw [cmpI_lt (by omega)] at h; omega
    · exact cmp_ge
  go_wp2
  go_ret
  exact ⟨ret_bool hc.out, bel_drewN HB2.out _⟩

set_option maxRecDepth 100000 in
set_option maxHeartbeats 1000000 in
theorem same_any (A A' : Option Addr) (cap cap' : Nat) (xs ys : List Nat) (w : World) (h : RdL w A xs) (h' : RdL w A' ys) (hl : xs.length ≤ 100000) :
    Calls Try.prog 62 #[.slice A xs.length cap, .slice A' ys.length cap'] w (RetBD (decide (xs = ys)) w) := by
  have H := Lib.hid h; clear h
  have H' := Lib.hid h'; clear h'
  by_cases hlen : xs.length = ys.length
  · have q1 : ((xs.length : Int) != (ys.length : Int)) = false := by rw [hlen]; simp
    have HL := Lib.hid hlen; clear hlen
    go_enter Try.func62, Try.ntmps62
    go_wp2
    go_loopw [13] (fun iv wr => ∃ k : Nat, iv = .int .i64 (k : Int) ∧ k ≤ xs.length ∧ xs.take k = ys.take k ∧ ∃ n, wr = w.drewN n) (fun i _ => xs.length - (intOf i).toNat)
    case atStart => exact ⟨0, rfl, Nat.zero_le _, rfl, 0, rfl⟩
    case round =>
      obtain ⟨k, rfl, hk, hrel, n, rfl⟩ := hrel
      have HR := Lib.hid hrel; clear hrel
      by_cases hlt : k < xs.length
      · have hlt2 : k < ys.length := by rw [← HL.out]; exact hlt
        have hlt' : (k : Int) < (xs.length : Int) := by omega
        have hlt3 : (k : Int) < (ys.length : Int) := by omega
        obtain ⟨g, off, rfl, hg, hc1⟩ := H.out.at_ hlt
        obtain ⟨g', off', rfl, hg', hc2⟩ := H'.out.at_ hlt2
        obtain ⟨x, hx⟩ : ∃ x, x = xs.getD k 0 := ⟨_, rfl⟩
        obtain ⟨y, hy⟩ : ∃ y, y = ys.getD k 0 := ⟨_, rfl⟩
        rw [← hx] at hc1
        rw [← hy] at hc2
        have hx' : x = xs[k] := by rw [hx, List.getD_eq_getElem?_getD, List.getElem?_eq_getElem hlt]; rfl
        have hy' : y = ys[k] := by rw [hy, List.getD_eq_getElem?_getD, List.getElem?_eq_getElem hlt2]; rfl
        have HX := Lib.hid (And.intro hx' hy'); clear hx hy hx' hy'
        go_wp2
        go_quiet (fail)
        go_wp2
        · have hne : ((x : Int) != (y : Int)) = true := by assumption
          go_ret
          refine ⟨ret_bool ?_, _, World.drewN_drewN _ _ _⟩
          refine (decide_eq_false fun he => ?_).symm
          obtain ⟨hx', hy'⟩ := HX.out
          subst he
          rw [hx', hy'] at hne
          simp at hne
        · have heq : ((x : Int) != (y : Int)) = false := by assumption
          go_roundw
          case rel =>
            obtain ⟨hx', hy'⟩ := HX.out
            have hxy : xs[k] = ys[k] := by rw [← hx', ← hy']; simp at heq; omega
            exact ⟨k + 1, by go_num, by omega, by rw [List.take_succ_eq_append_getElem hlt, List.take_succ_eq_append_getElem hlt2, HR.out, hxy], _, rfl⟩
          case measure => simp [intOf]; omega
      · have he : xs = ys := by
          have := HR.out
          rwa [List.take_of_length_le (by omega), List.take_of_length_le (by rw [← HL.out]; omega)] at this
        have HE := Lib.hid he; clear he
        go_wp2
        go_ret
        exact ⟨ret_bool (decide_eq_true HE.out).symm, n, rfl⟩
  · have q1 : ((xs.length : Int) != (ys.length : Int)) = true := by simp; omega
    go_enter Try.func62, Try.ntmps62
    go_wp2
    go_ret
    exact ⟨ret_bool (decide_eq_false fun he => hlen (by rw [he])).symm, 0, rfl⟩
end Go.Proofs.Ytmbbdjpnecjleaa
