/-
  The reference's Mul, walked.
-/
import Derived.Test.YtmbbdjpnecjleaaRCmp
namespace Go.Proofs.Ytmbbdjpnecjleaa
set_option maxRecDepth 100000
open Go.RowKit

theorem decL_len_le {n k : Nat} (h : n < 10 ^ k) (hk : 1 ≤ k) : (decL n).length ≤ k := by
  by_cases h0 : n = 0
  · subst h0; exact hk
  · rw [decL_pos h0, List.length_reverse]
    exact (digs_len_le (by decide)).2 h
theorem bytesOf_append (xs ys : List Nat) : bytesOf xs ++ bytesOf ys = bytesOf (xs ++ ys) := by
  apply ByteArray.ext
  rw [ByteArray.data_append]
  simp [bytesOf]
theorem dec_snoc (n d : Nat) : dec n ++ bytesOf [48 + d] = bytesOf (chrs (decL n ++ [d])) := by
  unfold dec
  rw [bytesOf_append, chrs_snoc]
theorem pre_succ (b : Nat) {i : Nat} (h : i < (decL b).length) : bval ((decL b).take (i + 1)) = (decL b).getD i 0 + 10 * bval ((decL b).take i) := by
  rw [List.take_succ_eq_append_getElem h, bval_snoc, List.getD_eq_getElem?_getD, List.getElem?_eq_getElem h]
  rfl
theorem pre_lt (b i : Nat) : bval ((decL b).take i) < 10 ^ i := by
  have h := bval_lt (ds := (decL b).take i) (fun d hd => decL_lt b d (List.mem_of_mem_take hd))
  exact Nat.lt_of_lt_of_le h (Nat.pow_le_pow_right (by decide) (List.length_take_le ..))
theorem dec_byte (n : Nat) {i : Nat} (h : i < (dec n).size) : ((dec n)[i]'h).toNat = 48 + (decL n).getD i 0 :=
  (bytesOf_get (chrs (decL n)) (chrs_lt (decL_lt n)) h).trans (chrs_get _ (by rw [← dec_size]; exact h))
theorem decL_digit (n i : Nat) : (decL n).getD i 0 < 10 := by
  by_cases h : i < (decL n).length
  · rw [List.getD_eq_getElem?_getD, List.getElem?_eq_getElem h]
    exact decL_lt n _ (List.getElem_mem h)
  · rw [List.getD_eq_getElem?_getD, List.getElem?_eq_none (by omega)]
    decide

theorem refSmall_lit (a by_ more : Nat) (B M : Int) (hB : B = (by_ : Int)) (hM : M = (more : Int)) (w : World) (hl : (decL a).length ≤ 10000) (hb : by_ ≤ 4294967296) (hm : more ≤ 4294967296) :
    Calls Try.prog 55 #[.string (dec a), .int .i64 B, .int .i64 M] w (RetS (dec (a * by_ + more)) w) := by
  subst hB hM
  exact refSmall_any a by_ more w hl hb hm

set_option maxRecDepth 100000 in
set_option maxHeartbeats 1000000 in
theorem refMul_any (a b : Nat) (w : World) (hl : (decL a).length ≤ 1000) (hl' : (decL b).length ≤ 1000) :
    Calls Try.prog 44 #[.string (dec a), .string (dec b)] w (RetS (dec (a * b)) w) := by
  have HL := Lib.hid (And.intro hl hl')
  have z2 := dec_size b
  obtain ⟨lb, hlb⟩ : ∃ lb, lb = (decL b).length := ⟨_, rfl⟩
  rw [← hlb] at z2 hl'
  have HLB := Lib.hid hlb; clear hlb hl
  go_enter Try.func44, Try.ntmps44
  go_wp2
  go_loopw [5, 6] (fun v iv wr => ∃ i : Nat, iv = .int .i64 (i : Int) ∧ i ≤ lb ∧ v = .string (dec (a * bval ((decL b).take i))) ∧ Below w.heap.size w wr) (fun _ i _ => lb - (intOf i).toNat)
  case atStart => exact ⟨0, rfl, Nat.zero_le _, by rw [List.take_zero]; rfl, bel_refl _⟩
  case round =>
    obtain ⟨i, rfl, hi, rfl, hb⟩ := hrel
    have HB := Lib.hid hb; clear hb
    by_cases hlt : i < lb
    · have hlt' : (i : Int) < ((dec b).size : Int) := by omega
      have hi0 : (0 : Int) ≤ (i : Int) := by omega
      have hby := dec_byte b (i := i) (by omega)
      have hd10 := decL_digit b i
      obtain ⟨d, hd⟩ : ∃ d, d = (decL b).getD i 0 := ⟨_, rfl⟩
      rw [← hd] at hby hd10
      have HD := Lib.hid hd; clear hd
      obtain ⟨P, hP⟩ : ∃ P, P = bval ((decL b).take i) := ⟨_, rfl⟩
      have hP2 := pre_lt b i
      rw [← hP] at hP2 ⊢
      have HP := Lib.hid hP; clear hP
      obtain ⟨N, hN⟩ : ∃ N, N = a * P := ⟨_, rfl⟩
      have hN2 : N < 10 ^ ((decL a).length + i) := by
        rw [hN, Nat.pow_add]
        exact Nat.mul_lt_mul'' (decL_bound a) hP2
      rw [← hN]
      have hNl : (decL N).length ≤ 2000 := by
        have h1 := decL_len_pos a
        have h2 := decL_len_le hN2 (by omega)
        have h3 := HL.out.1
        omega
      have hN3 : (decL (10 * N)).length ≤ 2001 := Nat.le_trans (decL_len_le (k := (decL N).length + 1) (by
        have h2 : 10 * N < 10 * 10 ^ (decL N).length := Nat.mul_lt_mul_of_pos_left (decL_bound N) (by decide)
        rwa [Nat.mul_comm 10 (10 ^ _), ← Nat.pow_succ] at h2) (by omega)) (by omega)
      have had : (decL (a * d)).length ≤ 1001 := Nat.le_trans (decL_len_le (k := (decL a).length + 1) (by
        have h1 := decL_bound a
        have h2 : a * d ≤ a * 10 := Nat.mul_le_mul_left _ (by omega)
        rw [Nat.pow_succ]
        omega) (by omega)) (by have := HL.out.1; omega)
      have hsz : (dec N).size + 1 ≤ 9223372036854775807 := by rw [dec_size]; omega
      have hsz2 : ¬ 9223372036854775807 ≤ (dec N).size := by omega
      have hsz3 : ¬ 9223372036854775807 < (dec N).size + 1 := by omega
      have hcat : dec N ++ ⟨#[48]⟩ = bytesOf (chrs (decL N ++ [0])) := dec_snoc N 0
      have HCAT := Lib.hid hcat; clear hcat
      have g1 : IntKind.u8.wrap ((((dec b)[i]'(by omega)).toNat : Int) - 48) = (d : Int) := by rw [hby, IntKind.wrap_u8']; omega
      have g2 : IntKind.i64.wrap (d : Int) = (d : Int) := by rw [IntKind.wrap_i64]; omega
      have HX := Lib.hid (And.intro hN3 (And.intro had (And.intro hNl (And.intro hN hd10)))); clear hN3 had hNl hN hby hN2 hP2
      clear hd10
      go_wp2
      go_region_held3 (fun _ => True) (first | trivial)
        (first
          | (go_at_call 73; rw [HCAT.out]; (with_reducible refine (refTrim_any (decL N ++ [0]) _ ?_ ?_).mono ?_); (intro x hx; rcases List.mem_append.1 hx with hx | hx; exact decL_lt N x hx; (rw [List.mem_singleton.1 hx]; decide)); simp; rintro e w12 ⟨rfl, n12, rfl⟩; rw [bval_snoc, bval_decL, Nat.zero_add])
          | (go_at_call 55; (with_reducible refine (refSmall_lit a d 0 (d : Int) 0 rfl rfl _ ?_ ?_ ?_).mono ?_); (have := HL.out.1; omega); (have := HX.out.2.2.2.2; omega); omega; rintro e w13 ⟨rfl, hb13⟩; have HB13 := Lib.hid hb13; clear hb13)
          | (go_at_call 67; (with_reducible refine (refAdd_any (10 * N) (a * d) _ ?_ ?_).mono ?_); (have := HX.out.1; omega); (have := HX.out.2.1; omega); rintro e w14 ⟨rfl, hb14⟩; have HB14 := Lib.hid hb14; clear hb14))
      all_goals
        go_wp2
        go_roundw
        case rel =>
          refine ⟨i + 1, by go_num, by omega, ?_, ?_⟩
          · rw [pre_succ b (by rw [← HLB.out]; exact hlt), ← HD.out, ← HP.out, HX.out.2.2.2.1, Nat.mul_add, Nat.mul_left_comm a 10, Nat.add_comm]
          · exact bel_trans (bel_trans HB.out (bel_trans (bel_drewN (bel_refl _) _) HB13.out)) HB14.out
        case measure => simp [intOf]; omega
    · have hil : i = lb := by omega
      have HE : Hid (bval ((decL b).take i) = b) := by
        show _ = b
        rw [hil, HLB.out, List.take_length, bval_decL]
      rw [HE.out]
      go_wp2
      go_ret
      exact ⟨rfl, HB.out⟩
end Go.Proofs.Ytmbbdjpnecjleaa
