/-
  The law RoundValues, whole.
-/
import Derived.Test.YtmbbdjpnecjleaaRLawVal
namespace Go.Proofs.Ytmbbdjpnecjleaa
open Go.RowKit

theorem N_split3 {N Z : Nat} (h : N < 2 * Z) : ∃ (b : Nat) (s : Bool), b < Z ∧ N = b + s.toNat * Z := by
  by_cases h1 : N < Z
  · exact ⟨N, false, h1, by simp⟩
  · exact ⟨N - Z, true, by omega, by simp; omega⟩
theorem law_values (i sz : Int) (w : World) (hi : 0 ≤ i ∧ i < 18446744073709551616) : Calls Try.prog 9 #[.int .u64 i, .int .i64 sz] w (RetT w) := by
  obtain ⟨N, rfl⟩ : ∃ N : Nat, i = (N : Int) := ⟨i.toNat, by omega⟩
  rcases Fm.of sz with ⟨h32, h64⟩ | ⟨p, q, t, hf⟩
  · exact values_size_f N sz w (fun w1 => rvalue_size N sz w1 h32 h64) h32 h64
  have hz : (sz == 32) = true ∨ (sz == 32) = false := by cases (sz == 32) <;> simp
  have hsz : (sz == 32) = true → 2 ^ (sz.toNat - 1) = 2147483648 := fun h => by
    obtain rfl : sz = 32 := by simpa using h
    rfl
  have hsz2 : (sz == 32) = false → 2 ^ (sz.toNat - 1) = 9223372036854775808 := fun h => by
    rcases hf with h1 | h1
    · rw [h1.1] at h; cases h
    · rw [h1.1]; rfl
  by_cases hlong : (sz == 32) = true ∧ 4294967296 ≤ N
  · exact values_long_t N sz w (fun w1 => rvalue_long N sz p q t w1 hf hlong.1 hlong.2) hf hlong.1 hlong.2
  have h32 : (sz == 32) = true → N < 4294967296 := fun h => by
    rcases Nat.lt_or_ge N 4294967296 with h1 | h1
    · exact h1
    · exact absurd ⟨h, h1⟩ hlong
  by_cases hm : N = 2 ^ (sz.toNat - 1)
  · rcases hz with h | h
    · exact values_minus_t N sz w (fun w1 => rvalue_minus_t N sz p q t w1 hf h hm) hf h hm
    · exact values_minus_f N sz w (fun w1 => rvalue_minus_f N sz p q t w1 hf h hm) hf h hm
  obtain ⟨b, s, hbZ, hNb⟩ := N_split3 (N := N) (Z := 2 ^ (sz.toNat - 1)) (by
    rcases hz with h | h
    · rw [hsz h]; have := h32 h; omega
    · rw [hsz2 h]; omega)
  have hs : b = 0 → s = false := fun h => by
    cases s
    · rfl
    · exfalso; apply hm; rw [hNb, h]; simp
  have hKX : b / 2 ^ (p - 1) ≤ t + q + 2 := by
    have hf2 := hf
    rcases hf2 with ⟨rfl, rfl, rfl, rfl⟩ | ⟨rfl, rfl, rfl, rfl⟩
    · have : b < 2147483648 := hbZ
      show b / 8388608 ≤ 255
      omega
    · have : b < 9223372036854775808 := hbZ
      show b / 4503599627370496 ≤ 2047
      omega
  by_cases hone : b / 2 ^ (p - 1) = t + q + 2
  · rcases hz with h | h
    · exact values_ones_t N sz w (fun w1 => rvalue_ones_t N sz p q t b s w1 hf h (h32 h) hbZ hs hone hNb) hf h hbZ hs hNb hone
    · exact values_ones_f N sz w (fun w1 => rvalue_ones_f N sz p q t b s w1 hf h hbZ hs hone hNb) hf h hbZ hs hNb hone
  have hb : ¬ (t + q + 2) * 2 ^ (p - 1) ≤ b := fun h => hone (Nat.le_antisymm hKX ((Nat.le_div_iff_mul_le (Nat.pow_pos (by decide))).2 h))
  have hcall : ∀ w1, Calls Try.prog 47 #[.int .u64 (N : Int), .int .i64 sz] w1 (RetVal s p q b w1) := fun w1 => by
    rcases hz with h | h
    · exact rvalue_good_t N sz p q t b s w1 hf h (h32 h) hb hs hNb
    · exact rvalue_good_f N sz p q t b s w1 hf h hb hs hNb
  by_cases ho : Top ≤ LN p q b
  · have hv : ∀ w1, Calls Try.prog 47 #[.int .u64 (N : Int), .int .i64 sz] w1 (RetQE noQ 2 w1) := fun w1 => (hcall w1).mono fun E w' h => by
      unfold RetVal at h
      rwa [if_pos (.inl ho)] at h
    rcases hz with h | h
    · exact values_ovn_t N sz w hv hf h hbZ hs hNb hb rfl rfl ho
    · exact values_ovn_f N sz w hv hf h hbZ hs hNb hb rfl rfl ho
  by_cases ho2 : Top ≤ LD p q b
  · have hv : ∀ w1, Calls Try.prog 47 #[.int .u64 (N : Int), .int .i64 sz] w1 (RetQE noQ 2 w1) := fun w1 => (hcall w1).mono fun E w' h => by
      unfold RetVal at h
      rwa [if_pos (.inr ho2)] at h
    rcases hz with h | h
    · exact values_ovd_t N sz w hv hf h hbZ hs hNb hb rfl rfl (by omega) ho2
    · exact values_ovd_f N sz w hv hf h hbZ hs hNb hb rfl rfl (by omega) ho2
  · have hv : ∀ w1, Calls Try.prog 47 #[.int .u64 (N : Int), .int .i64 sz] w1 (RetQE ⟨s, LN p q b, LD p q b⟩ 0 w1) := fun w1 => (hcall w1).mono fun E w' h => by
      unfold RetVal at h
      rwa [if_neg (by omega)] at h
    rcases hz with h | h
    · exact values_fit_t N sz w hv hf h hbZ hs hNb hb rfl rfl (by omega) (by omega)
    · exact values_fit_f N sz w hv hf h hbZ hs hNb hb rfl rfl (by omega) (by omega)
end Go.Proofs.Ytmbbdjpnecjleaa
