/-
  Two texts, one behind the other; places rise. No program in sight.
-/
import Derived.Test.YtfcjliiemiahkaaPlace
namespace Go.Proofs.Ytfcjliiemiahkaa

theorem bt_app_l (s t : ByteArray) {i : Nat} (h : i < s.size) : bt (s ++ t) i = bt s i := by
  have h1 : i < (s ++ t).size := by rw [ByteArray.size_append]; omega
  rw [← bt_get _ h1, ← bt_get s h]
  congr 1
  exact ByteArray.getElem_append_left h
theorem bt_out (s : ByteArray) {i : Nat} (h : ¬ i < s.size) : bt s i = 0 := by
  unfold bt
  have : s.get! i = default := by
    show s.data[i]! = default
    exact getElem!_neg s.data i h
  rw [this]
  rfl
theorem bt_app_r (s t : ByteArray) (i : Nat) : bt (s ++ t) (s.size + i) = bt t i := by
  by_cases h : i < t.size
  · have h1 : s.size + i < (s ++ t).size := by rw [ByteArray.size_append]; omega
    rw [← bt_get _ h1, ← bt_get t h]
    congr 1
    rw [ByteArray.getElem_append_right (by omega)]
    congr 1
    omega
  · rw [bt_out _ h, bt_out]
    rw [ByteArray.size_append]; omega

set_option maxHeartbeats 4000000 in
theorem sizeN_grow (n n' b0 b1 b2 b3 c1 c2 c3 : Nat) (hn : n ≤ n') (h1 : 1 < n → c1 = b1) (h2 : 2 < n → c2 = b2) (h3 : 3 < n → c3 = b3) (h : sizeN n b0 b1 b2 b3 ≠ 0) :
    sizeN n' b0 c1 c2 c3 = sizeN n b0 b1 b2 b3 := by
  unfold sizeN at h ⊢
  repeat' split at h
  all_goals first
    | exact absurd rfl h
    | (repeat' split
       all_goals omega)
set_option maxHeartbeats 4000000 in
theorem sizeN_same (n n' b0 b1 b2 b3 : Nat) (hn : 4 ≤ n) (hn' : 4 ≤ n') : sizeN n' b0 b1 b2 b3 = sizeN n b0 b1 b2 b3 := by
  unfold sizeN
  have e1 : (1 < n') = (1 < n) := by rw [eq_iff_iff]; omega
  have e2 : (2 < n') = (2 < n) := by rw [eq_iff_iff]; omega
  have e3 : (3 < n') = (3 < n) := by rw [eq_iff_iff]; omega
  simp only [e1, e2, e3]

theorem sizeAt_app_l (s t : ByteArray) {i : Nat} (hi : i < s.size) (h : sizeAt s i ≠ 0) : sizeAt (s ++ t) i = sizeAt s i := by
  rw [sizeAt_N] at h
  rw [sizeAt_N, sizeAt_N, bt_app_l s t hi]
  refine sizeN_grow _ _ _ _ _ _ _ _ _ ?_ ?_ ?_ ?_ h
  · rw [ByteArray.size_append]; omega
  · intro; exact bt_app_l s t (by omega)
  · intro; exact bt_app_l s t (by omega)
  · intro; exact bt_app_l s t (by omega)
theorem sizeAt_app_4 (s t : ByteArray) {i : Nat} (hi : i + 4 ≤ s.size) : sizeAt (s ++ t) i = sizeAt s i := by
  rw [sizeAt_N, sizeAt_N, bt_app_l s t (by omega), bt_app_l s t (by omega), bt_app_l s t (by omega), bt_app_l s t (by omega)]
  exact sizeN_same _ _ _ _ _ _ (by omega) (by rw [ByteArray.size_append]; omega)
theorem sizeAt_app_r (s t : ByteArray) (i : Nat) : sizeAt (s ++ t) (s.size + i) = sizeAt t i := by
  rw [sizeAt_N, sizeAt_N, bt_app_r, Nat.add_assoc, Nat.add_assoc, Nat.add_assoc, bt_app_r, bt_app_r, bt_app_r, ByteArray.size_append]
  congr 1
  omega

theorem sp_range (s : ByteArray) (i : Nat) : sp s i = -1 ∨ ∃ a : Nat, sp s i = a ∧ i ≤ a ∧ a < s.size := by
  induction h : s.size - i using Nat.strongRecOn generalizing i with
  | ind n ih =>
    by_cases hi : i < s.size
    · cases hb : badAt s i
      · have := badAt_false hb
        rw [sp_good hi hb]
        rcases ih (s.size - (i + sizeAt s i)) (by omega) (i + sizeAt s i) rfl with e | ⟨a, e, h1, h2⟩
        · exact .inl e
        · exact .inr ⟨a, e, by omega, h2⟩
      · exact .inr ⟨i, sp_bad hi hb, Nat.le_refl _, hi⟩
    · exact .inl (sp_end hi)

theorem sp_app_ok (s t : ByteArray) (i : Nat) (hi : i ≤ s.size) (h : sp s i = -1) : sp (s ++ t) i = sp (s ++ t) s.size := by
  induction hn : s.size - i using Nat.strongRecOn generalizing i with
  | ind n ih =>
    by_cases hi' : i < s.size
    · cases hb : badAt s i
      · have hz := badAt_false hb
        have he := sizeAt_app_l s t hi' hz.1
        have hb' : badAt (s ++ t) i = false := by unfold badAt at hb ⊢; rw [he, bt_app_l s t hi']; exact hb
        have hle : i + sizeAt s i ≤ s.size := by
          rcases size_decode s hi' with ⟨h0, _⟩ | ⟨_, _, h0, _⟩
          · exact absurd h0 hz.1
          · exact h0
        rw [sp_good (by rw [ByteArray.size_append]; omega) hb', he]
        rw [sp_good hi' hb] at h
        exact ih (s.size - (i + sizeAt s i)) (by omega) _ hle h rfl
      · rw [sp_bad hi' hb] at h
        omega
    · rw [show i = s.size by omega]
theorem sp_app_r (s t : ByteArray) (j : Nat) : sp (s ++ t) (s.size + j) = if sp t j = -1 then -1 else (s.size : Int) + sp t j := by
  induction hn : t.size - j using Nat.strongRecOn generalizing j with
  | ind n ih =>
    by_cases hj : j < t.size
    · have hj' : s.size + j < (s ++ t).size := by rw [ByteArray.size_append]; omega
      have hbb : badAt (s ++ t) (s.size + j) = badAt t j := by unfold badAt; rw [sizeAt_app_r, bt_app_r]
      cases hb : badAt t j
      · have hz := badAt_false hb
        rw [sp_good hj' (hbb.trans hb), sizeAt_app_r, Nat.add_assoc, sp_good hj hb]
        exact ih (t.size - (j + sizeAt t j)) (by omega) _ rfl
      · rw [sp_bad hj' (hbb.trans hb), sp_bad hj hb, if_neg (by omega)]
        omega
    · rw [sp_end (by rw [ByteArray.size_append]; omega), sp_end hj, if_pos rfl]
theorem sp_app_bad (s t : ByteArray) (i a : Nat) (h : sp s i = (a : Int)) (h4 : a + 4 ≤ s.size) : sp (s ++ t) i = (a : Int) := by
  induction hn : s.size - i using Nat.strongRecOn generalizing i with
  | ind n ih =>
    by_cases hi : i < s.size
    · have hi' : i < (s ++ t).size := by rw [ByteArray.size_append]; omega
      cases hb : badAt s i
      · have hz := badAt_false hb
        have he := sizeAt_app_l s t hi hz.1
        have hb' : badAt (s ++ t) i = false := by unfold badAt at hb ⊢; rw [he, bt_app_l s t hi]; exact hb
        rw [sp_good hi' hb', he]
        rw [sp_good hi hb] at h
        exact ih (s.size - (i + sizeAt s i)) (by omega) _ h rfl
      · rw [sp_bad hi hb] at h
        have e : i = a := by omega
        subst e
        have hb' : badAt (s ++ t) i = true := by unfold badAt at hb ⊢; rw [sizeAt_app_4 s t h4, bt_app_l s t hi]; exact hb
        rw [sp_bad hi' hb']
    · rw [sp_end hi] at h
      omega

theorem sp_both (s t : ByteArray) (h : sp s 0 = -1) : sp (s ++ t) 0 = if sp t 0 = -1 then -1 else (s.size : Int) + sp t 0 := by
  rw [sp_app_ok s t 0 (Nat.zero_le _) h, ← sp_app_r s t 0, Nat.add_zero]

theorem lineOf_step (s : ByteArray) (k : Nat) : (lineOf s k < lineOf s (k + 1)) ∨ (lineOf s k = lineOf s (k + 1) ∧ colOf s k < colOf s (k + 1)) := by
  by_cases h : bt s k = 10
  · left; simp [lineOf, h]
  · right; simp [lineOf, colOf, h]
theorem rises (s : ByteArray) (i d : Nat) : lineOf s i < lineOf s (i + d + 1) ∨ (lineOf s i = lineOf s (i + d + 1) ∧ colOf s i < colOf s (i + d + 1)) := by
  induction d with
  | zero => exact lineOf_step s i
  | succ d ih =>
    have := lineOf_step s (i + d + 1)
    rw [show i + (d + 1) + 1 = i + d + 1 + 1 by omega]
    omega
theorem rise (s : ByteArray) {i k : Nat} (h : i < k) : lineOf s i < lineOf s k ∨ (lineOf s i = lineOf s k ∧ colOf s i < colOf s k) := by
  have := rises s i (k - i - 1)
  rwa [show i + (k - i - 1) + 1 = k by omega] at this
end Go.Proofs.Ytfcjliiemiahkaa
