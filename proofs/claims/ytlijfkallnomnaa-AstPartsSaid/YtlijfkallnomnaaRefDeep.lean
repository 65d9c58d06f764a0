/-
  The reference's Deep.
-/
import Derived.Test.YtlijfkallnomnaaNode
namespace Go.Proofs.Ytlijfkallnomnaa
open Go.RowKit

/-- Each kid lies ahead of its node. -/
def KidsIn (L : List Nd) : Prop := ∀ i, i < L.length → ∀ k, k ∈ (L.getD i default).kids → 0 ≤ k ∧ k < i

def kidsOf (L : List Nd) (i : Nat) : List Int := (L.getD i default).kids
/-- How deep node i is, with so much fuel. -/
def dp (L : List Nd) : Nat → Nat → Int
  | 0, _ => 0
  | n + 1, i => 1 + (kidsOf L i).foldl (fun m k => max m (dp L n k.toNat)) 0
def dep (L : List Nd) (i : Nat) : Int := dp L (i + 1) i

theorem foldl_max_congr {f g : Int → Int} (l : List Int) (h : ∀ k, k ∈ l → f k = g k) (m : Int) : l.foldl (fun m k => max m (f k)) m = l.foldl (fun m k => max m (g k)) m := by
  induction l generalizing m with
  | nil => rfl
  | cons x r ih => simp only [List.foldl_cons]; rw [h x (by simp)]; exact ih (fun k hk => h k (by simp [hk])) _

theorem dp_fuel {L : List Nd} (h : KidsIn L) : ∀ n i, i < L.length → i < n → dp L n i = dep L i := by
  intro n
  induction n using Nat.strongRecOn with
  | _ n ih =>
    intro i hi hn
    match n, hn with
    | n + 1, hn =>
      unfold dep
      simp only [dp]
      congr 1
      refine foldl_max_congr _ (fun k hk => ?_) 0
      have hk' := h i hi k hk
      rw [ih n (by omega) k.toNat (by omega) (by omega)]
      by_cases hin : i = n
      · subst hin
        exact (ih i (by omega) k.toNat (by omega) (by omega)).symm
      · exact (ih i (by omega) k.toNat (by omega) (by omega)).symm
theorem dep_eq {L : List Nd} (h : KidsIn L) {i : Nat} (hi : i < L.length) : dep L i = 1 + (kidsOf L i).foldl (fun m k => max m (dep L k.toNat)) 0 := by
  conv => lhs; unfold dep
  simp only [dp]
  congr 1
  refine foldl_max_congr _ (fun k hk => ?_) 0
  have hk' := h i hi k hk
  exact dp_fuel h i k.toNat (by omega) (by omega)
theorem foldl_max_le (f : Int → Int) (l : List Int) (m b : Int) (hm : m ≤ b) (h : ∀ k, k ∈ l → f k ≤ b) : l.foldl (fun m k => max m (f k)) m ≤ b := by
  induction l generalizing m with
  | nil => exact hm
  | cons x r ih => exact ih _ (Int.max_le.2 ⟨hm, h x (by simp)⟩) (fun k hk => h k (by simp [hk]))
theorem foldl_max_ge (f : Int → Int) (l : List Int) (m : Int) : m ≤ l.foldl (fun m k => max m (f k)) m := by
  induction l generalizing m with
  | nil => exact Int.le_refl _
  | cons x r ih => exact Int.le_trans (by omega) (ih (max m (f x)))
theorem dep_bounds {L : List Nd} (h : KidsIn L) : ∀ i, i < L.length → 1 ≤ dep L i ∧ dep L i ≤ i + 1 := by
  intro i
  induction i using Nat.strongRecOn with
  | _ i ih =>
    intro hi
    rw [dep_eq h hi]
    have h1 := foldl_max_ge (fun k => dep L k.toNat) (kidsOf L i) 0
    have h2 := foldl_max_le (fun k => dep L k.toNat) (kidsOf L i) 0 i (by omega) (fun k hk => by
      have hk' := h i hi k hk
      have := (ih k.toNat (by omega) (by omega)).2
      omega)
    omega

/-- So far as kid m. -/
def mostOf (L : List Nd) (ks : List Int) (m : Nat) : Int := (ks.take m).foldl (fun m k => max m (dep L k.toNat)) 0
theorem mostOf_succ (L : List Nd) (ks : List Int) (m : Nat) (h : m < ks.length) : mostOf L ks (m + 1) = max (mostOf L ks m) (dep L (ks.getD m 0).toNat) := by
  unfold mostOf
  rw [List.take_succ_eq_append_getElem h, List.foldl_append, List.getD_eq_getElem?_getD, List.getElem?_eq_getElem h]
  rfl
theorem mostOf_bounds {L : List Nd} (h : KidsIn L) {i : Nat} (hi : i < L.length) (m : Nat) : 0 ≤ mostOf L (kidsOf L i) m ∧ mostOf L (kidsOf L i) m ≤ i := by
  refine ⟨foldl_max_ge _ _ _, foldl_max_le _ _ _ _ (by omega) fun k hk => ?_⟩
  have hk' := h i hi k (List.mem_of_mem_take hk)
  have := (dep_bounds h k.toNat (by omega)).2
  omega

set_option maxHeartbeats 400000 in
theorem refDeep_any (A : Option Addr) (cap : Nat) (L : List Nd) (w : World) (h : NdsR w A L) (hin : KidsIn L) : ∀ i : Nat, i < L.length →
    Calls Try.prog 14 #[.slice A L.length cap, .int .i64 i] w (RetI (dep L i) w) := by
  intro i
  induction i using Nat.strongRecOn with
  | _ i ih =>
    intro hi
    have IH := Lib.hid ih; clear ih
    have H := Lib.hid h; clear h
    obtain ⟨b, off, kd, tx, ka, kc, ks, pl, rfl, hnd, hb, c0, c1, c2, c3, hkids, hkl, hkc⟩ := H.out.node (Below.refl _ _) hi
    have hlen := H.out.len
    have HN : Hid (ks = kidsOf L i) := by show ks = _; unfold kidsOf; rw [← hnd]
    clear hnd
    have HK := Lib.hid hkids; clear hkids
    have HI := Lib.hid hin; clear hin
    go_enter Try.func14, Try.ntmps14
    go_wp2
    go_loop [5, 15] (fun mo j => ∃ m : Nat, m ≤ ks.length ∧ j = .int .i64 m ∧ mo = .int .i64 (mostOf L ks m)) (fun _ j => ks.length - (intOf j).toNat)
    case atStart => exact ⟨0, Nat.zero_le _, rfl, rfl⟩
    case round =>
      obtain ⟨m, hm, rfl, rfl⟩ := hrel
      have mb : 0 ≤ mostOf L ks m ∧ mostOf L ks m ≤ i := by rw [HN.out]; exact mostOf_bounds HI.out hi m
      obtain ⟨mb0, mb1⟩ := mb
      by_cases hlt : m < ks.length
      · obtain ⟨b', off', rfl, hb', hcell⟩ := HK.out.at_ hlt
        have hsucc := Lib.hid (mostOf_succ L ks m hlt)
        obtain ⟨q, hq⟩ : ∃ q : Int, q = ks.getD m 0 := ⟨_, rfl⟩
        rw [← hq] at hcell
        have hq' : 0 ≤ q ∧ q < i := by
          have hmem : q ∈ ks := by rw [hq, List.getD_eq_getElem?_getD, List.getElem?_eq_getElem hlt]; exact List.getElem_mem hlt
          rw [HN.out] at hmem
          exact HI.out i hi q hmem
        have HQ := Lib.hid hq; clear hq
        obtain ⟨q0, q1⟩ := hq'
        obtain ⟨q, rfl⟩ := Int.eq_ofNat_of_zero_le q0
        have hd : Hid (1 ≤ dep L q ∧ dep L q ≤ q + 1) := dep_bounds HI.out q (by omega)
        go_wp2_with (go_at_call 14; (with_reducible refine (IH.out q ?_ ?_).mono ?_); omega; omega; rintro e w' ⟨rfl, rfl⟩)
        · have ht : mostOf L ks m < dep L q := by assumption
          go_round
          case rel => exact ⟨m + 1, by omega, by go_num, by rw [hsucc.out, ← HQ.out, Int.toNat_natCast, Int.max_eq_right (by omega)]⟩
          case measure => simp [intOf]; omega
        · have ht : dep L q ≤ mostOf L ks m := by assumption
          go_round
          case rel => exact ⟨m + 1, by omega, by go_num, by rw [hsucc.out, ← HQ.out, Int.toNat_natCast, Int.max_eq_left ht]⟩
          case measure => simp [intOf]; omega
      · go_wp2
        go_ret
        refine ⟨ret_int ?_, rfl⟩
        rw [dep_eq HI.out hi]
        congr 1
        rw [← HN.out]
        unfold mostOf
        rw [List.take_of_length_le (by omega)]
end Go.Proofs.Ytlijfkallnomnaa
