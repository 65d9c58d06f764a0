/-
  The reference's Cmp, walked.
-/
import Derived.Test.YtmbbdjpnecjleaaRSmall
namespace Go.Proofs.Ytmbbdjpnecjleaa
set_option maxRecDepth 100000
open Go.RowKit

theorem decL_less {a b : Nat} (h : (decL a).length < (decL b).length) : a < b := by
  have hb : b ≠ 0 := fun e => by
    have := decL_len_pos a
    rw [e] at h
    have h1 : (decL 0).length = 1 := rfl
    omega
  have h1 := decL_bound a
  have h2 := decL_in b (decL a).length h hb
  have h3 : ¬ b < 10 ^ (decL a).length := fun hh => h2 (Nat.div_eq_of_lt hh)
  omega
theorem bval_cons (d : Nat) (r : List Nat) : bval (d :: r) = bval r + 10 ^ r.length * d := by
  unfold bval
  rw [List.reverse_cons, val_snoc, List.length_reverse]
theorem bval_lt {ds : List Nat} (h : ∀ d ∈ ds, d < 10) : bval ds < 10 ^ ds.length := by
  have := val_lt (b := 10) ds.reverse (fun d hd => h d (List.mem_reverse.1 hd))
  rwa [List.length_reverse] at this
theorem chr_lt : ∀ x y : Fin 10, (UInt8.ofNat (48 + x.val) < UInt8.ofNat (48 + y.val)) = (x.val < y.val) := by
  intro x y
  rw [eq_iff_iff]
  revert x y
  decide +kernel
theorem chr_eq : ∀ x y : Fin 10, (UInt8.ofNat (48 + x.val) == UInt8.ofNat (48 + y.val)) = decide (x.val = y.val) := by decide +kernel
theorem less_digits : ∀ (xs ys : List Nat), (∀ d ∈ xs, d < 10) → (∀ d ∈ ys, d < 10) → xs.length = ys.length → Op.bytesLess ((chrs xs).map UInt8.ofNat) ((chrs ys).map UInt8.ofNat) = decide (bval xs < bval ys)
  | [], [], _, _, _ => rfl
  | [], _ :: _, _, _, h => by simp at h
  | _ :: _, [], _, _, h => by simp at h
  | x :: r, y :: t, hx, hy, h => by
    have ih := less_digits r t (fun d hd => hx d (List.mem_cons_of_mem _ hd)) (fun d hd => hy d (List.mem_cons_of_mem _ hd)) (by simpa using h)
    have hl : r.length = t.length := by simpa using h
    have x9 := hx x (by simp)
    have y9 := hy y (by simp)
    have b1 := bval_lt (ds := r) (fun d hd => hx d (List.mem_cons_of_mem _ hd))
    have b2 := bval_lt (ds := t) (fun d hd => hy d (List.mem_cons_of_mem _ hd))
    rw [bval_cons, bval_cons, ← hl]
    rw [← hl] at b2
    have e1 := chr_lt ⟨x, x9⟩ ⟨y, y9⟩
    have e2 := chr_eq ⟨x, x9⟩ ⟨y, y9⟩
    simp only at e1 e2
    show (decide (UInt8.ofNat (48 + x) < UInt8.ofNat (48 + y)) || (UInt8.ofNat (48 + x) == UInt8.ofNat (48 + y)) && Op.bytesLess ((chrs r).map UInt8.ofNat) ((chrs t).map UInt8.ofNat)) = _
    rw [e2, ih]
    simp only [e1]
    generalize 10 ^ r.length = P at b1 b2
    rw [Bool.eq_iff_iff]
    simp only [Bool.or_eq_true, Bool.and_eq_true, decide_eq_true_eq]
    rcases Nat.lt_trichotomy x y with h1 | h1 | h1
    · have h2 : P * (x + 1) ≤ P * y := Nat.mul_le_mul_left _ h1
      rw [Nat.mul_add, Nat.mul_one] at h2
      constructor
      · intro _; omega
      · intro _; exact .inl h1
    · subst h1
      constructor
      · rintro (h | ⟨_, h⟩) <;> omega
      · intro h; exact .inr ⟨rfl, by omega⟩
    · have h2 : P * (y + 1) ≤ P * x := Nat.mul_le_mul_left _ h1
      rw [Nat.mul_add, Nat.mul_one] at h2
      constructor
      · rintro (h | ⟨h, _⟩) <;> omega
      · intro _; omega
theorem dec_list (n : Nat) : (dec n).toList = (chrs (decL n)).map UInt8.ofNat := by
  rw [ByteArray.toList_eq]
  simp [dec, bytesOf]
theorem dec_less {a b : Nat} (h : (decL a).length = (decL b).length) : Op.bytesLess (dec a).toList (dec b).toList = decide (a < b) := by
  rw [dec_list, dec_list, less_digits _ _ (decL_lt a) (decL_lt b) h, bval_decL, bval_decL]
theorem map_ofNat_inj {xs ys : List Nat} (hx : ∀ d ∈ xs, d < 10) (hy : ∀ d ∈ ys, d < 10) (h : (chrs xs).map UInt8.ofNat = (chrs ys).map UInt8.ofNat) : xs = ys := by
  have h1 := congrArg (fun l => l.map UInt8.toNat) h
  simp only [List.map_map, chrs] at h1
  have e : ∀ zs : List Nat, (∀ d ∈ zs, d < 10) → zs.map (UInt8.toNat ∘ UInt8.ofNat ∘ fun d => 48 + d) = zs.map (fun d => 48 + d) := fun zs hz => by
    apply List.map_congr_left
    intro d hd
    have := hz d hd
    simp
    omega
  rw [e xs hx, e ys hy] at h1
  exact List.map_inj_right (fun a b h => by omega) |>.1 h1
theorem dec_inj {a b : Nat} (h : (dec a).toList = (dec b).toList) : a = b := by
  rw [dec_list, dec_list] at h
  have := map_ofNat_inj (decL_lt a) (decL_lt b) h
  rw [← bval_decL a, ← bval_decL b, this]
theorem dec_beq (a b : Nat) : ((dec a).toList == (dec b).toList) = decide (a = b) := by
  rw [Bool.eq_iff_iff, beq_iff_eq, decide_eq_true_eq]
  exact ⟨dec_inj, fun h => by rw [h]⟩

set_option maxHeartbeats 400000 in
theorem refCmp_any (a b : Nat) (w : World) :
    Calls Try.prog 46 #[.string (dec a), .string (dec b)] w (RetID (cmpI a b) w) := by
  have z1 := dec_size a
  have z2 := dec_size b
  have hless := dec_less (a := a) (b := b)
  have hl1 := decL_less (a := a) (b := b)
  have hl2 := decL_less (a := b) (b := a)
  obtain ⟨la, hla⟩ : ∃ la, la = (decL a).length := ⟨_, rfl⟩
  obtain ⟨lb, hlb⟩ : ∃ lb, lb = (decL b).length := ⟨_, rfl⟩
  rw [← hla, ← hlb] at hless hl1 hl2
  rw [← hla] at z1
  rw [← hlb] at z2
  have HL := Lib.hid (And.intro hla hlb); clear hla hlb
  by_cases h1 : la < lb
  · have e : cmpI (a : Int) (b : Int) = -1 := cmpI_lt (by have := hl1 h1; omega)
    have q1 : (((la : Int)) != (lb : Int)) = true := by simp; omega
    have q2 : (la : Int) < (lb : Int) := by omega
    rw [e]
    clear hless hl1 hl2
    go_enter Try.func46, Try.ntmps46
    go_wp2
    go_ret
    exact ⟨rfl, 0, rfl⟩
  by_cases h2 : lb < la
  · have e : cmpI (a : Int) (b : Int) = 1 := cmpI_gt (by have := hl2 h2; omega)
    have q1 : (((la : Int)) != (lb : Int)) = true := by simp; omega
    have q2 : ¬ (la : Int) < (lb : Int) := by omega
    rw [e]
    clear hless hl1 hl2
    go_enter Try.func46, Try.ntmps46
    go_wp2
    go_ret
    exact ⟨rfl, 0, rfl⟩
  have hle := hless (by omega)
  have heq := dec_beq a b
  have q1 : (((la : Int)) != (lb : Int)) = false := by simp; omega
  clear hless hl1 hl2
  rcases Nat.lt_trichotomy a b with h | h | h
  · rw [decide_eq_true h] at hle
    rw [cmpI_lt (by omega)]
    clear h heq
    go_enter Try.func46, Try.ntmps46
    go_wp2
    go_ret
    exact ⟨rfl, 0, rfl⟩
  · rw [decide_eq_false (by omega)] at hle
    rw [decide_eq_true h] at heq
    rw [cmpI_eq (by omega)]
    clear h
    go_enter Try.func46, Try.ntmps46
    go_wp2
    go_ret
    exact ⟨rfl, 0, rfl⟩
  · rw [decide_eq_false (by omega)] at hle
    rw [decide_eq_false (by omega)] at heq
    rw [cmpI_gt (by omega)]
    clear h
    go_enter Try.func46, Try.ntmps46
    go_wp2
    go_ret
    exact ⟨rfl, 0, rfl⟩
end Go.Proofs.Ytmbbdjpnecjleaa
