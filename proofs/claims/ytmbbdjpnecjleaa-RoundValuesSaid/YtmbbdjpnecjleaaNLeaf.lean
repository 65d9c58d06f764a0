/-
  The small functions of layer 1: Right (and the reference's), trim, at, fits.
-/
import Derived.Test.YtmbbdjpnecjleaaNOwn
namespace Go.Proofs.Ytmbbdjpnecjleaa
set_option maxRecDepth 100000
open Go.RowKit

def RetBD (b : Bool) (w : World) (e : Ending) (w' : World) : Prop := e = .returned (.bool b) ∧ ∃ n, w' = w.drewN n
def RetB (b : Bool) (w : World) (e : Ending) (w' : World) : Prop := e = .returned (.bool b) ∧ w' = w
def RetI (i : Int) (w : World) (e : Ending) (w' : World) : Prop := e = .returned (.int .i64 i) ∧ w' = w
def RetID (i : Int) (w : World) (e : Ending) (w' : World) : Prop := e = .returned (.int .i64 i) ∧ ∃ n, w' = w.drewN n
def RetUD (i : Int) (w : World) (e : Ending) (w' : World) : Prop := e = .returned (.int .u64 i) ∧ ∃ n, w' = w.drewN n

set_option maxHeartbeats 400000 in
theorem right_any (A : Option Addr) (cap : Nat) (xs : List Nat) (w : World) (h : RdL w A xs) (hl : xs.length ≤ 4611686018427387900) :
    Calls Try.prog 56 #[.slice A xs.length cap] w (RetBD (rightL xs) w) := by
  by_cases h16 : xs.length ≤ 16
  · have g1 : (xs.length : Int) ≤ 16 := by omega
    by_cases h0 : xs.length = 0
    · have g2 : ((xs.length : Int) == 0) = true := by rw [h0]; rfl
      go_enter Try.func56, Try.ntmps56
      go_wp2
      go_ret
      exact ⟨ret_bool (by simp [rightL, h0]), 0, rfl⟩
    · have g2 : ((xs.length : Int) == 0) = false := beq_eq_false_iff_ne.2 (by omega)
      obtain ⟨b, off, rfl, hb, hc⟩ := h.at_ (k := xs.length - 1) (by omega)
      obtain ⟨x, hx⟩ : ∃ x, x = xs.getD (xs.length - 1) 0 := ⟨_, rfl⟩
      rw [← hx] at hc
      have HX := Lib.hid hx; clear hx
      have g3 : (xs.length : Int) - 1 = ((xs.length - 1 : Nat) : Int) := by omega
      have g4 : ((xs.length - 1 : Nat) : Int) < (xs.length : Int) := by omega
      have H := Lib.hid h; clear h
      go_enter Try.func56, Try.ntmps56
      go_wp2
      go_ret
      refine ⟨ret_bool ?_, 0, rfl⟩
      unfold rightL
      rw [← HX.out, Bool.eq_iff_iff]
      simp [h0, h16]
  · have g1 : ¬ (xs.length : Int) ≤ 16 := by omega
    go_enter Try.func56, Try.ntmps56
    go_wp2
    go_ret
    exact ⟨ret_bool (by simp [rightL, h16]), 0, rfl⟩

set_option maxHeartbeats 400000 in
theorem refRight_any (A : Option Addr) (cap : Nat) (xs : List Nat) (w : World) (h : RdL w A xs) (hl : xs.length ≤ 4611686018427387900) :
    Calls Try.prog 29 #[.slice A xs.length cap] w (RetBD (rightL xs) w) := by
  by_cases h16 : xs.length ≤ 16
  · have g1 : (xs.length : Int) ≤ 16 := by omega
    by_cases h0 : xs.length = 0
    · have g2 : ((xs.length : Int) == 0) = true := by rw [h0]; rfl
      go_enter Try.func29, Try.ntmps29
      go_wp2
      go_ret
      exact ⟨ret_bool (by simp [rightL, h0]), 0, rfl⟩
    · have g2 : ((xs.length : Int) == 0) = false := beq_eq_false_iff_ne.2 (by omega)
      obtain ⟨b, off, rfl, hb, hc⟩ := h.at_ (k := xs.length - 1) (by omega)
      obtain ⟨x, hx⟩ : ∃ x, x = xs.getD (xs.length - 1) 0 := ⟨_, rfl⟩
      rw [← hx] at hc
      have HX := Lib.hid hx; clear hx
      have g3 : (xs.length : Int) - 1 = ((xs.length - 1 : Nat) : Int) := by omega
      have g4 : ((xs.length - 1 : Nat) : Int) < (xs.length : Int) := by omega
      have H := Lib.hid h; clear h
      go_enter Try.func29, Try.ntmps29
      go_wp2
      go_ret
      refine ⟨ret_bool ?_, 0, rfl⟩
      unfold rightL
      rw [← HX.out, Bool.eq_iff_iff]
      simp [h0, h16]
      omega
  · have g1 : ¬ (xs.length : Int) ≤ 16 := by omega
    go_enter Try.func29, Try.ntmps29
    go_wp2
    go_ret
    exact ⟨ret_bool (by simp [rightL, h16]), 0, rfl⟩

/-- trim's answer: the same row, shorter. -/
def RetTrim (A : Option Addr) (cap : Nat) (xs : List Nat) (w : World) (e : Ending) (w' : World) : Prop :=
  e = .returned (.slice A (limbs (lval xs)).length cap) ∧ (∃ m, limbs (lval xs) = xs.take m) ∧ ∃ n, w' = w.drewN n

theorem trim_done {xs : List Nat} {k : Nat} (hx : Lim xs) (hk : k ≤ xs.length) (h0 : k ≠ 0) (hz : ∀ x ∈ xs.drop k, x = 0) (hne : xs.getD (k - 1) 0 ≠ 0) : limbs (lval xs) = xs.take k := by
  have e : lval xs = lval (xs.take k) := (val_take_zero xs k hz).symm
  rw [e]
  have hl : (xs.take k).length = k := by rw [List.length_take]; omega
  refine limbs_of (fun x h => hx x (List.mem_of_mem_take h)) (.inr ?_)
  rw [hl]
  have : k - 1 < k := by omega
  simpa [this] using hne
theorem trim_more {xs : List Nat} {k : Nat} (hk : k ≤ xs.length) (h0 : k ≠ 0) (hz : ∀ x ∈ xs.drop k, x = 0) (he : xs.getD (k - 1) 0 = 0) : ∀ x ∈ xs.drop (k - 1), x = 0 := by
  have hlt : k - 1 < xs.length := by omega
  rw [List.drop_eq_getElem_cons hlt, show k - 1 + 1 = k by omega]
  intro x hx
  rcases List.mem_cons.1 hx with rfl | hx
  · rw [List.getD_eq_getElem?_getD, List.getElem?_eq_getElem hlt] at he
    exact he
  · exact hz x hx

set_option maxHeartbeats 800000 in
theorem trim_any (A : Option Addr) (cap : Nat) (xs : List Nat) (w : World) (h : RdL w A xs) (hx : Lim xs) (hcap : xs.length ≤ cap) (hl : xs.length ≤ 4611686018427387900) :
    Calls Try.prog 89 #[.slice A xs.length cap] w (RetTrim A cap xs w) := by
  have H := Lib.hid h; clear h
  have HX := Lib.hid hx; clear hx
  obtain ⟨i0, hi, hz0, hz1, hz2⟩ := info_parts info_u32
  have HI := Lib.hid hi; clear hi
  go_enter Try.func89, Try.ntmps89
  go_wp2
  go_loopw [0] (fun v wr => ∃ k : Nat, k ≤ xs.length ∧ v = .slice A k cap ∧ (∀ x ∈ xs.drop k, x = 0) ∧ ∃ n, wr = w.drewN n) (fun v _ => match v with | .slice _ n _ => n | _ => 0)
  case atStart => exact ⟨xs.length, Nat.le_refl _, rfl, by simp, 0, rfl⟩
  case round =>
    obtain ⟨k, hk, rfl, hrest, n, rfl⟩ := hrel
    have HR := Lib.hid hrest; clear hrest
    by_cases h0 : k = 0
    · subst h0
      go_wp2
      go_ret
      have e : lval xs = 0 := val_zeros _ _ (by simpa using HR.out)
      refine ⟨?_, ⟨0, ?_⟩, _, rfl⟩
      · rw [e]; rfl
      · rw [e]; rfl
    · obtain ⟨b, off, rfl, hb, hc⟩ := H.out.at_ (k := k - 1) (by omega)
      obtain ⟨x, hx⟩ : ∃ x, x = xs.getD (k - 1) 0 := ⟨_, rfl⟩
      rw [← hx] at hc
      have HC := Lib.hid hx; clear hx
      have g0 : (0 : Int) < (k : Int) := by omega
      have g3 : (k : Int) - 1 = ((k - 1 : Nat) : Int) := by omega
      have g4 : ((k - 1 : Nat) : Int) < (k : Int) := by omega
      have hcut := fun W => run_cut_to (P := Try.prog) 23 80 i0 (by kernel_rfl) HI.out (some ⟨b, off, none⟩) k cap (k - 1) (by omega) W
      go_wp2
      · have hz : ((x : Int) == 0) = true := by assumption
        go_roundw
        case rel => exact ⟨k - 1, by omega, rfl, trim_more hk h0 HR.out (by rw [← HC.out]; simp at hz; omega), n, rfl⟩
        case measure => dsimp only; omega
      · have hz : ((x : Int) == 0) = false := by assumption
        have ht := trim_done HX.out hk h0 HR.out (by rw [← HC.out]; simp at hz; omega)
        go_ret
        refine ⟨?_, ⟨k, ht⟩, n, rfl⟩
        rw [ht, List.length_take, Nat.min_eq_left hk]
        rfl

/-- fits' answer. -/
def fitN (n : Nat) : Nat := if n < Top then n else 0
def fitC (n : Nat) : Int := if n < Top then 0 else 2
/-- A slice that is a number, and an error. -/
def RetNE (n : Nat) (c : Int) (w : World) (e : Ending) (w' : World) : Prop := ∃ v, e = .returned (.tuple #[v, .int .i64 c]) ∧ RdN w' v n ∧ Below w.heap.size w w'
def RetN (n : Nat) (w : World) (e : Ending) (w' : World) : Prop := ∃ v, e = .returned v ∧ RdN w' v n ∧ Below w.heap.size w w'

theorem RetTrim.rdN {A : Option Addr} {cap : Nat} {xs : List Nat} {w w' : World} {e : Ending} (h : RetTrim A cap xs w e w') (hr : RdL w A xs) (hc : xs.length ≤ cap) : RetN (lval xs) w e w' := by
  obtain ⟨rfl, ⟨m, hm⟩, n, rfl⟩ := h
  refine ⟨_, rfl, ⟨A, cap, rfl, ?_, ?_⟩, bel_drewN (bel_refl _) _⟩
  · rw [hm, List.length_take]; omega
  · rw [hm]; exact (hr.take m).drewN n

set_option maxHeartbeats 400000 in
theorem fits_any (A : Option Addr) (cap : Nat) (xs : List Nat) (w : World) (h : RdL w A xs) (hx : Lim xs) (hcap : xs.length ≤ cap) (hl : xs.length ≤ 4611686018427387900) :
    Calls Try.prog 93 #[.slice A xs.length cap] w (RetNE (fitN (lval xs)) (fitC (lval xs)) w) := by
  have H := Lib.hid h; clear h
  have HX := Lib.hid hx; clear hx
  by_cases ht : lval xs < Top
  · have hlen := limbs_len16 ht
    have hl2 : ((limbs (lval xs)).length : Int) ≤ 16 := by omega
    go_enter Try.func93, Try.ntmps93
    go_wp2_with fail
    refine (trim_any A cap xs w H.out HX.out hcap hl).mono ?_
    rintro e w1 hret
    obtain ⟨v, he, hv, hb⟩ := RetTrim.rdN hret H.out hcap
    obtain ⟨rfl, hm, n, rfl⟩ := hret
    injection he with he
    subst he
    have HV := Lib.hid hv; clear hv hm
    go_wp2
    go_ret2
    unfold fitN fitC
    rw [if_pos ht, if_pos ht]
    exact ⟨_, rfl, HV.out, hb⟩
  · have hl2 : (16 : Int) < ((limbs (lval xs)).length : Int) := by
      have : ¬ (limbs (lval xs)).length ≤ 16 := fun h => ht (limbs_len.1 h)
      omega
    go_enter Try.func93, Try.ntmps93
    go_wp2_with fail
    refine (trim_any A cap xs w H.out HX.out hcap hl).mono ?_
    rintro e w1 ⟨rfl, hm, n, rfl⟩
    clear hm
    go_wp2
    go_ret2
    unfold fitN fitC
    rw [if_neg ht, if_neg ht]
    exact ⟨_, rfl, RdN.zero, bel_drewN (bel_refl _) _⟩

set_option maxHeartbeats 400000 in
theorem at_any (A : Option Addr) (cap : Nat) (xs : List Nat) (i : Nat) (w : World) (h : RdL w A xs) (hx : Lim xs) :
    Calls Try.prog 103 #[.slice A xs.length cap, .int .i64 i] w (RetUD (xs.getD i 0 : Nat) w) := by
  by_cases hi : i < xs.length
  · obtain ⟨b, off, rfl, hb, hc⟩ := h.at_ hi
    have hlt := hx.get i
    have hi' : (i : Int) < (xs.length : Int) := by omega
    obtain ⟨x, hx⟩ : ∃ x, x = xs.getD i 0 := ⟨_, rfl⟩
    rw [← hx] at hc hlt ⊢
    have HX := Lib.hid hx; clear hx
    have hw : IntKind.u64.wrap (x : Int) = (x : Int) := by rw [IntKind.wrap_u64]; omega
    have H := Lib.hid h; clear h
    go_enter Try.func103, Try.ntmps103
    go_wp2
    go_ret
    exact ⟨by go_num, 0, rfl⟩
  · have hi' : ¬ (i : Int) < (xs.length : Int) := by omega
    have e : xs.getD i 0 = 0 := by rw [List.getD_eq_getElem?_getD, List.getElem?_eq_none (by omega)]; rfl
    rw [e]
    go_enter Try.func103, Try.ntmps103
    go_wp2
    go_ret
    exact ⟨rfl, 0, rfl⟩
end Go.Proofs.Ytmbbdjpnecjleaa
