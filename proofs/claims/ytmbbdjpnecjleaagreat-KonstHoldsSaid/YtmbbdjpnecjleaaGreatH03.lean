/-
 Parts: NLeaf NCmp NAdd NSub.
-/
import Derived.Test.YtmbbdjpnecjleaaGreatH02
import Derived.Deep.QuietTactic
import Derived.BigQuiet
namespace Go.Proofs.YtmbbdjpnecjleaaGreat
section
set_option maxRecDepth 100000
set_option maxHeartbeats 1000000
open Go.RowKit

def RetBD (b : Bool) (w : World) (e : Ending) (w' : World) : Prop := e = .returned (.bool b) ∧ ∃ n, w' = w.drewN n
def RetB (b : Bool) (w : World) (e : Ending) (w' : World) : Prop := e = .returned (.bool b) ∧ w' = w
def RetI (i : Int) (w : World) (e : Ending) (w' : World) : Prop := e = .returned (.int .i64 i) ∧ w' = w
def RetID (i : Int) (w : World) (e : Ending) (w' : World) : Prop := e = .returned (.int .i64 i) ∧ ∃ n, w' = w.drewN n
def RetUD (i : Int) (w : World) (e : Ending) (w' : World) : Prop := e = .returned (.int .u64 i) ∧ ∃ n, w' = w.drewN n

theorem right_any (A : Option Addr) (cap : Nat) (xs : List Nat) (w : World) (h : RdL w A xs) (hl : xs.length ≤ 4611686018427387900) :
 Calls Tryz.prog 89 #[.slice A xs.length cap] w (RetBD (rightL xs) w) := by
 by_cases h16 : xs.length ≤ 16
 · have g1 : (xs.length : Int) ≤ 16 := by omega
   by_cases h0 : xs.length = 0
   · have g2 : ((xs.length : Int) == 0) = true := by rw [h0]; rfl
     go_enter Tryz.func89, Tryz.ntmps89
     go_wp2
     go_ret
     exact ⟨ret_bool (by simp [rightL, h0]), 0, rfl⟩
   · have g2 : ((xs.length : Int) == 0) = false := beq_eq_false_iff_ne.2 (by omega)
     obtain ⟨b, off, rfl, hb, hc⟩ := h.at_ (k := xs.length - 1) (by omega)
     obtain ⟨x, hx⟩ : ∃ x, x = xs.getD (xs.length - 1) 0 := ⟨_, rfl⟩
     rw [← hx] at hc
     have HX := Lib.hid hx; clear hx
     have g3 : (xs.length : Int) - 1 = ((xs.length - 1 : Nat) : Int) := by omega
     have g4 : ((xs.length - 1 : Nat) : Int) < (xs.length : Int) := by omega
     have H := Lib.hid h; clear h
     go_enter Tryz.func89, Tryz.ntmps89
     go_wp2
     go_ret
     refine ⟨ret_bool ?_, 0, rfl⟩
     unfold rightL
     rw [← HX.out, Bool.eq_iff_iff]
     simp [h0, h16]
 · have g1 : ¬ (xs.length : Int) ≤ 16 := by omega
   go_enter Tryz.func89, Tryz.ntmps89
   go_wp2
   go_ret
   exact ⟨ret_bool (by simp [rightL, h16]), 0, rfl⟩

theorem refRight_any (A : Option Addr) (cap : Nat) (xs : List Nat) (w : World) (h : RdL w A xs) (hl : xs.length ≤ 4611686018427387900) :
 Calls Tryz.prog 68 #[.slice A xs.length cap] w (RetBD (rightL xs) w) := by
 by_cases h16 : xs.length ≤ 16
 · have g1 : (xs.length : Int) ≤ 16 := by omega
   by_cases h0 : xs.length = 0
   · have g2 : ((xs.length : Int) == 0) = true := by rw [h0]; rfl
     go_enter Tryz.func68, Tryz.ntmps68
     go_wp2
     go_ret
     exact ⟨ret_bool (by simp [rightL, h0]), 0, rfl⟩
   · have g2 : ((xs.length : Int) == 0) = false := beq_eq_false_iff_ne.2 (by omega)
     obtain ⟨b, off, rfl, hb, hc⟩ := h.at_ (k := xs.length - 1) (by omega)
     obtain ⟨x, hx⟩ : ∃ x, x = xs.getD (xs.length - 1) 0 := ⟨_, rfl⟩
     rw [← hx] at hc
     have HX := Lib.hid hx; clear hx
     have g3 : (xs.length : Int) - 1 = ((xs.length - 1 : Nat) : Int) := by omega
     have g4 : ((xs.length - 1 : Nat) : Int) < (xs.length : Int) := by omega
     have H := Lib.hid h; clear h
     go_enter Tryz.func68, Tryz.ntmps68
     go_wp2
     go_ret
     refine ⟨ret_bool ?_, 0, rfl⟩
     unfold rightL
     rw [← HX.out, Bool.eq_iff_iff]
     simp [h0, h16]
     omega
 · have g1 : ¬ (xs.length : Int) ≤ 16 := by omega
   go_enter Tryz.func68, Tryz.ntmps68
   go_wp2
   go_ret
   exact ⟨ret_bool (by simp [rightL, h16]), 0, rfl⟩

def RetTrim (A : Option Addr) (cap : Nat) (xs : List Nat) (w : World) (e : Ending) (w' : World) : Prop :=
 e = .returned (.slice A (limbs (lval xs)).length cap) ∧ (∃ m, limbs (lval xs) = xs.take m) ∧ ∃ n, w' = w.drewN n

theorem trim_done {xs : List Nat} {k : Nat} (hx : Lim xs) (hk : k ≤ xs.length) (h0 : k ≠ 0) (hz : ∀ x ∈ xs.drop k, x = 0) (hne : xs.getD (k - 1) 0 ≠ 0) : limbs (lval xs) = xs.take k := by
 have e : lval xs = lval (xs.take k) := (val_take_zero xs k hz).symm
 rw [e]
 have hl : (xs.take k).length = k := by rw [List.length_take]; omega
 refine limbs_of (fun x h => hx x (List.mem_of_mem_take h)) (.inr ?_)
 rw [hl]
 have : k - 1 < k := by omega
 simpa [this] using hne
theorem trim_more {xs : List Nat} {k : Nat} (hk : k ≤ xs.length) (h0 : k ≠ 0) (hz : ∀ x ∈ xs.drop k, x = 0) (he : xs.getD (k - 1) 0 = 0) : ∀ x ∈ xs.drop (k - 1), x = 0 := by
 have hlt : k - 1 < xs.length := by omega
 rw [List.drop_eq_getElem_cons hlt, show k - 1 + 1 = k by omega]
 intro x hx
 rcases List.mem_cons.1 hx with rfl | hx
 · rw [List.getD_eq_getElem?_getD, List.getElem?_eq_getElem hlt] at he
   exact he
 · exact hz x hx

set_option maxHeartbeats 800000 in
theorem trim_any (A : Option Addr) (cap : Nat) (xs : List Nat) (w : World) (h : RdL w A xs) (hx : Lim xs) (hcap : xs.length ≤ cap) (hl : xs.length ≤ 4611686018427387900) :
 Calls Tryz.prog 131 #[.slice A xs.length cap] w (RetTrim A cap xs w) := by
 have H := Lib.hid h; clear h
 have HX := Lib.hid hx; clear hx
 obtain ⟨i0, hi, hz0, hz1, hz2⟩ := info_parts info_u32
 have HI := Lib.hid hi; clear hi
 go_enter Tryz.func131, Tryz.ntmps131
 go_wp2
 go_loopw [0] (fun v wr => ∃ k : Nat, k ≤ xs.length ∧ v = .slice A k cap ∧ (∀ x ∈ xs.drop k, x = 0) ∧ ∃ n, wr = w.drewN n) (fun v _ => match v with | .slice _ n _ => n | _ => 0)
 case atStart => exact ⟨xs.length, Nat.le_refl _, rfl, by simp, 0, rfl⟩
 case round =>
  obtain ⟨k, hk, rfl, hrest, n, rfl⟩ := hrel
  have HR := Lib.hid hrest; clear hrest
  by_cases h0 : k = 0
  · subst h0
    go_wp2
    go_ret
    have e : lval xs = 0 := val_zeros _ _ (by simpa using HR.out)
    refine ⟨?_, ⟨0, ?_⟩, _, rfl⟩
    · rw [e]; rfl
    · rw [e]; rfl
  · obtain ⟨b, off, rfl, hb, hc⟩ := H.out.at_ (k := k - 1) (by omega)
    obtain ⟨x, hx⟩ : ∃ x, x = xs.getD (k - 1) 0 := ⟨_, rfl⟩
    rw [← hx] at hc
    have HC := Lib.hid hx; clear hx
    have g0 : (0 : Int) < (k : Int) := by omega
    have g3 : (k : Int) - 1 = ((k - 1 : Nat) : Int) := by omega
    have g4 : ((k - 1 : Nat) : Int) < (k : Int) := by omega
    have hcut := fun W => run_cut_to (P := Tryz.prog) 23 62 i0 (by kernel_rfl) HI.out (some ⟨b, off, none⟩) k cap (k - 1) (by omega) W
    go_wp2
    · have hz : ((x : Int) == 0) = true := by assumption
      go_roundw
      case rel => exact ⟨k - 1, by omega, rfl, trim_more hk h0 HR.out (by rw [← HC.out]; simp at hz; omega), n, rfl⟩
      case measure => dsimp only; omega
    · have hz : ((x : Int) == 0) = false := by assumption
      have ht := trim_done HX.out hk h0 HR.out (by rw [← HC.out]; simp at hz; omega)
      go_ret
      refine ⟨?_, ⟨k, ht⟩, n, rfl⟩
      rw [ht, List.length_take, Nat.min_eq_left hk]
      rfl

def fitN (n : Nat) : Nat := if n < Top then n else 0
def fitC (n : Nat) : Int := if n < Top then 0 else 2
def RetNE (n : Nat) (c : Int) (w : World) (e : Ending) (w' : World) : Prop := ∃ v, e = .returned (.tuple #[v, .int .i64 c]) ∧ RdN w' v n ∧ Below w.heap.size w w'
def RetN (n : Nat) (w : World) (e : Ending) (w' : World) : Prop := ∃ v, e = .returned v ∧ RdN w' v n ∧ Below w.heap.size w w'

theorem RetTrim.rdN {A : Option Addr} {cap : Nat} {xs : List Nat} {w w' : World} {e : Ending} (h : RetTrim A cap xs w e w') (hr : RdL w A xs) (hc : xs.length ≤ cap) : RetN (lval xs) w e w' := by
 obtain ⟨rfl, ⟨m, hm⟩, n, rfl⟩ := h
 refine ⟨_, rfl, ⟨A, cap, rfl, ?_, ?_⟩, bel_drewN (bel_refl _) _⟩
 · rw [hm, List.length_take]; omega
 · rw [hm]; exact (hr.take m).drewN n

theorem fits_any (A : Option Addr) (cap : Nat) (xs : List Nat) (w : World) (h : RdL w A xs) (hx : Lim xs) (hcap : xs.length ≤ cap) (hl : xs.length ≤ 4611686018427387900) :
 Calls Tryz.prog 136 #[.slice A xs.length cap] w (RetNE (fitN (lval xs)) (fitC (lval xs)) w) := by
 have H := Lib.hid h; clear h
 have HX := Lib.hid hx; clear hx
 by_cases ht : lval xs < Top
 · have hlen := limbs_len16 ht
   have hl2 : ((limbs (lval xs)).length : Int) ≤ 16 := by omega
   go_enter Tryz.func136, Tryz.ntmps136
   go_wp2_with fail
   refine (trim_any A cap xs w H.out HX.out hcap hl).mono ?_
   rintro e w1 hret
   obtain ⟨v, he, hv, hb⟩ := RetTrim.rdN hret H.out hcap
   obtain ⟨rfl, hm, n, rfl⟩ := hret
   injection he with he
   subst he
   have HV := Lib.hid hv; clear hv hm
   go_wp2
   go_ret2
   unfold fitN fitC
   rw [if_pos ht, if_pos ht]
   exact ⟨_, rfl, HV.out, hb⟩
 · have hl2 : (16 : Int) < ((limbs (lval xs)).length : Int) := by
    have : ¬ (limbs (lval xs)).length ≤ 16 := fun h => ht (limbs_len.1 h)
    omega
   go_enter Tryz.func136, Tryz.ntmps136
   go_wp2_with fail
   refine (trim_any A cap xs w H.out HX.out hcap hl).mono ?_
   rintro e w1 ⟨rfl, hm, n, rfl⟩
   clear hm
   go_wp2
   go_ret2
   unfold fitN fitC
   rw [if_neg ht, if_neg ht]
   exact ⟨_, rfl, RdN.zero, bel_drewN (bel_refl _) _⟩

theorem at_any (A : Option Addr) (cap : Nat) (xs : List Nat) (i : Nat) (w : World) (h : RdL w A xs) (hx : Lim xs) :
 Calls Tryz.prog 161 #[.slice A xs.length cap, .int .i64 i] w (RetUD (xs.getD i 0 : Nat) w) := by
 by_cases hi : i < xs.length
 · obtain ⟨b, off, rfl, hb, hc⟩ := h.at_ hi
   have hlt := hx.get i
   have hi' : (i : Int) < (xs.length : Int) := by omega
   obtain ⟨x, hx⟩ : ∃ x, x = xs.getD i 0 := ⟨_, rfl⟩
   rw [← hx] at hc hlt ⊢
   have HX := Lib.hid hx; clear hx
   have hw : IntKind.u64.wrap (x : Int) = (x : Int) := by rw [IntKind.wrap_u64]; omega
   have H := Lib.hid h; clear h
   go_enter Tryz.func161, Tryz.ntmps161
   go_wp2
   go_ret
   exact ⟨by go_num, 0, rfl⟩
 · have hi' : ¬ (i : Int) < (xs.length : Int) := by omega
   have e : xs.getD i 0 = 0 := by rw [List.getD_eq_getElem?_getD, List.getElem?_eq_none (by omega)]; rfl
   rw [e]
   go_enter Tryz.func161, Tryz.ntmps161
   go_wp2
   go_ret
   exact ⟨rfl, 0, rfl⟩
end
end Go.Proofs.YtmbbdjpnecjleaaGreat
namespace Go.Proofs.YtmbbdjpnecjleaaGreat
section
set_option maxRecDepth 100000
set_option maxHeartbeats 1000000
open Go.RowKit

theorem both_any (A A' : Option Addr) (cap cap' : Nat) (xs ys : List Nat) (w : World) (h : RdL w A xs) (h' : RdL w A' ys) (hl : xs.length ≤ 4611686018427387900) (hl' : ys.length ≤ 4611686018427387900) :
 Calls Tryz.prog 132 #[.slice A xs.length cap, .slice A' ys.length cap'] w (RetBD (rightL xs && rightL ys) w) := by
 have H := Lib.hid h; clear h
 have H' := Lib.hid h'; clear h'
 cases hx : rightL xs
 · go_enter Tryz.func132, Tryz.ntmps132
   go_wp2_with fail
   refine (right_any A cap xs _ H.out hl).mono ?_
   rintro e w1 ⟨rfl, n, rfl⟩
   rw [hx]
   go_wp2
   go_ret
   exact ⟨rfl, n, rfl⟩
 · go_enter Tryz.func132, Tryz.ntmps132
   go_wp2_with fail
   refine (right_any A cap xs _ H.out hl).mono ?_
   rintro e w1 ⟨rfl, n, rfl⟩
   rw [hx]
   go_wp2_with fail
   refine (right_any A' cap' ys _ (H'.out.drewN n) hl').mono ?_
   rintro e w1 ⟨rfl, m, rfl⟩
   go_wp2
   go_ret
   exact ⟨rfl, _, rfl⟩

def cmpI (a b : Int) : Int := if a < b then -1 else if b < a then 1 else 0

theorem cmpInt_any (a b : Int) (w : World) : Calls Tryz.prog 147 #[.int .i64 a, .int .i64 b] w (RetI (cmpI a b) w) := by
 unfold cmpI
 by_cases h1 : a < b
 · have h2 : ¬ b < a := by omega
   rw [if_pos h1]
   go_enter Tryz.func147, Tryz.ntmps147
   go_wp2
   go_ret
   exact ⟨rfl, rfl⟩
 · rw [if_neg h1]
   by_cases h2 : b < a
   · rw [if_pos h2]
     go_enter Tryz.func147, Tryz.ntmps147
     go_wp2
     go_ret
     exact ⟨rfl, rfl⟩
   · rw [if_neg h2]
     go_enter Tryz.func147, Tryz.ntmps147
     go_wp2
     go_ret
     exact ⟨rfl, rfl⟩
theorem cmpLimb_any (a b : Int) (w : World) : Calls Tryz.prog 148 #[.int .u32 a, .int .u32 b] w (RetI (cmpI a b) w) := by
 unfold cmpI
 by_cases h1 : a < b
 · have h2 : ¬ b < a := by omega
   rw [if_pos h1]
   go_enter Tryz.func148, Tryz.ntmps148
   go_wp2
   go_ret
   exact ⟨rfl, rfl⟩
 · rw [if_neg h1]
   by_cases h2 : b < a
   · rw [if_pos h2]
     go_enter Tryz.func148, Tryz.ntmps148
     go_wp2
     go_ret
     exact ⟨rfl, rfl⟩
   · rw [if_neg h2]
     go_enter Tryz.func148, Tryz.ntmps148
     go_wp2
     go_ret
     exact ⟨rfl, rfl⟩

theorem cmpI_lt {a b : Int} (h : a < b) : cmpI a b = -1 := if_pos h
theorem cmpI_gt {a b : Int} (h : b < a) : cmpI a b = 1 := by unfold cmpI; rw [if_neg (by omega), if_pos h]
theorem cmpI_eq {a b : Int} (h : a = b) : cmpI a b = 0 := by unfold cmpI; rw [if_neg (by omega), if_neg (by omega)]

theorem cmpI_add (p q r : Nat) : cmpI ((p + r : Nat) : Int) ((q + r : Nat) : Int) = cmpI (p : Int) (q : Int) := by
 rcases Nat.lt_trichotomy p q with h | h | h
 · rw [cmpI_lt (by omega), cmpI_lt (by omega)]
 · rw [cmpI_eq (by omega), cmpI_eq (by omega)]
 · rw [cmpI_gt (by omega), cmpI_gt (by omega)]
theorem lval_take_succ {xs : List Nat} {k : Nat} (h : k < xs.length) : lval (xs.take (k + 1)) = lval (xs.take k) + B32 ^ k * xs.getD k 0 := by
 rw [List.take_succ_eq_append_getElem h]
 unfold lval
 rw [val_snoc, List.length_take, Nat.min_eq_left (by omega), List.getD_eq_getElem?_getD, List.getElem?_eq_getElem h]
 rfl
theorem lval_take_lt {xs : List Nat} (hx : Lim xs) {k : Nat} (h : k ≤ xs.length) : lval (xs.take k) < B32 ^ k := by
 have := val_lt (b := B32) (xs.take k) fun x h => hx x (List.mem_of_mem_take h)
 rwa [List.length_take, Nat.min_eq_left h] at this
theorem lval_take_less {xs ys : List Nat} (hx : Lim xs) {k : Nat} (h : k < xs.length) (h' : k < ys.length) (hlt : xs.getD k 0 < ys.getD k 0) : lval (xs.take (k + 1)) < lval (ys.take (k + 1)) := by
 rw [lval_take_succ h, lval_take_succ h']
 have h1 := lval_take_lt hx (Nat.le_of_lt h)
 have h2 : B32 ^ k * (xs.getD k 0 + 1) ≤ B32 ^ k * ys.getD k 0 := Nat.mul_le_mul_left _ hlt
 rw [Nat.mul_add, Nat.mul_one] at h2
 omega
theorem limbs_less {a b : Nat} (h : (limbs a).length < (limbs b).length) : a < b := by
 have h1 : a < B32 ^ (limbs a).length := limbs_len.1 (Nat.le_refl _)
 have h2 : ¬ b < B32 ^ (limbs a).length := fun h' => by have := limbs_len.2 h'; omega
 omega

theorem compare_any (A A' : Option Addr) (cap cap' : Nat) (a b : Nat) (w : World) (h : RdL w A (limbs a)) (h' : RdL w A' (limbs b)) (hl : (limbs a).length ≤ 4611686018427387900) :
 Calls Tryz.prog 133 #[.slice A (limbs a).length cap, .slice A' (limbs b).length cap'] w (RetID (cmpI a b) w) := by
 have H := Lib.hid h; clear h
 have H' := Lib.hid h'; clear h'
 by_cases hlt : (limbs a).length < (limbs b).length
 · have e : cmpI ((limbs a).length : Int) ((limbs b).length : Int) = -1 := cmpI_lt (by omega)
   have e2 : cmpI (a : Int) (b : Int) = -1 := cmpI_lt (by have := limbs_less hlt; omega)
   rw [e2]
   go_enter Tryz.func133, Tryz.ntmps133
   go_wp2_with fail
   refine (cmpInt_any _ _ _).mono ?_
   rintro e w1 ⟨rfl, rfl⟩
   rw [e]
   go_wp2
   go_ret
   exact ⟨rfl, 0, rfl⟩
 by_cases hgt : (limbs b).length < (limbs a).length
 · have e : cmpI ((limbs a).length : Int) ((limbs b).length : Int) = 1 := cmpI_gt (by omega)
   have e2 : cmpI (a : Int) (b : Int) = 1 := cmpI_gt (by have := limbs_less hgt; omega)
   rw [e2]
   go_enter Tryz.func133, Tryz.ntmps133
   go_wp2_with fail
   refine (cmpInt_any _ _ _).mono ?_
   rintro e w1 ⟨rfl, rfl⟩
   rw [e]
   go_wp2
   go_ret
   exact ⟨rfl, 0, rfl⟩
 have heq : (limbs a).length = (limbs b).length := by omega
 have e : cmpI ((limbs a).length : Int) ((limbs b).length : Int) = 0 := cmpI_eq (by omega)
 have HE := Lib.hid heq; clear heq hlt hgt
 go_enter Tryz.func133, Tryz.ntmps133
 go_wp2_with fail
 refine (cmpInt_any _ _ _).mono ?_
 rintro e w1 ⟨rfl, rfl⟩
 rw [e]
 clear e
 go_wp2
 go_loopw [6] (fun i wr => ∃ k : Nat, k ≤ (limbs a).length ∧ i = .int .i64 ((k : Int) - 1) ∧ cmpI a b = cmpI (lval ((limbs a).take k)) (lval ((limbs b).take k)) ∧ ∃ n, wr = w1.drewN n) (fun i _ => (intOf i + 1).toNat)
 case atStart => exact ⟨(limbs a).length, Nat.le_refl _, by go_num, by rw [List.take_length, HE.out, List.take_length, lval_limbs, lval_limbs], 0, rfl⟩
 case round =>
  obtain ⟨k, hk, rfl, hrel, hw⟩ := hrel
  have HR := Lib.hid hrel; clear hrel
  have R := Lib.hid (show RdL wr A (limbs a) by obtain ⟨n, rfl⟩ := hw; exact H.out.drewN n)
  have R' := Lib.hid (show RdL wr A' (limbs b) by obtain ⟨n, rfl⟩ := hw; exact H'.out.drewN n)
  have HW := Lib.hid hw; clear hw
  by_cases h0 : k = 0
  · subst h0
    go_wp2
    go_ret
    exact ⟨ret_int HR.out.symm, HW.out⟩
  · obtain ⟨j, rfl⟩ : ∃ j, k = j + 1 := ⟨k - 1, by omega⟩
    have hj : j < (limbs a).length := by omega
    have hj' : j < (limbs b).length := by rw [← HE.out]; exact hj
    obtain ⟨g, off, rfl, hb, hc⟩ := R.out.at_ hj
    obtain ⟨g', off', rfl, hb', hc'⟩ := R'.out.at_ hj'
    obtain ⟨x, hx⟩ : ∃ x, x = (limbs a).getD j 0 := ⟨_, rfl⟩
    obtain ⟨y, hy⟩ : ∃ y, y = (limbs b).getD j 0 := ⟨_, rfl⟩
    rw [← hx] at hc
    rw [← hy] at hc'
    have HX := Lib.hid hx; clear hx
    have HY := Lib.hid hy; clear hy
    have hi : ((j + 1 : Nat) : Int) - 1 = (j : Int) := by omega
    rw [hi]
    have hj2 : (j : Int) < ((limbs a).length : Int) := by omega
    have hj3 : (j : Int) < ((limbs b).length : Int) := by omega
    go_wp2
    go_quiet (first | (go_at_call 148; exact Calls.quiet_of_same (cmpLimb_any _ _ _)))
    go_wp2
    · have hne : ((cmpI (x : Int) (y : Int)) != 0) = true := by assumption
      go_ret
      refine ⟨ret_int ?_, ?_⟩
      · rw [HR.out]
        by_cases h1 : x < y
        · rw [cmpI_lt (by omega), cmpI_lt (by have := lval_take_less (limbs_lim a) hj hj' (by rw [← HX.out, ← HY.out]; exact h1); omega)]
        · by_cases h2 : y < x
          · rw [cmpI_gt (by omega), cmpI_gt (by have := lval_take_less (limbs_lim b) hj' hj (by rw [← HX.out, ← HY.out]; exact h2); omega)]
          · rw [cmpI_eq (by omega)] at hne
            simp at hne
      · obtain ⟨n, rfl⟩ := HW.out
        exact ⟨_, World.drewN_drewN _ _ _⟩
    · have he : ((cmpI (x : Int) (y : Int)) != 0) = false := by assumption
      have hxy : x = y := by
       rcases Nat.lt_trichotomy x y with h | h | h
       · rw [cmpI_lt (by omega)] at he; simp at he
       · exact h
       · rw [cmpI_gt (by omega)] at he; simp at he
      go_roundw
      case rel =>
       refine ⟨j, by omega, by go_num, ?_, ?_⟩
       · rw [HR.out, lval_take_succ hj, lval_take_succ hj', ← HX.out, ← HY.out, hxy]
         exact cmpI_add _ _ _
       · obtain ⟨n, rfl⟩ := HW.out
         exact ⟨_, World.drewN_drewN _ _ _⟩
      case measure => simp [intOf]

def RetIE (i c : Int) (w : World) (e : Ending) (w' : World) : Prop := e = .returned (.tuple #[.int .i64 i, .int .i64 c]) ∧ ∃ n, w' = w.drewN n

theorem cmp_any (A A' : Option Addr) (cap cap' : Nat) (xs ys : List Nat) (w : World) (h : RdL w A xs) (h' : RdL w A' ys) (hx : Lim xs) (hy : Lim ys) (hl : xs.length ≤ 4611686018427387900) (hl' : ys.length ≤ 4611686018427387900) :
 Calls Tryz.prog 88 #[.slice A xs.length cap, .slice A' ys.length cap'] w (if (rightL xs && rightL ys) = true then RetIE (cmpI (lval xs) (lval ys)) 0 w else RetIE 0 1 w) := by
 have H := Lib.hid h; clear h
 have H' := Lib.hid h'; clear h'
 cases hr : (rightL xs && rightL ys)
 · rw [if_neg (by simp)]
   go_enter Tryz.func88, Tryz.ntmps88
   go_wp2_with fail
   refine (both_any A A' cap cap' xs ys _ H.out H'.out hl hl').mono ?_
   rintro e w1 ⟨rfl, n, rfl⟩
   rw [hr]
   go_wp2
   go_ret2
   exact ⟨rfl, n, rfl⟩
 · rw [if_pos rfl]
   rw [Bool.and_eq_true] at hr
   have ea := ((rightL_iff hx).1 hr.1).1
   have eb := ((rightL_iff hy).1 hr.2).1
   go_enter Tryz.func88, Tryz.ntmps88
   go_wp2_with fail
   refine (both_any A A' cap cap' xs ys _ H.out H'.out hl hl').mono ?_
   rintro e w1 ⟨rfl, n, rfl⟩
   rw [hr.1, hr.2]
   go_wp2_with fail
   have hc := compare_any A A' cap cap' (lval xs) (lval ys) (w.drewN n) (by rw [ea]; exact H.out.drewN n) (by rw [eb]; exact H'.out.drewN n) (by rw [ea]; exact hl)
   rw [ea, eb] at hc
   refine hc.mono ?_
   rintro e w1 ⟨rfl, m, rfl⟩
   go_wp2
   go_ret2
   exact ⟨rfl, _, rfl⟩
end
end Go.Proofs.YtmbbdjpnecjleaaGreat
namespace Go.Proofs.YtmbbdjpnecjleaaGreat
section
set_option maxRecDepth 100000
set_option maxHeartbeats 1000000
open Go.RowKit

structure OutL (w wr : World) (v : Value) (xs : List Nat) : Prop where
 old : Below w.heap.size w wr
 own : wr.ownsRow w.heap.size 62 1 v xs.length (nums .u32 xs)
 lim : Lim xs
theorem OutL.start (w : World) {w' : World} (hb : Below w.heap.size w w') : OutL w w' (.slice none 0 0) [] := ⟨hb, own_nil _ _ _ _, by intro x hx; simp at hx⟩
theorem OutL.more {w wr w' : World} {v v' : Value} {xs : List Nat} {x : Nat} (h : OutL w wr v xs) (hx : x < B32) (hb : Below w.heap.size wr w') (ho : w'.ownsRow w.heap.size 62 1 v' (xs.length + 1) (nums .u32 xs ++ [.int .u32 (x : Int)])) : OutL w w' v' (xs ++ [x]) := by
 refine ⟨h.old.trans hb, ?_, ?_⟩
 · rw [nums_app] at ho
   rw [List.length_append]
   exact ho
 · intro y hy
   rcases List.mem_append.1 hy with hy | hy
   · exact h.lim y hy
   · rw [List.mem_singleton.1 hy]; exact hx
theorem OutL.keep {w wr w' : World} {v : Value} {xs : List Nat} (h : OutL w wr v xs) (hb : Below wr.heap.size wr w') : OutL w w' v xs := ⟨bel_trans h.old hb, own_below h.own hb, h.lim⟩

theorem lval_drop (xs : List Nat) (k : Nat) : lval (xs.drop k) = xs.getD k 0 + B32 * lval (xs.drop (k + 1)) := by
 by_cases h : k < xs.length
 · rw [List.drop_eq_getElem_cons h, List.getD_eq_getElem?_getD, List.getElem?_eq_getElem h]
   rfl
 · rw [List.drop_of_length_le (by omega), List.drop_of_length_le (by omega), List.getD_eq_getElem?_getD, List.getElem?_eq_none (by omega)]
   rfl
theorem lval_snoc (xs : List Nat) (x : Nat) : lval (xs ++ [x]) = lval xs + B32 ^ xs.length * x := val_snoc _ _ _
theorem carry_step (P s r : Nat) : P * (s % B32) + P * B32 * (s / B32 + r) = P * (s + B32 * r) := by
 have h := Nat.mod_add_div s B32
 rw [Nat.mul_assoc, ← Nat.mul_add, Nat.mul_add B32, ← Nat.add_assoc, h]

structure AddRel (w wr : World) (xs ys : List Nat) (v : Value) (k c : Nat) (out : List Nat) : Prop where
 row : OutL w wr v out
 len : out.length = k
 carry : c ≤ 1
 sum : lval out + B32 ^ k * (c + (lval (xs.drop k) + lval (ys.drop k))) = lval xs + lval ys

theorem AddRel.step {w wr w' : World} {xs ys out : List Nat} {v v' : Value} {k c x y : Nat} (h : AddRel w wr xs ys v k c out) (hx : x = xs.getD k 0) (hy : y = ys.getD k 0) (h1 : x < B32) (h2 : y < B32)
 (ho : OutL w w' v' (out ++ [(c + (x + y)) % B32])) : AddRel w w' xs ys v' (k + 1) ((c + (x + y)) / B32) (out ++ [(c + (x + y)) % B32]) := by
 refine ⟨ho, by rw [List.length_append, h.len]; rfl, ?_, ?_⟩
 · have := h.carry
   have e := B32_eq
   rw [e] at h1 h2 ⊢
   omega
 · rw [lval_snoc, h.len, Nat.add_assoc, Nat.pow_succ, carry_step, ← h.sum, lval_drop xs k, lval_drop ys k, ← hx, ← hy, Nat.mul_add B32]
   congr 2
   omega

theorem lval_le_pow {xs : List Nat} (hx : Lim xs) {m : Nat} (h : xs.length ≤ m) : lval xs < B32 ^ m := Nat.lt_of_lt_of_le (lval_lt hx) (Nat.pow_le_pow_right (by decide) h)
theorem AddRel.done {w wr : World} {xs ys out : List Nat} {v : Value} {k c m : Nat} (h : AddRel w wr xs ys v k c out) (hx : Lim xs) (hy : Lim ys) (h1 : xs.length ≤ m) (h2 : ys.length ≤ m) (hk : k = m + 1) : lval out = lval xs + lval ys := by
 subst hk
 have hs := h.sum
 rw [List.drop_of_length_le (by omega), List.drop_of_length_le (by omega)] at hs
 have hz : lval [] = 0 := rfl
 simp only [hz, Nat.add_zero] at hs
 have e1 := lval_le_pow hx h1
 have e2 := lval_le_pow hy h2
 rw [Nat.pow_succ] at hs
 generalize B32 ^ m = P at hs e1 e2
 have h3 : P * B32 * c = B32 * (P * c) := by rw [Nat.mul_comm P, Nat.mul_assoc]
 have hc : c = 0 := by
  rcases Nat.eq_zero_or_pos c with h0 | h0
  · exact h0
  · have h4 : P * 1 ≤ P * c := Nat.mul_le_mul_left _ h0
    rw [Nat.mul_one] at h4
    have h5 : 2 * (P * c) ≤ B32 * (P * c) := Nat.mul_le_mul_right _ B32_two
    omega
 rw [hc, Nat.mul_zero, Nat.add_zero] at hs
 exact hs

theorem add_right (A A' : Option Addr) (cap cap' : Nat) (xs ys : List Nat) (w : World) (h : RdL w A xs) (h' : RdL w A' ys) (hx : Lim xs) (hy : Lim ys) (hr : rightL xs = true) (hr' : rightL ys = true) (hl : xs.length ≤ 16) (hl' : ys.length ≤ 16) :
 Calls Tryz.prog 151 #[.slice A xs.length cap, .slice A' ys.length cap'] w (RetNE (fitN (lval xs + lval ys)) (fitC (lval xs + lval ys)) w) := by
 have H := Lib.hid h; clear h
 have H' := Lib.hid h'; clear h'
 have HX := Lib.hid hx; clear hx
 have HY := Lib.hid hy; clear hy
 obtain ⟨m, hm⟩ : ∃ m, m = max xs.length ys.length := ⟨_, rfl⟩
 have hmax : ∀ W, (Builtin.max_ #[3, 3] 3 #[.int .i64 (xs.length : Int), .int .i64 (ys.length : Int)]).run Tryz.prog W = .ok (.int .i64 (m : Int)) W := fun W => by
  rw [run_max_int2, hm]
  congr 2
  omega
 have hm1 : xs.length ≤ m := by omega
 have hm2 : ys.length ≤ m := by omega
 have hm3 : m ≤ 16 := by omega
 have HM := Lib.hid hm; clear hm
 go_enter Tryz.func151, Tryz.ntmps151
 go_wp2_with fail
 refine (both_any A A' cap cap' xs ys _ H.out H'.out (by omega) (by omega)).mono ?_
 rintro e w1 ⟨rfl, n, rfl⟩
 rw [hr, hr']
 have HR := Lib.hid hr; clear hr
 have HR' := Lib.hid hr'; clear hr'
 go_wp2
 go_loopw [6, 7, 8, 19] (fun v cv _ i wr => ∃ (k c : Nat) (out : List Nat), i = .int .i64 (k : Int) ∧ cv = .int .u64 (c : Int) ∧ k ≤ m + 1 ∧ AddRel w wr xs ys v k c out) (fun _ _ _ i _ => m + 1 - (intOf i).toNat)
 case atStart => exact ⟨0, 0, [], rfl, rfl, by omega, OutL.start w (bel_drewN (bel_refl _) _), rfl, by omega, by simp [lval, val]⟩
 case round =>
  obtain ⟨k, c, out, rfl, rfl, hk, hrel⟩ := hrel
  have HA := Lib.hid hrel; clear hrel
  by_cases hlt : k < m + 1
  · have hlt' : (k : Int) < (m : Int) + 1 := by omega
    obtain ⟨x, hx⟩ : ∃ x, x = xs.getD k 0 := ⟨_, rfl⟩
    obtain ⟨y, hy⟩ : ∃ y, y = ys.getD k 0 := ⟨_, rfl⟩
    have hx1 := HX.out.get k
    have hy1 := HY.out.get k
    rw [← hx] at hx1
    rw [← hy] at hy1
    have Ex := Lib.hid hx; clear hx
    have Ey := Lib.hid hy; clear hy
    have hc1 := HA.out.carry
    obtain ⟨s, hs⟩ : ∃ s, s = x + y := ⟨_, rfl⟩
    obtain ⟨t, ht⟩ : ∃ t, t = c + s := ⟨_, rfl⟩
    have s1 : IntKind.u64.wrap ((x : Int) + (y : Int)) = (s : Int) := by rw [IntKind.wrap_u64]; omega
    have s2 : IntKind.u64.wrap ((c : Int) + (s : Int)) = (t : Int) := by rw [IntKind.wrap_u64]; omega
    obtain ⟨l, hl3⟩ : ∃ l, l = t % B32 := ⟨_, rfl⟩
    obtain ⟨c', hc'⟩ : ∃ c', c' = t / B32 := ⟨_, rfl⟩
    have s3 : IntKind.u32.wrap (t : Int) = (l : Int) := by rw [IntKind.wrap_u32', hl3, B32_eq]; omega
    have s4 : (t : Int) / 4294967296 = (c' : Int) := by rw [hc', B32_eq]; omega
    have hk16 : out.length ≤ 17 := by have := HA.out.len; omega
    have HS := Lib.hid (And.intro hs (And.intro ht (And.intro hl3 (And.intro hc' (And.intro hx1 hy1))))); clear hs ht hl3 hc' hx1 hy1 hc1
    have RX := Lib.hid (H.out.below HA.out.row.old)
    have RY := Lib.hid (H'.out.below HA.out.row.old)
    go_wp2_with first
     | (go_at_call 161; (with_reducible refine (at_any A cap xs k _ RX.out HX.out).mono ?_); rintro e w' ⟨rfl, n1, rfl⟩; rw [← Ex.out])
     | (go_at_call 161; (with_reducible refine (at_any A' cap' ys k _ (RY.out.drewN _) HY.out).mono ?_); rintro e w' ⟨rfl, n1, rfl⟩; rw [← Ey.out])
     | (at_builtin; refine wpList_push _ rfl _ _ 23 rfl w.heap.size 62 (.int .u32 0) 4 (by kernel_rfl) info_u32 rfl _ out.length (nums .u32 out) rfl (.int .u32 (l : Int)) rfl rfl (own_below HA.out.row.own (bel_drewN (bel_refl _) _)) (by unfold maxLen; omega) (by omega) HA.out.row.old.size ?_; intro v' w2 hown hbel; have HO := Lib.hid (And.intro hown hbel); clear hown hbel)
    go_roundw
    case rel =>
     refine ⟨k + 1, c', out ++ [l], by go_num, rfl, by omega, ?_⟩
     obtain ⟨es, et, el, ec, hx1, hy1⟩ := HS.out
     subst es et el ec
     exact HA.out.step Ex.out Ey.out hx1 hy1 (HA.out.row.more (Nat.mod_lt _ (by decide)) ((bel_drewN (Below.refl _ _) _).trans HO.out.2) HO.out.1)
    case measure => simp [intOf]; omega
  · have hkm : k = m + 1 := by omega
    have hdone := Lib.hid (HA.out.done HX.out HY.out hm1 hm2 hkm)
    obtain ⟨A9, c9, hv, hc9, hm9, hr9⟩ := own_rdL HA.out.row.own rfl
    subst hv
    have R9 := Lib.hid hr9; clear hr9
    have hlo : out.length ≤ 17 := by have := HA.out.len; omega
    go_wp2_with fail
    refine (fits_any A9 c9 out _ R9.out HA.out.row.lim hc9 (by omega)).mono ?_
    rintro e w2 ⟨v2, rfl, hn2, hb2⟩
    have HN2 := Lib.hid hn2; clear hn2
    have HB2 := Lib.hid hb2; clear hb2
    go_wp2
    go_ret2
    rw [← hdone.out]
    exact ⟨_, rfl, HN2.out, bel_trans HA.out.row.old HB2.out⟩

end
end Go.Proofs.YtmbbdjpnecjleaaGreat
namespace Go.Proofs.YtmbbdjpnecjleaaGreat
section
set_option maxRecDepth 100000
set_option maxHeartbeats 1000000
open Go.RowKit

theorem lval_take_succ' (xs : List Nat) (k : Nat) : lval (xs.take (k + 1)) = lval (xs.take k) + B32 ^ k * xs.getD k 0 := by
 by_cases h : k < xs.length
 · exact lval_take_succ h
 · rw [List.take_of_length_le (by omega), List.take_of_length_le (by omega), List.getD_eq_getElem?_getD, List.getElem?_eq_none (by omega)]
   simp

structure SubRel (w wr : World) (xs ys : List Nat) (v : Value) (k c : Nat) (out : List Nat) : Prop where
 row : OutL w wr v out
 len : out.length = k
 carry : c ≤ 1
 sum : lval (xs.take k) + B32 ^ k * c = lval out + lval (ys.take k)

theorem sub_alg (P x c B c' l y A O Y : Nat) (h : A + P * c = O + Y) (h2 : x + B * c' = l + (y + c)) : (A + P * x) + P * B * c' = (O + P * l) + (Y + P * y) := by
 have h3 : P * (x + B * c') = P * (l + (y + c)) := by rw [h2]
 simp only [Nat.mul_add] at h3
 rw [Nat.mul_assoc]
 omega
theorem SubRel.step {w wr w' : World} {xs ys out : List Nat} {v v' : Value} {k c x y l c' : Nat} (h : SubRel w wr xs ys v k c out) (hx : x = xs.getD k 0) (hy : y = ys.getD k 0)
 (hc' : c' ≤ 1) (he : x + B32 * c' = l + (y + c)) (ho : OutL w w' v' (out ++ [l])) : SubRel w w' xs ys v' (k + 1) c' (out ++ [l]) := by
 refine ⟨ho, by rw [List.length_append, h.len]; rfl, hc', ?_⟩
 rw [lval_snoc, h.len, Nat.pow_succ, lval_take_succ', lval_take_succ', ← hx, ← hy]
 exact sub_alg _ _ _ _ _ _ _ _ _ _ h.sum he
theorem SubRel.done {w wr : World} {xs ys out : List Nat} {v : Value} {k c : Nat} (h : SubRel w wr xs ys v k c out) (hk : k = xs.length) (hy : ys.length ≤ xs.length) (hle : lval ys ≤ lval xs) : lval out = lval xs - lval ys := by
 have hs := h.sum
 rw [List.take_of_length_le (by omega), List.take_of_length_le (by omega)] at hs
 have h1 := lval_lt h.row.lim
 rw [h.len] at h1
 have hc := h.carry
 generalize B32 ^ k = P at hs h1
 have : c = 0 ∨ c = 1 := by omega
 rcases this with rfl | rfl
 · omega
 · omega

theorem trim_N (A : Option Addr) (cap : Nat) (xs : List Nat) (w : World) (h : RdL w A xs) (hx : Lim xs) (hcap : xs.length ≤ cap) (hl : xs.length ≤ 4611686018427387900) : Calls Tryz.prog 131 #[.slice A xs.length cap] w (RetN (lval xs) w) :=
 (trim_any A cap xs w h hx hcap hl).mono fun _ _ hh => hh.rdN h hcap
def RetF (B n : Nat) (w : World) (e : Ending) (w' : World) : Prop := ∃ v, e = .returned v ∧ RdN w' v n ∧ FreshV B v ∧ Below w.heap.size w w'
theorem trim_F (B : Nat) (A : Option Addr) (cap : Nat) (xs : List Nat) (w : World) (h : RdL w A xs) (hx : Lim xs) (hcap : xs.length ≤ cap) (hl : xs.length ≤ 4611686018427387900) (hA : ∀ a, A = some a → B ≤ a.block) : Calls Tryz.prog 131 #[.slice A xs.length cap] w (RetF B (lval xs) w) :=
 (trim_any A cap xs w h hx hcap hl).mono fun _ _ hh => by
  obtain ⟨v, e, hn, hb⟩ := hh.rdN h hcap
  obtain ⟨e', _, _⟩ := hh
  rw [e'] at e
  injection e with e
  refine ⟨v, by rw [e', e], hn, fun a n c hv => ?_, hb⟩
  rw [← e] at hv
  injection hv with hv
  exact hA a hv
theorem at_is (A : Option Addr) (cap : Nat) (xs : List Nat) (i x : Nat) (w : World) (h : RdL w A xs) (hx : Lim xs) (he : x = xs.getD i 0) : Calls Tryz.prog 161 #[.slice A xs.length cap, .int .i64 i] w (RetUD (x : Int) w) := by
 rw [he]; exact at_any A cap xs i w h hx
theorem sub_any (A A' : Option Addr) (cap cap' : Nat) (xs ys : List Nat) (w : World) (h : RdL w A xs) (h' : RdL w A' ys) (hx : Lim xs) (hy : Lim ys) (hl : xs.length ≤ 18) (hl' : ys.length ≤ xs.length) (hle : lval ys ≤ lval xs) :
 Calls Tryz.prog 150 #[.slice A xs.length cap, .slice A' ys.length cap'] w (RetF w.heap.size (lval xs - lval ys) w) := by
 have H := Lib.hid h; clear h
 have H' := Lib.hid h'; clear h'
 have HX := Lib.hid hx; clear hx
 have HY := Lib.hid hy; clear hy
 have HLE := Lib.hid hle; clear hle
 go_enter Tryz.func150, Tryz.ntmps150
 go_wp2
 go_loopw [5, 6, 7, 8, 11] (fun v cv _ _ i wr => ∃ (k c : Nat) (out : List Nat), i = .int .i64 (k : Int) ∧ cv = .int .u64 (c : Int) ∧ k ≤ xs.length ∧ SubRel w wr xs ys v k c out) (fun _ _ _ _ i _ => xs.length - (intOf i).toNat)
 case atStart => exact ⟨0, 0, [], rfl, rfl, by omega, OutL.start w (bel_refl _), rfl, by omega, by simp [lval, val]⟩
 case round =>
  obtain ⟨k, c, out, rfl, rfl, hk, hrel⟩ := hrel
  have HA := Lib.hid hrel; clear hrel
  by_cases hlt : k < xs.length
  · have hlt' : (k : Int) < (xs.length : Int) := by omega
    have RX := Lib.hid (H.out.below HA.out.row.old)
    have RY := Lib.hid (H'.out.below HA.out.row.old)
    obtain ⟨g, off, rfl, hg, hcell⟩ := RX.out.at_ hlt
    obtain ⟨x, hx⟩ : ∃ x, x = xs.getD k 0 := ⟨_, rfl⟩
    obtain ⟨y, hy⟩ : ∃ y, y = ys.getD k 0 := ⟨_, rfl⟩
    have hx1 := HX.out.get k
    have hy1 := HY.out.get k
    rw [← hx] at hx1 hcell
    rw [← hy] at hy1
    have Ex := Lib.hid hx; clear hx
    have Ey := Lib.hid hy; clear hy
    have hc1 := HA.out.carry
    obtain ⟨p, hp⟩ : ∃ p : Nat, (p : Int) = ((x : Int) - (y : Int)) % 18446744073709551616 := ⟨(((x : Int) - (y : Int)) % 18446744073709551616).toNat, by omega⟩
    obtain ⟨q, hq⟩ : ∃ q : Nat, (q : Int) = ((p : Int) - (c : Int)) % 18446744073709551616 := ⟨(((p : Int) - (c : Int)) % 18446744073709551616).toNat, by omega⟩
    obtain ⟨l, hl3⟩ : ∃ l, l = q % 4294967296 := ⟨_, rfl⟩
    obtain ⟨c', hc'⟩ : ∃ c', c' = q / 9223372036854775808 := ⟨_, rfl⟩
    have sx : IntKind.u64.wrap (x : Int) = (x : Int) := by rw [IntKind.wrap_u64]; omega
    have s1 : IntKind.u64.wrap ((x : Int) - (y : Int)) = (p : Int) := by rw [IntKind.wrap_u64, hp]
    have s2 : IntKind.u64.wrap ((p : Int) - (c : Int)) = (q : Int) := by rw [IntKind.wrap_u64, hq]
    have s3 : IntKind.u32.wrap (q : Int) = (l : Int) := by rw [IntKind.wrap_u32', hl3]; omega
    have s4 : (q : Int) / 9223372036854775808 = (c' : Int) := by rw [hc']; omega
    have he : x + B32 * c' = l + (y + c) := by rw [B32_eq]; omega
    have hcc : c' ≤ 1 := by omega
    have hlb : l < B32 := by rw [B32_eq]; omega
    have hk16 : out.length ≤ 18 := by have := HA.out.len; omega
    have HS := Lib.hid (And.intro he (And.intro hcc hlb)); clear he hcc hlb hp hq hl3 hc' hx1 hy1 hc1
    go_wp2
    go_quiet (first | (go_at_call 161; exact Calls.quiet_of (at_is A' cap' ys k y _ (RY.out.drewN _) HY.out Ey.out)))
    go_wp2_with (at_builtin; refine wpList_push _ rfl _ _ 23 rfl w.heap.size 62 (.int .u32 0) 4 (by kernel_rfl) info_u32 rfl _ out.length (nums .u32 out) rfl (.int .u32 (l : Int)) rfl rfl (own_below HA.out.row.own (bel_drewN (bel_refl _) _)) (by unfold maxLen; omega) (by omega) HA.out.row.old.size ?_; intro v' w2 hown hbel; have HO := Lib.hid (And.intro hown hbel); clear hown hbel)
    go_roundw
    case rel =>
     obtain ⟨he, hcc, hlb⟩ := HS.out
     exact ⟨k + 1, c', out ++ [l], by go_num, rfl, by omega, HA.out.step Ex.out Ey.out hcc he (HA.out.row.more hlb ((bel_drewN (Below.refl _ _) _).trans HO.out.2) HO.out.1)⟩
    case measure => simp [intOf]; omega
  · have hkm : k = xs.length := by omega
    have hdone := Lib.hid (HA.out.done hkm hl' HLE.out)
    obtain ⟨A9, c9, hv, hc9, hm9, hr9, hf9⟩ := own_rdF HA.out.row.own rfl
    subst hv
    have R9 := Lib.hid hr9; clear hr9
    have F9 := Lib.hid hf9; clear hf9
    have hlo : out.length ≤ 18 := by have := HA.out.len; omega
    go_wp2_with fail
    refine (trim_F w.heap.size A9 c9 out _ R9.out HA.out.row.lim hc9 (by omega) F9.out).mono ?_
    rintro e w2 ⟨v2, rfl, hn2, hf2, hb2⟩
    have HF2 := Lib.hid hf2; clear hf2
    have HN2 := Lib.hid hn2; clear hn2
    have HB2 := Lib.hid hb2; clear hb2
    go_wp2
    go_ret
    rw [← hdone.out]
    exact ⟨_, rfl, HN2.out, HF2.out, bel_trans HA.out.row.old HB2.out⟩

theorem limbs_le_len {a b : Nat} (h : a ≤ b) : (limbs a).length ≤ (limbs b).length := by
 by_cases h' : (limbs b).length < (limbs a).length
 · have := limbs_less h'; omega
 · omega

def subC (a b : Nat) : Int := if a < b then 3 else 0

theorem sub_right (A A' : Option Addr) (cap cap' : Nat) (xs ys : List Nat) (w : World) (h : RdL w A xs) (h' : RdL w A' ys) (hx : Lim xs) (hy : Lim ys) (hr : rightL xs = true) (hr' : rightL ys = true) (hl : xs.length ≤ 16) (hl' : ys.length ≤ 16) :
 Calls Tryz.prog 152 #[.slice A xs.length cap, .slice A' ys.length cap'] w (RetNE (lval xs - lval ys) (subC (lval xs) (lval ys)) w) := by
 have H := Lib.hid h; clear h
 have H' := Lib.hid h'; clear h'
 have HX := Lib.hid hx; clear hx
 have HY := Lib.hid hy; clear hy
 have ea := Lib.hid ((rightL_iff HX.out).1 hr).1
 have eb := Lib.hid ((rightL_iff HY.out).1 hr').1
 go_enter Tryz.func152, Tryz.ntmps152
 go_wp2_with fail
 refine (both_any A A' cap cap' xs ys _ H.out H'.out (by omega) (by omega)).mono ?_
 rintro e w1 ⟨rfl, n, rfl⟩
 rw [hr, hr']
 have HR := Lib.hid hr; clear hr
 have HR' := Lib.hid hr'; clear hr'
 go_wp2_with fail
 have hc := compare_any A A' cap cap' (lval xs) (lval ys) (w.drewN n) (by rw [ea.out]; exact H.out.drewN n) (by rw [eb.out]; exact H'.out.drewN n) (by rw [ea.out]; omega)
 rw [ea.out, eb.out] at hc
 refine hc.mono ?_
 rintro e w1 ⟨rfl, m, rfl⟩
 clear hc
 by_cases hlt : lval xs < lval ys
 · rw [cmpI_lt (by omega)]
   go_wp2
   go_ret2
   unfold subC
   rw [if_pos hlt, show lval xs - lval ys = 0 by omega]
   exact ⟨_, rfl, RdN.zero, bel_drewN (bel_refl _) _⟩
 · have hge : decide (cmpI (lval xs : Int) (lval ys : Int) < 0) = false := decide_eq_false (by
    unfold cmpI
    rw [if_neg (by omega)]
    split <;> omega)
   have hge' : ¬ cmpI (lval xs : Int) (lval ys : Int) < 0 := of_decide_eq_false hge
   have hlen : ys.length ≤ xs.length := by
    have := limbs_le_len (a := lval ys) (b := lval xs) (by omega)
    rwa [ea.out, eb.out] at this
   have HLT := Lib.hid hlt; clear hlt
   go_wp2_with fail
   refine (sub_any A A' cap cap' xs ys _ (H.out.drewN _) (H'.out.drewN _) HX.out HY.out (by omega) hlen (Nat.le_of_not_lt HLT.out)).mono ?_
   rintro e w2 ⟨v2, rfl, hn2, _, hb2⟩
   have HN2 := Lib.hid hn2; clear hn2
   have HB2 := Lib.hid hb2; clear hb2
   go_wp2
   go_ret2
   unfold subC
   rw [if_neg HLT.out]
   exact ⟨_, rfl, HN2.out, bel_trans (bel_drewN (bel_refl _) _) HB2.out⟩

end
end Go.Proofs.YtmbbdjpnecjleaaGreat
