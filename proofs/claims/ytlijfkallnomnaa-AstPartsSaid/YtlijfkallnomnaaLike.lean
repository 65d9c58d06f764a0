/-
  ast.Like, with slices.EqualFunc and its closure.
-/
import Derived.Test.YtlijfkallnomnaaNode
namespace Go.Proofs.Ytlijfkallnomnaa
open Go.RowKit

def RetB3 (b : Bool) (w : World) (e : Ending) (w' : World) : Prop := e = .returned (.bool b) ∧ Below w.heap.size w w'

def likeNd (x y : Nd) : Bool := x.kind == y.kind && (x.text.toList == y.text.toList && x.kids == y.kids)
def likeL : List Nd → List Nd → Bool
  | [], [] => true
  | x :: r, y :: s => likeNd x y && likeL r s
  | _, _ => false
theorem likeL_drop {L M : List Nd} {k : Nat} (h : k < L.length) (h' : k < M.length) : likeL (L.drop k) (M.drop k) = (likeNd (L.getD k default) (M.getD k default) && likeL (L.drop (k + 1)) (M.drop (k + 1))) := by
  rw [List.drop_eq_getElem_cons h, List.drop_eq_getElem_cons h', List.getD_eq_getElem?_getD, List.getElem?_eq_getElem h, List.getD_eq_getElem?_getD, List.getElem?_eq_getElem h']
  rfl
theorem likeL_len {L M : List Nd} : likeL L M = true → L.length = M.length := by
  induction L generalizing M with
  | nil => intro h; cases M with
    | nil => rfl
    | cons y s => simp [likeL] at h
  | cons x r ih => intro h; cases M with
    | nil => simp [likeL] at h
    | cons y s => simp only [likeL, Bool.and_eq_true] at h; simp [ih h.2]

set_option maxHeartbeats 400000 in
theorem likeNd_any (k0 k1 p0 p1 : Int) (t0 t1 : ByteArray) (a0 a1 : Option Addr) (c0 c1 : Nat) (s0 s1 : List Int) (w : World) (h0 : RdI w a0 .i64 s0) (h1 : RdI w a1 .i64 s1) (hl : s0.length ≤ 140737488355328) :
    Calls Try.prog 21 #[.agg #[.int .i64 k0, .string t0, .slice a0 s0.length c0, .int .i64 p0], .agg #[.int .i64 k1, .string t1, .slice a1 s1.length c1, .int .i64 p1]] w
      (RetB3 (likeNd ⟨k0, t0, a0, c0, s0, p0⟩ ⟨k1, t1, a1, c1, s1, p1⟩) w) := by
  have H0 := Lib.hid (h0.below (((Below.refl _ _).alloc (Nat.le_refl _) (.cells #[.int .i64 k0, .string t0, .slice a0 s0.length c0, .int .i64 p0] 37)).alloc (by simp) (.cells #[.int .i64 k1, .string t1, .slice a1 s1.length c1, .int .i64 p1] 37)))
  have H1 := Lib.hid (h1.below (((Below.refl _ _).alloc (Nat.le_refl _) (.cells #[.int .i64 k0, .string t0, .slice a0 s0.length c0, .int .i64 p0] 37)).alloc (by simp) (.cells #[.int .i64 k1, .string t1, .slice a1 s1.length c1, .int .i64 p1] 37)))
  clear h0 h1
  cases e0 : (k0 == k1)
  · have HE : Hid (likeNd ⟨k0, t0, a0, c0, s0, p0⟩ ⟨k1, t1, a1, c1, s1, p1⟩ = false) := by show likeNd _ _ = _; simp [likeNd, e0]
    go_enter Try.func21, Try.ntmps21
    go_wp2
    go_ret
    exact ⟨ret_bool HE.out.symm, ((Below.refl _ _).alloc (Nat.le_refl _) _).alloc (by simp) _⟩
  · cases e1 : (t0.toList == t1.toList)
    · have HE : Hid (likeNd ⟨k0, t0, a0, c0, s0, p0⟩ ⟨k1, t1, a1, c1, s1, p1⟩ = false) := by show likeNd _ _ = _; simp [likeNd, e1]
      have e2 : ¬ t0.toList = t1.toList := by simpa using e1
      go_enter Try.func21, Try.ntmps21
      go_wp2
      go_ret
      exact ⟨ret_bool HE.out.symm, ((Below.refl _ _).alloc (Nat.le_refl _) _).alloc (by simp) _⟩
    · have HE : Hid (likeNd ⟨k0, t0, a0, c0, s0, p0⟩ ⟨k1, t1, a1, c1, s1, p1⟩ = (s0 == s1)) := by show likeNd _ _ = _; simp [likeNd, e0, e1]
      have e2 : t0.toList = t1.toList := by simpa using e1
      go_enter Try.func21, Try.ntmps21
      go_wp2_with (go_at_call 22; (with_reducible refine (equal_any _ _ _ _ s0 s1 _ (by omega) ?_ ?_).mono ?_); exact H0.out; exact H1.out; rintro e w' ⟨rfl, n, rfl⟩)
      go_ret
      exact ⟨ret_bool HE.out.symm, bel_drewN (((Below.refl _ _).alloc (Nat.le_refl _) _).alloc (by simp) _) n⟩

set_option maxHeartbeats 400000 in
theorem equalFunc_any (A A' : Option Addr) (cap cap' : Nat) (L M : List Nd) (w : World) (h : NdsR w A L) (h' : NdsR w A' M) :
    Calls Try.prog 20 #[.slice A L.length cap, .slice A' M.length cap', .func (.func 21) #[] #[]] w (RetB3 (likeL L M) w) := by
  have hl := h.len
  have H := Lib.hid h; clear h
  have H' := Lib.hid h'; clear h'
  by_cases hlen : L.length = M.length
  · have HL := Lib.hid hlen; clear hlen
    have g1 : ((L.length : Int) != (M.length : Int)) = false := by rw [HL.out]; simp
    go_enter Try.func20, Try.ntmps20
    go_wp2
    go_loopw [17] (fun i wr => ∃ k : Nat, k ≤ L.length ∧ i = .int .i64 k ∧ likeL L M = likeL (L.drop k) (M.drop k) ∧ Below w.heap.size w wr) (fun i _ => L.length - (intOf i).toNat)
    case atStart => exact ⟨0, Nat.zero_le _, rfl, rfl, Below.refl _ _⟩
    case round =>
      obtain ⟨k, hk, rfl, hx, hb⟩ := hrel
      have Hx := Lib.hid hx; clear hx
      have HB := Lib.hid hb; clear hb
      by_cases hlt : k < L.length
      · have hlt' : k < M.length := by rw [← HL.out]; exact hlt
        obtain ⟨b, off, kd, tx, ka, kc, ks, pl, rfl, hnd, hb, c0, c1, c2, c3, hkids, hkl, hkc⟩ := H.out.node HB.out hlt
        obtain ⟨b', off', kd', tx', ka', kc', ks', pl', rfl, hnd', hb', c0', c1', c2', c3', hkids', hkl', hkc'⟩ := H'.out.node HB.out hlt'
        have HN := Lib.hid hnd; clear hnd
        have HN' := Lib.hid hnd'; clear hnd'
        have HK := Lib.hid (hkids.below ((HB.out.alloc HB.out.size (.cells #[.int .i64 kd, .string tx, .slice ka ks.length kc, .int .i64 pl] 37)).alloc (by have := HB.out.size; simp; omega) (.cells #[.int .i64 kd', .string tx', .slice ka' ks'.length kc', .int .i64 pl'] 37)))
        have HK' := Lib.hid (hkids'.below ((HB.out.alloc HB.out.size (.cells #[.int .i64 kd, .string tx, .slice ka ks.length kc, .int .i64 pl] 37)).alloc (by have := HB.out.size; simp; omega) (.cells #[.int .i64 kd', .string tx', .slice ka' ks'.length kc', .int .i64 pl'] 37)))
        clear hkids hkids'
        have HE : Hid (likeL L M = (likeNd ⟨kd, tx, ka, kc, ks, pl⟩ ⟨kd', tx', ka', kc', ks', pl'⟩ && likeL (L.drop (k + 1)) (M.drop (k + 1)))) := by
          show likeL L M = _
          rw [Hx.out, likeL_drop hlt hlt', HN.out, HN'.out]
        cases hr : likeNd ⟨kd, tx, ka, kc, ks, pl⟩ ⟨kd', tx', ka', kc', ks', pl'⟩
        all_goals
          have HR := Lib.hid hr; clear hr
          go_wp2_with (go_at_call 21; (with_reducible refine (likeNd_any kd kd' pl pl' tx tx' ka ka' kc kc' ks ks' _ ?_ ?_ ?_).mono ?_); exact HK.out; exact HK'.out; omega; rintro e w' ⟨rfl, hb2⟩; rw [HR.out])
        · go_ret
          exact ⟨ret_bool (by rw [HE.out, HR.out]; rfl), bel_trans (bel_alloc (bel_alloc HB.out _) _) hb2⟩
        · go_roundw
          case rel => exact ⟨k + 1, by omega, by go_num, by rw [HE.out, HR.out]; rfl, bel_trans (bel_alloc (bel_alloc HB.out _) _) hb2⟩
          case measure => simp [intOf]; omega
      · go_wp2
        go_ret
        exact ⟨ret_bool (by rw [Hx.out, List.drop_of_length_le (by omega), List.drop_of_length_le (by rw [← HL.out]; omega)]; rfl), HB.out⟩
  · have g1 : ((L.length : Int) != (M.length : Int)) = true := by simp; omega
    have HE : Hid (likeL L M = false) := by
      show likeL L M = false
      cases hc : likeL L M
      · rfl
      · exact absurd (likeL_len hc) hlen
    clear hlen
    go_enter Try.func20, Try.ntmps20
    go_wp2
    go_ret
    exact ⟨ret_bool HE.out.symm, Below.refl _ _⟩

set_option maxHeartbeats 400000 in
theorem like_any (A A' : Option Addr) (cap cap' : Nat) (L M : List Nd) (w : World) (h : NdsR w A L) (h' : NdsR w A' M) :
    Calls Try.prog 10 #[.slice A L.length cap, .slice A' M.length cap'] w (RetB3 (likeL L M) w) := by
  have H := Lib.hid h; clear h
  have H' := Lib.hid h'; clear h'
  go_enter Try.func10, Try.ntmps10
  go_wp2_with (go_at_call 20; (with_reducible refine (equalFunc_any _ _ _ _ L M _ ?_ ?_).mono ?_); exact H.out; exact H'.out; rintro e w' ⟨rfl, hb2⟩)
  go_ret
  exact ⟨rfl, hb2⟩
end Go.Proofs.Ytlijfkallnomnaa
