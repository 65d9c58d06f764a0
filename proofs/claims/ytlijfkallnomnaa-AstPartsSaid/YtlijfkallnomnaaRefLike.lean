/-
  The reference's Like and Same.
-/
import Derived.Test.YtlijfkallnomnaaLike
namespace Go.Proofs.Ytlijfkallnomnaa
open Go.RowKit

theorem drop_cons_getD {l : List Int} {k : Nat} (h : k < l.length) : l.drop k = l.getD k 0 :: l.drop (k + 1) := by
  rw [List.drop_eq_getElem_cons h, List.getD_eq_getElem?_getD, List.getElem?_eq_getElem h]; rfl
theorem drops_eq {s t : List Int} {m : Nat} (h : s.length = t.length) (hm : ¬ m < s.length) : (s.drop m == t.drop m) = true := by
  rw [List.drop_of_length_le (by omega), List.drop_of_length_le (by omega)]; rfl
theorem drops_step {s t : List Int} {m : Nat} (hm : m < s.length) (hm' : m < t.length) : (s.drop m == t.drop m) = (s[m] == t[m] && (s.drop (m + 1) == t.drop (m + 1))) := by
  rw [List.drop_eq_getElem_cons hm, List.drop_eq_getElem_cons hm']; rfl

set_option maxRecDepth 100000 in
set_option maxHeartbeats 1000000 in
theorem refLike_any (A A' : Option Addr) (cap cap' : Nat) (L M : List Nd) (w : World) (h : NdsR w A L) (h' : NdsR w A' M) :
    Calls Try.prog 11 #[.slice A L.length cap, .slice A' M.length cap'] w (RetBD (likeL L M) w) := by
  have hl := h.len
  have H := Lib.hid h; clear h
  have H' := Lib.hid h'; clear h'
  by_cases hlen : L.length = M.length
  · have HL := Lib.hid hlen; clear hlen
    have g1 : ((L.length : Int) != (M.length : Int)) = false := by rw [HL.out]; simp
    go_enter Try.func11, Try.ntmps11
    go_wp2
    go_loopw [14] (fun i wr => ∃ k : Nat, k ≤ L.length ∧ i = .int .i64 k ∧ likeL L M = likeL (L.drop k) (M.drop k) ∧ ∃ n, wr = w.drewN n) (fun i _ => L.length - (intOf i).toNat)
    case atStart => exact ⟨0, Nat.zero_le _, rfl, rfl, 0, rfl⟩
    case round =>
      obtain ⟨k, hk, rfl, hx, n, rfl⟩ := hrel
      have Hx := Lib.hid hx; clear hx
      by_cases hlt : k < L.length
      · have hlt' : k < M.length := by rw [← HL.out]; exact hlt
        obtain ⟨b, off, kd, tx, ka, kc, ks, pl, rfl, hnd, hb, c0, c1, c2, c3, hkids, hkl, hkc⟩ := H.out.node (Below.refl _ _) hlt
        obtain ⟨b', off', kd', tx', ka', kc', ks', pl', rfl, hnd', hb', c0', c1', c2', c3', hkids', hkl', hkc'⟩ := H'.out.node (Below.refl _ _) hlt'
        have HN := Lib.hid hnd; clear hnd
        have HN' := Lib.hid hnd'; clear hnd'
        have HK := Lib.hid hkids
        have HK' := Lib.hid hkids'
        clear hkids hkids'
        have HE : Hid (likeL L M = (likeNd ⟨kd, tx, ka, kc, ks, pl⟩ ⟨kd', tx', ka', kc', ks', pl'⟩ && likeL (L.drop (k + 1)) (M.drop (k + 1)))) := by
          show likeL L M = _
          rw [Hx.out, likeL_drop hlt hlt', HN.out, HN'.out]
        cases e0 : (kd != kd')
        case true =>
          have hf : Hid (likeL L M = false) := by
            show likeL L M = false
            rw [HE.out]
            simp at e0
            simp [likeNd, e0]
          go_wp2
          go_quiet (fail)
          go_wp2
          go_ret
          exact ⟨ret_bool hf.out.symm, _, World.drewN_drewN _ _ _⟩
        case false =>
          cases e1 : (tx.toList == tx'.toList)
          case false =>
            have e3 : ¬ tx.toList = tx'.toList := by simpa using e1
            have hf : Hid (likeL L M = false) := by
              show likeL L M = false
              rw [HE.out]
              simp at e1
              simp [likeNd, e1]
            go_wp2
            go_quiet (fail)
            go_wp2
            go_ret
            exact ⟨ret_bool hf.out.symm, _, World.drewN_drewN _ _ _⟩
          case true =>
            have e3 : tx.toList = tx'.toList := by simpa using e1
            cases e2 : ((ks.length : Int) != (ks'.length : Int))
            case true =>
              have hf : Hid (likeL L M = false) := by
                show likeL L M = false
                rw [HE.out]
                simp at e2
                have : ¬ ks = ks' := fun e => e2 (by rw [e])
                simp [likeNd, this]
              go_wp2
              go_quiet (fail)
              go_wp2
              go_ret
              exact ⟨ret_bool hf.out.symm, _, World.drewN_drewN _ _ _⟩
            case false =>
              have hsl : Hid (ks.length = ks'.length) := by show ks.length = _; simp at e2; omega
              have HE2 : Hid (likeL L M = ((ks == ks') && likeL (L.drop (k + 1)) (M.drop (k + 1)))) := by
                show likeL L M = _
                rw [HE.out]
                simp at e0 e1
                simp [likeNd, e0, e1]
              go_wp2
              go_quiet (fail)
              go_wp2
              go_loopw [62] (fun j wj => ∃ m : Nat, m ≤ ks.length ∧ j = .int .i64 m ∧ (ks == ks') = (ks.drop m == ks'.drop m) ∧ ∃ n', wj = w.drewN n') (fun j _ => ks.length - (intOf j).toNat)
              case atStart => exact ⟨0, Nat.zero_le _, rfl, rfl, _, rfl⟩
              case round =>
                obtain ⟨m, hm, rfl, hy, n', rfl⟩ := hrel
                have Hy := Lib.hid hy; clear hy
                by_cases hmt : m < ks.length
                · have hmt' : m < ks'.length := by rw [← hsl.out]; exact hmt
                  obtain ⟨bb, oo, rfl, hbb, hcell⟩ := HK.out.at_ hmt
                  obtain ⟨bb', oo', rfl, hbb', hcell'⟩ := HK'.out.at_ hmt'
                  go_wp2
                  go_quiet (fail)
                  go_wp2
                  · have hne : (ks[m] != ks'[m]) = true := by assumption
                    go_ret
                    refine ⟨ret_bool ?_, _, World.drewN_drewN _ _ _⟩
                    rw [HE2.out, Hy.out, drops_step hmt hmt']
                    simp at hne
                    simp [hne]
                  · have hne : (ks[m] != ks'[m]) = false := by assumption
                    go_roundw
                    case rel =>
                      refine ⟨m + 1, by omega, by go_num, ?_, _, rfl⟩
                      rw [Hy.out, drops_step hmt hmt']
                      simp at hne
                      simp [hne]
                    case measure => simp [intOf]; omega
                · go_wp2
                  go_roundw
                  case rel =>
                    refine ⟨k + 1, by omega, by go_num, ?_, _, rfl⟩
                    rw [HE2.out, Hy.out, drops_eq hsl.out hmt]
                    rfl
                  case measure => simp [intOf]; omega
      · go_wp2
        go_ret
        exact ⟨ret_bool (by rw [Hx.out, List.drop_of_length_le (by omega), List.drop_of_length_le (by rw [← HL.out]; omega)]; rfl), n, rfl⟩
  · have g1 : ((L.length : Int) != (M.length : Int)) = true := by simp; omega
    have HE : Hid (likeL L M = false) := by
      show likeL L M = false
      cases hc : likeL L M
      · rfl
      · exact absurd (likeL_len hc) hlen
    clear hlen
    go_enter Try.func11, Try.ntmps11
    go_wp2
    go_ret
    exact ⟨ret_bool HE.out.symm, 0, rfl⟩

def atsOk : List Nd → List Nd → Bool
  | x :: r, y :: s => (x.at_ == y.at_) && atsOk r s
  | _, _ => true
theorem atsOk_drop {L M : List Nd} {k : Nat} (h : k < L.length) (h' : k < M.length) : atsOk (L.drop k) (M.drop k) = (((L.getD k default).at_ == (M.getD k default).at_) && atsOk (L.drop (k + 1)) (M.drop (k + 1))) := by
  rw [List.drop_eq_getElem_cons h, List.drop_eq_getElem_cons h', List.getD_eq_getElem?_getD, List.getElem?_eq_getElem h, List.getD_eq_getElem?_getD, List.getElem?_eq_getElem h']
  rfl
theorem atsOk_end {L M : List Nd} {k : Nat} (h : ¬ k < M.length) : atsOk (L.drop k) (M.drop k) = true := by
  rw [List.drop_of_length_le (l := M) (by omega)]
  cases L.drop k <;> rfl
theorem atsOk_end' {L M : List Nd} {k : Nat} (h : ¬ k < L.length) : atsOk (L.drop k) (M.drop k) = true := by
  rw [List.drop_of_length_le (l := L) (by omega)]; rfl

set_option maxRecDepth 100000 in
set_option maxHeartbeats 1000000 in
theorem refSame_any (A A' : Option Addr) (cap cap' : Nat) (L M : List Nd) (w : World) (h : NdsR w A L) (h' : NdsR w A' M) :
    Calls Try.prog 16 #[.slice A L.length cap, .slice A' M.length cap'] w (RetBD (atsOk L M && likeL L M) w) := by
  have hl := h.len
  have hl' := h'.len
  have H := Lib.hid h; clear h
  have H' := Lib.hid h'; clear h'
  go_enter Try.func16, Try.ntmps16
  go_wp2
  go_loopw [8] (fun i wr => ∃ k : Nat, k ≤ L.length ∧ i = .int .i64 k ∧ atsOk L M = atsOk (L.drop k) (M.drop k) ∧ ∃ n, wr = w.drewN n) (fun i _ => L.length - (intOf i).toNat)
  case atStart => exact ⟨0, Nat.zero_le _, rfl, rfl, 0, rfl⟩
  case round =>
    obtain ⟨k, hk, rfl, hx, n, rfl⟩ := hrel
    have Hx := Lib.hid hx; clear hx
    by_cases hlt : k < L.length
    · obtain ⟨b, off, kd, tx, ka, kc, ks, pl, rfl, hnd, hb, c0, c1, c2, c3, hkids, hkl, hkc⟩ := H.out.node (Below.refl _ _) hlt
      have HN := Lib.hid hnd; clear hnd
      clear hkids hkl c0 c1 c2
      by_cases hlt' : k < M.length
      · obtain ⟨b', off', kd', tx', ka', kc', ks', pl', rfl, hnd', hb', c0', c1', c2', c3', hkids', hkl', hkc'⟩ := H'.out.node (Below.refl _ _) hlt'
        have HN' := Lib.hid hnd'; clear hnd'
        clear hkids' hkl' c0' c1' c2'
        have HE : Hid (atsOk L M = ((pl == pl') && atsOk (L.drop (k + 1)) (M.drop (k + 1)))) := by
          show atsOk L M = _
          rw [Hx.out, atsOk_drop hlt hlt', ← HN.out, ← HN'.out]
        have g1 : decide (k < M.length) = true := by simpa using hlt'
        cases e0 : (pl != pl')
        case true =>
          have hf : Hid ((atsOk L M && likeL L M) = false) := by
            show (atsOk L M && likeL L M) = false
            rw [HE.out]
            simp at e0
            simp [e0]
          go_wp2
          go_quiet (fail)
          go_wp2
          go_ret
          exact ⟨ret_bool hf.out.symm, _, World.drewN_drewN _ _ _⟩
        case false =>
          have hf : Hid (atsOk L M = atsOk (L.drop (k + 1)) (M.drop (k + 1))) := by
            show atsOk L M = _
            rw [HE.out]
            simp at e0
            simp [e0]
          go_wp2
          go_quiet (fail)
          go_wp2
          go_roundw
          case rel => exact ⟨k + 1, by omega, by go_num, hf.out, _, rfl⟩
          case measure => simp [intOf]; omega
      · have g1 : decide (k < M.length) = false := by simpa using hlt'
        have hf : Hid (atsOk L M = atsOk (L.drop (k + 1)) (M.drop (k + 1))) := by
          show atsOk L M = _
          rw [Hx.out, atsOk_end hlt', atsOk_end (by omega)]
        go_wp2
        go_quiet (fail)
        go_wp2
        go_roundw
        case rel => exact ⟨k + 1, by omega, by go_num, hf.out, _, rfl⟩
        case measure => simp [intOf]; omega
    · have hf : Hid ((atsOk L M && likeL L M) = likeL L M) := by
        show (atsOk L M && likeL L M) = likeL L M
        rw [Hx.out, atsOk_end' hlt]; rfl
      go_wp2_with (go_at_call 11; (with_reducible refine (refLike_any _ _ _ _ L M _ ?_ ?_).mono ?_); exact H.out.below (bel_drewN (bel_refl _) n); exact H'.out.below (bel_drewN (bel_refl _) n); rintro e w' ⟨rfl, n', rfl⟩)
      go_ret
      exact ⟨ret_bool hf.out.symm, draws1 _ _⟩
end Go.Proofs.Ytlijfkallnomnaa
