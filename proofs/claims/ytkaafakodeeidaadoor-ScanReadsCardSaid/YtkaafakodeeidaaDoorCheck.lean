/-
  Spoilt and Check, walked.
-/
import Derived.Test.YtkaafakodeeidaaDoorSpoilt
import Derived.Laws.RangeAny
namespace Go.Proofs.YtkaafakodeeidaaDoor
open Go.RowKit

theorem sp_at {s : ByteArray} {k : Nat} (h : sp s k = sp s 0) (hk : k < s.size) (hb : badAt s k = true) : sp s 0 = k := by rw [← h]; exact sp_bad hk hb

set_option maxRecDepth 100000 in
set_option maxHeartbeats 400000 in
theorem spoilt_any (s : ByteArray) (w : World) (hs : s.size ≤ 4611686018427387900) : Calls Tryd.prog 16 #[.string s] w (RetID (sp s 0) w) := by
  have HS := Lib.hid hs; clear hs
  go_enter Tryd.func16, Tryd.ntmps16
  go_wp2
  go_loopw [3] (fun i wr => ∃ k : Nat, k ≤ s.size ∧ i = .int .i64 k ∧ sp s k = sp s 0 ∧ ∃ n, wr = w.drewN n) (fun i _ => s.size - (intOf i).toNat)
  case atStart => exact ⟨0, Nat.zero_le _, rfl, rfl, 0, rfl⟩
  case round =>
    obtain ⟨k, hk, rfl, hsp, n, rfl⟩ := hrel
    have HP := Lib.hid hsp; clear hsp
    by_cases hlt : k < s.size
    · have hlt' : (k : Int) < (s.size : Int) := by omega
      have hb := bt_get s hlt
      obtain ⟨b, hbt⟩ : ∃ b, b = bt s k := ⟨_, rfl⟩
      rw [← hbt] at hb
      have HB := Lib.hid hbt; clear hbt
      have h4 := size_le4 s k
      have hsd := size_decode s hlt
      have HD := Lib.hid hsd; clear hsd
      have hlast := HS.out
      have hsum : IntKind.i64.wrap ((k : Int) + (sizeAt s k : Int)) = ((k + sizeAt s k : Nat) : Int) := by
        rw [IntKind.wrap_i64]
        omega
      clear hlast
      go_wp2_with (go_at_call 33; (with_reducible refine (size_any s k _ hlt ?_).mono ?_); exact Nat.le_trans HS.out (by decide); rintro e w' ⟨rfl, n', rfl⟩)
      · have hz : sizeAt s k = 0 := by omega
        go_ret
        exact ⟨ret_int (sp_at HP.out hlt (by unfold badAt; simp [hz])).symm, _, rfl⟩
      · have hor : ((sizeAt s k : Int) == 0) = true ∨ ((b : Int) == 0) = true := by assumption
        have hne : ¬ sizeAt s k = 0 := by assumption
        have hz : b = 0 := by simp at hor; omega
        go_ret
        exact ⟨ret_int (sp_at HP.out hlt (by unfold badAt; rw [← HB.out]; simp [hz])).symm, _, rfl⟩
      · have hz : sizeAt s k ≠ 0 := by omega
        have hor : ((sizeAt s k : Int) == 0) = false ∧ ((b : Int) == 0) = false := by assumption
        have hz' : b ≠ 0 := by simp at hor; omega
        have hle : k + sizeAt s k ≤ s.size := by
          rcases HD.out with ⟨h0, _⟩ | ⟨_, _, h0, _⟩
          · exact absurd h0 hz
          · exact h0
        go_roundw
        case rel => exact ⟨k + sizeAt s k, hle, by go_num, by rw [← HP.out, sp_good hlt (by unfold badAt; rw [← HB.out]; simp [hz, hz'])], _, rfl⟩
        case measure => simp [intOf]; omega
    · go_wp2
      go_ret
      refine ⟨ret_int ?_, n, rfl⟩
      rw [← HP.out, sp_end hlt]

def RetIE (i c : Int) (w : World) (e : Ending) (w' : World) : Prop := e = .returned (.tuple #[.int .i64 i, .int .i64 c]) ∧ Below w.heap.size w w'
theorem bel_iter (w : World) (s : ByteArray) (p : Nat) : Below w.heap.size w (w.iter s p) := bel_alloc (bel_refl _) _

/-- What Check says. -/
def checkAt (s : ByteArray) : Int := if 4000 < s.size then 0 else if sp s 0 = -1 then 0 else sp s 0
def checkNo (s : ByteArray) : Int := if 4000 < s.size then 7 else if sp s 0 = -1 then 0 else 12

set_option maxRecDepth 100000 in
set_option maxHeartbeats 400000 in
theorem check_any (s : ByteArray) (w : World) (hs : s.size ≤ 4611686018427387900) : Calls Tryd.prog 12 #[.string s] w (RetIE (checkAt s) (checkNo s) w) := by
  by_cases hl : 4000 < s.size
  · have hl' : (4000 : Int) < (s.size : Int) := by omega
    go_enter Tryd.func12, Tryd.ntmps12
    go_wp2
    go_ret2
    unfold checkAt checkNo
    rw [if_pos hl, if_pos hl]
    exact ⟨rfl, bel_refl _⟩
  · have hl' : (s.size : Int) ≤ 4000 := by omega
    have HL := Lib.hid hl; clear hl hs
    go_enter Tryd.func12, Tryd.ntmps12
    go_wp2
    go_loopw [4] (fun _ wr => ∃ pos : Nat, pos ≤ s.size ∧ sp s pos = sp s 0 ∧ wr = w.iter s pos) (fun _ wr => s.size - wr.iterPos w.heap.size)
    case atStart => exact ⟨0, Nat.zero_le _, rfl, rfl⟩
    case round =>
      obtain ⟨pos, hpos, hsp, rfl⟩ := hrel
      have HP := Lib.hid hsp; clear hsp
      by_cases hp : pos < s.size
      · have hnx : ∀ ty, (Instr.next (.pointer (some ⟨w.heap.size, 0, none⟩)) true ty).run Tryd.prog (w.iter s pos) = _ := fun ty => run_next_any w s pos ty hp
        have hbd := Lib.hid (bad_decode s hp)
        have hsd := Lib.hid (size_decode s hp)
        have hwd := Go.Lib.width_pos s pos
        have hp0 : (0 : Int) ≤ (pos : Int) := by omega
        have hp1 : (pos : Int) ≤ (s.size : Int) := by omega
        have hpx : Go.Lib.hasPrefix (List.take (s.size - pos) (List.drop pos s.data.toList)) [239, 191, 189] = repl s pos := by
          rw [← hasPrefix_repl, extract_list, List.take_of_length_le (by simp)]
        obtain ⟨r, hr⟩ : ∃ r, r = Utf8.decode s pos := ⟨_, rfl⟩
        rw [← hr] at hnx hwd
        have HR := Lib.hid hr; clear hr
        go_wp2_with (go_at_call 21; (with_reducible refine (Tryd.strings_HasPrefix _ _ _).mono ?_); rintro e w' ⟨rfl, rfl⟩)
        · have h0 : ((r.1 : Int) == 0) = true := by assumption
          have h1 : badAt s pos = true := by
            rw [hbd.out, ← HR.out]
            simp at h0
            simp [h0]
          have h2 := sp_at HP.out hp h1
          go_ret2
          unfold checkAt checkNo
          rw [if_neg HL.out, if_neg HL.out, if_neg (by omega), if_neg (by omega), h2]
          exact ⟨rfl, bel_iter _ _ _⟩
        · have h0 : (r.1 : Int) = 65533 := by assumption
          have h3 : (!repl s pos) = true := by assumption
          have h1 : badAt s pos = true := by
            rw [hbd.out, ← HR.out]
            have : r.1 = 65533 := by omega
            rw [this, h3]
            rfl
          have h2 := sp_at HP.out hp h1
          go_ret2
          unfold checkAt checkNo
          rw [if_neg HL.out, if_neg HL.out, if_neg (by omega), if_neg (by omega), h2]
          exact ⟨rfl, bel_iter _ _ _⟩
        · have hz : ((r.1 : Int) == 0) = false := by assumption
          have h0 : (r.1 : Int) = 65533 := by assumption
          have h3 : (!repl s pos) = false := by assumption
          have h1 : badAt s pos = false := by
            rw [hbd.out, ← HR.out]
            have : r.1 = 65533 := by omega
            rw [this, h3]
            rfl
          have hsz : sizeAt s pos = r.2 ∧ pos + sizeAt s pos ≤ s.size := by
            rcases hsd.out with ⟨h0, _⟩ | ⟨h0, _, h2, _⟩
            · exact absurd h0 (badAt_false h1).1
            · rw [HR.out]; exact ⟨h0, h2⟩
          go_roundw
          case rel => exact ⟨pos + r.2, by omega, by rw [← HP.out, sp_good hp h1, hsz.1], rfl⟩
          case measure => simp; omega
        · have hz : ((r.1 : Int) == 0) = false := by assumption
          have h0 : ¬ (r.1 : Int) = 65533 := by assumption
          have h1 : badAt s pos = false := by
            rw [hbd.out, ← HR.out]
            have h4 : ¬ r.1 = 65533 := by omega
            simp at hz
            simp [h4, hz]
          have hsz : sizeAt s pos = r.2 ∧ pos + sizeAt s pos ≤ s.size := by
            rcases hsd.out with ⟨h0, _⟩ | ⟨h0, _, h2, _⟩
            · exact absurd h0 (badAt_false h1).1
            · rw [HR.out]; exact ⟨h0, h2⟩
          go_roundw
          case rel => exact ⟨pos + r.2, by omega, by rw [← HP.out, sp_good hp h1, hsz.1], rfl⟩
          case measure => simp; omega
      · have hnx : ∀ ty, (Instr.next (.pointer (some ⟨w.heap.size, 0, none⟩)) true ty).run Tryd.prog (w.iter s pos) = _ := fun ty => run_next_end w s pos ty hp
        go_wp2
        go_ret2
        have h1 : sp s 0 = -1 := by rw [← HP.out]; exact sp_end hp
        unfold checkAt checkNo
        rw [if_neg HL.out, if_neg HL.out, if_pos h1, if_pos h1]
        exact ⟨rfl, bel_iter _ _ _⟩
end Go.Proofs.YtkaafakodeeidaaDoor
