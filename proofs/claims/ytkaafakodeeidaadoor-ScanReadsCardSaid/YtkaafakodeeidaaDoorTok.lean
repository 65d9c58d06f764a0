/-
  Layer 5's tokens: the token that a text begins with; walked.
-/
import Derived.Test.YtkaafakodeeidaaDoorNum
import Derived.Test.YtkaafakodeeidaaDoorQuo
import Derived.Deep.MidRow
import Derived.OwnWalk
namespace Go.Proofs.YtkaafakodeeidaaDoor
open Go.RowKit

def opFrom (t : ByteArray) : List ByteArray → Nat
  | [] => 0
  | k :: ks => if Go.Lib.hasPrefix t.data.toList k.data.toList = true then k.size else opFrom t ks
def opLen (t : ByteArray) : Nat := opFrom t opsL
/-- A token's kind, length and error. -/
def tokOf (t : ByteArray) : Nat × Nat × Nat :=
  if letter (bt t 0 : Int) = true then
    (if 20 < run (wordP t) t.size 0 then (0, 0, 7) else if keyB (t.extract 0 (run (wordP t) t.size 0)) = true then (7, run (wordP t) t.size 0, 0) else (1, run (wordP t) t.size 0, 0))
  else if digB (bt t 0) = true ∨ (bt t 0 = 46 ∧ digB (bt t 1) = true) then (numKind t, numEnd t, 0)
  else if bt t 0 = 39 ∨ bt t 0 = 34 ∨ bt t 0 = 96 then (if quoEnd t (bt t 0) 1 = 0 then (0, 0, 5) else if bt t 0 = 39 then (4, quoEnd t (bt t 0) 1, 0) else (5, quoEnd t (bt t 0) 1, 0))
  else if opLen t = 0 then (0, 0, 12) else (6, opLen t, 0)
def RetKNE (r : Nat × Nat × Nat) (w : World) (e : Ending) (w' : World) : Prop := e = .returned (.tuple #[.int .i64 (r.1 : Int), .int .i64 (r.2.1 : Int), .int .i64 (r.2.2 : Int)]) ∧ Below w.heap.size w w'
def opsV : List Value := opsL.map Value.string
theorem ops_range (w : World) (h : Laid w) : w.rangeAt 1 0 opsV := by
  intro j v hj
  unfold opsV at hj
  rw [List.getElem?_map] at hj
  have hl : j < opsL.length := by
    rcases Nat.lt_or_ge j opsL.length with h | h
    · exact h
    · rw [List.getElem?_eq_none h] at hj; cases hj
  rw [List.getElem?_eq_getElem hl] at hj
  injection hj with hj
  rw [Nat.zero_add, h.ops j hl, ← hj, List.getD_eq_getElem?_getD, List.getElem?_eq_getElem hl]
  rfl
theorem opFrom_yes {t : ByteArray} {j : Nat} (hj : j < 33) (h : Go.Lib.hasPrefix t.data.toList (opsL.getD j ByteArray.empty).data.toList = true) : opFrom t (opsL.drop j) = (opsL.getD j ByteArray.empty).size := by
  have hl : j < opsL.length := hj
  rw [List.drop_eq_getElem_cons hl, opFrom]
  rw [List.getD_eq_getElem?_getD, List.getElem?_eq_getElem hl] at h ⊢
  exact if_pos h
theorem opFrom_no {t : ByteArray} {j : Nat} (hj : j < 33) (h : Go.Lib.hasPrefix t.data.toList (opsL.getD j ByteArray.empty).data.toList = false) : opFrom t (opsL.drop j) = opFrom t (opsL.drop (j + 1)) := by
  have hl : j < opsL.length := hj
  rw [List.drop_eq_getElem_cons hl, opFrom]
  rw [List.getD_eq_getElem?_getD, List.getElem?_eq_getElem hl] at h
  exact if_neg (by rw [show opsL[j].data.toList = ((some opsL[j]).getD ByteArray.empty).data.toList from rfl, h]; decide)
theorem opsV_get {j : Nat} (hj : j < 33) : opsV.toArray[j]? = some (.string (opsL.getD j ByteArray.empty)) := by
  have hl : j < opsL.length := hj
  rw [List.getElem?_toArray, opsV, List.getElem?_map, List.getElem?_eq_getElem hl, List.getD_eq_getElem?_getD, List.getElem?_eq_getElem hl]
  rfl
set_option maxRecDepth 100000 in
set_option maxHeartbeats 2000000 in
theorem token_word (t : ByteArray) (w : World) (hs : t.size ≤ 100000) (h0 : 0 < t.size) (hl : Laid w) (hc : letter (bt t 0 : Int) = true) : Calls Tryd.prog 15 #[.string t] w (RetKNE (tokOf t) w) := by
  have a0 : (0 : Int) < (t.size : Int) := by omega
  have g0 := bt_get t (i := 0) h0
  obtain ⟨b, hb⟩ : ∃ b, bt t 0 = b := ⟨_, rfl⟩
  have KL : Calls Tryd.prog 27 #[.int .u8 (b : Int)] w (RetB true w) := letter_is b w (by rw [← hb]; exact hc)
  rw [hb] at g0
  have hC := Lib.hid (And.intro hc hb); clear hc hb
  replace KL := Lib.hid KL
  have hmf : ∀ (fn : Fn) (first cap : Array Value) (w : World), (Instr.makeFunc fn first cap).run Tryd.prog w = .ok (.func fn first cap) w := fun _ _ _ _ => rfl
  have hle := run_le (wordP t) (Nat.zero_le t.size)
  have KW := while_word t w hs
  obtain ⟨n, hn⟩ : ∃ n, run (wordP t) t.size 0 = n := ⟨_, rfl⟩
  rw [hn] at KW hle
  replace KW := Lib.hid KW
  have HN := Lib.hid hn; clear hn
  have HS := Lib.hid hs; clear hs
  by_cases hbig : 20 < n
  · have q1 : (20 : Int) < (n : Int) := by omega
    have HBG := Lib.hid hbig; clear hbig
    go_enter Tryd.func15, Tryd.ntmps15
    go_wp2_with fail
    refine KL.out.mono ?_
    rintro e w1 ⟨rfl, rfl⟩
    go_wp2_with fail
    refine KW.out.mono ?_
    rintro e w1 ⟨rfl, rfl⟩
    go_wp2
    go_ret3
    refine ⟨?_, bel_refl _⟩
    unfold tokOf
    rw [if_pos hC.out.1, HN.out, if_pos HBG.out]
    rfl
  · have q1 : ¬ (20 : Int) < (n : Int) := by omega
    have q2 : (n : Int) ≤ (t.size : Int) := by omega
    have q3 : (0 : Int) ≤ (n : Int) := by omega
    have KK := key_any (t.extract 0 n) w hl
    obtain ⟨v, hv⟩ : ∃ v, keyB (t.extract 0 n) = v := ⟨_, rfl⟩
    rw [hv] at KK
    replace KK := Lib.hid KK
    have HV := Lib.hid hv; clear hv
    have HBG := Lib.hid hbig; clear hbig
    cases v
    · go_enter Tryd.func15, Tryd.ntmps15
      go_wp2_with fail
      refine KL.out.mono ?_
      rintro e w1 ⟨rfl, rfl⟩
      go_wp2_with fail
      refine KW.out.mono ?_
      rintro e w1 ⟨rfl, rfl⟩
      go_wp2_with fail
      refine KK.out.mono ?_
      rintro e w1 ⟨rfl, rfl⟩
      go_wp2
      go_ret3
      refine ⟨?_, bel_refl _⟩
      unfold tokOf
      rw [if_pos hC.out.1, HN.out, if_neg HBG.out, if_neg (by rw [HV.out]; decide)]
      rfl
    · go_enter Tryd.func15, Tryd.ntmps15
      go_wp2_with fail
      refine KL.out.mono ?_
      rintro e w1 ⟨rfl, rfl⟩
      go_wp2_with fail
      refine KW.out.mono ?_
      rintro e w1 ⟨rfl, rfl⟩
      go_wp2_with fail
      refine KK.out.mono ?_
      rintro e w1 ⟨rfl, rfl⟩
      go_wp2
      go_ret3
      refine ⟨?_, bel_refl _⟩
      unfold tokOf
      rw [if_pos hC.out.1, HN.out, if_neg HBG.out, if_pos HV.out]
      rfl
set_option maxRecDepth 100000 in
set_option maxHeartbeats 2000000 in
theorem token_num (t : ByteArray) (w : World) (hs : t.size ≤ 100000) (h0 : 0 < t.size) (hc : letter (bt t 0 : Int) = false) (hd : digB (bt t 0) = true) : Calls Tryd.prog 15 #[.string t] w (RetKNE (tokOf t) w) := by
  have a0 : (0 : Int) < (t.size : Int) := by omega
  have g0 := bt_get t (i := 0) h0
  obtain ⟨b, hb⟩ : ∃ b, bt t 0 = b := ⟨_, rfl⟩
  have KL : Calls Tryd.prog 27 #[.int .u8 (b : Int)] w (RetB false w) := letter_is b w (by rw [← hb]; exact hc)
  have KD : Calls Tryd.prog 30 #[.int .u8 (b : Int)] w (RetB true w) := digit_is b w (by rw [← hb]; exact hd)
  rw [hb] at g0
  have he : tokOf t = (numKind t, numEnd t, 0) := by
    unfold tokOf
    rw [if_neg (by rw [hc]; decide), if_pos (.inl hd)]
  rw [he]
  obtain ⟨kd, hkd⟩ : ∃ kd, numKind t = kd := ⟨_, rfl⟩
  obtain ⟨n, hn⟩ : ∃ n, numEnd t = n := ⟨_, rfl⟩
  have KN := number_any t w hs
  rw [hkd, hn] at KN ⊢
  replace KL := Lib.hid KL
  replace KD := Lib.hid KD
  replace KN := Lib.hid KN
  clear he hc hd hb hs hkd hn
  go_enter Tryd.func15, Tryd.ntmps15
  go_wp2_with fail
  refine KL.out.mono ?_
  rintro e w1 ⟨rfl, rfl⟩
  go_wp2_with fail
  refine KD.out.mono ?_
  rintro e w1 ⟨rfl, rfl⟩
  go_wp2_with fail
  refine KN.out.mono ?_
  rintro e w2 ⟨rfl, hbl⟩
  have HBL := Lib.hid hbl; clear hbl
  go_wp2
  go_ret3
  exact ⟨rfl, HBL.out⟩
set_option maxRecDepth 100000 in
set_option maxHeartbeats 2000000 in
theorem token_dot (t : ByteArray) (w : World) (hs : t.size ≤ 100000) (h0 : 0 < t.size) (hb : bt t 0 = 46) (h1 : 1 < t.size) (hd : digB (bt t 1) = true) : Calls Tryd.prog 15 #[.string t] w (RetKNE (tokOf t) w) := by
  have a0 : (0 : Int) < (t.size : Int) := by omega
  have a1 : (1 : Int) < (t.size : Int) := by omega
  have g0 := bt_get t (i := 0) h0
  have g1 := bt_get t (i := 1) h1
  have KL : Calls Tryd.prog 27 #[.int .u8 46] w (RetB false w) := letter_is 46 w (by decide)
  have KD : Calls Tryd.prog 30 #[.int .u8 46] w (RetB false w) := digit_is 46 w (by decide)
  have he : tokOf t = (numKind t, numEnd t, 0) := by
    unfold tokOf
    rw [if_neg (by rw [hb]; decide), if_pos (.inr ⟨hb, hd⟩)]
  rw [hb] at g0
  obtain ⟨c, hc⟩ : ∃ c, bt t 1 = c := ⟨_, rfl⟩
  rw [hc] at g1 hd
  have KD2 : Calls Tryd.prog 30 #[.int .u8 (c : Int)] w (RetB true w) := digit_is c w hd
  rw [he]
  obtain ⟨kd, hkd⟩ : ∃ kd, numKind t = kd := ⟨_, rfl⟩
  obtain ⟨n, hn⟩ : ∃ n, numEnd t = n := ⟨_, rfl⟩
  have KN := number_any t w hs
  rw [hkd, hn] at KN ⊢
  replace KL := Lib.hid KL
  replace KD := Lib.hid KD
  replace KD2 := Lib.hid KD2
  replace KN := Lib.hid KN
  clear he hc hd hb hs hkd hn
  go_enter Tryd.func15, Tryd.ntmps15
  go_wp2_with fail
  refine KL.out.mono ?_
  rintro e w1 ⟨rfl, rfl⟩
  go_wp2_with fail
  refine KD.out.mono ?_
  rintro e w1 ⟨rfl, rfl⟩
  go_wp2_with fail
  refine KD2.out.mono ?_
  rintro e w1 ⟨rfl, rfl⟩
  go_wp2_with fail
  refine KN.out.mono ?_
  rintro e w2 ⟨rfl, hbl⟩
  have HBL := Lib.hid hbl; clear hbl
  go_wp2
  go_ret3
  exact ⟨rfl, HBL.out⟩
/-- Neither a word nor a number nor a text. -/
structure Plain (t : ByteArray) : Prop where
  wd : letter (bt t 0 : Int) = false
  dg : digB (bt t 0) = false
  dt : bt t 0 = 46 → digB (bt t 1) = false
  q1 : bt t 0 ≠ 39
  q2 : bt t 0 ≠ 34
  q3 : bt t 0 ≠ 96
theorem Plain.tok {t : ByteArray} (h : Plain t) : tokOf t = if opLen t = 0 then (0, 0, 12) else (6, opLen t, 0) := by
  unfold tokOf
  have a := h.q1; have b := h.q2; have c := h.q3
  rw [if_neg (by rw [h.wd]; decide), if_neg, if_neg (by omega)]
  rintro (hd | ⟨h1, h2⟩)
  · rw [h.dg] at hd; cases hd
  · rw [h.dt h1] at h2; cases h2
end Go.Proofs.YtkaafakodeeidaaDoor
