/-
  Layer 5's blanks and comments: what is skipped at a text's beginning; walked.
-/
import Derived.Test.YtkaafakodeeidaaDoorCmt
namespace Go.Proofs.YtkaafakodeeidaaDoor
open Go.RowKit

theorem idx_blank : ∀ b : Fin 256, decide (0 ≤ Go.Lib.indexByte (⟨#[9, 13, 32]⟩ : ByteArray).data.toList ((b.val : Int).toNat.toUInt8)) = (decide (b.val = 9) || decide (b.val = 13) || decide (b.val = 32)) := by decide +kernel
theorem pre_two (t : ByteArray) (a b : UInt8) (ha : a.toNat ≠ 0) (hb : b.toNat ≠ 0) : Go.Lib.hasPrefix t.data.toList [a, b] = (decide (bt t 0 = a.toNat) && decide (bt t 1 = b.toNat)) := by
  rw [Bool.eq_iff_iff]
  have h0 : Go.Lib.hasPrefix t.data.toList [a, b] = Go.Lib.occAt t.data.toList [a, b] 0 := rfl
  rw [h0, occ_two, Bool.and_eq_true, decide_eq_true_iff, decide_eq_true_iff]
  have hg : ∀ (j : Nat) (c : UInt8), c.toNat ≠ 0 → (t.data.toList[j]? = some c ↔ bt t j = c.toNat) := by
    intro j c hc
    have e := tail_get (t := t) (a := 0) (j := j) (b := c)
    rw [show t.extract 0 t.size = t by simp, Nat.zero_add] at e
    rw [e]
    constructor
    · rintro ⟨_, h⟩; exact h.symm
    · intro h
      refine ⟨?_, h.symm⟩
      rcases Nat.lt_or_ge j t.size with hl | hl
      · exact hl
      · rw [bt_none t (by omega)] at h; exact absurd h.symm hc
  rw [hg 0 a ha, hg 1 b hb]
def RetNB (n : Int) (b : Bool) (w : World) (e : Ending) (w' : World) : Prop := e = .returned (.tuple #[.int .i64 n, .bool b]) ∧ Below w.heap.size w w'
theorem cut_yes {l sep : List UInt8} {n : Nat} (h : Go.Lib.index l sep = (n : Int)) : (Go.Lib.cut l sep).1 = l.take n ∧ (Go.Lib.cut l sep).2.2 = true := by
  unfold Go.Lib.cut
  rw [h, if_pos (by omega)]
  exact ⟨rfl, rfl⟩
theorem cut_no {l sep : List UInt8} (h : Go.Lib.index l sep = -1) : (Go.Lib.cut l sep).2.2 = false := by
  unfold Go.Lib.cut
  rw [h, if_neg (by omega)]
theorem iff_dec {a b : Prop} [Decidable a] [Decidable b] (h : a ↔ b) : decide a = decide b := by rw [Bool.eq_iff_iff, decide_eq_true_iff, decide_eq_true_iff]; exact h
theorem skip_none {t : ByteArray} {b : Nat} (hb : bt t 0 = b) (h : ¬ (b = 9 ∨ b = 13 ∨ b = 32 ∨ b = 10)) (n1 : ¬ (b = 47 ∧ bt t 1 = 47)) (n2 : ¬ (b = 47 ∧ bt t 1 = 42)) : skipN t = 0 ∧ skipL t = false := by
  refine ⟨by unfold skipN; rw [hb, if_neg h, if_neg n1, if_neg n2], ?_⟩
  unfold skipL
  rw [hb, decide_eq_false (show ¬ b = 10 by omega), Bool.false_or, Bool.and_assoc, ← Bool.and_assoc, ← Bool.decide_and, decide_eq_false n2]
  simp
theorem skip_line {t : ByteArray} {b : Nat} (hb : bt t 0 = b) (h : ¬ (b = 9 ∨ b = 13 ∨ b = 32 ∨ b = 10)) (n1 : b = 47 ∧ bt t 1 = 47) : skipN t = (run (lineP t) t.size 0 : Nat) ∧ skipL t = false := by
  refine ⟨by unfold skipN; rw [hb, if_neg h, if_pos n1], ?_⟩
  unfold skipL
  rw [hb, decide_eq_false (show ¬ b = 10 by omega), Bool.false_or, n1.2]
  simp
theorem skip_open {t : ByteArray} {b : Nat} (hb : bt t 0 = b) (h : ¬ (b = 9 ∨ b = 13 ∨ b = 32 ∨ b = 10)) (n2 : b = 47 ∧ bt t 1 = 42) (hc : ¬ cmtEnd t + 1 < t.size) : skipN t = -1 ∧ skipL t = false := by
  refine ⟨by unfold skipN; rw [hb, if_neg h, if_neg (fun h => by rw [n2.2] at h; exact absurd h.2 (by decide)), if_pos n2, if_neg hc], ?_⟩
  unfold skipL
  rw [hb, decide_eq_false (show ¬ b = 10 by omega), Bool.false_or, decide_eq_false hc]
  simp
theorem skip_shut {t : ByteArray} {b : Nat} (hb : bt t 0 = b) (h : ¬ (b = 9 ∨ b = 13 ∨ b = 32 ∨ b = 10)) (n2 : b = 47 ∧ bt t 1 = 42) (hc : cmtEnd t + 1 < t.size) : skipN t = ((cmtEnd t + 2 : Nat) : Int) ∧ skipL t = cmtLine t := by
  refine ⟨by unfold skipN; rw [hb, if_neg h, if_neg (fun h => by rw [n2.2] at h; exact absurd h.2 (by decide)), if_pos n2, if_pos hc], ?_⟩
  unfold skipL
  rw [hb, decide_eq_false (show ¬ b = 10 by omega), Bool.false_or, decide_eq_true hc, decide_eq_true n2.1, decide_eq_true n2.2]
  rfl
set_option maxRecDepth 100000 in
set_option maxHeartbeats 2000000 in
theorem skipped_any (t : ByteArray) (w : World) (hs : t.size ≤ 100000) (h0 : 0 < t.size) (hl : Laid w) : Calls Tryd.prog 13 #[.string t] w (RetNB (skipN t) (skipL t) w) := by
  have a0 : (0 : Int) < (t.size : Int) := by omega
  have g0 := bt_get t (i := 0) h0
  have hlt := bt_lt t 0
  obtain ⟨m, hm⟩ := hl.max
  have p1 := pre_two t 47 47 (by decide) (by decide)
  have p2 := pre_two t 47 42 (by decide) (by decide)
  obtain ⟨b, hb⟩ : ∃ b, bt t 0 = b := ⟨_, rfl⟩
  rw [hb] at g0 hlt p1 p2
  obtain ⟨v, hv⟩ : ∃ v, Go.Lib.indexByte (⟨#[9, 13, 32]⟩ : ByteArray).data.toList ((b : Int).toNat.toUInt8) = v := ⟨_, rfl⟩
  have hc := idx_blank ⟨b, hlt⟩
  simp only at hc
  rw [hv] at hc
  have hcall := Tryd.strings_IndexByte ⟨#[9, 13, 32]⟩ (b : Int) w
  rw [hv] at hcall
  have HK := Lib.hid hcall; clear hcall hv
  have HB := Lib.hid hb; clear hb
  have HS := Lib.hid hs; clear hs
  have HM := Lib.hid hm; clear hm
  have hmf : ∀ (fn : Fn) (first cap : Array Value) (w : World), (Instr.makeFunc fn first cap).run Tryd.prog w = .ok (.func fn first cap) w := fun _ _ _ _ => rfl
  by_cases hbl : b = 9 ∨ b = 13 ∨ b = 32
  · have hv0 : (0 : Int) ≤ v := by
      have : decide ((0 : Int) ≤ v) = true := by
        rw [hc]
        rcases hbl with h | h | h <;> simp [h]
      exact of_decide_eq_true this
    have HBL := Lib.hid hbl; clear hbl hc p1 p2 hlt
    go_enter Tryd.func13, Tryd.ntmps13
    go_wp2_with fail
    refine HK.out.mono ?_
    rintro e w1 ⟨rfl, rfl⟩
    go_wp2
    go_ret2
    refine ⟨?_, bel_refl _⟩
    unfold skipN skipL
    rw [HB.out, if_pos (by have := HBL.out; omega)]
    rcases HBL.out with h | h | h <;> (subst h; rfl)
  · have hv0 : ¬ (0 : Int) ≤ v := by
      have : decide ((0 : Int) ≤ v) = false := by
        rw [hc]
        simp only [Bool.or_eq_false_iff, decide_eq_false_iff_not]
        omega
      exact of_decide_eq_false this
    by_cases h10 : b = 10
    · subst h10
      clear hc p1 p2 hlt hbl
      go_enter Tryd.func13, Tryd.ntmps13
      go_wp2_with fail
      refine HK.out.mono ?_
      rintro e w1 ⟨rfl, rfl⟩
      go_wp2
      go_ret2
      refine ⟨?_, bel_refl _⟩
      unfold skipN skipL
      rw [HB.out]
      rfl
    · have q1 : ((b : Int) == 10) = false := by simp only [beq_eq_false_iff_ne, ne_eq]; omega
      have q2 : ¬ (b : Int) = 10 := by omega
      have HBL := Lib.hid (show ¬ (b = 9 ∨ b = 13 ∨ b = 32 ∨ b = 10) by omega)
      obtain ⟨x, hx⟩ : ∃ x, Go.Lib.hasPrefix t.data.toList [47, 47] = x := ⟨_, rfl⟩
      obtain ⟨y, hy⟩ : ∃ y, Go.Lib.hasPrefix t.data.toList [47, 42] = y := ⟨_, rfl⟩
      rw [hx] at p1
      rw [hy] at p2
      have K1 := Tryd.strings_HasPrefix t ⟨#[47, 47]⟩ w
      rw [show (⟨#[47, 47]⟩ : ByteArray).data.toList = [47, 47] from rfl, hx] at K1
      replace K1 := Lib.hid K1
      have K2 := Tryd.strings_HasPrefix t ⟨#[47, 42]⟩ w
      rw [show (⟨#[47, 42]⟩ : ByteArray).data.toList = [47, 42] from rfl, hy] at K2
      replace K2 := Lib.hid K2
      have P1 := Lib.hid p1
      have P2 := Lib.hid p2
      clear hc hlt hbl h10 hx hy p1 p2
      cases x
      · cases y
        · go_enter Tryd.func13, Tryd.ntmps13
          go_wp2_with fail
          refine HK.out.mono ?_
          rintro e w1 ⟨rfl, rfl⟩
          go_wp2_with fail
          refine K1.out.mono ?_
          rintro e w1 ⟨rfl, rfl⟩
          go_wp2_with fail
          refine K2.out.mono ?_
          rintro e w1 ⟨rfl, rfl⟩
          go_wp2
          go_ret2
          refine ⟨?_, bel_refl _⟩
          have n1 : ¬ (b = 47 ∧ bt t 1 = 47) := by have := P1.out; simpa using this.symm
          have n2 : ¬ (b = 47 ∧ bt t 1 = 42) := by have := P2.out; simpa using this.symm
          obtain ⟨k1, k2⟩ := skip_none HB.out HBL.out n1 n2
          rw [k1, k2]
          rfl
        · have hy2 : b = 47 ∧ bt t 1 = 42 := by have := P2.out; simpa using this.symm
          have hsz : 2 ≤ t.size := by
            rcases Nat.lt_or_ge 1 t.size with h | h
            · exact h
            · have := hy2.2; rw [bt_none t (by omega)] at this; cases this
          have hsz' : (2 : Int) ≤ (t.size : Int) := by omega
          have HY := Lib.hid hy2; clear hy2
          have hix := cmt_index t hsz
          have KC := Lib.hid (Tryd.strings_Cut (t.extract 2 t.size) ⟨#[42, 47]⟩ m w (by rw [ByteArray.size_extract]; have := HS.out; omega) HM.out)
          by_cases hce : cmtEnd t + 1 < t.size
          · rw [if_pos hce] at hix
            obtain ⟨c1, c2⟩ := cut_yes hix
            obtain ⟨body, hbody⟩ : ∃ body : ByteArray, (⟨(Go.Lib.cut (t.extract 2 t.size).data.toList [42, 47]).1.toArray⟩ : ByteArray) = body := ⟨_, rfl⟩
            have hbl : body.data.toList = (t.extract 2 t.size).data.toList.take (cmtEnd t - 2) := by rw [← hbody]; exact c1
            have hbz : body.size = cmtEnd t - 2 := by
              have h1 : body.size = body.data.toList.length := rfl
              rw [h1, hbl, List.length_take]
              have h2 : (t.extract 2 t.size).data.toList.length = (t.extract 2 t.size).size := rfl
              rw [h2, ByteArray.size_extract]
              omega
            have hgeE : 2 ≤ cmtEnd t := run_ge _ _ _
            have KC2 : Calls Tryd.prog 25 #[.string (t.extract 2 t.size), .string ⟨#[42, 47]⟩] w (fun e w' => (∃ r : ByteArray, e = .returned (.tuple #[.string body, .string r, .bool true])) ∧ ∃ n, w' = w.drewN n) := by
              refine KC.out.mono ?_
              rintro e w' ⟨rfl, h2⟩
              refine ⟨⟨⟨(Go.Lib.cut (t.extract 2 t.size).data.toList [42, 47]).2.1.toArray⟩, ?_⟩, h2⟩
              rw [show (⟨#[42, 47]⟩ : ByteArray).data.toList = [42, 47] from rfl, hbody, c2]
            replace KC2 := Lib.hid KC2
            obtain ⟨z, hz⟩ : ∃ z, cmtLine t = z := ⟨_, rfl⟩
            have hcl := cmt_line t hce
            rw [← hbl, hz] at hcl
            have KL : ∀ W, Calls Tryd.prog 26 #[.string body, .string ⟨#[10]⟩] W (RetB z W) := fun W => by
              have := Tryd.strings_Contains_one body 10 W
              rw [hcl] at this
              exact this
            replace KL := Lib.hid KL
            have s1 : IntKind.i64.wrap ((body.size : Int) + 4) = ((cmtEnd t + 2 : Nat) : Int) := by rw [IntKind.wrap_i64]; have := HS.out; omega
            obtain ⟨r, hr⟩ : ∃ r, cmtEnd t + 2 = r := ⟨_, rfl⟩
            rw [hr] at s1
            have HR := Lib.hid (And.intro hr (And.intro hce hz))
            clear hr hce hz hcl hbl hbz hbody c1 c2 hix KC hgeE
            go_enter Tryd.func13, Tryd.ntmps13
            go_wp2_with fail
            refine HK.out.mono ?_
            rintro e w1 ⟨rfl, rfl⟩
            go_wp2_with fail
            refine K1.out.mono ?_
            rintro e w1 ⟨rfl, rfl⟩
            go_wp2_with fail
            refine K2.out.mono ?_
            rintro e w1 ⟨rfl, rfl⟩
            go_wp2_with fail
            refine KC2.out.mono ?_
            rintro e w1 ⟨⟨rr, rfl⟩, nn, rfl⟩
            go_wp2_with fail
            refine (KL.out _).mono ?_
            rintro e w1 ⟨rfl, rfl⟩
            go_wp2
            go_ret2
            refine ⟨?_, bel_drewN (bel_refl _) _⟩
            obtain ⟨k1, k2⟩ := skip_shut HB.out HBL.out HY.out HR.out.2.1
            rw [k1, k2, HR.out.1, HR.out.2.2]
            rfl
          · rw [if_neg hce] at hix
            have c2 := cut_no hix
            have KC2 : Calls Tryd.prog 25 #[.string (t.extract 2 t.size), .string ⟨#[42, 47]⟩] w (fun e w' => (∃ a r : ByteArray, e = .returned (.tuple #[.string a, .string r, .bool false])) ∧ ∃ n, w' = w.drewN n) := by
              refine KC.out.mono ?_
              rintro e w' ⟨rfl, h2⟩
              refine ⟨⟨⟨(Go.Lib.cut (t.extract 2 t.size).data.toList [42, 47]).1.toArray⟩, ⟨(Go.Lib.cut (t.extract 2 t.size).data.toList [42, 47]).2.1.toArray⟩, ?_⟩, h2⟩
              rw [show (⟨#[42, 47]⟩ : ByteArray).data.toList = [42, 47] from rfl, c2]
            replace KC2 := Lib.hid KC2
            have HR := Lib.hid hce
            clear hce c2 hix KC
            go_enter Tryd.func13, Tryd.ntmps13
            go_wp2_with fail
            refine HK.out.mono ?_
            rintro e w1 ⟨rfl, rfl⟩
            go_wp2_with fail
            refine K1.out.mono ?_
            rintro e w1 ⟨rfl, rfl⟩
            go_wp2_with fail
            refine K2.out.mono ?_
            rintro e w1 ⟨rfl, rfl⟩
            go_wp2_with fail
            refine KC2.out.mono ?_
            rintro e w1 ⟨⟨ra, rr, rfl⟩, nn, rfl⟩
            go_wp2
            go_ret2
            refine ⟨?_, bel_drewN (bel_refl _) _⟩
            obtain ⟨k1, k2⟩ := skip_open HB.out HBL.out HY.out HR.out
            rw [k1, k2]
            rfl
      · have hx2 : b = 47 ∧ bt t 1 = 47 := by have := P1.out; simpa using this.symm
        have HX := Lib.hid hx2; clear hx2
        have KW := Lib.hid (while_line t w HS.out)
        go_enter Tryd.func13, Tryd.ntmps13
        go_wp2_with fail
        refine HK.out.mono ?_
        rintro e w1 ⟨rfl, rfl⟩
        go_wp2_with fail
        refine K1.out.mono ?_
        rintro e w1 ⟨rfl, rfl⟩
        go_wp2_with fail
        refine KW.out.mono ?_
        rintro e w1 ⟨rfl, rfl⟩
        go_wp2
        go_ret2
        refine ⟨?_, bel_refl _⟩
        obtain ⟨k1, k2⟩ := skip_line HB.out HBL.out HX.out
        rw [k1, k2]
        rfl
end Go.Proofs.YtkaafakodeeidaaDoor
