/-
  ScanReads's law; walked.
-/
import Derived.Test.YtkaafakodeeidaaDoorRefScan
import Derived.Test.YtkaafakodeeidaaDoorRefSame
namespace Go.Proofs.YtkaafakodeeidaaDoor
open Go.RowKit

def aliveT : ByteArray := ⟨#[120, 32, 58, 61, 32, 49, 10]⟩
def aliveL : List Tk := [⟨1, ⟨#[120]⟩, 0⟩, ⟨6, ⟨#[58, 61]⟩, 2⟩, ⟨2, ⟨#[49]⟩, 5⟩, ⟨6, nlT, 6⟩, ⟨0, ByteArray.empty, 7⟩]
def Tk.three (t : Tk) : Nat × List UInt8 × Nat := (t.kind, t.text.data.toList, t.at_)
theorem tk_three {L M : List Tk} (h : L.map Tk.three = M.map Tk.three) : L = M := by
  induction L generalizing M with
  | nil => cases M with
    | nil => rfl
    | cons y r => cases h
  | cons x l ih => cases M with
    | nil => cases h
    | cons y r =>
      simp only [List.map_cons, List.cons.injEq] at h
      obtain ⟨h1, h2⟩ := h
      have e : x = y := by
        obtain ⟨a, ⟨⟨b⟩⟩, c⟩ := x
        obtain ⟨a', ⟨⟨b'⟩⟩, c'⟩ := y
        simp only [Tk.three, Prod.mk.injEq] at h1
        obtain ⟨rfl, h1, rfl⟩ := h1
        subst h1
        rfl
      rw [e, ih h2]
theorem scan_alive : scanAll aliveT = (aliveL, 0, 0) := by
  have h : (scanAll aliveT).1.map Tk.three = aliveL.map Tk.three ∧ (scanAll aliveT).2 = (0, 0) := by decide +kernel
  exact Prod.ext (tk_three h.1) h.2
def RetA5 (w : World) (e : Ending) (w' : World) : Prop := ∃ A cap, e = .returned (.tuple #[.slice A 5 cap, .int .i64 0, .int .i64 0]) ∧ TksR w' A aliveL ∧ Below w.heap.size w w'
theorem key_lit (w : World) (h : Laid w) : Calls Tryd.prog 8 #[.string ⟨#[102, 117, 110, 99]⟩] w (RetB true w) := by
  have := key_any ⟨#[102, 117, 110, 99]⟩ w h
  rwa [show keyB ⟨#[102, 117, 110, 99]⟩ = true by decide +kernel] at this
theorem op_lit (w : World) (h : Laid w) : Calls Tryd.prog 10 #[.string ⟨#[46, 46, 46]⟩] w (RetB true w) := by
  have := op_any ⟨#[46, 46, 46]⟩ w h
  rwa [show opB ⟨#[46, 46, 46]⟩ = true by decide +kernel] at this
set_option maxRecDepth 100000 in
set_option maxHeartbeats 1000000 in
theorem alive5 (w : World) (hl : Laid w) : Calls Tryd.prog 6 #[] w (RetBw true w) := by
  have KS : Hid (Calls Tryd.prog 4 #[.string ⟨#[120, 32, 58, 61, 32, 49, 10]⟩] w (RetA5 w)) := Lib.hid (by
    have := scan_any aliveT w (by decide) hl
    rw [scan_alive] at this
    exact this)
  have HL := Lib.hid hl; clear hl
  go_enter Tryd.func6, Tryd.ntmps6
  go_wp2_with fail
  refine KS.out.mono ?_
  rintro e w1 ⟨A, cap, rfl, hT, hb⟩
  obtain ⟨b, off, rfl, hlt, hc⟩ := hT (by decide)
  have c1 : w1.cell? ⟨b, off + 3 + 1, none⟩ = some (.string ⟨#[58, 61]⟩) := (hc 1 (by decide)).c1
  have c3 : w1.cell? ⟨b, off + 9 + 1, none⟩ = some (.string ⟨#[10]⟩) := (hc 3 (by decide)).c1
  have HB := Lib.hid hb
  replace HL := Lib.hid (HL.out.below hb); clear hb hT hc
  go_wp2_with fail
  refine (key_lit _ HL.out).mono ?_
  rintro e w2 ⟨rfl, rfl⟩
  go_wp2_with fail
  refine (op_lit _ HL.out).mono ?_
  rintro e w2 ⟨rfl, rfl⟩
  go_wp2
  go_ret
  exact ⟨rfl, HB.out⟩
theorem min_int (m n : Nat) (c : Int) (hc : c = (m : Int)) : ∀ W, (Builtin.min_ #[3, 3] 3 #[.int .i64 (n : Int), .int .i64 c]).run Tryd.prog W = .ok (.int .i64 ((min n m : Nat) : Int)) W := fun W => by
  subst hc
  rw [run_min_int2]
  congr 2
  omega
theorem cut_str (s : ByteArray) (m : Nat) : ∃ n s', n = min s.size m ∧ s.extract 0 n = s' ∧ s'.size = n ∧ n ≤ s.size ∧ n ≤ m := ⟨_, _, rfl, rfl, by simp, by omega, by omega⟩
theorem lastly_len (M : List Tk) (i : Nat) : (lastly M i).1.length ≤ 1500 := by
  unfold lastly
  split
  · exact Nat.zero_le _
  · simp only [List.length_append, List.length_cons, List.length_nil]
    omega
theorem scanF_len (s : ByteArray) : ∀ f M i, (scanF f s M i).1.length ≤ 1500 := by
  intro f
  induction f with
  | zero => intro M i; exact lastly_len M i
  | succ f ih =>
    intro M i
    rw [scanF]
    split
    · split
      · exact Nat.zero_le _
      · split
        · exact ih _ _
        · split
          · exact Nat.zero_le _
          · exact ih _ _
    · exact lastly_len M i
theorem scan_len (s : ByteArray) : (scanAll s).1.length ≤ 1500 := by
  unfold scanAll
  split
  · exact Nat.zero_le _
  · split
    · exact scanF_len s _ _ _
    · exact Nat.zero_le _
theorem key_v {v : Bool} (t : ByteArray) (w : World) (h : Laid w) (hv : keyB t = v) : Calls Tryd.prog 8 #[.string t] w (RetB v w) := by
  rw [← hv]; exact key_any t w h
theorem op_v {v : Bool} (t : ByteArray) (w : World) (h : Laid w) (hv : opB t = v) : Calls Tryd.prog 10 #[.string t] w (RetB v w) := by
  rw [← hv]; exact op_any t w h
set_option maxRecDepth 100000 in
set_option maxHeartbeats 1000000 in
theorem law_reads (s0 t0 : ByteArray) (w : World) (hl : Laid w) : Calls Tryd.prog 3 #[.string s0, .string t0] w (RetBw true w) := by
  obtain ⟨n, s, hn, hs, hsz, hn1, hn2⟩ := cut_str s0 4010
  obtain ⟨m, t, hm, ht, htz, hm1, hm2⟩ := cut_str t0 20
  have hmin1 := min_int 4010 s0.size 4010 rfl
  rw [← hn] at hmin1
  have hmin2 := min_int 20 t0.size 20 rfl
  rw [← hm] at hmin2
  have HN := Lib.hid hn; clear hn
  have HS := Lib.hid hs; clear hs
  have HM := Lib.hid hm; clear hm
  have HT := Lib.hid ht; clear ht
  have hsb : s.size ≤ 100000 := by omega
  have B1 := Lib.hid hsb; clear hsb hsz htz
  have hn' : (n : Int) ≤ (s0.size : Int) := by omega
  have hm' : (m : Int) ≤ (t0.size : Int) := by omega
  have HL := Lib.hid hl; clear hl
  go_enter Tryd.func3, Tryd.ntmps3
  go_wp2
  go_region
  go_wp2_with fail
  rw [HS.out, HT.out]
  clear hn1 hn2 hn' hm1 hm2 hm' hmin1 hmin2 HN HS HM HT
  have hb0 : Below w.heap.size w w.drew := (bel_refl w).drew
  replace HL := Lib.hid (HL.out.below hb0)
  have HB := Lib.hid hb0; clear hb0
  obtain ⟨wd, hwd⟩ : ∃ wd, w.drew = wd := ⟨_, rfl⟩
  rw [hwd] at HL HB ⊢
  clear hwd
  have KS := scan_any s wd B1.out HL.out
  have KR := Lib.hid (fun W => refScan_any s W)
  have hlen := scan_len s
  obtain ⟨r, hr⟩ : ∃ r, scanAll s = r := ⟨_, rfl⟩
  rw [hr] at KS KR hlen
  clear hr
  obtain ⟨M, at_, er⟩ := r
  replace KS := Lib.hid KS
  have HLN : Hid (M.length ≤ 100000) := Lib.hid (Nat.le_trans hlen (by decide)); clear hlen
  obtain ⟨kv, hkv⟩ : ∃ v, keyB t = v := ⟨_, rfl⟩
  obtain ⟨ov, hov⟩ : ∃ v, opB t = v := ⟨_, rfl⟩
  have K1 := Lib.hid (fun W h => key_v t W h hkv)
  have K2 := Lib.hid (fun W => key5_is t W hkv)
  have O1 := Lib.hid (fun W h => op_v t W h hov)
  have O2 := Lib.hid (fun W => op5_is t W hov)
  clear hkv hov
  refine KS.out.mono ?_
  rintro e w1 ⟨A, cap, rfl, hT, hb⟩
  have HT1 := Lib.hid hT; clear hT
  replace HL := Lib.hid (HL.out.below hb)
  replace HB := Lib.hid (bel_trans HB.out hb); clear hb
  go_wp2_with fail
  refine (KR.out _).mono ?_
  rintro e w2 ⟨A2, cap2, rfl, hT, hb⟩
  obtain ⟨wz, hwz⟩ : ∃ wz, wz = w2.alloc (.cells #[.slice A2 M.length cap2, .int .i64 (at_ : Int), .int .i64 (er : Int)] 27) := ⟨_, rfl⟩
  have hba : Below w2.heap.size w2 wz := by rw [hwz]; exact bel_alloc (bel_refl _) _
  have BX : Blk wz w2.heap.size 27 #[.slice A2 M.length cap2, .int .i64 (at_ : Int), .int .i64 (er : Int)] := by rw [hwz]; exact Blk.new w2 _ _
  have HT2 := Lib.hid (hT.below hba); clear hT
  have hbz := bel_trans hb hba
  replace HT1 := Lib.hid (HT1.out.below hbz)
  replace HL := Lib.hid (HL.out.below hbz)
  replace HB := Lib.hid (bel_trans HB.out hbz); clear hb hba hbz
  have HBX := Lib.hid BX; clear BX
  go_upto_region 4 with fail
  rw [← hwz]
  clear hwz
  go_wp2_with fail
  refine (alive5 _ HL.out).mono ?_
  rintro e w3 ⟨rfl, hb⟩
  replace HT1 := Lib.hid (HT1.out.below hb)
  replace HT2 := Lib.hid (HT2.out.below hb)
  replace HL := Lib.hid (HL.out.below hb)
  replace HBX := Lib.hid (HBX.out.below hb HBX.out.lt)
  replace HB := Lib.hid (bel_trans HB.out hb); clear hb
  have x0 : w3.cell? ⟨w2.heap.size, 0, none⟩ = some (.slice A2 M.length cap2) := HBX.out.cell 0
  have x1 : w3.cell? ⟨w2.heap.size, 1, none⟩ = some (.int .i64 (at_ : Int)) := HBX.out.cell 1
  have x2 : w3.cell? ⟨w2.heap.size, 2, none⟩ = some (.int .i64 (er : Int)) := HBX.out.cell 2
  go_wp2_with fail
  refine (refSame5_any M A A2 cap cap2 _ HLN.out HT1.out HT2.out).mono ?_
  rintro e w4 ⟨rfl, hb⟩
  replace HL := Lib.hid (HL.out.below hb)
  replace HB := Lib.hid (bel_trans HB.out hb); clear hb
  go_wp2_with fail
  refine (K1.out _ HL.out).mono ?_
  rintro e w5 ⟨rfl, rfl⟩
  go_wp2_with fail
  refine (K2.out _).mono ?_
  rintro e w6 ⟨rfl, hb⟩
  replace HL := Lib.hid (HL.out.below hb)
  replace HB := Lib.hid (bel_trans HB.out hb); clear hb
  have e1 : (kv == kv) = true := by simp
  go_wp2_with fail
  refine (O1.out _ HL.out).mono ?_
  rintro e w7 ⟨rfl, rfl⟩
  go_wp2_with fail
  refine (O2.out _).mono ?_
  rintro e w8 ⟨rfl, hb⟩
  replace HB := Lib.hid (bel_trans HB.out hb); clear hb
  have e2 : (ov == ov) = true := by simp
  go_wp2
  go_ret
  exact ⟨rfl, HB.out⟩
end Go.Proofs.YtkaafakodeeidaaDoor
