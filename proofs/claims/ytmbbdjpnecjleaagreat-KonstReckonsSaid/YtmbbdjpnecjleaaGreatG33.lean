/-
 Parts: K22.
-/
import Derived.Test.YtmbbdjpnecjleaaGreatG19
import Derived.Test.YtmbbdjpnecjleaaGreatG30
import Derived.Test.YtmbbdjpnecjleaaGreatG32
namespace Go.Proofs.YtmbbdjpnecjleaaGreat
section
set_option maxRecDepth 100000
set_option maxHeartbeats 1000000
open Go.RowKit

theorem bb_small {sz : Int} {p u t bb : Nat} (hf : Fm sz p u t) (hb : bb ≤ (t + u + 2) * 2 ^ (p - 1)) : bb < 18446744073709551616 := by
 refine Nat.lt_of_le_of_lt hb ?_
 rcases hf with ⟨rfl, rfl, rfl, rfl⟩ | ⟨rfl, rfl, rfl, rfl⟩ <;> decide +kernel
structure FlW (w wr : World) (gB gF : Nat) (q : Q) (bb : Nat) (x : Bool) (fn fd : Nat) : Prop where
 old : Below w.heap.size w wr
 cx : Blk wr w.heap.size 37 #[.bool q.s, .string (dec q.n), .string (dec q.d), .bool false]
 res : Blk wr (w.heap.size + 1) 39 #[.int .i64 0, .bool false, .string ⟨#[]⟩, .bool false, .string ⟨#[]⟩, .string ⟨#[]⟩, .bool false, .int .i64 0]
 cb : Blk wr gB 129 #[.int .u64 (bb : Int), .bool x]
 cf : Blk wr gF 132 #[.string (dec fn), .string (dec fd)]
theorem refCommon_is15 {g : Nat} (a b : Nat) (w : World) (hl : (decL a).length ≤ 1000) (hl' : (decL b).length ≤ 1000) (h : Nat.gcd a b = g) : Calls Tryz.prog 69 #[.string (dec a), .string (dec b)] w (RetS (dec g) w) := by
 rw [← h]
 exact refCommon_any a b w hl hl'
theorem half_step {bb h i : Nat} (hi : 1 ≤ i) (h0 : h = bb / 2 ^ (i - 1)) : h / 2 = bb / 2 ^ (i + 1 - 1) := by
 obtain ⟨j, rfl⟩ : ∃ j, i = j + 1 := ⟨i - 1, by omega⟩
 rw [h0, Nat.div_div_eq_div_mul, Nat.add_sub_cancel, Nat.add_sub_cancel, Nat.pow_succ]
theorem rFloat_high {p u t : Nat} (q : Q) (sz : Int) (bb : Nat) (x : Bool) (fn fd : Nat) (w : World) (hf : Fm sz p u t) (hb : bb ≤ (t + u + 2) * 2 ^ (p - 1)) (hfn : FN p u bb = fn) (hfd : FD p u bb = fd) (hNear : ∀ W, Calls Tryz.prog 115 #[.agg #[.string (dec q.n), .string (dec q.d)], .int .i64 sz] W (RetBF bb x W)) (hl : bb / 2 ^ (p - 1) = t + u + 2) :
 Calls Tryz.prog 75 #[.agg #[.bool q.s, .string (dec q.n), .string (dec q.d), .bool false], .int .i64 sz] w (RetRV 0 false ⟨#[]⟩ false ⟨#[]⟩ ⟨#[]⟩ 2 w) := by
 have HNE := Lib.hid hNear; clear hNear
 have HFM := Lib.hid (And.intro hf hb); clear hb
 have HFN := Lib.hid (And.intro hfn hfd); clear hfn hfd
 have hp1 := hf.ok
 have HP := Lib.hid (And.intro hp1.1 hp1.2.1); clear hp1 hf
 have HB9 := Lib.hid (show bb < 18446744073709551616 from bb_small HFM.out.1 HFM.out.2)
 have HL := Lib.hid hl; clear hl
 obtain ⟨wa, hwa⟩ : ∃ wa, wa = (w.alloc (.cells #[.bool q.s, .string (dec q.n), .string (dec q.d), .bool false] 37)).alloc (.cells #[.int .i64 0, .bool false, .string ⟨#[]⟩, .bool false, .string ⟨#[]⟩, .string ⟨#[]⟩, .bool false, .int .i64 0] 39) := ⟨_, rfl⟩
 obtain ⟨hbl, CX, RES⟩ := kal2 hwa
 have HW := Lib.hid hbl; clear hbl
 replace CX := Lib.hid CX
 replace RES := Lib.hid RES
 go_enter Tryz.func75, Tryz.ntmps75
 go_upto_region 1 with fail
 rw [← hwa]
 clear hwa
 obtain ⟨CX0, CX1, CX2, CX3⟩ := CX.out.cs4
 go_wp2_with fail
 refine (HNE.out _).mono ?_
 rintro e w1 ⟨rfl, hbl⟩
 replace CX := hmB CX hbl
 replace RES := hmB RES hbl
 replace HW := hmW HW hbl; clear hbl
 clear CX0 CX1 CX2 CX3
 obtain ⟨CX0, CX1, CX2, CX3⟩ := CX.out.cs4
 go_upto_region 2 with fail
 obtain ⟨wb, hwb⟩ : ∃ wb, wb = w1.alloc (.cells #[.int .u64 (bb : Int), .bool x] 129) := ⟨_, rfl⟩
 rw [← hwb]
 obtain ⟨hbl, CB⟩ := sal1 hwb
 clear hwb
 replace CX := hmB CX hbl
 replace RES := hmB RES hbl
 replace HW := hmW HW hbl; clear hbl
 clear CX0 CX1 CX2 CX3
 obtain ⟨CX0, CX1, CX2, CX3⟩ := CX.out.cs4
 obtain ⟨CB0, CB1⟩ := CB.out.cs2
 go_wp2_with fail
 refine (refFrac_is HFM.out.1 bb _ HFM.out.2 HFN.out.1 HFN.out.2).mono ?_
 rintro e w2 ⟨rfl, hbl⟩
 replace CX := hmB CX hbl
 replace RES := hmB RES hbl
 replace CB := hmB CB hbl
 replace HW := hmW HW hbl; clear hbl
 clear CX0 CX1 CX2 CX3 CB0 CB1
 obtain ⟨CX0, CX1, CX2, CX3⟩ := CX.out.cs4
 obtain ⟨CB0, CB1⟩ := CB.out.cs2
 go_upto_region 3 with fail
 obtain ⟨wf, hwf⟩ : ∃ wf, wf = w2.alloc (.cells #[.string (dec fn), .string (dec fd)] 132) := ⟨_, rfl⟩
 rw [← hwf]
 obtain ⟨hbl, CF⟩ := sal1 hwf
 clear hwf
 replace CX := hmB CX hbl
 replace RES := hmB RES hbl
 replace CB := hmB CB hbl
 replace HW := hmW HW hbl; clear hbl
 clear CX0 CX1 CX2 CX3 CB0 CB1
 obtain ⟨CX0, CX1, CX2, CX3⟩ := CX.out.cs4
 obtain ⟨CB0, CB1⟩ := CB.out.cs2
 obtain ⟨CF0, CF1⟩ := CF.out.cs2
 go_wp2_with fail
 go_loopw [7, 8] (fun hv iv wr => ∃ h i : Nat, hv = .int .u64 (h : Int) ∧ iv = .int .i64 (i : Int) ∧ 1 ≤ i ∧ i ≤ p ∧ h = bb / 2 ^ (i - 1) ∧ FlW w wr (w1.heap.size) (w2.heap.size) q bb x fn fd) (fun _ iv _ => p - (intOf iv).toNat)
 case atStart => exact ⟨bb, 1, rfl, rfl, Nat.le_refl _, Nat.le_of_lt HP.out.1, by simp, ⟨HW.out, CX.out, RES.out, CB.out, CF.out⟩⟩
 case round =>
  clear HW CX RES CB CF CX0 CX1 CX2 CX3 CB0 CB1 CF0 CF1
  obtain ⟨h, i, rfl, rfl, hi1, hip, hh, hrel⟩ := hrel
  have HW := Lib.hid hrel.old
  have CX := Lib.hid hrel.cx
  have RES := Lib.hid hrel.res
  have CB := Lib.hid hrel.cb
  have CF := Lib.hid hrel.cf
  clear hrel
  have HH := Lib.hid (And.intro hi1 (And.intro hip hh)); clear hh hi1 hip
  obtain ⟨CX0, CX1, CX2, CX3⟩ := CX.out.cs4
  obtain ⟨CB0, CB1⟩ := CB.out.cs2
  obtain ⟨CF0, CF1⟩ := CF.out.cs2
  have hh9 : h ≤ bb := by rw [HH.out.2.2]; exact Nat.div_le_self _ _
  have HH9 := Lib.hid hh9; clear hh9
  go_wp2_with fail
  refine (refMant_any HFM.out.1 _).mono ?_
  rintro e w3 ⟨rfl, hbl⟩
  replace CX := hmB CX hbl
  replace RES := hmB RES hbl
  replace CB := hmB CB hbl
  replace CF := hmB CF hbl
  replace HW := hmW HW hbl; clear hbl
  clear CX0 CX1 CX2 CX3 CB0 CB1 CF0 CF1
  obtain ⟨CX0, CX1, CX2, CX3⟩ := CX.out.cs4
  obtain ⟨CB0, CB1⟩ := CB.out.cs2
  obtain ⟨CF0, CF1⟩ := CF.out.cs2
  by_cases hlt : i < p
  · have hlt' : (i : Int) < (p : Int) := by omega
    have hkw : IntKind.i64.wrap ((i : Int) + 1) = ((i + 1 : Nat) : Int) := by rw [IntKind.wrap_i64]; have := HP.out.2; omega
    obtain ⟨h2, hh2⟩ : ∃ h2, h2 = h / 2 := ⟨_, rfl⟩
    have s4 : (h : Int) / 2 = (h2 : Int) := by omega
    have s4' : (h : Int).tdiv 2 = (h2 : Int) := by rw [Int.tdiv_eq_ediv_of_nonneg (by omega)]; exact s4
    have s5 : IntKind.u64.wrap (h2 : Int) = (h2 : Int) := by rw [IntKind.wrap_u64]; have := HB9.out; have := HH9.out; omega
    have HH2 := Lib.hid hh2; clear hh2
    go_wp2
    go_roundw
    case rel => exact ⟨h2, i + 1, rfl, by go_num, by omega, by omega, by rw [HH2.out]; exact half_step HH.out.1 HH.out.2.2, ⟨HW.out, CX.out, RES.out, CB.out, CF.out⟩⟩
    case measure => simp [intOf]; omega
  · have hlt' : ¬ (i : Int) < (p : Int) := by omega
    obtain rfl : i = p := by have := HH.out.2.1; omega
    have hL := HL.out
    rw [← HH.out.2.2] at hL
    go_wp2_with fail
    refine (refHigh_is HFM.out.1 _ rfl).mono ?_
    rintro e w4 ⟨rfl, hbl⟩
    replace CX := hmB CX hbl
    replace RES := hmB RES hbl
    replace CB := hmB CB hbl
    replace CF := hmB CF hbl
    replace HW := hmW HW hbl; clear hbl
    clear CX0 CX1 CX2 CX3 CB0 CB1 CF0 CF1
    obtain ⟨CX0, CX1, CX2, CX3⟩ := CX.out.cs4
    obtain ⟨CB0, CB1⟩ := CB.out.cs2
    obtain ⟨CF0, CF1⟩ := CF.out.cs2
    have e1 : ((h : Int) == ((t + u + 2 : Nat) : Int)) = true := by simpa using congrArg Int.ofNat hL
    have e2 : (h : Int) = ((t + u + 2 : Nat) : Int) := by simpa using e1
    obtain ⟨d0, d1, d2, d3, d4, d5, d6, d7⟩ := RES.out.cs8
    obtain ⟨f0, f1, f2, f3, f4, f5, f6, f7⟩ := RES.out.fz8
    go_wp2
    exact bodyPost_ret (results_cell_row rfl _ _ (w.heap.size + 1) 39 _ (0, 0) _ rfl (RES.out.put8 _ _ _ _ _ _ _ _) Tryz.underlying39 rfl (by kernel_rfl)) rfl ⟨rfl, (bel_set8 (g := w.heap.size + 1) HW.out (by omega) _ _ _ _ _ _ _ _)⟩
theorem rFloat_low {v : Q} {k0 fs : Bool} {k e : Int} {n d : ByteArray} {g : Nat} {p u t : Nat} (q : Q) (sz : Int) (bb : Nat) (x : Bool) (fn fd : Nat) (w : World) (hf : Fm sz p u t) (hb : bb ≤ (t + u + 2) * 2 ^ (p - 1)) (hfn : FN p u bb = fn) (hfd : FD p u bb = fd) (hNear : ∀ W, Calls Tryz.prog 115 #[.agg #[.string (dec q.n), .string (dec q.d)], .int .i64 sz] W (RetBF bb x W)) (hl : ¬ bb / 2 ^ (p - 1) = t + u + 2) (hg : Nat.gcd fn fd = g) (hg0 : g ≠ 0) (l1 : (decL fn).length ≤ 340) (l2 : (decL fd).length ≤ 340) (l3 : (decL g).length ≤ 340) (hv : redQ q.s (fn / g) (fd / g) = v) (hk : overB false (fn / g) (fd / g) = k0) (hN : ∀ W, Calls Tryz.prog 76 #[.agg #[.bool v.s, .string (dec v.n), .string (dec v.d), .bool k0]] W (RetRV k false ⟨#[]⟩ fs n d e W)) :
 Calls Tryz.prog 75 #[.agg #[.bool q.s, .string (dec q.n), .string (dec q.d), .bool false], .int .i64 sz] w (RetRV k false ⟨#[]⟩ fs n d e w) := by
 have HNE := Lib.hid hNear; clear hNear
 have HFM := Lib.hid (And.intro hf hb); clear hb
 have HFN := Lib.hid (And.intro hfn hfd); clear hfn hfd
 have hp1 := hf.ok
 have HP := Lib.hid (And.intro hp1.1 hp1.2.1); clear hp1 hf
 have HB9 := Lib.hid (show bb < 18446744073709551616 from bb_small HFM.out.1 HFM.out.2)
 have HG := Lib.hid (And.intro hg (And.intro hg0 (And.intro l1 (And.intro l2 l3)))); clear hg hg0 l1 l2 l3
 have HV := Lib.hid (And.intro hv hk); clear hv hk
 have HN := Lib.hid hN; clear hN
 have HL := Lib.hid hl; clear hl
 obtain ⟨wa, hwa⟩ : ∃ wa, wa = (w.alloc (.cells #[.bool q.s, .string (dec q.n), .string (dec q.d), .bool false] 37)).alloc (.cells #[.int .i64 0, .bool false, .string ⟨#[]⟩, .bool false, .string ⟨#[]⟩, .string ⟨#[]⟩, .bool false, .int .i64 0] 39) := ⟨_, rfl⟩
 obtain ⟨hbl, CX, RES⟩ := kal2 hwa
 have HW := Lib.hid hbl; clear hbl
 replace CX := Lib.hid CX
 replace RES := Lib.hid RES
 go_enter Tryz.func75, Tryz.ntmps75
 go_upto_region 1 with fail
 rw [← hwa]
 clear hwa
 obtain ⟨CX0, CX1, CX2, CX3⟩ := CX.out.cs4
 go_wp2_with fail
 refine (HNE.out _).mono ?_
 rintro e w1 ⟨rfl, hbl⟩
 replace CX := hmB CX hbl
 replace RES := hmB RES hbl
 replace HW := hmW HW hbl; clear hbl
 clear CX0 CX1 CX2 CX3
 obtain ⟨CX0, CX1, CX2, CX3⟩ := CX.out.cs4
 go_upto_region 2 with fail
 obtain ⟨wb, hwb⟩ : ∃ wb, wb = w1.alloc (.cells #[.int .u64 (bb : Int), .bool x] 129) := ⟨_, rfl⟩
 rw [← hwb]
 obtain ⟨hbl, CB⟩ := sal1 hwb
 clear hwb
 replace CX := hmB CX hbl
 replace RES := hmB RES hbl
 replace HW := hmW HW hbl; clear hbl
 clear CX0 CX1 CX2 CX3
 obtain ⟨CX0, CX1, CX2, CX3⟩ := CX.out.cs4
 obtain ⟨CB0, CB1⟩ := CB.out.cs2
 go_wp2_with fail
 refine (refFrac_is HFM.out.1 bb _ HFM.out.2 HFN.out.1 HFN.out.2).mono ?_
 rintro e w2 ⟨rfl, hbl⟩
 replace CX := hmB CX hbl
 replace RES := hmB RES hbl
 replace CB := hmB CB hbl
 replace HW := hmW HW hbl; clear hbl
 clear CX0 CX1 CX2 CX3 CB0 CB1
 obtain ⟨CX0, CX1, CX2, CX3⟩ := CX.out.cs4
 obtain ⟨CB0, CB1⟩ := CB.out.cs2
 go_upto_region 3 with fail
 obtain ⟨wf, hwf⟩ : ∃ wf, wf = w2.alloc (.cells #[.string (dec fn), .string (dec fd)] 132) := ⟨_, rfl⟩
 rw [← hwf]
 obtain ⟨hbl, CF⟩ := sal1 hwf
 clear hwf
 replace CX := hmB CX hbl
 replace RES := hmB RES hbl
 replace CB := hmB CB hbl
 replace HW := hmW HW hbl; clear hbl
 clear CX0 CX1 CX2 CX3 CB0 CB1
 obtain ⟨CX0, CX1, CX2, CX3⟩ := CX.out.cs4
 obtain ⟨CB0, CB1⟩ := CB.out.cs2
 obtain ⟨CF0, CF1⟩ := CF.out.cs2
 go_wp2_with fail
 go_loopw [7, 8] (fun hv iv wr => ∃ h i : Nat, hv = .int .u64 (h : Int) ∧ iv = .int .i64 (i : Int) ∧ 1 ≤ i ∧ i ≤ p ∧ h = bb / 2 ^ (i - 1) ∧ FlW w wr (w1.heap.size) (w2.heap.size) q bb x fn fd) (fun _ iv _ => p - (intOf iv).toNat)
 case atStart => exact ⟨bb, 1, rfl, rfl, Nat.le_refl _, Nat.le_of_lt HP.out.1, by simp, ⟨HW.out, CX.out, RES.out, CB.out, CF.out⟩⟩
 case round =>
  clear HW CX RES CB CF CX0 CX1 CX2 CX3 CB0 CB1 CF0 CF1
  obtain ⟨h, i, rfl, rfl, hi1, hip, hh, hrel⟩ := hrel
  have HW := Lib.hid hrel.old
  have CX := Lib.hid hrel.cx
  have RES := Lib.hid hrel.res
  have CB := Lib.hid hrel.cb
  have CF := Lib.hid hrel.cf
  clear hrel
  have HH := Lib.hid (And.intro hi1 (And.intro hip hh)); clear hh hi1 hip
  obtain ⟨CX0, CX1, CX2, CX3⟩ := CX.out.cs4
  obtain ⟨CB0, CB1⟩ := CB.out.cs2
  obtain ⟨CF0, CF1⟩ := CF.out.cs2
  have hh9 : h ≤ bb := by rw [HH.out.2.2]; exact Nat.div_le_self _ _
  have HH9 := Lib.hid hh9; clear hh9
  go_wp2_with fail
  refine (refMant_any HFM.out.1 _).mono ?_
  rintro e w3 ⟨rfl, hbl⟩
  replace CX := hmB CX hbl
  replace RES := hmB RES hbl
  replace CB := hmB CB hbl
  replace CF := hmB CF hbl
  replace HW := hmW HW hbl; clear hbl
  clear CX0 CX1 CX2 CX3 CB0 CB1 CF0 CF1
  obtain ⟨CX0, CX1, CX2, CX3⟩ := CX.out.cs4
  obtain ⟨CB0, CB1⟩ := CB.out.cs2
  obtain ⟨CF0, CF1⟩ := CF.out.cs2
  by_cases hlt : i < p
  · have hlt' : (i : Int) < (p : Int) := by omega
    have hkw : IntKind.i64.wrap ((i : Int) + 1) = ((i + 1 : Nat) : Int) := by rw [IntKind.wrap_i64]; have := HP.out.2; omega
    obtain ⟨h2, hh2⟩ : ∃ h2, h2 = h / 2 := ⟨_, rfl⟩
    have s4 : (h : Int) / 2 = (h2 : Int) := by omega
    have s4' : (h : Int).tdiv 2 = (h2 : Int) := by rw [Int.tdiv_eq_ediv_of_nonneg (by omega)]; exact s4
    have s5 : IntKind.u64.wrap (h2 : Int) = (h2 : Int) := by rw [IntKind.wrap_u64]; have := HB9.out; have := HH9.out; omega
    have HH2 := Lib.hid hh2; clear hh2
    go_wp2
    go_roundw
    case rel => exact ⟨h2, i + 1, rfl, by go_num, by omega, by omega, by rw [HH2.out]; exact half_step HH.out.1 HH.out.2.2, ⟨HW.out, CX.out, RES.out, CB.out, CF.out⟩⟩
    case measure => simp [intOf]; omega
  · have hlt' : ¬ (i : Int) < (p : Int) := by omega
    obtain rfl : i = p := by have := HH.out.2.1; omega
    have hL := HL.out
    rw [← HH.out.2.2] at hL
    go_wp2_with fail
    refine (refHigh_is HFM.out.1 _ rfl).mono ?_
    rintro e w4 ⟨rfl, hbl⟩
    replace CX := hmB CX hbl
    replace RES := hmB RES hbl
    replace CB := hmB CB hbl
    replace CF := hmB CF hbl
    replace HW := hmW HW hbl; clear hbl
    clear CX0 CX1 CX2 CX3 CB0 CB1 CF0 CF1
    obtain ⟨CX0, CX1, CX2, CX3⟩ := CX.out.cs4
    obtain ⟨CB0, CB1⟩ := CB.out.cs2
    obtain ⟨CF0, CF1⟩ := CF.out.cs2
    have e2 : ¬ (h : Int) = ((t + u + 2 : Nat) : Int) := by omega
    have e1 : ((h : Int) == ((t + u + 2 : Nat) : Int)) = false := by simpa using e2
    go_wp2_with fail
    refine (refCommon_is15 fn fd _ (Nat.le_trans HG.out.2.2.1 (by decide)) (Nat.le_trans HG.out.2.2.2.1 (by decide)) HG.out.1).mono ?_
    rintro e w5 ⟨rfl, hbl⟩
    replace CX := hmB CX hbl
    replace RES := hmB RES hbl
    replace CB := hmB CB hbl
    replace CF := hmB CF hbl
    replace HW := hmW HW hbl; clear hbl
    clear CX0 CX1 CX2 CX3 CB0 CB1 CF0 CF1
    obtain ⟨CX0, CX1, CX2, CX3⟩ := CX.out.cs4
    obtain ⟨CB0, CB1⟩ := CB.out.cs2
    obtain ⟨CF0, CF1⟩ := CF.out.cs2
    go_upto_region 11 with fail
    refine wp_region_typed 15 (TOf [VIs (.pointer (some ⟨w.heap.size, 0, none⟩)),
     VIs (.bool q.s),
     VIs (.pointer (some ⟨w2.heap.size, 0, none⟩)),
     VIs (.string (dec fn)),
     VIs (.string (dec g)),
     VIs (.agg #[.string (dec (fn / g)), .string (dec (fn % g))]),
     VIs (.string (dec (fn / g))),
     VIs (.pointer (some ⟨w2.heap.size, 1, none⟩)),
     VIs (.string (dec fd)),
     VIs (.string (dec g)),
     VIs (.agg #[.string (dec (fd / g)), .string (dec (fd % g))]),
     VIs (.string (dec (fd / g))),
     VIs (.agg #[.bool q.s, .string (dec (fn / g)), .string (dec (fd / g)), .bool false]),
     VIs (.agg #[.bool v.s, .string (dec v.n), .string (dec v.d), .bool k0]),
     VIs (.agg #[.int .i64 k, .bool false, .string ⟨#[]⟩, .bool fs, .string n, .string d, .bool false, .int .i64 e])]) (by kernel_rfl) (by kernel_rfl) (by kernel_rfl) (LiftAll.at_ (.cons (VIs.lift _) (.cons (VIs.lift _) (.cons (VIs.lift _) (.cons (VIs.lift _) (.cons (VIs.lift _) (.cons (VIs.lift _) (.cons (VIs.lift _) (.cons (VIs.lift _) (.cons (VIs.lift _) (.cons (VIs.lift _) (.cons (VIs.lift _) (.cons (VIs.lift _) (.cons (VIs.lift _) (.cons (VIs.lift _) (.cons (VIs.lift _) .nil)))))))))))))))) (steps_all (steps_cons ?_ (steps_cons ?_ (steps_cons ?_ (steps_cons ?_ (steps_cons ?_ (steps_cons ?_ (steps_cons ?_ (steps_cons ?_ (steps_cons ?_ (steps_cons ?_ (steps_cons ?_ (steps_cons ?_ (steps_cons ?_ (steps_cons ?_ (steps_cons ?_ steps_zero)))))))))))))))) ?fin
    · intro a0 w9 K9 hF hB hK hC
      have b2 := hF.base (k := 2) (by kernel_rfl) rfl
      clear hF hB hK
      go_simp
      exact hC _ _ (bR _) fun _ _ => rfl
    · intro a0 w9 K9 hF hB hK hC
      have e41 := depV hK 0 rfl rfl rfl rfl
      have x9 := (CX.out.below hB CX.out.lt).c0
      clear hF hB hK
      go_simp
      exact hC _ _ (bR _) fun _ _ => rfl
    · intro a0 w9 K9 hF hB hK hC
      have b6 := hF.base (k := 6) (by kernel_rfl) rfl
      clear hF hB hK
      go_simp
      exact hC _ _ (bR _) fun _ _ => rfl
    · intro a0 w9 K9 hF hB hK hC
      have e43 := depV hK 0 rfl rfl rfl rfl
      have x9 := (CF.out.below hB CF.out.lt).c0
      clear hF hB hK
      go_simp
      exact hC _ _ (bR _) fun _ _ => rfl
    · intro a0 w9 K9 hF hB hK hC
      have b9 := hF.base (k := 9) (by kernel_rfl) rfl
      clear hF hB hK
      go_simp
      exact hC _ _ (bR _) fun _ _ => rfl
    · intro a0 w9 K9 hF hB hK hC
      have e44 := depV hK 0 rfl rfl rfl rfl
      have e45 := depV hK 1 rfl rfl rfl rfl
      have HB9 := Lib.hid hB
      clear hF hB hK
      go_simp
      refine (refDiv_agg fn g _ (Nat.le_trans HG.out.2.2.1 (by decide)) (Nat.le_trans HG.out.2.2.2.2 (by decide)) HG.out.2.1).mono ?_
      rintro e w7 ⟨rfl, hbl⟩
      exact hC _ _ hbl fun _ _ => rfl
    · intro a0 w9 K9 hF hB hK hC
      have e46 := depV hK 0 rfl rfl rfl rfl
      have HB9 := Lib.hid hB
      clear hF hB hK
      go_simp
      exact hC _ _ (bR _) fun _ _ => rfl
    · intro a0 w9 K9 hF hB hK hC
      have b6 := hF.base (k := 6) (by kernel_rfl) rfl
      clear hF hB hK
      go_simp
      exact hC _ _ (bR _) fun _ _ => rfl
    · intro a0 w9 K9 hF hB hK hC
      have e48 := depV hK 0 rfl rfl rfl rfl
      have x9 := (CF.out.below hB CF.out.lt).c1
      clear hF hB hK
      go_simp
      exact hC _ _ (bR _) fun _ _ => rfl
    · intro a0 w9 K9 hF hB hK hC
      have b9 := hF.base (k := 9) (by kernel_rfl) rfl
      clear hF hB hK
      go_simp
      exact hC _ _ (bR _) fun _ _ => rfl
    · intro a0 w9 K9 hF hB hK hC
      have e49 := depV hK 0 rfl rfl rfl rfl
      have e50 := depV hK 1 rfl rfl rfl rfl
      have HB9 := Lib.hid hB
      clear hF hB hK
      go_simp
      refine (refDiv_agg fd g _ (Nat.le_trans HG.out.2.2.2.1 (by decide)) (Nat.le_trans HG.out.2.2.2.2 (by decide)) HG.out.2.1).mono ?_
      rintro e w7 ⟨rfl, hbl⟩
      exact hC _ _ hbl fun _ _ => rfl
    · intro a0 w9 K9 hF hB hK hC
      have e51 := depV hK 0 rfl rfl rfl rfl
      have HB9 := Lib.hid hB
      clear hF hB hK
      go_simp
      exact hC _ _ (bR _) fun _ _ => rfl
    · intro a0 w9 K9 hF hB hK hC
      have e42 := depV hK 0 rfl rfl rfl rfl
      have e47 := depV hK 1 rfl rfl rfl rfl
      have e52 := depV hK 2 rfl rfl rfl rfl
      have HB9 := Lib.hid hB
      clear hF hB hK
      go_simp
      exact hC _ _ (bR _) fun _ _ => rfl
    · intro a0 w9 K9 hF hB hK hC
      have e53 := depV hK 0 rfl rfl rfl rfl
      have HB9 := Lib.hid hB
      clear hF hB hK
      go_simp
      refine (refRed_q q.s (fn / g) (fd / g) false _ (Nat.le_trans (decL_mono (Nat.div_le_self _ _)) (Nat.le_trans HG.out.2.2.1 (by decide))) (Nat.le_trans (decL_mono (Nat.div_le_self _ _)) (Nat.le_trans HG.out.2.2.2.1 (by decide))) HV.out.1 HV.out.2).mono ?_
      rintro e w7 ⟨rfl, hbl⟩
      exact hC _ _ hbl fun _ _ => rfl
    · intro a0 w9 K9 hF hB hK hC
      have e54 := depV hK 0 rfl rfl rfl rfl
      have HB9 := Lib.hid hB
      clear hF hB hK
      go_simp
      refine (HN.out _).mono ?_
      rintro e w7 ⟨rfl, hbl⟩
      exact hC _ _ hbl fun _ _ => rfl
    case fin =>
     intro a0 w9 hF hB hK
     have b2 := hF.base (k := 2) (by kernel_rfl) rfl
     have b4 := hF.base (k := 4) (by kernel_rfl) rfl
     have b6 := hF.base (k := 6) (by kernel_rfl) rfl
     have b9 := hF.base (k := 9) (by kernel_rfl) rfl
     have hsz := hF.size
     have hdf := hF.defers
     clear hF
     obtain ⟨v55, e55, z55⟩ := known hK 14 (k := 55) (by decide) rfl
     have z55 : v55 = .agg #[.int .i64 k, .bool false, .string ⟨#[]⟩, .bool fs, .string n, .string d, .bool false, .int .i64 e] := z55
     subst z55
     clear hK
     obtain ⟨⟨l0⟩, df⟩ := a0
     have hs0 : l0.length = 56 := hsz
     clear hsz
     replace hdf : df = _ := hdf
     subst hdf
     obtain ⟨u, rfl⟩ := lits_56 hs0
     clear hs0
     generalize hAr : (Array.mk [u 0, u 1, u 2, u 3, u 4, u 5, u 6, u 7, u 8, u 9, u 10, u 11, u 12, u 13, u 14, u 15, u 16, u 17, u 18, u 19, u 20, u 21, u 22, u 23, u 24, u 25, u 26, u 27, u 28, u 29, u 30, u 31, u 32, u 33, u 34, u 35, u 36, u 37, u 38, u 39, u 40, u 41, u 42, u 43, u 44, u 45, u 46, u 47, u 48, u 49, u 50, u 51, u 52, u 53, u 54, u 55] : Array Value) = ar
     obtain rfl : ar = #[u 0, u 1, u 2, u 3, u 4, u 5, u 6, u 7, u 8, u 9, u 10, u 11, u 12, u 13, u 14, u 15, u 16, u 17, u 18, u 19, u 20, u 21, u 22, u 23, u 24, u 25, u 26, u 27, u 28, u 29, u 30, u 31, u 32, u 33, u 34, u 35, u 36, u 37, u 38, u 39, u 40, u 41, u 42, u 43, u 44, u 45, u 46, u 47, u 48, u 49, u 50, u 51, u 52, u 53, u 54, u 55] := hAr.symm
     have q2 : u 2 = _ := Option.some.inj b2
     clear b2
     have q4 : u 4 = _ := Option.some.inj b4
     clear b4
     have q6 : u 6 = _ := Option.some.inj b6
     clear b6
     have q9 : u 9 = _ := Option.some.inj b9
     clear b9
     have q55 : u 55 = _ := Option.some.inj e55
     clear e55
     rw [q2, q4, q6, q9, q55]
     clear q2 q4 q6 q9 q55
     have hbl := hB; clear hB
     replace CX := hmB CX hbl
     replace RES := hmB RES hbl
     replace CB := hmB CB hbl
     replace CF := hmB CF hbl
     replace HW := hmW HW hbl; clear hbl
     clear CX0 CX1 CX2 CX3 CB0 CB1 CF0 CF1
     obtain ⟨CX0, CX1, CX2, CX3⟩ := CX.out.cs4
     obtain ⟨CB0, CB1⟩ := CB.out.cs2
     obtain ⟨CF0, CF1⟩ := CF.out.cs2
     simp only [List.drop_succ_cons, List.drop_zero]
     obtain ⟨d0, d1, d2, d3, d4, d5, d6, d7⟩ := RES.out.cs8
     obtain ⟨f0, f1, f2, f3, f4, f5, f6, f7⟩ := RES.out.fz8
     go_wp2
     exact bodyPost_ret (results_cell_row rfl _ _ (w.heap.size + 1) 39 _ (0, 0) _ rfl (RES.out.put8 _ _ _ _ _ _ _ _) Tryz.underlying39 rfl (by kernel_rfl)) rfl ⟨rfl, (bel_set8 (g := w.heap.size + 1) HW.out (by omega) _ _ _ _ _ _ _ _)⟩
end
end Go.Proofs.YtmbbdjpnecjleaaGreat
