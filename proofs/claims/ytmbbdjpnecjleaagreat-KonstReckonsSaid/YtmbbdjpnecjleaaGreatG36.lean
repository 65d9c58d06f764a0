/-
 Parts: K19.
-/
import Derived.Test.YtmbbdjpnecjleaaGreatG23
import Derived.Test.YtmbbdjpnecjleaaGreatG27
import Derived.Test.YtmbbdjpnecjleaaGreatG30
namespace Go.Proofs.YtmbbdjpnecjleaaGreat
section
set_option maxRecDepth 100000
set_option maxHeartbeats 1000000
open Go.RowKit

def inB (L : List ByteArray) (s : ByteArray) : Bool := L.any fun x => x.toList == s.toList
theorem rIn_is {v : Bool} {n : Nat} (L : List ByteArray) (g : Nat) (s : ByteArray) (w : World) (hn : n = L.length) (hL : ∀ i, i < n → w.cell? ⟨g, i, none⟩ = some (.string (L.getD i ⟨#[]⟩))) (hl : n ≤ 100) (hv : inB L s = v) :
 Calls Tryz.prog 37 #[.slice (some ⟨g, 0, none⟩) n n, .string s] w (RetB0 v w) := by
 have HL := Lib.hid hL; clear hL
 have HN := Lib.hid hn; clear hn
 go_enter Tryz.func37, Tryz.ntmps37
 go_wp2
 go_loopw [9] (fun i wr => ∃ k : Nat, k ≤ n ∧ i = .int .i64 k ∧ inB (L.drop k) s = v ∧ wr = w) (fun i _ => n - (intOf i).toNat)
 case atStart => exact ⟨0, Nat.zero_le _, rfl, hv, rfl⟩
 case round =>
  obtain ⟨k, hk, rfl, hc, rfl⟩ := hrel
  by_cases hlt : k < n
  · have hlt' : (k : Int) < (n : Int) := by omega
    have hk0 : (0 : Int) ≤ (k : Int) := by omega
    have hcell := HL.out k hlt
    have hstep : Hid (inB (L.drop k) s = ((L.getD k ⟨#[]⟩).toList == s.toList || inB (L.drop (k + 1)) s)) := by
     show _ = _
     have hk2 : k < L.length := by rw [← HN.out]; exact hlt
     unfold inB
     rw [List.drop_eq_getElem_cons hk2, List.any_cons]
     simp [List.getD, hk2]
    obtain ⟨x, hx⟩ : ∃ x, L.getD k ⟨#[]⟩ = x := ⟨_, rfl⟩
    rw [hx] at hcell hstep
    clear hx
    have HC := Lib.hid hc; clear hc
    have hkw : IntKind.i64.wrap ((k : Int) + 1) = ((k + 1 : Nat) : Int) := by rw [IntKind.wrap_i64]; omega
    by_cases he : x = s
    · subst he
      go_wp2
      go_ret
      refine ⟨?_, rfl⟩
      rw [← HC.out, hstep.out]
      simp
    · have hne : ¬ x.toList = s.toList := str_ne he
      have hne2 : (x.toList == s.toList) = false := by simpa using hne
      go_wp2
      go_roundw
      case rel => exact ⟨k + 1, by omega, by go_num, by rw [← HC.out, hstep.out, hne2, Bool.false_or], by first | rfl | trivial⟩
      case measure => simp [intOf]; omega
  · have hlt' : ¬ (k : Int) < (n : Int) := by omega
    have hkn : k = L.length := by rw [← HN.out]; omega
    go_wp2
    go_ret
    refine ⟨?_, rfl⟩
    rw [← hc, hkn]
    simp [inB]
def ops8 : List ByteArray := [⟨#[43]⟩, ⟨#[45]⟩, ⟨#[42]⟩, ⟨#[47]⟩, ⟨#[37]⟩, ⟨#[38]⟩, ⟨#[124]⟩, ⟨#[94]⟩]
theorem rIn8_is {v : Bool} (g : Nat) (t : TypeId) (s : ByteArray) (w : World) (hB : Blk w g t #[.string ⟨#[43]⟩, .string ⟨#[45]⟩, .string ⟨#[42]⟩, .string ⟨#[47]⟩, .string ⟨#[37]⟩, .string ⟨#[38]⟩, .string ⟨#[124]⟩, .string ⟨#[94]⟩]) (hv : inB ops8 s = v) : Calls Tryz.prog 37 #[.slice (some ⟨g, 0, none⟩) 8 8, .string s] w (RetB0 v w) :=
 rIn_is ops8 g s w rfl (fun i hi => by
  rw [hB.cell]
  have hc : i = 0 ∨ i = 1 ∨ i = 2 ∨ i = 3 ∨ i = 4 ∨ i = 5 ∨ i = 6 ∨ i = 7 := by omega
  rcases hc with rfl | rfl | rfl | rfl | rfl | rfl | rfl | rfl <;> rfl) (by decide) hv
def ops4 : List ByteArray := [⟨#[37]⟩, ⟨#[38]⟩, ⟨#[124]⟩, ⟨#[94]⟩]
theorem rIn4_is {v : Bool} (g : Nat) (t : TypeId) (s : ByteArray) (w : World) (hB : Blk w g t #[.string ⟨#[37]⟩, .string ⟨#[38]⟩, .string ⟨#[124]⟩, .string ⟨#[94]⟩]) (hv : inB ops4 s = v) : Calls Tryz.prog 37 #[.slice (some ⟨g, 0, none⟩) 4 4, .string s] w (RetB0 v w) :=
 rIn_is ops4 g s w rfl (fun i hi => by
  rw [hB.cell]
  have hc : i = 0 ∨ i = 1 ∨ i = 2 ∨ i = 3 := by omega
  rcases hc with rfl | rfl | rfl | rfl <;> rfl) (by decide) hv
set_option maxHeartbeats 4000000 in
theorem rBin_and {ba bb fa fb : Bool} {sa sb na nb da db : ByteArray} (t : Int) (w : World) (ht : truthB t = true) :
 Calls Tryz.prog 11 #[.string ⟨#[38, 38]⟩, .agg #[.int .i64 1, .bool ba, .string sa, .bool fa, .string na, .string da, .bool false, .int .i64 0], .agg #[.int .i64 1, .bool bb, .string sb, .bool fb, .string nb, .string db, .bool false, .int .i64 0], .int .i64 t] w (RetRV 1 (ba && bb) ⟨#[]⟩ false ⟨#[]⟩ ⟨#[]⟩ 0 w) := by
 have KT := Lib.hid (fun W => rTruth_is t W ht); clear ht
 obtain ⟨wa, hwa⟩ : ∃ wa, wa = ((w.alloc (.cells #[.int .i64 1, .bool ba, .string sa, .bool fa, .string na, .string da, .bool false, .int .i64 0] 39)).alloc (.cells #[.int .i64 1, .bool bb, .string sb, .bool fb, .string nb, .string db, .bool false, .int .i64 0] 39)).alloc (.cells #[.int .i64 0, .bool false, .string ⟨#[]⟩, .bool false, .string ⟨#[]⟩, .string ⟨#[]⟩, .bool false, .int .i64 0] 39) := ⟨_, rfl⟩
 obtain ⟨hbl, CX, CY, RES⟩ := kal3 hwa
 have HW := Lib.hid hbl; clear hbl
 replace CX := Lib.hid CX
 replace CY := Lib.hid CY
 replace RES := Lib.hid RES
 go_enter Tryz.func11, Tryz.ntmps11
 go_upto_region 1 with fail
 rw [← hwa]
 clear hwa
 obtain ⟨CX0, CX1, CX2, CX3, CX4, CX5, CX6, CX7⟩ := CX.out.cs8
 obtain ⟨CY0, CY1, CY2, CY3, CY4, CY5, CY6, CY7⟩ := CY.out.cs8
 go_wp2_with fail
 refine (KT.out _).mono ?_
 rintro e wv ⟨rfl, hwv⟩
 obtain rfl := hwv.symm
 clear hwv
 cases ba
 · cases bb
   · obtain ⟨d0, d1, d2, d3, d4, d5, d6, d7⟩ := RES.out.cs8
     obtain ⟨f0, f1, f2, f3, f4, f5, f6, f7⟩ := RES.out.fz8
     go_wp2
     exact bodyPost_ret (results_cell_row rfl _ _ (w.heap.size + 2) 39 _ (0, 0) _ rfl (RES.out.put8 _ _ _ _ _ _ _ _) Tryz.underlying39 rfl (by kernel_rfl)) rfl ⟨rfl, (bel_set8 (g := w.heap.size + 2) HW.out (by omega) _ _ _ _ _ _ _ _)⟩
   · obtain ⟨d0, d1, d2, d3, d4, d5, d6, d7⟩ := RES.out.cs8
     obtain ⟨f0, f1, f2, f3, f4, f5, f6, f7⟩ := RES.out.fz8
     go_wp2
     exact bodyPost_ret (results_cell_row rfl _ _ (w.heap.size + 2) 39 _ (0, 0) _ rfl (RES.out.put8 _ _ _ _ _ _ _ _) Tryz.underlying39 rfl (by kernel_rfl)) rfl ⟨rfl, (bel_set8 (g := w.heap.size + 2) HW.out (by omega) _ _ _ _ _ _ _ _)⟩
 · cases bb
   · obtain ⟨d0, d1, d2, d3, d4, d5, d6, d7⟩ := RES.out.cs8
     obtain ⟨f0, f1, f2, f3, f4, f5, f6, f7⟩ := RES.out.fz8
     go_wp2
     exact bodyPost_ret (results_cell_row rfl _ _ (w.heap.size + 2) 39 _ (0, 0) _ rfl (RES.out.put8 _ _ _ _ _ _ _ _) Tryz.underlying39 rfl (by kernel_rfl)) rfl ⟨rfl, (bel_set8 (g := w.heap.size + 2) HW.out (by omega) _ _ _ _ _ _ _ _)⟩
   · obtain ⟨d0, d1, d2, d3, d4, d5, d6, d7⟩ := RES.out.cs8
     obtain ⟨f0, f1, f2, f3, f4, f5, f6, f7⟩ := RES.out.fz8
     go_wp2
     exact bodyPost_ret (results_cell_row rfl _ _ (w.heap.size + 2) 39 _ (0, 0) _ rfl (RES.out.put8 _ _ _ _ _ _ _ _) Tryz.underlying39 rfl (by kernel_rfl)) rfl ⟨rfl, (bel_set8 (g := w.heap.size + 2) HW.out (by omega) _ _ _ _ _ _ _ _)⟩
theorem rBin_andt {ka kb : Int} {ba bb fa fb : Bool} {sa sb na nb da db : ByteArray} (t : Int) (w : World) (hx : ¬ (ka = 1 ∧ kb = 1 ∧ truthB t = true)) :
 Calls Tryz.prog 11 #[.string ⟨#[38, 38]⟩, .agg #[.int .i64 ka, .bool ba, .string sa, .bool fa, .string na, .string da, .bool false, .int .i64 0], .agg #[.int .i64 kb, .bool bb, .string sb, .bool fb, .string nb, .string db, .bool false, .int .i64 0], .int .i64 t] w (RetRV 0 false ⟨#[]⟩ false ⟨#[]⟩ ⟨#[]⟩ 11 w) := by
 obtain ⟨v, hv⟩ : ∃ v, truthB t = v := ⟨_, rfl⟩
 have KT := Lib.hid (fun W => rTruth_is t W hv)
 rw [hv] at hx; clear hv
 have hka : ka = 1 ∨ ((ka != 1) = true ∧ ¬ ka = 1) := by by_cases h : ka = 1 <;> simp [h]
 have hkb : kb = 1 ∨ ((kb != 1) = true ∧ ¬ kb = 1) := by by_cases h : kb = 1 <;> simp [h]
 obtain ⟨wa, hwa⟩ : ∃ wa, wa = ((w.alloc (.cells #[.int .i64 ka, .bool ba, .string sa, .bool fa, .string na, .string da, .bool false, .int .i64 0] 39)).alloc (.cells #[.int .i64 kb, .bool bb, .string sb, .bool fb, .string nb, .string db, .bool false, .int .i64 0] 39)).alloc (.cells #[.int .i64 0, .bool false, .string ⟨#[]⟩, .bool false, .string ⟨#[]⟩, .string ⟨#[]⟩, .bool false, .int .i64 0] 39) := ⟨_, rfl⟩
 obtain ⟨hbl, CX, CY, RES⟩ := kal3 hwa
 have HW := Lib.hid hbl; clear hbl
 replace CX := Lib.hid CX
 replace CY := Lib.hid CY
 replace RES := Lib.hid RES
 go_enter Tryz.func11, Tryz.ntmps11
 go_upto_region 1 with fail
 rw [← hwa]
 clear hwa
 obtain ⟨CX0, CX1, CX2, CX3, CX4, CX5, CX6, CX7⟩ := CX.out.cs8
 obtain ⟨CY0, CY1, CY2, CY3, CY4, CY5, CY6, CY7⟩ := CY.out.cs8
 rcases hka with rfl | ⟨hka, hka2⟩
 · rcases hkb with rfl | ⟨hkb, hkb2⟩
   · obtain rfl : v = false := by simpa using hx
     clear hx
     go_wp2_with fail
     refine (KT.out _).mono ?_
     rintro e wv ⟨rfl, hwv⟩
     obtain rfl := hwv.symm
     clear hwv
     obtain ⟨d0, d1, d2, d3, d4, d5, d6, d7⟩ := RES.out.cs8
     obtain ⟨f0, f1, f2, f3, f4, f5, f6, f7⟩ := RES.out.fz8
     go_wp2
     exact bodyPost_ret (results_cell_row rfl _ _ (w.heap.size + 2) 39 _ (0, 0) _ rfl (RES.out.put8 _ _ _ _ _ _ _ _) Tryz.underlying39 rfl (by kernel_rfl)) rfl ⟨rfl, (bel_set8 (g := w.heap.size + 2) HW.out (by omega) _ _ _ _ _ _ _ _)⟩
   · clear hx
     obtain ⟨d0, d1, d2, d3, d4, d5, d6, d7⟩ := RES.out.cs8
     obtain ⟨f0, f1, f2, f3, f4, f5, f6, f7⟩ := RES.out.fz8
     go_wp2
     exact bodyPost_ret (results_cell_row rfl _ _ (w.heap.size + 2) 39 _ (0, 0) _ rfl (RES.out.put8 _ _ _ _ _ _ _ _) Tryz.underlying39 rfl (by kernel_rfl)) rfl ⟨rfl, (bel_set8 (g := w.heap.size + 2) HW.out (by omega) _ _ _ _ _ _ _ _)⟩
 · clear hx hkb
   obtain ⟨d0, d1, d2, d3, d4, d5, d6, d7⟩ := RES.out.cs8
   obtain ⟨f0, f1, f2, f3, f4, f5, f6, f7⟩ := RES.out.fz8
   go_wp2
   exact bodyPost_ret (results_cell_row rfl _ _ (w.heap.size + 2) 39 _ (0, 0) _ rfl (RES.out.put8 _ _ _ _ _ _ _ _) Tryz.underlying39 rfl (by kernel_rfl)) rfl ⟨rfl, (bel_set8 (g := w.heap.size + 2) HW.out (by omega) _ _ _ _ _ _ _ _)⟩
set_option maxHeartbeats 4000000 in
theorem rBin_or {ba bb fa fb : Bool} {sa sb na nb da db : ByteArray} (t : Int) (w : World) (ht : truthB t = true) :
 Calls Tryz.prog 11 #[.string ⟨#[124, 124]⟩, .agg #[.int .i64 1, .bool ba, .string sa, .bool fa, .string na, .string da, .bool false, .int .i64 0], .agg #[.int .i64 1, .bool bb, .string sb, .bool fb, .string nb, .string db, .bool false, .int .i64 0], .int .i64 t] w (RetRV 1 (ba || bb) ⟨#[]⟩ false ⟨#[]⟩ ⟨#[]⟩ 0 w) := by
 have KT := Lib.hid (fun W => rTruth_is t W ht); clear ht
 obtain ⟨wa, hwa⟩ : ∃ wa, wa = ((w.alloc (.cells #[.int .i64 1, .bool ba, .string sa, .bool fa, .string na, .string da, .bool false, .int .i64 0] 39)).alloc (.cells #[.int .i64 1, .bool bb, .string sb, .bool fb, .string nb, .string db, .bool false, .int .i64 0] 39)).alloc (.cells #[.int .i64 0, .bool false, .string ⟨#[]⟩, .bool false, .string ⟨#[]⟩, .string ⟨#[]⟩, .bool false, .int .i64 0] 39) := ⟨_, rfl⟩
 obtain ⟨hbl, CX, CY, RES⟩ := kal3 hwa
 have HW := Lib.hid hbl; clear hbl
 replace CX := Lib.hid CX
 replace CY := Lib.hid CY
 replace RES := Lib.hid RES
 go_enter Tryz.func11, Tryz.ntmps11
 go_upto_region 1 with fail
 rw [← hwa]
 clear hwa
 obtain ⟨CX0, CX1, CX2, CX3, CX4, CX5, CX6, CX7⟩ := CX.out.cs8
 obtain ⟨CY0, CY1, CY2, CY3, CY4, CY5, CY6, CY7⟩ := CY.out.cs8
 go_wp2_with fail
 refine (KT.out _).mono ?_
 rintro e wv ⟨rfl, hwv⟩
 obtain rfl := hwv.symm
 clear hwv
 cases ba
 · cases bb
   · obtain ⟨d0, d1, d2, d3, d4, d5, d6, d7⟩ := RES.out.cs8
     obtain ⟨f0, f1, f2, f3, f4, f5, f6, f7⟩ := RES.out.fz8
     go_wp2
     exact bodyPost_ret (results_cell_row rfl _ _ (w.heap.size + 2) 39 _ (0, 0) _ rfl (RES.out.put8 _ _ _ _ _ _ _ _) Tryz.underlying39 rfl (by kernel_rfl)) rfl ⟨rfl, (bel_set8 (g := w.heap.size + 2) HW.out (by omega) _ _ _ _ _ _ _ _)⟩
   · obtain ⟨d0, d1, d2, d3, d4, d5, d6, d7⟩ := RES.out.cs8
     obtain ⟨f0, f1, f2, f3, f4, f5, f6, f7⟩ := RES.out.fz8
     go_wp2
     exact bodyPost_ret (results_cell_row rfl _ _ (w.heap.size + 2) 39 _ (0, 0) _ rfl (RES.out.put8 _ _ _ _ _ _ _ _) Tryz.underlying39 rfl (by kernel_rfl)) rfl ⟨rfl, (bel_set8 (g := w.heap.size + 2) HW.out (by omega) _ _ _ _ _ _ _ _)⟩
 · cases bb
   · obtain ⟨d0, d1, d2, d3, d4, d5, d6, d7⟩ := RES.out.cs8
     obtain ⟨f0, f1, f2, f3, f4, f5, f6, f7⟩ := RES.out.fz8
     go_wp2
     exact bodyPost_ret (results_cell_row rfl _ _ (w.heap.size + 2) 39 _ (0, 0) _ rfl (RES.out.put8 _ _ _ _ _ _ _ _) Tryz.underlying39 rfl (by kernel_rfl)) rfl ⟨rfl, (bel_set8 (g := w.heap.size + 2) HW.out (by omega) _ _ _ _ _ _ _ _)⟩
   · obtain ⟨d0, d1, d2, d3, d4, d5, d6, d7⟩ := RES.out.cs8
     obtain ⟨f0, f1, f2, f3, f4, f5, f6, f7⟩ := RES.out.fz8
     go_wp2
     exact bodyPost_ret (results_cell_row rfl _ _ (w.heap.size + 2) 39 _ (0, 0) _ rfl (RES.out.put8 _ _ _ _ _ _ _ _) Tryz.underlying39 rfl (by kernel_rfl)) rfl ⟨rfl, (bel_set8 (g := w.heap.size + 2) HW.out (by omega) _ _ _ _ _ _ _ _)⟩
theorem rBin_ort {ka kb : Int} {ba bb fa fb : Bool} {sa sb na nb da db : ByteArray} (t : Int) (w : World) (hx : ¬ (ka = 1 ∧ kb = 1 ∧ truthB t = true)) :
 Calls Tryz.prog 11 #[.string ⟨#[124, 124]⟩, .agg #[.int .i64 ka, .bool ba, .string sa, .bool fa, .string na, .string da, .bool false, .int .i64 0], .agg #[.int .i64 kb, .bool bb, .string sb, .bool fb, .string nb, .string db, .bool false, .int .i64 0], .int .i64 t] w (RetRV 0 false ⟨#[]⟩ false ⟨#[]⟩ ⟨#[]⟩ 11 w) := by
 obtain ⟨v, hv⟩ : ∃ v, truthB t = v := ⟨_, rfl⟩
 have KT := Lib.hid (fun W => rTruth_is t W hv)
 rw [hv] at hx; clear hv
 have hka : ka = 1 ∨ ((ka != 1) = true ∧ ¬ ka = 1) := by by_cases h : ka = 1 <;> simp [h]
 have hkb : kb = 1 ∨ ((kb != 1) = true ∧ ¬ kb = 1) := by by_cases h : kb = 1 <;> simp [h]
 obtain ⟨wa, hwa⟩ : ∃ wa, wa = ((w.alloc (.cells #[.int .i64 ka, .bool ba, .string sa, .bool fa, .string na, .string da, .bool false, .int .i64 0] 39)).alloc (.cells #[.int .i64 kb, .bool bb, .string sb, .bool fb, .string nb, .string db, .bool false, .int .i64 0] 39)).alloc (.cells #[.int .i64 0, .bool false, .string ⟨#[]⟩, .bool false, .string ⟨#[]⟩, .string ⟨#[]⟩, .bool false, .int .i64 0] 39) := ⟨_, rfl⟩
 obtain ⟨hbl, CX, CY, RES⟩ := kal3 hwa
 have HW := Lib.hid hbl; clear hbl
 replace CX := Lib.hid CX
 replace CY := Lib.hid CY
 replace RES := Lib.hid RES
 go_enter Tryz.func11, Tryz.ntmps11
 go_upto_region 1 with fail
 rw [← hwa]
 clear hwa
 obtain ⟨CX0, CX1, CX2, CX3, CX4, CX5, CX6, CX7⟩ := CX.out.cs8
 obtain ⟨CY0, CY1, CY2, CY3, CY4, CY5, CY6, CY7⟩ := CY.out.cs8
 rcases hka with rfl | ⟨hka, hka2⟩
 · rcases hkb with rfl | ⟨hkb, hkb2⟩
   · obtain rfl : v = false := by simpa using hx
     clear hx
     go_wp2_with fail
     refine (KT.out _).mono ?_
     rintro e wv ⟨rfl, hwv⟩
     obtain rfl := hwv.symm
     clear hwv
     obtain ⟨d0, d1, d2, d3, d4, d5, d6, d7⟩ := RES.out.cs8
     obtain ⟨f0, f1, f2, f3, f4, f5, f6, f7⟩ := RES.out.fz8
     go_wp2
     exact bodyPost_ret (results_cell_row rfl _ _ (w.heap.size + 2) 39 _ (0, 0) _ rfl (RES.out.put8 _ _ _ _ _ _ _ _) Tryz.underlying39 rfl (by kernel_rfl)) rfl ⟨rfl, (bel_set8 (g := w.heap.size + 2) HW.out (by omega) _ _ _ _ _ _ _ _)⟩
   · clear hx
     obtain ⟨d0, d1, d2, d3, d4, d5, d6, d7⟩ := RES.out.cs8
     obtain ⟨f0, f1, f2, f3, f4, f5, f6, f7⟩ := RES.out.fz8
     go_wp2
     exact bodyPost_ret (results_cell_row rfl _ _ (w.heap.size + 2) 39 _ (0, 0) _ rfl (RES.out.put8 _ _ _ _ _ _ _ _) Tryz.underlying39 rfl (by kernel_rfl)) rfl ⟨rfl, (bel_set8 (g := w.heap.size + 2) HW.out (by omega) _ _ _ _ _ _ _ _)⟩
 · clear hx hkb
   obtain ⟨d0, d1, d2, d3, d4, d5, d6, d7⟩ := RES.out.cs8
   obtain ⟨f0, f1, f2, f3, f4, f5, f6, f7⟩ := RES.out.fz8
   go_wp2
   exact bodyPost_ret (results_cell_row rfl _ _ (w.heap.size + 2) 39 _ (0, 0) _ rfl (RES.out.put8 _ _ _ _ _ _ _ _) Tryz.underlying39 rfl (by kernel_rfl)) rfl ⟨rfl, (bel_set8 (g := w.heap.size + 2) HW.out (by omega) _ _ _ _ _ _ _ _)⟩
theorem rBin_unk {ka kb : Int} {ba bb fa fb : Bool} {sa sb na nb da db : ByteArray} (op : ByteArray) (t : Int) (w : World) (n1 : op ≠ ⟨#[38, 38]⟩) (n2 : op ≠ ⟨#[124, 124]⟩) (h8 : inB ops8 op = false) :
 Calls Tryz.prog 11 #[.string op, .agg #[.int .i64 ka, .bool ba, .string sa, .bool fa, .string na, .string da, .bool false, .int .i64 0], .agg #[.int .i64 kb, .bool bb, .string sb, .bool fb, .string nb, .string db, .bool false, .int .i64 0], .int .i64 t] w (RetRV 0 false ⟨#[]⟩ false ⟨#[]⟩ ⟨#[]⟩ 1 w) := by
 obtain ⟨s1, u1⟩ := str_no (l := [38, 38]) (t := ⟨#[38, 38]⟩) (by rw [ByteArray.toList_eq]) n1
 obtain ⟨s2, u2⟩ := str_no (l := [124, 124]) (t := ⟨#[124, 124]⟩) (by rw [ByteArray.toList_eq]) n2
 have HSN := Lib.hid (And.intro n1 n2); clear n1 n2
 have H8 := Lib.hid h8; clear h8
 obtain ⟨wa, hwa⟩ : ∃ wa, wa = ((w.alloc (.cells #[.int .i64 ka, .bool ba, .string sa, .bool fa, .string na, .string da, .bool false, .int .i64 0] 39)).alloc (.cells #[.int .i64 kb, .bool bb, .string sb, .bool fb, .string nb, .string db, .bool false, .int .i64 0] 39)).alloc (.cells #[.int .i64 0, .bool false, .string ⟨#[]⟩, .bool false, .string ⟨#[]⟩, .string ⟨#[]⟩, .bool false, .int .i64 0] 39) := ⟨_, rfl⟩
 obtain ⟨hbl, CX, CY, RES⟩ := kal3 hwa
 have HW := Lib.hid hbl; clear hbl
 replace CX := Lib.hid CX
 replace CY := Lib.hid CY
 replace RES := Lib.hid RES
 go_enter Tryz.func11, Tryz.ntmps11
 go_upto_region 1 with fail
 rw [← hwa]
 clear hwa
 obtain ⟨CX0, CX1, CX2, CX3, CX4, CX5, CX6, CX7⟩ := CX.out.cs8
 obtain ⟨CY0, CY1, CY2, CY3, CY4, CY5, CY6, CY7⟩ := CY.out.cs8
 go_wp2_with fail
 obtain ⟨w3, hw3⟩ : ∃ w3, w3 = wa.alloc (.cells #[.string ⟨#[43]⟩, .string ⟨#[45]⟩, .string ⟨#[42]⟩, .string ⟨#[47]⟩, .string ⟨#[37]⟩, .string ⟨#[38]⟩, .string ⟨#[124]⟩, .string ⟨#[94]⟩] 9) := ⟨_, rfl⟩
 rw [← hw3]
 obtain ⟨hbl, S8⟩ := sal1 hw3
 clear hw3
 replace CX := hmB CX hbl
 replace CY := hmB CY hbl
 replace RES := hmB RES hbl
 replace HW := hmW HW hbl; clear hbl
 clear CX0 CX1 CX2 CX3 CX4 CX5 CX6 CX7 CY0 CY1 CY2 CY3 CY4 CY5 CY6 CY7
 obtain ⟨CX0, CX1, CX2, CX3, CX4, CX5, CX6, CX7⟩ := CX.out.cs8
 obtain ⟨CY0, CY1, CY2, CY3, CY4, CY5, CY6, CY7⟩ := CY.out.cs8
 refine (rIn8_is _ _ op _ S8.out H8.out).mono ?_
 rintro e wv ⟨rfl, hwv⟩
 obtain rfl := hwv.symm
 clear hwv
 obtain ⟨d0, d1, d2, d3, d4, d5, d6, d7⟩ := RES.out.cs8
 obtain ⟨f0, f1, f2, f3, f4, f5, f6, f7⟩ := RES.out.fz8
 go_wp2
 exact bodyPost_ret (results_cell_row rfl _ _ (w.heap.size + 2) 39 _ (0, 0) _ rfl (RES.out.put8 _ _ _ _ _ _ _ _) Tryz.underlying39 rfl (by kernel_rfl)) rfl ⟨rfl, (bel_set8 (g := w.heap.size + 2) HW.out (by omega) _ _ _ _ _ _ _ _)⟩
theorem rBin_many {ba bb fa fb : Bool} {sa sb na nb da db : ByteArray} (t : Int) (w : World) (ht : wordsB t = true) (l1 : sa.size ≤ 1000) (l2 : sb.size ≤ 1000) (hx : 200 < sa.size + sb.size) :
 Calls Tryz.prog 11 #[.string ⟨#[43]⟩, .agg #[.int .i64 2, .bool ba, .string sa, .bool fa, .string na, .string da, .bool false, .int .i64 0], .agg #[.int .i64 2, .bool bb, .string sb, .bool fb, .string nb, .string db, .bool false, .int .i64 0], .int .i64 t] w (RetRV 0 false ⟨#[]⟩ false ⟨#[]⟩ ⟨#[]⟩ 7 w) := by
 have KX := Lib.hid (fun W => rWords_is t W ht); clear ht
 have hw9 : IntKind.i64.wrap ((sa.size : Int) + (sb.size : Int)) = (sa.size : Int) + (sb.size : Int) := by rw [IntKind.wrap_i64]; omega
 have hgt : (200 : Int) < (sa.size : Int) + (sb.size : Int) := by omega
 obtain ⟨wa, hwa⟩ : ∃ wa, wa = ((w.alloc (.cells #[.int .i64 2, .bool ba, .string sa, .bool fa, .string na, .string da, .bool false, .int .i64 0] 39)).alloc (.cells #[.int .i64 2, .bool bb, .string sb, .bool fb, .string nb, .string db, .bool false, .int .i64 0] 39)).alloc (.cells #[.int .i64 0, .bool false, .string ⟨#[]⟩, .bool false, .string ⟨#[]⟩, .string ⟨#[]⟩, .bool false, .int .i64 0] 39) := ⟨_, rfl⟩
 obtain ⟨hbl, CX, CY, RES⟩ := kal3 hwa
 have HW := Lib.hid hbl; clear hbl
 replace CX := Lib.hid CX
 replace CY := Lib.hid CY
 replace RES := Lib.hid RES
 go_enter Tryz.func11, Tryz.ntmps11
 go_upto_region 1 with fail
 rw [← hwa]
 clear hwa
 obtain ⟨CX0, CX1, CX2, CX3, CX4, CX5, CX6, CX7⟩ := CX.out.cs8
 obtain ⟨CY0, CY1, CY2, CY3, CY4, CY5, CY6, CY7⟩ := CY.out.cs8
 go_wp2_with fail
 obtain ⟨w3, hw3⟩ : ∃ w3, w3 = wa.alloc (.cells #[.string ⟨#[43]⟩, .string ⟨#[45]⟩, .string ⟨#[42]⟩, .string ⟨#[47]⟩, .string ⟨#[37]⟩, .string ⟨#[38]⟩, .string ⟨#[124]⟩, .string ⟨#[94]⟩] 9) := ⟨_, rfl⟩
 rw [← hw3]
 obtain ⟨hbl, S8⟩ := sal1 hw3
 clear hw3
 replace CX := hmB CX hbl
 replace CY := hmB CY hbl
 replace RES := hmB RES hbl
 replace HW := hmW HW hbl; clear hbl
 clear CX0 CX1 CX2 CX3 CX4 CX5 CX6 CX7 CY0 CY1 CY2 CY3 CY4 CY5 CY6 CY7
 obtain ⟨CX0, CX1, CX2, CX3, CX4, CX5, CX6, CX7⟩ := CX.out.cs8
 obtain ⟨CY0, CY1, CY2, CY3, CY4, CY5, CY6, CY7⟩ := CY.out.cs8
 refine (rIn8_is (v := true) _ _ ⟨#[43]⟩ _ S8.out (by decide +kernel)).mono ?_
 rintro e wv ⟨rfl, hwv⟩
 obtain rfl := hwv.symm
 clear hwv
 go_wp2_with fail
 refine (KX.out _).mono ?_
 rintro e wv ⟨rfl, hwv⟩
 obtain rfl := hwv.symm
 clear hwv
 obtain ⟨d0, d1, d2, d3, d4, d5, d6, d7⟩ := RES.out.cs8
 obtain ⟨f0, f1, f2, f3, f4, f5, f6, f7⟩ := RES.out.fz8
 go_wp2
 exact bodyPost_ret (results_cell_row rfl _ _ (w.heap.size + 2) 39 _ (0, 0) _ rfl (RES.out.put8 _ _ _ _ _ _ _ _) Tryz.underlying39 rfl (by kernel_rfl)) rfl ⟨rfl, (bel_set8 (g := w.heap.size + 2) HW.out (by omega) _ _ _ _ _ _ _ _)⟩
theorem rBin_text {ba bb fa fb : Bool} {sa sb na nb da db : ByteArray} (t : Int) (w : World) (ht : wordsB t = true) (l1 : sa.size ≤ 1000) (l2 : sb.size ≤ 1000) (hx : ¬ 200 < sa.size + sb.size) :
 Calls Tryz.prog 11 #[.string ⟨#[43]⟩, .agg #[.int .i64 2, .bool ba, .string sa, .bool fa, .string na, .string da, .bool false, .int .i64 0], .agg #[.int .i64 2, .bool bb, .string sb, .bool fb, .string nb, .string db, .bool false, .int .i64 0], .int .i64 t] w (RetRV 2 false (sa ++ sb) false ⟨#[]⟩ ⟨#[]⟩ 0 w) := by
 have KX := Lib.hid (fun W => rWords_is t W ht); clear ht
 have hw9 : IntKind.i64.wrap ((sa.size : Int) + (sb.size : Int)) = (sa.size : Int) + (sb.size : Int) := by rw [IntKind.wrap_i64]; omega
 have hgt : ¬ (200 : Int) < (sa.size : Int) + (sb.size : Int) := by omega
 clear hx
 obtain ⟨wa, hwa⟩ : ∃ wa, wa = ((w.alloc (.cells #[.int .i64 2, .bool ba, .string sa, .bool fa, .string na, .string da, .bool false, .int .i64 0] 39)).alloc (.cells #[.int .i64 2, .bool bb, .string sb, .bool fb, .string nb, .string db, .bool false, .int .i64 0] 39)).alloc (.cells #[.int .i64 0, .bool false, .string ⟨#[]⟩, .bool false, .string ⟨#[]⟩, .string ⟨#[]⟩, .bool false, .int .i64 0] 39) := ⟨_, rfl⟩
 obtain ⟨hbl, CX, CY, RES⟩ := kal3 hwa
 have HW := Lib.hid hbl; clear hbl
 replace CX := Lib.hid CX
 replace CY := Lib.hid CY
 replace RES := Lib.hid RES
 go_enter Tryz.func11, Tryz.ntmps11
 go_upto_region 1 with fail
 rw [← hwa]
 clear hwa
 obtain ⟨CX0, CX1, CX2, CX3, CX4, CX5, CX6, CX7⟩ := CX.out.cs8
 obtain ⟨CY0, CY1, CY2, CY3, CY4, CY5, CY6, CY7⟩ := CY.out.cs8
 go_wp2_with fail
 obtain ⟨w3, hw3⟩ : ∃ w3, w3 = wa.alloc (.cells #[.string ⟨#[43]⟩, .string ⟨#[45]⟩, .string ⟨#[42]⟩, .string ⟨#[47]⟩, .string ⟨#[37]⟩, .string ⟨#[38]⟩, .string ⟨#[124]⟩, .string ⟨#[94]⟩] 9) := ⟨_, rfl⟩
 rw [← hw3]
 obtain ⟨hbl, S8⟩ := sal1 hw3
 clear hw3
 replace CX := hmB CX hbl
 replace CY := hmB CY hbl
 replace RES := hmB RES hbl
 replace HW := hmW HW hbl; clear hbl
 clear CX0 CX1 CX2 CX3 CX4 CX5 CX6 CX7 CY0 CY1 CY2 CY3 CY4 CY5 CY6 CY7
 obtain ⟨CX0, CX1, CX2, CX3, CX4, CX5, CX6, CX7⟩ := CX.out.cs8
 obtain ⟨CY0, CY1, CY2, CY3, CY4, CY5, CY6, CY7⟩ := CY.out.cs8
 refine (rIn8_is (v := true) _ _ ⟨#[43]⟩ _ S8.out (by decide +kernel)).mono ?_
 rintro e wv ⟨rfl, hwv⟩
 obtain rfl := hwv.symm
 clear hwv
 go_wp2_with fail
 refine (KX.out _).mono ?_
 rintro e wv ⟨rfl, hwv⟩
 obtain rfl := hwv.symm
 clear hwv
 obtain ⟨d0, d1, d2, d3, d4, d5, d6, d7⟩ := RES.out.cs8
 obtain ⟨f0, f1, f2, f3, f4, f5, f6, f7⟩ := RES.out.fz8
 go_wp2
 exact bodyPost_ret (results_cell_row rfl _ _ (w.heap.size + 2) 39 _ (0, 0) _ rfl (RES.out.put8 _ _ _ _ _ _ _ _) Tryz.underlying39 rfl (by kernel_rfl)) rfl ⟨rfl, (bel_set8 (g := w.heap.size + 2) HW.out (by omega) _ _ _ _ _ _ _ _)⟩
theorem rBin_type {ka kb : Int} {ba bb fa fb : Bool} {sa sb na nb da db : ByteArray} (op : ByteArray) (t : Int) (w : World) (n1 : op ≠ ⟨#[38, 38]⟩) (n2 : op ≠ ⟨#[124, 124]⟩) (h8 : inB ops8 op = true) (hx : ¬ (ka = 3 ∧ kb = 3 ∧ numB t = true)) (hy : ¬ (op.toList = [43] ∧ ka = 2 ∧ kb = 2 ∧ wordsB t = true)) :
 Calls Tryz.prog 11 #[.string op, .agg #[.int .i64 ka, .bool ba, .string sa, .bool fa, .string na, .string da, .bool false, .int .i64 0], .agg #[.int .i64 kb, .bool bb, .string sb, .bool fb, .string nb, .string db, .bool false, .int .i64 0], .int .i64 t] w (RetRV 0 false ⟨#[]⟩ false ⟨#[]⟩ ⟨#[]⟩ 11 w) := by
 obtain ⟨s1, u1⟩ := str_no (l := [38, 38]) (t := ⟨#[38, 38]⟩) (by rw [ByteArray.toList_eq]) n1
 obtain ⟨s2, u2⟩ := str_no (l := [124, 124]) (t := ⟨#[124, 124]⟩) (by rw [ByteArray.toList_eq]) n2
 have HSN := Lib.hid (And.intro n1 n2); clear n1 n2
 have H8 := Lib.hid h8; clear h8
 obtain ⟨v, hv⟩ : ∃ v, numB t = v := ⟨_, rfl⟩
 have KN := Lib.hid (fun W => rNum_is t W hv)
 rw [hv] at hx; clear hv
 obtain ⟨u, hu⟩ : ∃ u, wordsB t = u := ⟨_, rfl⟩
 have KX := Lib.hid (fun W => rWords_is t W hu)
 rw [hu] at hy; clear hu
 obtain ⟨wa, hwa⟩ : ∃ wa, wa = ((w.alloc (.cells #[.int .i64 ka, .bool ba, .string sa, .bool fa, .string na, .string da, .bool false, .int .i64 0] 39)).alloc (.cells #[.int .i64 kb, .bool bb, .string sb, .bool fb, .string nb, .string db, .bool false, .int .i64 0] 39)).alloc (.cells #[.int .i64 0, .bool false, .string ⟨#[]⟩, .bool false, .string ⟨#[]⟩, .string ⟨#[]⟩, .bool false, .int .i64 0] 39) := ⟨_, rfl⟩
 obtain ⟨hbl, CX, CY, RES⟩ := kal3 hwa
 have HW := Lib.hid hbl; clear hbl
 replace CX := Lib.hid CX
 replace CY := Lib.hid CY
 replace RES := Lib.hid RES
 go_enter Tryz.func11, Tryz.ntmps11
 go_upto_region 1 with fail
 rw [← hwa]
 clear hwa
 obtain ⟨CX0, CX1, CX2, CX3, CX4, CX5, CX6, CX7⟩ := CX.out.cs8
 obtain ⟨CY0, CY1, CY2, CY3, CY4, CY5, CY6, CY7⟩ := CY.out.cs8
 go_wp2_with fail
 obtain ⟨w3, hw3⟩ : ∃ w3, w3 = wa.alloc (.cells #[.string ⟨#[43]⟩, .string ⟨#[45]⟩, .string ⟨#[42]⟩, .string ⟨#[47]⟩, .string ⟨#[37]⟩, .string ⟨#[38]⟩, .string ⟨#[124]⟩, .string ⟨#[94]⟩] 9) := ⟨_, rfl⟩
 rw [← hw3]
 obtain ⟨hbl, S8⟩ := sal1 hw3
 clear hw3
 replace CX := hmB CX hbl
 replace CY := hmB CY hbl
 replace RES := hmB RES hbl
 replace HW := hmW HW hbl; clear hbl
 clear CX0 CX1 CX2 CX3 CX4 CX5 CX6 CX7 CY0 CY1 CY2 CY3 CY4 CY5 CY6 CY7
 obtain ⟨CX0, CX1, CX2, CX3, CX4, CX5, CX6, CX7⟩ := CX.out.cs8
 obtain ⟨CY0, CY1, CY2, CY3, CY4, CY5, CY6, CY7⟩ := CY.out.cs8
 refine (rIn8_is _ _ op _ S8.out H8.out).mono ?_
 rintro e wv ⟨rfl, hwv⟩
 obtain rfl := hwv.symm
 clear hwv
 rcases str_or op [43] with ⟨p1, p2⟩ | ⟨p1, p2⟩
 · have hka : ka = 2 ∨ ((ka == 2) = false ∧ ¬ ka = 2 ∧ (ka != 2) = true) := by by_cases h : ka = 2 <;> simp [h]
   rcases hka with rfl | ⟨g4, g5, g6⟩
   · have hkb : kb = 2 ∨ ((kb == 2) = false ∧ ¬ kb = 2 ∧ (kb != 2) = true) := by by_cases h : kb = 2 <;> simp [h]
     rcases hkb with rfl | ⟨k4, k5, k6⟩
     · obtain rfl : u = false := by simpa [p2] using hy
       clear hx hy
       go_wp2_with fail
       refine (KX.out _).mono ?_
       rintro e wv ⟨rfl, hwv⟩
       obtain rfl := hwv.symm
       clear hwv
       obtain ⟨d0, d1, d2, d3, d4, d5, d6, d7⟩ := RES.out.cs8
       obtain ⟨f0, f1, f2, f3, f4, f5, f6, f7⟩ := RES.out.fz8
       go_wp2
       exact bodyPost_ret (results_cell_row rfl _ _ (w.heap.size + 2) 39 _ (0, 0) _ rfl (RES.out.put8 _ _ _ _ _ _ _ _) Tryz.underlying39 rfl (by kernel_rfl)) rfl ⟨rfl, (bel_set8 (g := w.heap.size + 2) HW.out (by omega) _ _ _ _ _ _ _ _)⟩
     · clear hx hy
       obtain ⟨d0, d1, d2, d3, d4, d5, d6, d7⟩ := RES.out.cs8
       obtain ⟨f0, f1, f2, f3, f4, f5, f6, f7⟩ := RES.out.fz8
       go_wp2
       exact bodyPost_ret (results_cell_row rfl _ _ (w.heap.size + 2) 39 _ (0, 0) _ rfl (RES.out.put8 _ _ _ _ _ _ _ _) Tryz.underlying39 rfl (by kernel_rfl)) rfl ⟨rfl, (bel_set8 (g := w.heap.size + 2) HW.out (by omega) _ _ _ _ _ _ _ _)⟩
   · clear hy
     have hka : ka = 3 ∨ ((ka == 3) = false ∧ ¬ ka = 3 ∧ (ka != 3) = true) := by by_cases h : ka = 3 <;> simp [h]
     rcases hka with rfl | ⟨g1, g2, g3⟩
     · have hkb : kb = 3 ∨ ((kb == 3) = false ∧ ¬ kb = 3 ∧ (kb != 3) = true) := by by_cases h : kb = 3 <;> simp [h]
       rcases hkb with rfl | ⟨k1, k2, k3⟩
       · obtain rfl : v = false := by simpa using hx
         clear hx
         go_wp2_with fail
         refine (KN.out _).mono ?_
         rintro e wv ⟨rfl, hwv⟩
         obtain rfl := hwv.symm
         clear hwv
         obtain ⟨d0, d1, d2, d3, d4, d5, d6, d7⟩ := RES.out.cs8
         obtain ⟨f0, f1, f2, f3, f4, f5, f6, f7⟩ := RES.out.fz8
         go_wp2
         exact bodyPost_ret (results_cell_row rfl _ _ (w.heap.size + 2) 39 _ (0, 0) _ rfl (RES.out.put8 _ _ _ _ _ _ _ _) Tryz.underlying39 rfl (by kernel_rfl)) rfl ⟨rfl, (bel_set8 (g := w.heap.size + 2) HW.out (by omega) _ _ _ _ _ _ _ _)⟩
       · clear hx
         obtain ⟨d0, d1, d2, d3, d4, d5, d6, d7⟩ := RES.out.cs8
         obtain ⟨f0, f1, f2, f3, f4, f5, f6, f7⟩ := RES.out.fz8
         go_wp2
         exact bodyPost_ret (results_cell_row rfl _ _ (w.heap.size + 2) 39 _ (0, 0) _ rfl (RES.out.put8 _ _ _ _ _ _ _ _) Tryz.underlying39 rfl (by kernel_rfl)) rfl ⟨rfl, (bel_set8 (g := w.heap.size + 2) HW.out (by omega) _ _ _ _ _ _ _ _)⟩
     · clear hx
       obtain ⟨d0, d1, d2, d3, d4, d5, d6, d7⟩ := RES.out.cs8
       obtain ⟨f0, f1, f2, f3, f4, f5, f6, f7⟩ := RES.out.fz8
       go_wp2
       exact bodyPost_ret (results_cell_row rfl _ _ (w.heap.size + 2) 39 _ (0, 0) _ rfl (RES.out.put8 _ _ _ _ _ _ _ _) Tryz.underlying39 rfl (by kernel_rfl)) rfl ⟨rfl, (bel_set8 (g := w.heap.size + 2) HW.out (by omega) _ _ _ _ _ _ _ _)⟩
 · clear hy
   have hka : ka = 3 ∨ ((ka == 3) = false ∧ ¬ ka = 3 ∧ (ka != 3) = true) := by by_cases h : ka = 3 <;> simp [h]
   rcases hka with rfl | ⟨g1, g2, g3⟩
   · have hkb : kb = 3 ∨ ((kb == 3) = false ∧ ¬ kb = 3 ∧ (kb != 3) = true) := by by_cases h : kb = 3 <;> simp [h]
     rcases hkb with rfl | ⟨k1, k2, k3⟩
     · obtain rfl : v = false := by simpa using hx
       clear hx
       go_wp2_with fail
       refine (KN.out _).mono ?_
       rintro e wv ⟨rfl, hwv⟩
       obtain rfl := hwv.symm
       clear hwv
       obtain ⟨d0, d1, d2, d3, d4, d5, d6, d7⟩ := RES.out.cs8
       obtain ⟨f0, f1, f2, f3, f4, f5, f6, f7⟩ := RES.out.fz8
       go_wp2
       exact bodyPost_ret (results_cell_row rfl _ _ (w.heap.size + 2) 39 _ (0, 0) _ rfl (RES.out.put8 _ _ _ _ _ _ _ _) Tryz.underlying39 rfl (by kernel_rfl)) rfl ⟨rfl, (bel_set8 (g := w.heap.size + 2) HW.out (by omega) _ _ _ _ _ _ _ _)⟩
     · clear hx
       obtain ⟨d0, d1, d2, d3, d4, d5, d6, d7⟩ := RES.out.cs8
       obtain ⟨f0, f1, f2, f3, f4, f5, f6, f7⟩ := RES.out.fz8
       go_wp2
       exact bodyPost_ret (results_cell_row rfl _ _ (w.heap.size + 2) 39 _ (0, 0) _ rfl (RES.out.put8 _ _ _ _ _ _ _ _) Tryz.underlying39 rfl (by kernel_rfl)) rfl ⟨rfl, (bel_set8 (g := w.heap.size + 2) HW.out (by omega) _ _ _ _ _ _ _ _)⟩
   · clear hx
     obtain ⟨d0, d1, d2, d3, d4, d5, d6, d7⟩ := RES.out.cs8
     obtain ⟨f0, f1, f2, f3, f4, f5, f6, f7⟩ := RES.out.fz8
     go_wp2
     exact bodyPost_ret (results_cell_row rfl _ _ (w.heap.size + 2) 39 _ (0, 0) _ rfl (RES.out.put8 _ _ _ _ _ _ _ _) Tryz.underlying39 rfl (by kernel_rfl)) rfl ⟨rfl, (bel_set8 (g := w.heap.size + 2) HW.out (by omega) _ _ _ _ _ _ _ _)⟩
theorem rBin_any {k0 e0 k e : Int} {b0 fs0 b1 fs : Bool} {s0 n0 d0 s n d : ByteArray} (op : ByteArray) (a b : Q) (t : Int) (w : World) (n1 : op ≠ ⟨#[38, 38]⟩) (n2 : op ≠ ⟨#[124, 124]⟩) (h8 : inB ops8 op = true) (h4 : inB ops4 op = false) (hnum : numB t = true) (hR : ∀ W, Calls Tryz.prog 42 #[.string op, .agg #[.bool a.s, .string (dec a.n), .string (dec a.d), .bool false], .agg #[.bool b.s, .string (dec b.n), .string (dec b.d), .bool false], .int .i64 t] W (RetRV k0 b0 s0 fs0 n0 d0 e0 W)) (hF : ∀ W, Calls Tryz.prog 41 #[.agg #[.int .i64 k0, .bool b0, .string s0, .bool fs0, .string n0, .string d0, .bool false, .int .i64 e0], .int .i64 t] W (RetRV k b1 s fs n d e W)) :
 Calls Tryz.prog 11 #[.string op, .agg #[.int .i64 3, .bool false, .string ⟨#[]⟩, .bool a.s, .string (dec a.n), .string (dec a.d), .bool false, .int .i64 0], .agg #[.int .i64 3, .bool false, .string ⟨#[]⟩, .bool b.s, .string (dec b.n), .string (dec b.d), .bool false, .int .i64 0], .int .i64 t] w (RetRV k b1 s fs n d e w) := by
 obtain ⟨s1, u1⟩ := str_no (l := [38, 38]) (t := ⟨#[38, 38]⟩) (by rw [ByteArray.toList_eq]) n1
 obtain ⟨s2, u2⟩ := str_no (l := [124, 124]) (t := ⟨#[124, 124]⟩) (by rw [ByteArray.toList_eq]) n2
 have HSN := Lib.hid (And.intro n1 n2); clear n1 n2
 have H8 := Lib.hid h8; clear h8
 have H4 := Lib.hid h4; clear h4
 have KN := Lib.hid (fun W => rNum_is t W hnum); clear hnum
 have HRK := Lib.hid hR; clear hR
 have HFI := Lib.hid hF; clear hF
 obtain ⟨wa, hwa⟩ : ∃ wa, wa = ((w.alloc (.cells #[.int .i64 3, .bool false, .string ⟨#[]⟩, .bool a.s, .string (dec a.n), .string (dec a.d), .bool false, .int .i64 0] 39)).alloc (.cells #[.int .i64 3, .bool false, .string ⟨#[]⟩, .bool b.s, .string (dec b.n), .string (dec b.d), .bool false, .int .i64 0] 39)).alloc (.cells #[.int .i64 0, .bool false, .string ⟨#[]⟩, .bool false, .string ⟨#[]⟩, .string ⟨#[]⟩, .bool false, .int .i64 0] 39) := ⟨_, rfl⟩
 obtain ⟨hbl, CX, CY, RES⟩ := kal3 hwa
 have HW := Lib.hid hbl; clear hbl
 replace CX := Lib.hid CX
 replace CY := Lib.hid CY
 replace RES := Lib.hid RES
 go_enter Tryz.func11, Tryz.ntmps11
 go_upto_region 1 with fail
 rw [← hwa]
 clear hwa
 obtain ⟨CX0, CX1, CX2, CX3, CX4, CX5, CX6, CX7⟩ := CX.out.cs8
 obtain ⟨CY0, CY1, CY2, CY3, CY4, CY5, CY6, CY7⟩ := CY.out.cs8
 go_wp2_with fail
 obtain ⟨w3, hw3⟩ : ∃ w3, w3 = wa.alloc (.cells #[.string ⟨#[43]⟩, .string ⟨#[45]⟩, .string ⟨#[42]⟩, .string ⟨#[47]⟩, .string ⟨#[37]⟩, .string ⟨#[38]⟩, .string ⟨#[124]⟩, .string ⟨#[94]⟩] 9) := ⟨_, rfl⟩
 rw [← hw3]
 obtain ⟨hbl, S8⟩ := sal1 hw3
 clear hw3
 replace CX := hmB CX hbl
 replace CY := hmB CY hbl
 replace RES := hmB RES hbl
 replace HW := hmW HW hbl; clear hbl
 clear CX0 CX1 CX2 CX3 CX4 CX5 CX6 CX7 CY0 CY1 CY2 CY3 CY4 CY5 CY6 CY7
 obtain ⟨CX0, CX1, CX2, CX3, CX4, CX5, CX6, CX7⟩ := CX.out.cs8
 obtain ⟨CY0, CY1, CY2, CY3, CY4, CY5, CY6, CY7⟩ := CY.out.cs8
 refine (rIn8_is _ _ op _ S8.out H8.out).mono ?_
 rintro e wv ⟨rfl, hwv⟩
 obtain rfl := hwv.symm
 clear hwv
 rcases str_or op [43] with ⟨p1, p2⟩ | ⟨p1, p2⟩
 all_goals
  go_wp2_with fail
  refine (KN.out _).mono ?_
  rintro e wv ⟨rfl, hwv⟩
  obtain rfl := hwv.symm
  clear hwv
  go_wp2_with fail
  obtain ⟨w4, hw4⟩ : ∃ w4, w4 = w3.alloc (.cells #[.string ⟨#[37]⟩, .string ⟨#[38]⟩, .string ⟨#[124]⟩, .string ⟨#[94]⟩] 9) := ⟨_, rfl⟩
  rw [← hw4]
  obtain ⟨hbl, S4⟩ := sal1 hw4
  clear hw4
  replace CX := hmB CX hbl
  replace CY := hmB CY hbl
  replace RES := hmB RES hbl
  replace S8 := hmB S8 hbl
  replace HW := hmW HW hbl; clear hbl
  clear CX0 CX1 CX2 CX3 CX4 CX5 CX6 CX7 CY0 CY1 CY2 CY3 CY4 CY5 CY6 CY7
  obtain ⟨CX0, CX1, CX2, CX3, CX4, CX5, CX6, CX7⟩ := CX.out.cs8
  obtain ⟨CY0, CY1, CY2, CY3, CY4, CY5, CY6, CY7⟩ := CY.out.cs8
  refine (rIn4_is _ _ op _ S4.out H4.out).mono ?_
  rintro e wv ⟨rfl, hwv⟩
  obtain rfl := hwv.symm
  clear hwv
  go_wp2_with fail
  refine (HRK.out _).mono ?_
  rintro e w1 ⟨rfl, hbl⟩
  replace CX := hmB CX hbl
  replace CY := hmB CY hbl
  replace RES := hmB RES hbl
  replace S8 := hmB S8 hbl
  replace S4 := hmB S4 hbl
  replace HW := hmW HW hbl; clear hbl
  clear CX0 CX1 CX2 CX3 CX4 CX5 CX6 CX7 CY0 CY1 CY2 CY3 CY4 CY5 CY6 CY7
  obtain ⟨CX0, CX1, CX2, CX3, CX4, CX5, CX6, CX7⟩ := CX.out.cs8
  obtain ⟨CY0, CY1, CY2, CY3, CY4, CY5, CY6, CY7⟩ := CY.out.cs8
  go_wp2_with fail
  refine (HFI.out _).mono ?_
  rintro e w2 ⟨rfl, hbl⟩
  replace CX := hmB CX hbl
  replace CY := hmB CY hbl
  replace RES := hmB RES hbl
  replace S8 := hmB S8 hbl
  replace S4 := hmB S4 hbl
  replace HW := hmW HW hbl; clear hbl
  clear CX0 CX1 CX2 CX3 CX4 CX5 CX6 CX7 CY0 CY1 CY2 CY3 CY4 CY5 CY6 CY7
  obtain ⟨CX0, CX1, CX2, CX3, CX4, CX5, CX6, CX7⟩ := CX.out.cs8
  obtain ⟨CY0, CY1, CY2, CY3, CY4, CY5, CY6, CY7⟩ := CY.out.cs8
  obtain ⟨d0, d1, d2, d3, d4, d5, d6, d7⟩ := RES.out.cs8
  obtain ⟨f0, f1, f2, f3, f4, f5, f6, f7⟩ := RES.out.fz8
  go_wp2
  exact bodyPost_ret (results_cell_row rfl _ _ (w.heap.size + 2) 39 _ (0, 0) _ rfl (RES.out.put8 _ _ _ _ _ _ _ _) Tryz.underlying39 rfl (by kernel_rfl)) rfl ⟨rfl, (bel_set8 (g := w.heap.size + 2) HW.out (by omega) _ _ _ _ _ _ _ _)⟩
theorem rBin_whole {k0 e0 k e : Int} {b0 fs0 b1 fs : Bool} {s0 n0 d0 s n d : ByteArray} (op : ByteArray) (a b : Q) (t : Int) (w : World) (n1 : op ≠ ⟨#[38, 38]⟩) (n2 : op ≠ ⟨#[124, 124]⟩) (h8 : inB ops8 op = true) (h4 : inB ops4 op = true) (hnum : numB t = true) (hw : wholeB t = true) (hda : a.d = 1) (hdb : b.d = 1) (hR : ∀ W, Calls Tryz.prog 42 #[.string op, .agg #[.bool a.s, .string (dec a.n), .string (dec a.d), .bool false], .agg #[.bool b.s, .string (dec b.n), .string (dec b.d), .bool false], .int .i64 t] W (RetRV k0 b0 s0 fs0 n0 d0 e0 W)) (hF : ∀ W, Calls Tryz.prog 41 #[.agg #[.int .i64 k0, .bool b0, .string s0, .bool fs0, .string n0, .string d0, .bool false, .int .i64 e0], .int .i64 t] W (RetRV k b1 s fs n d e W)) :
 Calls Tryz.prog 11 #[.string op, .agg #[.int .i64 3, .bool false, .string ⟨#[]⟩, .bool a.s, .string (dec a.n), .string (dec a.d), .bool false, .int .i64 0], .agg #[.int .i64 3, .bool false, .string ⟨#[]⟩, .bool b.s, .string (dec b.n), .string (dec b.d), .bool false, .int .i64 0], .int .i64 t] w (RetRV k b1 s fs n d e w) := by
 obtain ⟨s1, u1⟩ := str_no (l := [38, 38]) (t := ⟨#[38, 38]⟩) (by rw [ByteArray.toList_eq]) n1
 obtain ⟨s2, u2⟩ := str_no (l := [124, 124]) (t := ⟨#[124, 124]⟩) (by rw [ByteArray.toList_eq]) n2
 have HSN := Lib.hid (And.intro n1 n2); clear n1 n2
 have H8 := Lib.hid h8; clear h8
 have H4 := Lib.hid h4; clear h4
 have KN := Lib.hid (fun W => rNum_is t W hnum); clear hnum
 have HRK := Lib.hid hR; clear hR
 have HFI := Lib.hid hF; clear hF
 have KW := Lib.hid (fun W => rWhole_is t W hw); clear hw
 have HDA := Lib.hid hda; clear hda
 have HDB := Lib.hid hdb; clear hdb
 obtain ⟨wa, hwa⟩ : ∃ wa, wa = ((w.alloc (.cells #[.int .i64 3, .bool false, .string ⟨#[]⟩, .bool a.s, .string (dec a.n), .string (dec a.d), .bool false, .int .i64 0] 39)).alloc (.cells #[.int .i64 3, .bool false, .string ⟨#[]⟩, .bool b.s, .string (dec b.n), .string (dec b.d), .bool false, .int .i64 0] 39)).alloc (.cells #[.int .i64 0, .bool false, .string ⟨#[]⟩, .bool false, .string ⟨#[]⟩, .string ⟨#[]⟩, .bool false, .int .i64 0] 39) := ⟨_, rfl⟩
 obtain ⟨hbl, CX, CY, RES⟩ := kal3 hwa
 have HW := Lib.hid hbl; clear hbl
 replace CX := Lib.hid CX
 replace CY := Lib.hid CY
 replace RES := Lib.hid RES
 go_enter Tryz.func11, Tryz.ntmps11
 go_upto_region 1 with fail
 rw [← hwa]
 clear hwa
 obtain ⟨CX0, CX1, CX2, CX3, CX4, CX5, CX6, CX7⟩ := CX.out.cs8
 obtain ⟨CY0, CY1, CY2, CY3, CY4, CY5, CY6, CY7⟩ := CY.out.cs8
 go_wp2_with fail
 obtain ⟨w3, hw3⟩ : ∃ w3, w3 = wa.alloc (.cells #[.string ⟨#[43]⟩, .string ⟨#[45]⟩, .string ⟨#[42]⟩, .string ⟨#[47]⟩, .string ⟨#[37]⟩, .string ⟨#[38]⟩, .string ⟨#[124]⟩, .string ⟨#[94]⟩] 9) := ⟨_, rfl⟩
 rw [← hw3]
 obtain ⟨hbl, S8⟩ := sal1 hw3
 clear hw3
 replace CX := hmB CX hbl
 replace CY := hmB CY hbl
 replace RES := hmB RES hbl
 replace HW := hmW HW hbl; clear hbl
 clear CX0 CX1 CX2 CX3 CX4 CX5 CX6 CX7 CY0 CY1 CY2 CY3 CY4 CY5 CY6 CY7
 obtain ⟨CX0, CX1, CX2, CX3, CX4, CX5, CX6, CX7⟩ := CX.out.cs8
 obtain ⟨CY0, CY1, CY2, CY3, CY4, CY5, CY6, CY7⟩ := CY.out.cs8
 refine (rIn8_is _ _ op _ S8.out H8.out).mono ?_
 rintro e wv ⟨rfl, hwv⟩
 obtain rfl := hwv.symm
 clear hwv
 rcases str_or op [43] with ⟨p1, p2⟩ | ⟨p1, p2⟩
 all_goals
  go_wp2_with fail
  refine (KN.out _).mono ?_
  rintro e wv ⟨rfl, hwv⟩
  obtain rfl := hwv.symm
  clear hwv
  go_wp2_with fail
  obtain ⟨w4, hw4⟩ : ∃ w4, w4 = w3.alloc (.cells #[.string ⟨#[37]⟩, .string ⟨#[38]⟩, .string ⟨#[124]⟩, .string ⟨#[94]⟩] 9) := ⟨_, rfl⟩
  rw [← hw4]
  obtain ⟨hbl, S4⟩ := sal1 hw4
  clear hw4
  replace CX := hmB CX hbl
  replace CY := hmB CY hbl
  replace RES := hmB RES hbl
  replace S8 := hmB S8 hbl
  replace HW := hmW HW hbl; clear hbl
  clear CX0 CX1 CX2 CX3 CX4 CX5 CX6 CX7 CY0 CY1 CY2 CY3 CY4 CY5 CY6 CY7
  obtain ⟨CX0, CX1, CX2, CX3, CX4, CX5, CX6, CX7⟩ := CX.out.cs8
  obtain ⟨CY0, CY1, CY2, CY3, CY4, CY5, CY6, CY7⟩ := CY.out.cs8
  refine (rIn4_is _ _ op _ S4.out H4.out).mono ?_
  rintro e wv ⟨rfl, hwv⟩
  obtain rfl := hwv.symm
  clear hwv
  go_wp2_with fail
  refine (rIsW_yes a _ HDA.out).mono ?_
  rintro e w1 ⟨rfl, hbl⟩
  replace CX := hmB CX hbl
  replace CY := hmB CY hbl
  replace RES := hmB RES hbl
  replace S8 := hmB S8 hbl
  replace S4 := hmB S4 hbl
  replace HW := hmW HW hbl; clear hbl
  clear CX0 CX1 CX2 CX3 CX4 CX5 CX6 CX7 CY0 CY1 CY2 CY3 CY4 CY5 CY6 CY7
  obtain ⟨CX0, CX1, CX2, CX3, CX4, CX5, CX6, CX7⟩ := CX.out.cs8
  obtain ⟨CY0, CY1, CY2, CY3, CY4, CY5, CY6, CY7⟩ := CY.out.cs8
  go_wp2_with fail
  refine (rIsW_yes b _ HDB.out).mono ?_
  rintro e w2 ⟨rfl, hbl⟩
  replace CX := hmB CX hbl
  replace CY := hmB CY hbl
  replace RES := hmB RES hbl
  replace S8 := hmB S8 hbl
  replace S4 := hmB S4 hbl
  replace HW := hmW HW hbl; clear hbl
  clear CX0 CX1 CX2 CX3 CX4 CX5 CX6 CX7 CY0 CY1 CY2 CY3 CY4 CY5 CY6 CY7
  obtain ⟨CX0, CX1, CX2, CX3, CX4, CX5, CX6, CX7⟩ := CX.out.cs8
  obtain ⟨CY0, CY1, CY2, CY3, CY4, CY5, CY6, CY7⟩ := CY.out.cs8
  go_wp2_with fail
  refine (KW.out _).mono ?_
  rintro e wv ⟨rfl, hwv⟩
  obtain rfl := hwv.symm
  clear hwv
  go_wp2_with fail
  refine (HRK.out _).mono ?_
  rintro e w3 ⟨rfl, hbl⟩
  replace CX := hmB CX hbl
  replace CY := hmB CY hbl
  replace RES := hmB RES hbl
  replace S8 := hmB S8 hbl
  replace S4 := hmB S4 hbl
  replace HW := hmW HW hbl; clear hbl
  clear CX0 CX1 CX2 CX3 CX4 CX5 CX6 CX7 CY0 CY1 CY2 CY3 CY4 CY5 CY6 CY7
  obtain ⟨CX0, CX1, CX2, CX3, CX4, CX5, CX6, CX7⟩ := CX.out.cs8
  obtain ⟨CY0, CY1, CY2, CY3, CY4, CY5, CY6, CY7⟩ := CY.out.cs8
  go_wp2_with fail
  refine (HFI.out _).mono ?_
  rintro e w4 ⟨rfl, hbl⟩
  replace CX := hmB CX hbl
  replace CY := hmB CY hbl
  replace RES := hmB RES hbl
  replace S8 := hmB S8 hbl
  replace S4 := hmB S4 hbl
  replace HW := hmW HW hbl; clear hbl
  clear CX0 CX1 CX2 CX3 CX4 CX5 CX6 CX7 CY0 CY1 CY2 CY3 CY4 CY5 CY6 CY7
  obtain ⟨CX0, CX1, CX2, CX3, CX4, CX5, CX6, CX7⟩ := CX.out.cs8
  obtain ⟨CY0, CY1, CY2, CY3, CY4, CY5, CY6, CY7⟩ := CY.out.cs8
  obtain ⟨d0, d1, d2, d3, d4, d5, d6, d7⟩ := RES.out.cs8
  obtain ⟨f0, f1, f2, f3, f4, f5, f6, f7⟩ := RES.out.fz8
  go_wp2
  exact bodyPost_ret (results_cell_row rfl _ _ (w.heap.size + 2) 39 _ (0, 0) _ rfl (RES.out.put8 _ _ _ _ _ _ _ _) Tryz.underlying39 rfl (by kernel_rfl)) rfl ⟨rfl, (bel_set8 (g := w.heap.size + 2) HW.out (by omega) _ _ _ _ _ _ _ _)⟩
theorem rBin_frac (op : ByteArray) (a b : Q) (t : Int) (w : World) (n1 : op ≠ ⟨#[38, 38]⟩) (n2 : op ≠ ⟨#[124, 124]⟩) (h8 : inB ops8 op = true) (h4 : inB ops4 op = true) (hnum : numB t = true) (hx : ¬ (a.d = 1 ∧ b.d = 1 ∧ wholeB t = true)) :
 Calls Tryz.prog 11 #[.string op, .agg #[.int .i64 3, .bool false, .string ⟨#[]⟩, .bool a.s, .string (dec a.n), .string (dec a.d), .bool false, .int .i64 0], .agg #[.int .i64 3, .bool false, .string ⟨#[]⟩, .bool b.s, .string (dec b.n), .string (dec b.d), .bool false, .int .i64 0], .int .i64 t] w (RetRV 0 false ⟨#[]⟩ false ⟨#[]⟩ ⟨#[]⟩ 11 w) := by
 obtain ⟨s1, u1⟩ := str_no (l := [38, 38]) (t := ⟨#[38, 38]⟩) (by rw [ByteArray.toList_eq]) n1
 obtain ⟨s2, u2⟩ := str_no (l := [124, 124]) (t := ⟨#[124, 124]⟩) (by rw [ByteArray.toList_eq]) n2
 have HSN := Lib.hid (And.intro n1 n2); clear n1 n2
 have H8 := Lib.hid h8; clear h8
 have H4 := Lib.hid h4; clear h4
 have KN := Lib.hid (fun W => rNum_is t W hnum); clear hnum
 obtain ⟨v, hv⟩ : ∃ v, wholeB t = v := ⟨_, rfl⟩
 have KW := Lib.hid (fun W => rWhole_is t W hv)
 rw [hv] at hx; clear hv
 have HX := Lib.hid hx; clear hx
 obtain ⟨wa, hwa⟩ : ∃ wa, wa = ((w.alloc (.cells #[.int .i64 3, .bool false, .string ⟨#[]⟩, .bool a.s, .string (dec a.n), .string (dec a.d), .bool false, .int .i64 0] 39)).alloc (.cells #[.int .i64 3, .bool false, .string ⟨#[]⟩, .bool b.s, .string (dec b.n), .string (dec b.d), .bool false, .int .i64 0] 39)).alloc (.cells #[.int .i64 0, .bool false, .string ⟨#[]⟩, .bool false, .string ⟨#[]⟩, .string ⟨#[]⟩, .bool false, .int .i64 0] 39) := ⟨_, rfl⟩
 obtain ⟨hbl, CX, CY, RES⟩ := kal3 hwa
 have HW := Lib.hid hbl; clear hbl
 replace CX := Lib.hid CX
 replace CY := Lib.hid CY
 replace RES := Lib.hid RES
 go_enter Tryz.func11, Tryz.ntmps11
 go_upto_region 1 with fail
 rw [← hwa]
 clear hwa
 obtain ⟨CX0, CX1, CX2, CX3, CX4, CX5, CX6, CX7⟩ := CX.out.cs8
 obtain ⟨CY0, CY1, CY2, CY3, CY4, CY5, CY6, CY7⟩ := CY.out.cs8
 go_wp2_with fail
 obtain ⟨w3, hw3⟩ : ∃ w3, w3 = wa.alloc (.cells #[.string ⟨#[43]⟩, .string ⟨#[45]⟩, .string ⟨#[42]⟩, .string ⟨#[47]⟩, .string ⟨#[37]⟩, .string ⟨#[38]⟩, .string ⟨#[124]⟩, .string ⟨#[94]⟩] 9) := ⟨_, rfl⟩
 rw [← hw3]
 obtain ⟨hbl, S8⟩ := sal1 hw3
 clear hw3
 replace CX := hmB CX hbl
 replace CY := hmB CY hbl
 replace RES := hmB RES hbl
 replace HW := hmW HW hbl; clear hbl
 clear CX0 CX1 CX2 CX3 CX4 CX5 CX6 CX7 CY0 CY1 CY2 CY3 CY4 CY5 CY6 CY7
 obtain ⟨CX0, CX1, CX2, CX3, CX4, CX5, CX6, CX7⟩ := CX.out.cs8
 obtain ⟨CY0, CY1, CY2, CY3, CY4, CY5, CY6, CY7⟩ := CY.out.cs8
 refine (rIn8_is _ _ op _ S8.out H8.out).mono ?_
 rintro e wv ⟨rfl, hwv⟩
 obtain rfl := hwv.symm
 clear hwv
 rcases str_or op [43] with ⟨p1, p2⟩ | ⟨p1, p2⟩
 all_goals
  go_wp2_with fail
  refine (KN.out _).mono ?_
  rintro e wv ⟨rfl, hwv⟩
  obtain rfl := hwv.symm
  clear hwv
  go_wp2_with fail
  obtain ⟨w4, hw4⟩ : ∃ w4, w4 = w3.alloc (.cells #[.string ⟨#[37]⟩, .string ⟨#[38]⟩, .string ⟨#[124]⟩, .string ⟨#[94]⟩] 9) := ⟨_, rfl⟩
  rw [← hw4]
  obtain ⟨hbl, S4⟩ := sal1 hw4
  clear hw4
  replace CX := hmB CX hbl
  replace CY := hmB CY hbl
  replace RES := hmB RES hbl
  replace S8 := hmB S8 hbl
  replace HW := hmW HW hbl; clear hbl
  clear CX0 CX1 CX2 CX3 CX4 CX5 CX6 CX7 CY0 CY1 CY2 CY3 CY4 CY5 CY6 CY7
  obtain ⟨CX0, CX1, CX2, CX3, CX4, CX5, CX6, CX7⟩ := CX.out.cs8
  obtain ⟨CY0, CY1, CY2, CY3, CY4, CY5, CY6, CY7⟩ := CY.out.cs8
  refine (rIn4_is _ _ op _ S4.out H4.out).mono ?_
  rintro e wv ⟨rfl, hwv⟩
  obtain rfl := hwv.symm
  clear hwv
  by_cases hda : a.d = 1
  · have HDA := Lib.hid hda; clear hda
    go_wp2_with fail
    refine (rIsW_yes a _ HDA.out).mono ?_
    rintro e w1 ⟨rfl, hbl⟩
    replace CX := hmB CX hbl
    replace CY := hmB CY hbl
    replace RES := hmB RES hbl
    replace S8 := hmB S8 hbl
    replace S4 := hmB S4 hbl
    replace HW := hmW HW hbl; clear hbl
    clear CX0 CX1 CX2 CX3 CX4 CX5 CX6 CX7 CY0 CY1 CY2 CY3 CY4 CY5 CY6 CY7
    obtain ⟨CX0, CX1, CX2, CX3, CX4, CX5, CX6, CX7⟩ := CX.out.cs8
    obtain ⟨CY0, CY1, CY2, CY3, CY4, CY5, CY6, CY7⟩ := CY.out.cs8
    by_cases hdb : b.d = 1
    · have HDB := Lib.hid hdb; clear hdb
      go_wp2_with fail
      refine (rIsW_yes b _ HDB.out).mono ?_
      rintro e w2 ⟨rfl, hbl⟩
      replace CX := hmB CX hbl
      replace CY := hmB CY hbl
      replace RES := hmB RES hbl
      replace S8 := hmB S8 hbl
      replace S4 := hmB S4 hbl
      replace HW := hmW HW hbl; clear hbl
      clear CX0 CX1 CX2 CX3 CX4 CX5 CX6 CX7 CY0 CY1 CY2 CY3 CY4 CY5 CY6 CY7
      obtain ⟨CX0, CX1, CX2, CX3, CX4, CX5, CX6, CX7⟩ := CX.out.cs8
      obtain ⟨CY0, CY1, CY2, CY3, CY4, CY5, CY6, CY7⟩ := CY.out.cs8
      obtain rfl : v = false := by have h := HX.out; rw [HDA.out, HDB.out] at h; simpa using h
      go_wp2_with fail
      refine (KW.out _).mono ?_
      rintro e wv ⟨rfl, hwv⟩
      obtain rfl := hwv.symm
      clear hwv
      obtain ⟨d0, d1, d2, d3, d4, d5, d6, d7⟩ := RES.out.cs8
      obtain ⟨f0, f1, f2, f3, f4, f5, f6, f7⟩ := RES.out.fz8
      go_wp2
      exact bodyPost_ret (results_cell_row rfl _ _ (w.heap.size + 2) 39 _ (0, 0) _ rfl (RES.out.put8 _ _ _ _ _ _ _ _) Tryz.underlying39 rfl (by kernel_rfl)) rfl ⟨rfl, (bel_set8 (g := w.heap.size + 2) HW.out (by omega) _ _ _ _ _ _ _ _)⟩
    · have HDB := Lib.hid hdb; clear hdb
      go_wp2_with fail
      refine (rIsW_no b _ HDB.out).mono ?_
      rintro e w2 ⟨rfl, hbl⟩
      replace CX := hmB CX hbl
      replace CY := hmB CY hbl
      replace RES := hmB RES hbl
      replace S8 := hmB S8 hbl
      replace S4 := hmB S4 hbl
      replace HW := hmW HW hbl; clear hbl
      clear CX0 CX1 CX2 CX3 CX4 CX5 CX6 CX7 CY0 CY1 CY2 CY3 CY4 CY5 CY6 CY7
      obtain ⟨CX0, CX1, CX2, CX3, CX4, CX5, CX6, CX7⟩ := CX.out.cs8
      obtain ⟨CY0, CY1, CY2, CY3, CY4, CY5, CY6, CY7⟩ := CY.out.cs8
      obtain ⟨d0, d1, d2, d3, d4, d5, d6, d7⟩ := RES.out.cs8
      obtain ⟨f0, f1, f2, f3, f4, f5, f6, f7⟩ := RES.out.fz8
      go_wp2
      exact bodyPost_ret (results_cell_row rfl _ _ (w.heap.size + 2) 39 _ (0, 0) _ rfl (RES.out.put8 _ _ _ _ _ _ _ _) Tryz.underlying39 rfl (by kernel_rfl)) rfl ⟨rfl, (bel_set8 (g := w.heap.size + 2) HW.out (by omega) _ _ _ _ _ _ _ _)⟩
  · have HDA := Lib.hid hda; clear hda
    go_wp2_with fail
    refine (rIsW_no a _ HDA.out).mono ?_
    rintro e w1 ⟨rfl, hbl⟩
    replace CX := hmB CX hbl
    replace CY := hmB CY hbl
    replace RES := hmB RES hbl
    replace S8 := hmB S8 hbl
    replace S4 := hmB S4 hbl
    replace HW := hmW HW hbl; clear hbl
    clear CX0 CX1 CX2 CX3 CX4 CX5 CX6 CX7 CY0 CY1 CY2 CY3 CY4 CY5 CY6 CY7
    obtain ⟨CX0, CX1, CX2, CX3, CX4, CX5, CX6, CX7⟩ := CX.out.cs8
    obtain ⟨CY0, CY1, CY2, CY3, CY4, CY5, CY6, CY7⟩ := CY.out.cs8
    obtain ⟨d0, d1, d2, d3, d4, d5, d6, d7⟩ := RES.out.cs8
    obtain ⟨f0, f1, f2, f3, f4, f5, f6, f7⟩ := RES.out.fz8
    go_wp2
    exact bodyPost_ret (results_cell_row rfl _ _ (w.heap.size + 2) 39 _ (0, 0) _ rfl (RES.out.put8 _ _ _ _ _ _ _ _) Tryz.underlying39 rfl (by kernel_rfl)) rfl ⟨rfl, (bel_set8 (g := w.heap.size + 2) HW.out (by omega) _ _ _ _ _ _ _ _)⟩
end
end Go.Proofs.YtmbbdjpnecjleaaGreat
