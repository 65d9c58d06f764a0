/-
  The reference's Of, Same, Text, walked.
  The reference's Reduced, Less, larger, smaller, walked.
-/
import Derived.Test.YtmbbdjpnecjleaaQC
import Derived.Deep.Cut
namespace Go.Proofs.Ytmbbdjpnecjleaa
section
open Go.RowKit

/-- A fraction of digits. -/
def RetFr (q : Q) (b : Bool) (w : World) (e : Ending) (w' : World) : Prop := e = .returned (.agg #[.bool q.s, .string (dec q.n), .string (dec q.d), .bool b]) ∧ Below w.heap.size w w'
theorem Blk.put4 {w : World} {g : Nat} {t : TypeId} {a b c d : Value} (h : Blk w g t #[a, b, c, d]) (x y z u : Value) :
    Blk ((((w.setCell ⟨g, 0, none⟩ x).setCell ⟨g, 1, none⟩ y).setCell ⟨g, 2, none⟩ z).setCell ⟨g, 3, none⟩ u) g t #[x, y, z, u] := (((h.put 0 x).put 1 y).put 2 z).put 3 u
theorem bel_set4 {w wk : World} {g : Nat} (h : Below w.heap.size w wk) (hg : w.heap.size ≤ g) (x y z u : Value) :
    Below w.heap.size w ((((wk.setCell ⟨g, 0, none⟩ x).setCell ⟨g, 1, none⟩ y).setCell ⟨g, 2, none⟩ z).setCell ⟨g, 3, none⟩ u) := (((h.setCell hg x).setCell hg y).setCell hg z).setCell hg u
theorem same_is (v : Bool) (A A' : Option Addr) (cap cap' : Nat) (xs ys : List Nat) (w : World) (h : RdL w A xs) (h' : RdL w A' ys) (hl : xs.length ≤ 18) (hv : decide (xs = ys) = v) : Calls Try.prog 62 #[.slice A xs.length cap, .slice A' ys.length cap'] w (RetBB v w) := by
  rw [← hv]
  exact same_bb A A' cap cap' xs ys w h h' hl
set_option maxRecDepth 100000 in
set_option maxHeartbeats 1000000 in
theorem refOf_any (s : Bool) (A B : Option Addr) (c e : Nat) (n d : Nat) (w : World) (h : RdL w A (limbs n)) (h' : RdL w B (limbs d)) (hn : n < Top) (hd : d < Top) :
    Calls Try.prog 28 #[.agg #[.bool s, .slice A (limbs n).length c, .slice B (limbs d).length e]] w (RetFr ⟨s, n, d⟩ false w) := by
  have LA := Lib.hid hn; clear hn
  have LB := Lib.hid hd; clear hd
  have RA := Lib.hid h; clear h
  have RB := Lib.hid h'; clear h'
  obtain ⟨wa, hwa⟩ : ∃ wa, wa = (w.alloc (.cells #[.bool s, .slice A (limbs n).length c, .slice B (limbs d).length e] 25)).alloc (.cells #[.bool false, .string ⟨#[]⟩, .string ⟨#[]⟩, .bool false] 49) := ⟨_, rfl⟩
  have hbl : Below w.heap.size w wa := by rw [hwa]; exact bel_alloc (bel_alloc (bel_refl _) _) _
  have CX : Blk wa (w.heap.size) 25 #[.bool s, .slice A (limbs n).length c, .slice B (limbs d).length e] := by
    have hz := Blk.new (w) 25 #[.bool s, .slice A (limbs n).length c, .slice B (limbs d).length e]
    rw [hwa]
    exact (hz.alloc _)
  have RES : Blk wa (w.heap.size + 1) 49 #[.bool false, .string ⟨#[]⟩, .string ⟨#[]⟩, .bool false] := by
    have hz := Blk.new (w.alloc (.cells #[.bool s, .slice A (limbs n).length c, .slice B (limbs d).length e] 25)) 49 #[.bool false, .string ⟨#[]⟩, .string ⟨#[]⟩, .bool false]
    rw [World.size_alloc] at hz
    rw [hwa]
    exact hz
  replace RA := Lib.hid (RA.out.below hbl)
  replace RB := Lib.hid (RB.out.below hbl)
  have HW := Lib.hid hbl; clear hbl
  replace CX := Lib.hid CX
  replace RES := Lib.hid RES
  go_enter Try.func28, Try.ntmps28
  go_wp2_with fail
  rw [← hwa]
  clear hwa
  have CX0 : wa.cell? ⟨w.heap.size, 0, none⟩ = some (.bool s) := CX.out.cell 0
  have CX1 : wa.cell? ⟨w.heap.size, 1, none⟩ = some (.slice A (limbs n).length c) := CX.out.cell 1
  have CX2 : wa.cell? ⟨w.heap.size, 2, none⟩ = some (.slice B (limbs d).length e) := CX.out.cell 2
  refine wp_region_typed 9 (TOf [VIs (.pointer (some ⟨w.heap.size, 0, none⟩)),
      VIs (.bool s),
      VIs (.pointer (some ⟨w.heap.size, 1, none⟩)),
      VIs (.slice A (limbs n).length c),
      VIs (.string (dec n)),
      VIs (.pointer (some ⟨w.heap.size, 2, none⟩)),
      VIs (.slice B (limbs d).length e),
      VIs (.string (dec d)),
      VIs (.agg #[.bool s, .string (dec n), .string (dec d), .bool false])]) (by kernel_rfl) (by kernel_rfl) (by kernel_rfl) (LiftAll.at_ (.cons (VIs.lift _) (.cons (VIs.lift _) (.cons (VIs.lift _) (.cons (VIs.lift _) (.cons (VIs.lift _) (.cons (VIs.lift _) (.cons (VIs.lift _) (.cons (VIs.lift _) (.cons (VIs.lift _) .nil)))))))))) (steps_all (steps_cons ?_ (steps_cons ?_ (steps_cons ?_ (steps_cons ?_ (steps_cons ?_ (steps_cons ?_ (steps_cons ?_ (steps_cons ?_ (steps_cons ?_ steps_zero)))))))))) ?fin
  · intro a0 w9 K9 hF hB hK hC
    have b1 := hF.base (k := 1) (v := .pointer (some ⟨w.heap.size, 0, none⟩)) (by kernel_rfl) rfl
    clear hF hB hK
    go_simp
    exact hC _ _ (bel_refl _) fun _ _ => rfl
  · intro a0 w9 K9 hF hB hK hC
    obtain ⟨v3, e3, z3⟩ := dep hK 0 (g := .data) (j := 0) (k := 3) rfl rfl rfl
    have z3 : v3 = .pointer (some ⟨w.heap.size, 0, none⟩) := z3
    subst z3
    have x9 : w9.cell? ⟨w.heap.size, 0, none⟩ = some (.bool s) := (CX.out.below hB CX.out.lt).cell 0
    clear hF hB hK
    go_simp
    exact hC _ _ (bel_refl _) fun _ _ => rfl
  · intro a0 w9 K9 hF hB hK hC
    have b1 := hF.base (k := 1) (v := .pointer (some ⟨w.heap.size, 0, none⟩)) (by kernel_rfl) rfl
    clear hF hB hK
    go_simp
    exact hC _ _ (bel_refl _) fun _ _ => rfl
  · intro a0 w9 K9 hF hB hK hC
    obtain ⟨v5, e5, z5⟩ := dep hK 0 (g := .data) (j := 2) (k := 5) rfl rfl rfl
    have z5 : v5 = .pointer (some ⟨w.heap.size, 1, none⟩) := z5
    subst z5
    have x9 : w9.cell? ⟨w.heap.size, 1, none⟩ = some (.slice A (limbs n).length c) := (CX.out.below hB CX.out.lt).cell 1
    clear hF hB hK
    go_simp
    exact hC _ _ (bel_refl _) fun _ _ => rfl
  · intro a0 w9 K9 hF hB hK hC
    obtain ⟨v6, e6, z6⟩ := dep hK 0 (g := .data) (j := 3) (k := 6) rfl rfl rfl
    have z6 : v6 = .slice A (limbs n).length c := z6
    subst z6
    have HB9 := Lib.hid hB
    clear hF hB hK
    go_simp
    refine (text_num A c n _ (RA.out.below HB9.out) LA.out).mono ?_
    rintro e w7 ⟨rfl, hbl⟩
    exact hC _ _ hbl fun _ _ => rfl
  · intro a0 w9 K9 hF hB hK hC
    have b1 := hF.base (k := 1) (v := .pointer (some ⟨w.heap.size, 0, none⟩)) (by kernel_rfl) rfl
    clear hF hB hK
    go_simp
    exact hC _ _ (bel_refl _) fun _ _ => rfl
  · intro a0 w9 K9 hF hB hK hC
    obtain ⟨v8, e8, z8⟩ := dep hK 0 (g := .data) (j := 5) (k := 8) rfl rfl rfl
    have z8 : v8 = .pointer (some ⟨w.heap.size, 2, none⟩) := z8
    subst z8
    have x9 : w9.cell? ⟨w.heap.size, 2, none⟩ = some (.slice B (limbs d).length e) := (CX.out.below hB CX.out.lt).cell 2
    clear hF hB hK
    go_simp
    exact hC _ _ (bel_refl _) fun _ _ => rfl
  · intro a0 w9 K9 hF hB hK hC
    obtain ⟨v9, e9, z9⟩ := dep hK 0 (g := .data) (j := 6) (k := 9) rfl rfl rfl
    have z9 : v9 = .slice B (limbs d).length e := z9
    subst z9
    have HB9 := Lib.hid hB
    clear hF hB hK
    go_simp
    refine (text_num B e d _ (RB.out.below HB9.out) LB.out).mono ?_
    rintro e w7 ⟨rfl, hbl⟩
    exact hC _ _ hbl fun _ _ => rfl
  · intro a0 w9 K9 hF hB hK hC
    obtain ⟨v4, e4, z4⟩ := dep hK 0 (g := .data) (j := 1) (k := 4) rfl rfl rfl
    have z4 : v4 = .bool s := z4
    subst z4
    obtain ⟨v7, e7, z7⟩ := dep hK 1 (g := .data) (j := 4) (k := 7) rfl rfl rfl
    have z7 : v7 = .string (dec n) := z7
    subst z7
    obtain ⟨v10, e10, z10⟩ := dep hK 2 (g := .data) (j := 7) (k := 10) rfl rfl rfl
    have z10 : v10 = .string (dec d) := z10
    subst z10
    have HB9 := Lib.hid hB
    clear hF hB hK
    go_simp
    exact hC _ _ (bel_refl _) fun _ _ => rfl
  case fin =>
    intro a0 w9 hF hB hK
    have b1 := hF.base (k := 1) (v := .pointer (some ⟨w.heap.size, 0, none⟩)) (by kernel_rfl) rfl
    have b2 := hF.base (k := 2) (v := .pointer (some ⟨w.heap.size + 1, 0, none⟩)) (by kernel_rfl) rfl
    have hsz := hF.size
    have hdf := hF.defers
    clear hF
    obtain ⟨v11, e11, z11⟩ := known hK 8 (k := 11) (by decide) rfl
    have z11 : v11 = .agg #[.bool s, .string (dec n), .string (dec d), .bool false] := z11
    subst z11
    clear hK
    obtain ⟨⟨l0⟩, df⟩ := a0
    have hs0 : l0.length = 12 := hsz
    clear hsz
    replace hdf : df = _ := hdf
    subst hdf
    obtain ⟨u, rfl⟩ := lits_12 hs0
    clear hs0
    have q1 : u 1 = _ := Option.some.inj b1
    clear b1
    have q2 : u 2 = _ := Option.some.inj b2
    clear b2
    have q11 : u 11 = _ := Option.some.inj e11
    clear e11
    rw [q1, q2, q11]
    clear q1 q2 q11
    have hbl := hB; clear hB
    replace RA := Lib.hid (RA.out.below hbl)
    replace RB := Lib.hid (RB.out.below hbl)
    replace CX := Lib.hid (CX.out.below hbl CX.out.lt)
    replace RES := Lib.hid (RES.out.below hbl RES.out.lt)
    replace HW := Lib.hid (bel_trans HW.out hbl); clear hbl
    clear CX0 CX1 CX2
    have CX0 : w9.cell? ⟨w.heap.size, 0, none⟩ = some (.bool s) := CX.out.cell 0
    have CX1 : w9.cell? ⟨w.heap.size, 1, none⟩ = some (.slice A (limbs n).length c) := CX.out.cell 1
    have CX2 : w9.cell? ⟨w.heap.size, 2, none⟩ = some (.slice B (limbs d).length e) := CX.out.cell 2
    simp only [List.drop_succ_cons, List.drop_zero]
    have d0 : w9.cell? ⟨w.heap.size + 1, 0, none⟩ = some (.bool false) := RES.out.cell 0
    have f0 : w9.frozen? ⟨w.heap.size + 1, 0, none⟩ = false := RES.out.frozen 0
    have d1 : w9.cell? ⟨w.heap.size + 1, 1, none⟩ = some (.string ⟨#[]⟩) := RES.out.cell 1
    have f1 : w9.frozen? ⟨w.heap.size + 1, 1, none⟩ = false := RES.out.frozen 1
    have d2 : w9.cell? ⟨w.heap.size + 1, 2, none⟩ = some (.string ⟨#[]⟩) := RES.out.cell 2
    have f2 : w9.frozen? ⟨w.heap.size + 1, 2, none⟩ = false := RES.out.frozen 2
    have d3 : w9.cell? ⟨w.heap.size + 1, 3, none⟩ = some (.bool false) := RES.out.cell 3
    have f3 : w9.frozen? ⟨w.heap.size + 1, 3, none⟩ = false := RES.out.frozen 3
    have D := Lib.hid (And.intro (RES.out.put4 (.bool s) (.string (dec n)) (.string (dec d)) (.bool false)) (bel_set4 (g := w.heap.size + 1) HW.out (by omega) (.bool s) (.string (dec n)) (.string (dec d)) (.bool false)))
    go_wp2
    refine bodyPost_ret (v := .agg #[.bool s, .string (dec n), .string (dec d), .bool false]) ?hr rfl ?hR
    case hR => exact ⟨rfl, D.out.2⟩
    case hr => exact results_cell_row rfl _ _ (w.heap.size + 1) 49 _ (0, 0) _ rfl D.out.1 Try.underlying49 rfl (by kernel_rfl)

set_option maxRecDepth 100000 in
set_option maxHeartbeats 1000000 in
theorem refSame_sign (s s' : Bool) (A B A' B' : Option Addr) (c d c' d' : Nat) (xs ys xs' ys' : List Nat) (w : World) (hs : ¬ s = s') :
    Calls Try.prog 25 #[.agg #[.bool s, .slice A xs.length c, .slice B ys.length d], .agg #[.bool s', .slice A' xs'.length c', .slice B' ys'.length d']] w (RetBB false w) := by
  have hs1 : (s == s') = false := by simp [hs]
  obtain ⟨wa, hwa⟩ : ∃ wa, wa = (w.alloc (.cells #[.bool s, .slice A xs.length c, .slice B ys.length d] 25)).alloc (.cells #[.bool s', .slice A' xs'.length c', .slice B' ys'.length d'] 25) := ⟨_, rfl⟩
  have hbl : Below w.heap.size w wa := by rw [hwa]; exact bel_alloc (bel_alloc (bel_refl _) _) _
  have CX : Blk wa (w.heap.size) 25 #[.bool s, .slice A xs.length c, .slice B ys.length d] := by
    have hz := Blk.new (w) 25 #[.bool s, .slice A xs.length c, .slice B ys.length d]
    rw [hwa]
    exact (hz.alloc _)
  have CY : Blk wa (w.heap.size + 1) 25 #[.bool s', .slice A' xs'.length c', .slice B' ys'.length d'] := by
    have hz := Blk.new (w.alloc (.cells #[.bool s, .slice A xs.length c, .slice B ys.length d] 25)) 25 #[.bool s', .slice A' xs'.length c', .slice B' ys'.length d']
    rw [World.size_alloc] at hz
    rw [hwa]
    exact hz
  have HW := Lib.hid hbl; clear hbl
  replace CX := Lib.hid CX
  replace CY := Lib.hid CY
  go_enter Try.func25, Try.ntmps25
  have CX0 := CX.out.cell 0
  have CY0 := CY.out.cell 0
  rw [hwa] at CX0 CY0
  go_wp2
  go_ret
  rw [← hwa]
  exact ⟨rfl, HW.out⟩

set_option maxRecDepth 100000 in
set_option maxHeartbeats 1000000 in
theorem refSame_num (s s' : Bool) (A B A' B' : Option Addr) (c d c' d' : Nat) (xs ys xs' ys' : List Nat) (w : World) (hs : s = s') (h1 : RdL w A xs) (h2 : RdL w A' xs') (hl1 : xs.length ≤ 18) (hx : decide (xs = xs') = false) :
    Calls Try.prog 25 #[.agg #[.bool s, .slice A xs.length c, .slice B ys.length d], .agg #[.bool s', .slice A' xs'.length c', .slice B' ys'.length d']] w (RetBB false w) := by
  subst hs
  have hs1 : (s == s) = true := by simp
  have R1 := Lib.hid h1; clear h1
  have R2 := Lib.hid h2; clear h2
  have HX := Lib.hid hx; clear hx
  obtain ⟨wa, hwa⟩ : ∃ wa, wa = (w.alloc (.cells #[.bool s, .slice A xs.length c, .slice B ys.length d] 25)).alloc (.cells #[.bool s, .slice A' xs'.length c', .slice B' ys'.length d'] 25) := ⟨_, rfl⟩
  have hbl : Below w.heap.size w wa := by rw [hwa]; exact bel_alloc (bel_alloc (bel_refl _) _) _
  have CX : Blk wa (w.heap.size) 25 #[.bool s, .slice A xs.length c, .slice B ys.length d] := by
    have hz := Blk.new (w) 25 #[.bool s, .slice A xs.length c, .slice B ys.length d]
    rw [hwa]
    exact (hz.alloc _)
  have CY : Blk wa (w.heap.size + 1) 25 #[.bool s, .slice A' xs'.length c', .slice B' ys'.length d'] := by
    have hz := Blk.new (w.alloc (.cells #[.bool s, .slice A xs.length c, .slice B ys.length d] 25)) 25 #[.bool s, .slice A' xs'.length c', .slice B' ys'.length d']
    rw [World.size_alloc] at hz
    rw [hwa]
    exact hz
  replace R1 := Lib.hid (R1.out.below hbl)
  replace R2 := Lib.hid (R2.out.below hbl)
  have HW := Lib.hid hbl; clear hbl
  replace CX := Lib.hid CX
  replace CY := Lib.hid CY
  go_enter Try.func25, Try.ntmps25
  go_wp2_with fail
  rw [← hwa]
  clear hwa
  have CX0 : wa.cell? ⟨w.heap.size, 0, none⟩ = some (.bool s) := CX.out.cell 0
  have CX1 : wa.cell? ⟨w.heap.size, 1, none⟩ = some (.slice A xs.length c) := CX.out.cell 1
  have CX2 : wa.cell? ⟨w.heap.size, 2, none⟩ = some (.slice B ys.length d) := CX.out.cell 2
  have CY0 : wa.cell? ⟨w.heap.size + 1, 0, none⟩ = some (.bool s) := CY.out.cell 0
  have CY1 : wa.cell? ⟨w.heap.size + 1, 1, none⟩ = some (.slice A' xs'.length c') := CY.out.cell 1
  have CY2 : wa.cell? ⟨w.heap.size + 1, 2, none⟩ = some (.slice B' ys'.length d') := CY.out.cell 2
  refine (same_is false A A' c c' xs xs' _ R1.out R2.out hl1 HX.out).mono ?_
  rintro e w1 ⟨rfl, hbl⟩
  replace R1 := Lib.hid (R1.out.below hbl)
  replace R2 := Lib.hid (R2.out.below hbl)
  replace CX := Lib.hid (CX.out.below hbl CX.out.lt)
  replace CY := Lib.hid (CY.out.below hbl CY.out.lt)
  replace HW := Lib.hid (bel_trans HW.out hbl); clear hbl
  clear CX0 CX1 CX2 CY0 CY1 CY2
  have CX0 : w1.cell? ⟨w.heap.size, 0, none⟩ = some (.bool s) := CX.out.cell 0
  have CX1 : w1.cell? ⟨w.heap.size, 1, none⟩ = some (.slice A xs.length c) := CX.out.cell 1
  have CX2 : w1.cell? ⟨w.heap.size, 2, none⟩ = some (.slice B ys.length d) := CX.out.cell 2
  have CY0 : w1.cell? ⟨w.heap.size + 1, 0, none⟩ = some (.bool s) := CY.out.cell 0
  have CY1 : w1.cell? ⟨w.heap.size + 1, 1, none⟩ = some (.slice A' xs'.length c') := CY.out.cell 1
  have CY2 : w1.cell? ⟨w.heap.size + 1, 2, none⟩ = some (.slice B' ys'.length d') := CY.out.cell 2
  go_wp2
  go_ret
  exact ⟨rfl, HW.out⟩

set_option maxRecDepth 100000 in
set_option maxHeartbeats 1000000 in
theorem refSame_den (v : Bool) (s s' : Bool) (A B A' B' : Option Addr) (c d c' d' : Nat) (xs ys xs' ys' : List Nat) (w : World) (hs : s = s') (h1 : RdL w A xs) (h2 : RdL w A' xs') (hl1 : xs.length ≤ 18) (h3 : RdL w B ys) (h4 : RdL w B' ys') (hl3 : ys.length ≤ 18) (hx : decide (xs = xs') = true) (hy : decide (ys = ys') = v) :
    Calls Try.prog 25 #[.agg #[.bool s, .slice A xs.length c, .slice B ys.length d], .agg #[.bool s', .slice A' xs'.length c', .slice B' ys'.length d']] w (RetBB v w) := by
  subst hs
  have hs1 : (s == s) = true := by simp
  have R1 := Lib.hid h1; clear h1
  have R2 := Lib.hid h2; clear h2
  have HX := Lib.hid hx; clear hx
  have R3 := Lib.hid h3; clear h3
  have R4 := Lib.hid h4; clear h4
  have HY := Lib.hid hy; clear hy
  obtain ⟨wa, hwa⟩ : ∃ wa, wa = (w.alloc (.cells #[.bool s, .slice A xs.length c, .slice B ys.length d] 25)).alloc (.cells #[.bool s, .slice A' xs'.length c', .slice B' ys'.length d'] 25) := ⟨_, rfl⟩
  have hbl : Below w.heap.size w wa := by rw [hwa]; exact bel_alloc (bel_alloc (bel_refl _) _) _
  have CX : Blk wa (w.heap.size) 25 #[.bool s, .slice A xs.length c, .slice B ys.length d] := by
    have hz := Blk.new (w) 25 #[.bool s, .slice A xs.length c, .slice B ys.length d]
    rw [hwa]
    exact (hz.alloc _)
  have CY : Blk wa (w.heap.size + 1) 25 #[.bool s, .slice A' xs'.length c', .slice B' ys'.length d'] := by
    have hz := Blk.new (w.alloc (.cells #[.bool s, .slice A xs.length c, .slice B ys.length d] 25)) 25 #[.bool s, .slice A' xs'.length c', .slice B' ys'.length d']
    rw [World.size_alloc] at hz
    rw [hwa]
    exact hz
  replace R1 := Lib.hid (R1.out.below hbl)
  replace R2 := Lib.hid (R2.out.below hbl)
  replace R3 := Lib.hid (R3.out.below hbl)
  replace R4 := Lib.hid (R4.out.below hbl)
  have HW := Lib.hid hbl; clear hbl
  replace CX := Lib.hid CX
  replace CY := Lib.hid CY
  go_enter Try.func25, Try.ntmps25
  go_wp2_with fail
  rw [← hwa]
  clear hwa
  have CX0 : wa.cell? ⟨w.heap.size, 0, none⟩ = some (.bool s) := CX.out.cell 0
  have CX1 : wa.cell? ⟨w.heap.size, 1, none⟩ = some (.slice A xs.length c) := CX.out.cell 1
  have CX2 : wa.cell? ⟨w.heap.size, 2, none⟩ = some (.slice B ys.length d) := CX.out.cell 2
  have CY0 : wa.cell? ⟨w.heap.size + 1, 0, none⟩ = some (.bool s) := CY.out.cell 0
  have CY1 : wa.cell? ⟨w.heap.size + 1, 1, none⟩ = some (.slice A' xs'.length c') := CY.out.cell 1
  have CY2 : wa.cell? ⟨w.heap.size + 1, 2, none⟩ = some (.slice B' ys'.length d') := CY.out.cell 2
  refine (same_is true A A' c c' xs xs' _ R1.out R2.out hl1 HX.out).mono ?_
  rintro e w1 ⟨rfl, hbl⟩
  replace R1 := Lib.hid (R1.out.below hbl)
  replace R2 := Lib.hid (R2.out.below hbl)
  replace R3 := Lib.hid (R3.out.below hbl)
  replace R4 := Lib.hid (R4.out.below hbl)
  replace CX := Lib.hid (CX.out.below hbl CX.out.lt)
  replace CY := Lib.hid (CY.out.below hbl CY.out.lt)
  replace HW := Lib.hid (bel_trans HW.out hbl); clear hbl
  clear CX0 CX1 CX2 CY0 CY1 CY2
  have CX0 : w1.cell? ⟨w.heap.size, 0, none⟩ = some (.bool s) := CX.out.cell 0
  have CX1 : w1.cell? ⟨w.heap.size, 1, none⟩ = some (.slice A xs.length c) := CX.out.cell 1
  have CX2 : w1.cell? ⟨w.heap.size, 2, none⟩ = some (.slice B ys.length d) := CX.out.cell 2
  have CY0 : w1.cell? ⟨w.heap.size + 1, 0, none⟩ = some (.bool s) := CY.out.cell 0
  have CY1 : w1.cell? ⟨w.heap.size + 1, 1, none⟩ = some (.slice A' xs'.length c') := CY.out.cell 1
  have CY2 : w1.cell? ⟨w.heap.size + 1, 2, none⟩ = some (.slice B' ys'.length d') := CY.out.cell 2
  go_wp2_with fail
  refine (same_is v B B' d d' ys ys' _ R3.out R4.out hl3 HY.out).mono ?_
  rintro e w2 ⟨rfl, hbl⟩
  replace R1 := Lib.hid (R1.out.below hbl)
  replace R2 := Lib.hid (R2.out.below hbl)
  replace R3 := Lib.hid (R3.out.below hbl)
  replace R4 := Lib.hid (R4.out.below hbl)
  replace CX := Lib.hid (CX.out.below hbl CX.out.lt)
  replace CY := Lib.hid (CY.out.below hbl CY.out.lt)
  replace HW := Lib.hid (bel_trans HW.out hbl); clear hbl
  clear CX0 CX1 CX2 CY0 CY1 CY2
  have CX0 : w2.cell? ⟨w.heap.size, 0, none⟩ = some (.bool s) := CX.out.cell 0
  have CX1 : w2.cell? ⟨w.heap.size, 1, none⟩ = some (.slice A xs.length c) := CX.out.cell 1
  have CX2 : w2.cell? ⟨w.heap.size, 2, none⟩ = some (.slice B ys.length d) := CX.out.cell 2
  have CY0 : w2.cell? ⟨w.heap.size + 1, 0, none⟩ = some (.bool s) := CY.out.cell 0
  have CY1 : w2.cell? ⟨w.heap.size + 1, 1, none⟩ = some (.slice A' xs'.length c') := CY.out.cell 1
  have CY2 : w2.cell? ⟨w.heap.size + 1, 2, none⟩ = some (.slice B' ys'.length d') := CY.out.cell 2
  go_wp2
  go_ret
  exact ⟨rfl, HW.out⟩

theorem refSame_any (s s' : Bool) (A B A' B' : Option Addr) (c d c' d' : Nat) (xs ys xs' ys' : List Nat) (w : World) (h1 : RdL w A xs) (h2 : RdL w A' xs') (hl1 : xs.length ≤ 18) (h3 : RdL w B ys) (h4 : RdL w B' ys') (hl3 : ys.length ≤ 18) :
    Calls Try.prog 25 #[.agg #[.bool s, .slice A xs.length c, .slice B ys.length d], .agg #[.bool s', .slice A' xs'.length c', .slice B' ys'.length d']] w (RetBB (likeB s s' xs ys xs' ys') w) := by
  unfold likeB
  by_cases hs : s = s'
  · rw [decide_eq_true hs]
    cases hx : decide (xs = xs')
    · exact refSame_num s s' A B A' B' c d c' d' xs ys xs' ys' w hs h1 h2 hl1 hx
    · cases hy : decide (ys = ys')
      · exact refSame_den false s s' A B A' B' c d c' d' xs ys xs' ys' w hs h1 h2 hl1 h3 h4 hl3 hx hy
      · exact refSame_den true s s' A B A' B' c d c' d' xs ys xs' ys' w hs h1 h2 hl1 h3 h4 hl3 hx hy
  · rw [decide_eq_false hs]
    exact refSame_sign s s' A B A' B' c d c' d' xs ys xs' ys' w hs

set_option maxRecDepth 100000 in
set_option maxHeartbeats 1000000 in
theorem reft_t1 (n d : Nat) (bad : Bool) (w : World) (hz : (dec n).size ≤ 1000) (h1 : d = 1) :
    Calls Try.prog 27 #[.agg #[.bool true, .string (dec n), .string (dec d), .bool bad]] w (RetS (qText true n d) w) := by
  subst h1
  rw [qText_t1]
  have e1 := dec_is1 1
  have e2 : ((dec 1).toList == [49]) = true := by rw [e1]; rfl
  have e3 : ((dec 1).toList != [49]) = false := by simp [bne, e2]
  clear e1
  have sz1 : ¬ 9223372036854775807 < 1 + (dec n).size := by omega
  have sz2 : ¬ 9223372036854775807 < 1 + (dec n).size + 1 := by omega
  have sz3 : ¬ 9223372036854775807 < (dec n).size + 1 := by omega
  clear hz
  obtain ⟨wa, hwa⟩ : ∃ wa, wa = w.alloc (.cells #[.bool true, .string (dec n), .string (dec 1), .bool bad] 49) := ⟨_, rfl⟩
  have hbl : Below w.heap.size w wa := by rw [hwa]; exact bel_alloc (bel_refl _) _
  have CF : Blk wa (w.heap.size) 49 #[.bool true, .string (dec n), .string (dec 1), .bool bad] := by
    have hz := Blk.new (w) 49 #[.bool true, .string (dec n), .string (dec 1), .bool bad]
    rw [hwa]
    exact hz
  have HW := Lib.hid hbl; clear hbl
  replace CF := Lib.hid CF
  go_enter Try.func27, Try.ntmps27
  go_wp2_with fail
  rw [← hwa]
  clear hwa
  have CF0 : wa.cell? ⟨w.heap.size, 0, none⟩ = some (.bool true) := CF.out.cell 0
  have CF1 : wa.cell? ⟨w.heap.size, 1, none⟩ = some (.string (dec n)) := CF.out.cell 1
  have CF2 : wa.cell? ⟨w.heap.size, 2, none⟩ = some (.string (dec 1)) := CF.out.cell 2
  go_ret
  refine ⟨?_, HW.out⟩
  rfl

set_option maxRecDepth 100000 in
set_option maxHeartbeats 1000000 in
theorem reft_td (n d : Nat) (bad : Bool) (w : World) (hz : (dec n).size ≤ 1000) (hz2 : (dec d).size ≤ 1000) (h1 : d ≠ 1) :
    Calls Try.prog 27 #[.agg #[.bool true, .string (dec n), .string (dec d), .bool bad]] w (RetS (qText true n d) w) := by
  rw [qText_t n d h1]
  have e1 := dec_is1 d
  have e2 : ((dec d).toList == [49]) = false := by rw [e1]; exact decide_eq_false h1
  have e3 : ((dec d).toList != [49]) = true := by simp [bne, e2]
  clear e1
  have sz1 : ¬ 9223372036854775807 < 1 + (dec n).size := by omega
  have sz2 : ¬ 9223372036854775807 < 1 + (dec n).size + 1 := by omega
  have sz3 : ¬ 9223372036854775807 < (dec n).size + 1 := by omega
  have sz4 : ¬ 9223372036854775807 < 1 + (dec n).size + 1 + (dec d).size := by omega
  have sz5 : ¬ 9223372036854775807 < (dec n).size + 1 + (dec d).size := by omega
  clear hz hz2
  obtain ⟨wa, hwa⟩ : ∃ wa, wa = w.alloc (.cells #[.bool true, .string (dec n), .string (dec d), .bool bad] 49) := ⟨_, rfl⟩
  have hbl : Below w.heap.size w wa := by rw [hwa]; exact bel_alloc (bel_refl _) _
  have CF : Blk wa (w.heap.size) 49 #[.bool true, .string (dec n), .string (dec d), .bool bad] := by
    have hz := Blk.new (w) 49 #[.bool true, .string (dec n), .string (dec d), .bool bad]
    rw [hwa]
    exact hz
  have HW := Lib.hid hbl; clear hbl
  replace CF := Lib.hid CF
  go_enter Try.func27, Try.ntmps27
  go_wp2_with fail
  rw [← hwa]
  clear hwa
  have CF0 : wa.cell? ⟨w.heap.size, 0, none⟩ = some (.bool true) := CF.out.cell 0
  have CF1 : wa.cell? ⟨w.heap.size, 1, none⟩ = some (.string (dec n)) := CF.out.cell 1
  have CF2 : wa.cell? ⟨w.heap.size, 2, none⟩ = some (.string (dec d)) := CF.out.cell 2
  go_ret
  refine ⟨?_, HW.out⟩
  simp only [ByteArray.append_assoc]
  rfl

set_option maxRecDepth 100000 in
set_option maxHeartbeats 1000000 in
theorem reft_f1 (n d : Nat) (bad : Bool) (w : World) (hz : (dec n).size ≤ 1000) (h1 : d = 1) :
    Calls Try.prog 27 #[.agg #[.bool false, .string (dec n), .string (dec d), .bool bad]] w (RetS (qText false n d) w) := by
  subst h1
  rw [qText_f1]
  have e1 := dec_is1 1
  have e2 : ((dec 1).toList == [49]) = true := by rw [e1]; rfl
  have e3 : ((dec 1).toList != [49]) = false := by simp [bne, e2]
  clear e1
  have sz1 : ¬ 9223372036854775807 < 1 + (dec n).size := by omega
  have sz2 : ¬ 9223372036854775807 < 1 + (dec n).size + 1 := by omega
  have sz3 : ¬ 9223372036854775807 < (dec n).size + 1 := by omega
  clear hz
  obtain ⟨wa, hwa⟩ : ∃ wa, wa = w.alloc (.cells #[.bool false, .string (dec n), .string (dec 1), .bool bad] 49) := ⟨_, rfl⟩
  have hbl : Below w.heap.size w wa := by rw [hwa]; exact bel_alloc (bel_refl _) _
  have CF : Blk wa (w.heap.size) 49 #[.bool false, .string (dec n), .string (dec 1), .bool bad] := by
    have hz := Blk.new (w) 49 #[.bool false, .string (dec n), .string (dec 1), .bool bad]
    rw [hwa]
    exact hz
  have HW := Lib.hid hbl; clear hbl
  replace CF := Lib.hid CF
  go_enter Try.func27, Try.ntmps27
  go_wp2_with fail
  rw [← hwa]
  clear hwa
  have CF0 : wa.cell? ⟨w.heap.size, 0, none⟩ = some (.bool false) := CF.out.cell 0
  have CF1 : wa.cell? ⟨w.heap.size, 1, none⟩ = some (.string (dec n)) := CF.out.cell 1
  have CF2 : wa.cell? ⟨w.heap.size, 2, none⟩ = some (.string (dec 1)) := CF.out.cell 2
  go_ret
  refine ⟨?_, HW.out⟩
  rfl

set_option maxRecDepth 100000 in
set_option maxHeartbeats 1000000 in
theorem reft_fd (n d : Nat) (bad : Bool) (w : World) (hz : (dec n).size ≤ 1000) (hz2 : (dec d).size ≤ 1000) (h1 : d ≠ 1) :
    Calls Try.prog 27 #[.agg #[.bool false, .string (dec n), .string (dec d), .bool bad]] w (RetS (qText false n d) w) := by
  rw [qText_f n d h1]
  have e1 := dec_is1 d
  have e2 : ((dec d).toList == [49]) = false := by rw [e1]; exact decide_eq_false h1
  have e3 : ((dec d).toList != [49]) = true := by simp [bne, e2]
  clear e1
  have sz1 : ¬ 9223372036854775807 < 1 + (dec n).size := by omega
  have sz2 : ¬ 9223372036854775807 < 1 + (dec n).size + 1 := by omega
  have sz3 : ¬ 9223372036854775807 < (dec n).size + 1 := by omega
  have sz4 : ¬ 9223372036854775807 < 1 + (dec n).size + 1 + (dec d).size := by omega
  have sz5 : ¬ 9223372036854775807 < (dec n).size + 1 + (dec d).size := by omega
  clear hz hz2
  obtain ⟨wa, hwa⟩ : ∃ wa, wa = w.alloc (.cells #[.bool false, .string (dec n), .string (dec d), .bool bad] 49) := ⟨_, rfl⟩
  have hbl : Below w.heap.size w wa := by rw [hwa]; exact bel_alloc (bel_refl _) _
  have CF : Blk wa (w.heap.size) 49 #[.bool false, .string (dec n), .string (dec d), .bool bad] := by
    have hz := Blk.new (w) 49 #[.bool false, .string (dec n), .string (dec d), .bool bad]
    rw [hwa]
    exact hz
  have HW := Lib.hid hbl; clear hbl
  replace CF := Lib.hid CF
  go_enter Try.func27, Try.ntmps27
  go_wp2_with fail
  rw [← hwa]
  clear hwa
  have CF0 : wa.cell? ⟨w.heap.size, 0, none⟩ = some (.bool false) := CF.out.cell 0
  have CF1 : wa.cell? ⟨w.heap.size, 1, none⟩ = some (.string (dec n)) := CF.out.cell 1
  have CF2 : wa.cell? ⟨w.heap.size, 2, none⟩ = some (.string (dec d)) := CF.out.cell 2
  go_ret
  refine ⟨?_, HW.out⟩
  simp only [ByteArray.append_assoc]
  rfl

theorem reft_any (s : Bool) (n d : Nat) (bad : Bool) (w : World) (hz : (dec n).size ≤ 1000) (hz2 : (dec d).size ≤ 1000) :
    Calls Try.prog 27 #[.agg #[.bool s, .string (dec n), .string (dec d), .bool bad]] w (RetS (qText s n d) w) := by
  by_cases h1 : d = 1
  · cases s
    · exact reft_f1 n d bad w hz h1
    · exact reft_t1 n d bad w hz h1
  · cases s
    · exact reft_fd n d bad w hz hz2 h1
    · exact reft_td n d bad w hz hz2 h1
end
section
open Go.RowKit

theorem gcd_len {n d : Nat} {k : Nat} (hn : n ≠ 0) (h : (decL n).length ≤ k) : (decL (Nat.gcd n d)).length ≤ k := Nat.le_trans (decL_mono (Nat.le_of_dvd (Nat.pos_of_ne_zero hn) (Nat.gcd_dvd_left n d))) h
set_option maxRecDepth 100000 in
set_option maxHeartbeats 1000000 in
theorem refRed_onp (s : Bool) (n d : Nat) (bad : Bool) (w : World) (ho : decide (Top ≤ n) = true) (hl : (decL n).length ≤ 900) (hl2 : (decL d).length ≤ 900) (hn0 : n ≠ 0) :
    Calls Try.prog 31 #[.agg #[.bool s, .string (dec n), .string (dec d), .bool bad]] w (RetFr (redQ s n d) true w) := by
  rw [show redQ s n d = ⟨s, n / Nat.gcd n d, d / Nat.gcd n d⟩ by unfold redQ; rw [if_neg hn0]]
  have e1 := dec_is0 n
  rw [decide_eq_false hn0] at e1
  have HL := Lib.hid (And.intro hl (And.intro hl2 hn0)); clear hl hl2
  clear hn0
  have HO := Lib.hid ho; clear ho
  have hf1 := fun W => field_q (dec (n / Nat.gcd n d)) (dec (n % Nat.gcd n d)) W
  have hf2 := fun W => field_q (dec (d / Nat.gcd n d)) (dec (d % Nat.gcd n d)) W
  obtain ⟨wa, hwa⟩ : ∃ wa, wa = (w.alloc (.cells #[.bool s, .string (dec n), .string (dec d), .bool bad] 49)).alloc (.cells #[.bool false, .string ⟨#[]⟩, .string ⟨#[]⟩, .bool false] 49) := ⟨_, rfl⟩
  have hbl : Below w.heap.size w wa := by rw [hwa]; exact bel_alloc (bel_alloc (bel_refl _) _) _
  have CF : Blk wa (w.heap.size) 49 #[.bool s, .string (dec n), .string (dec d), .bool bad] := by
    have hz := Blk.new (w) 49 #[.bool s, .string (dec n), .string (dec d), .bool bad]
    rw [hwa]
    exact (hz.alloc _)
  have RES : Blk wa (w.heap.size + 1) 49 #[.bool false, .string ⟨#[]⟩, .string ⟨#[]⟩, .bool false] := by
    have hz := Blk.new (w.alloc (.cells #[.bool s, .string (dec n), .string (dec d), .bool bad] 49)) 49 #[.bool false, .string ⟨#[]⟩, .string ⟨#[]⟩, .bool false]
    rw [World.size_alloc] at hz
    rw [hwa]
    exact hz
  have HW := Lib.hid hbl; clear hbl
  replace CF := Lib.hid CF
  replace RES := Lib.hid RES
  go_enter Try.func31, Try.ntmps31
  go_wp2_with fail
  rw [← hwa]
  clear hwa
  have CF0 : wa.cell? ⟨w.heap.size, 0, none⟩ = some (.bool s) := CF.out.cell 0
  have CF1 : wa.cell? ⟨w.heap.size, 1, none⟩ = some (.string (dec n)) := CF.out.cell 1
  have CF2 : wa.cell? ⟨w.heap.size, 2, none⟩ = some (.string (dec d)) := CF.out.cell 2
  have CF3 : wa.cell? ⟨w.heap.size, 3, none⟩ = some (.bool bad) := CF.out.cell 3
  refine (refOver_any n _).mono ?_
  rintro e w1 ⟨rfl, hbl⟩
  replace CF := Lib.hid (CF.out.below hbl CF.out.lt)
  replace RES := Lib.hid (RES.out.below hbl RES.out.lt)
  replace HW := Lib.hid (bel_trans HW.out hbl); clear hbl
  clear CF0 CF1 CF2 CF3
  have CF0 : w1.cell? ⟨w.heap.size, 0, none⟩ = some (.bool s) := CF.out.cell 0
  have CF1 : w1.cell? ⟨w.heap.size, 1, none⟩ = some (.string (dec n)) := CF.out.cell 1
  have CF2 : w1.cell? ⟨w.heap.size, 2, none⟩ = some (.string (dec d)) := CF.out.cell 2
  have CF3 : w1.cell? ⟨w.heap.size, 3, none⟩ = some (.bool bad) := CF.out.cell 3
  rw [HO.out]
  have f3 : w1.frozen? ⟨w.heap.size, 3, none⟩ = false := CF.out.frozen 3
  go_upto_region 3 with fail
  clear f3
  obtain ⟨wz, hwz⟩ : ∃ wz, wz = w1.setCell ⟨w.heap.size, 3, none⟩ (.bool true) := ⟨_, rfl⟩
  rw [← hwz]
  replace CF := Lib.hid (show Blk wz (w.heap.size) 49 #[.bool s, .string (dec n), .string (dec d), .bool true] by rw [hwz]; exact CF.out.put 3 (.bool true))
  replace RES := Lib.hid (show Blk wz (w.heap.size + 1) 49 #[.bool false, .string ⟨#[]⟩, .string ⟨#[]⟩, .bool false] by rw [hwz]; exact RES.out.far (p := ⟨w.heap.size, 3, none⟩) (by simp) _)
  replace HW := Lib.hid (show Below w.heap.size w wz by rw [hwz]; exact bel_set HW.out (by simp) _)
  clear hwz
  clear CF0 CF1 CF2 CF3
  have CF0 : wz.cell? ⟨w.heap.size, 0, none⟩ = some (.bool s) := CF.out.cell 0
  have CF1 : wz.cell? ⟨w.heap.size, 1, none⟩ = some (.string (dec n)) := CF.out.cell 1
  have CF2 : wz.cell? ⟨w.heap.size, 2, none⟩ = some (.string (dec d)) := CF.out.cell 2
  have CF3 : wz.cell? ⟨w.heap.size, 3, none⟩ = some (.bool true) := CF.out.cell 3
  go_wp2_with fail
  refine (refCommon_any n d _ (by have := HL.out.1; omega) (by have := HL.out.2.1; omega)).mono ?_
  rintro e w2 ⟨rfl, hbl⟩
  replace CF := Lib.hid (CF.out.below hbl CF.out.lt)
  replace RES := Lib.hid (RES.out.below hbl RES.out.lt)
  replace HW := Lib.hid (bel_trans HW.out hbl); clear hbl
  clear CF0 CF1 CF2 CF3
  have CF0 : w2.cell? ⟨w.heap.size, 0, none⟩ = some (.bool s) := CF.out.cell 0
  have CF1 : w2.cell? ⟨w.heap.size, 1, none⟩ = some (.string (dec n)) := CF.out.cell 1
  have CF2 : w2.cell? ⟨w.heap.size, 2, none⟩ = some (.string (dec d)) := CF.out.cell 2
  have CF3 : w2.cell? ⟨w.heap.size, 3, none⟩ = some (.bool true) := CF.out.cell 3
  go_wp2_with fail
  refine wp_region_typed 15 (TOf [VIs (.pointer (some ⟨w.heap.size, 0, none⟩)),
      VIs (.bool s),
      VIs (.pointer (some ⟨w.heap.size, 1, none⟩)),
      VIs (.string (dec n)),
      VIs (.string (dec (Nat.gcd n d))),
      VIs (.agg #[.string (dec (n / (Nat.gcd n d))), .string (dec (n % (Nat.gcd n d)))]),
      VIs (.string (dec (n / (Nat.gcd n d)))),
      VIs (.pointer (some ⟨w.heap.size, 2, none⟩)),
      VIs (.string (dec d)),
      VIs (.string (dec (Nat.gcd n d))),
      VIs (.agg #[.string (dec (d / (Nat.gcd n d))), .string (dec (d % (Nat.gcd n d)))]),
      VIs (.string (dec (d / (Nat.gcd n d)))),
      VIs (.pointer (some ⟨w.heap.size, 3, none⟩)),
      VIs (.bool true),
      VIs (.agg #[.bool s, .string (dec (n / (Nat.gcd n d))), .string (dec (d / (Nat.gcd n d))), .bool true])]) (by kernel_rfl) (by kernel_rfl) (by kernel_rfl) (LiftAll.at_ (.cons (VIs.lift _) (.cons (VIs.lift _) (.cons (VIs.lift _) (.cons (VIs.lift _) (.cons (VIs.lift _) (.cons (VIs.lift _) (.cons (VIs.lift _) (.cons (VIs.lift _) (.cons (VIs.lift _) (.cons (VIs.lift _) (.cons (VIs.lift _) (.cons (VIs.lift _) (.cons (VIs.lift _) (.cons (VIs.lift _) (.cons (VIs.lift _) .nil)))))))))))))))) (steps_all (steps_cons ?_ (steps_cons ?_ (steps_cons ?_ (steps_cons ?_ (steps_cons ?_ (steps_cons ?_ (steps_cons ?_ (steps_cons ?_ (steps_cons ?_ (steps_cons ?_ (steps_cons ?_ (steps_cons ?_ (steps_cons ?_ (steps_cons ?_ (steps_cons ?_ steps_zero)))))))))))))))) ?fin
  · intro a0 w9 K9 hF hB hK hC
    have b1 := hF.base (k := 1) (v := .pointer (some ⟨w.heap.size, 0, none⟩)) (by kernel_rfl) rfl
    clear hF hB hK
    go_simp
    exact hC _ _ (bel_refl _) fun _ _ => rfl
  · intro a0 w9 K9 hF hB hK hC
    obtain ⟨v24, e24, z24⟩ := dep hK 0 (g := .data) (j := 0) (k := 24) rfl rfl rfl
    have z24 : v24 = .pointer (some ⟨w.heap.size, 0, none⟩) := z24
    subst z24
    have x9 : w9.cell? ⟨w.heap.size, 0, none⟩ = some (.bool s) := (CF.out.below hB CF.out.lt).cell 0
    clear hF hB hK
    go_simp
    exact hC _ _ (bel_refl _) fun _ _ => rfl
  · intro a0 w9 K9 hF hB hK hC
    have b1 := hF.base (k := 1) (v := .pointer (some ⟨w.heap.size, 0, none⟩)) (by kernel_rfl) rfl
    clear hF hB hK
    go_simp
    exact hC _ _ (bel_refl _) fun _ _ => rfl
  · intro a0 w9 K9 hF hB hK hC
    obtain ⟨v26, e26, z26⟩ := dep hK 0 (g := .data) (j := 2) (k := 26) rfl rfl rfl
    have z26 : v26 = .pointer (some ⟨w.heap.size, 1, none⟩) := z26
    subst z26
    have x9 : w9.cell? ⟨w.heap.size, 1, none⟩ = some (.string (dec n)) := (CF.out.below hB CF.out.lt).cell 1
    clear hF hB hK
    go_simp
    exact hC _ _ (bel_refl _) fun _ _ => rfl
  · intro a0 w9 K9 hF hB hK hC
    have b3 := hF.base (k := 3) (v := .string (dec (Nat.gcd n d))) (by kernel_rfl) rfl
    clear hF hB hK
    go_simp
    exact hC _ _ (bel_refl _) fun _ _ => rfl
  · intro a0 w9 K9 hF hB hK hC
    obtain ⟨v27, e27, z27⟩ := dep hK 0 (g := .data) (j := 3) (k := 27) rfl rfl rfl
    have z27 : v27 = .string (dec n) := z27
    subst z27
    obtain ⟨v28, e28, z28⟩ := dep hK 1 (g := .data) (j := 4) (k := 28) rfl rfl rfl
    have z28 : v28 = .string (dec (Nat.gcd n d)) := z28
    subst z28
    have HB9 := Lib.hid hB
    clear hF hB hK
    go_simp
    refine (refDiv_any n (Nat.gcd n d) _ (by have := HL.out.1; omega) (by have := gcd_len (d := d) HL.out.2.2 HL.out.1; omega) (Nat.ne_of_gt (Nat.gcd_pos_of_pos_left d (Nat.pos_of_ne_zero HL.out.2.2)))).mono ?_
    rintro e w7 ⟨rfl, hbl⟩
    exact hC _ _ hbl fun _ _ => rfl
  · intro a0 w9 K9 hF hB hK hC
    obtain ⟨v29, e29, z29⟩ := dep hK 0 (g := .data) (j := 5) (k := 29) rfl rfl rfl
    have z29 : v29 = .agg #[.string (dec (n / (Nat.gcd n d))), .string (dec (n % (Nat.gcd n d)))] := z29
    subst z29
    have HB9 := Lib.hid hB
    clear hF hB hK
    go_simp
    exact hC _ _ (bel_refl _) fun _ _ => rfl
  · intro a0 w9 K9 hF hB hK hC
    have b1 := hF.base (k := 1) (v := .pointer (some ⟨w.heap.size, 0, none⟩)) (by kernel_rfl) rfl
    clear hF hB hK
    go_simp
    exact hC _ _ (bel_refl _) fun _ _ => rfl
  · intro a0 w9 K9 hF hB hK hC
    obtain ⟨v31, e31, z31⟩ := dep hK 0 (g := .data) (j := 7) (k := 31) rfl rfl rfl
    have z31 : v31 = .pointer (some ⟨w.heap.size, 2, none⟩) := z31
    subst z31
    have x9 : w9.cell? ⟨w.heap.size, 2, none⟩ = some (.string (dec d)) := (CF.out.below hB CF.out.lt).cell 2
    clear hF hB hK
    go_simp
    exact hC _ _ (bel_refl _) fun _ _ => rfl
  · intro a0 w9 K9 hF hB hK hC
    have b3 := hF.base (k := 3) (v := .string (dec (Nat.gcd n d))) (by kernel_rfl) rfl
    clear hF hB hK
    go_simp
    exact hC _ _ (bel_refl _) fun _ _ => rfl
  · intro a0 w9 K9 hF hB hK hC
    obtain ⟨v32, e32, z32⟩ := dep hK 0 (g := .data) (j := 8) (k := 32) rfl rfl rfl
    have z32 : v32 = .string (dec d) := z32
    subst z32
    obtain ⟨v33, e33, z33⟩ := dep hK 1 (g := .data) (j := 9) (k := 33) rfl rfl rfl
    have z33 : v33 = .string (dec (Nat.gcd n d)) := z33
    subst z33
    have HB9 := Lib.hid hB
    clear hF hB hK
    go_simp
    refine (refDiv_any d (Nat.gcd n d) _ (by have := HL.out.2.1; omega) (by have := gcd_len (d := d) HL.out.2.2 HL.out.1; omega) (Nat.ne_of_gt (Nat.gcd_pos_of_pos_left d (Nat.pos_of_ne_zero HL.out.2.2)))).mono ?_
    rintro e w7 ⟨rfl, hbl⟩
    exact hC _ _ hbl fun _ _ => rfl
  · intro a0 w9 K9 hF hB hK hC
    obtain ⟨v34, e34, z34⟩ := dep hK 0 (g := .data) (j := 10) (k := 34) rfl rfl rfl
    have z34 : v34 = .agg #[.string (dec (d / (Nat.gcd n d))), .string (dec (d % (Nat.gcd n d)))] := z34
    subst z34
    have HB9 := Lib.hid hB
    clear hF hB hK
    go_simp
    exact hC _ _ (bel_refl _) fun _ _ => rfl
  · intro a0 w9 K9 hF hB hK hC
    have b1 := hF.base (k := 1) (v := .pointer (some ⟨w.heap.size, 0, none⟩)) (by kernel_rfl) rfl
    clear hF hB hK
    go_simp
    exact hC _ _ (bel_refl _) fun _ _ => rfl
  · intro a0 w9 K9 hF hB hK hC
    obtain ⟨v36, e36, z36⟩ := dep hK 0 (g := .data) (j := 12) (k := 36) rfl rfl rfl
    have z36 : v36 = .pointer (some ⟨w.heap.size, 3, none⟩) := z36
    subst z36
    have x9 : w9.cell? ⟨w.heap.size, 3, none⟩ = some (.bool true) := (CF.out.below hB CF.out.lt).cell 3
    clear hF hB hK
    go_simp
    exact hC _ _ (bel_refl _) fun _ _ => rfl
  · intro a0 w9 K9 hF hB hK hC
    obtain ⟨v25, e25, z25⟩ := dep hK 0 (g := .data) (j := 1) (k := 25) rfl rfl rfl
    have z25 : v25 = .bool s := z25
    subst z25
    obtain ⟨v30, e30, z30⟩ := dep hK 1 (g := .data) (j := 6) (k := 30) rfl rfl rfl
    have z30 : v30 = .string (dec (n / (Nat.gcd n d))) := z30
    subst z30
    obtain ⟨v35, e35, z35⟩ := dep hK 2 (g := .data) (j := 11) (k := 35) rfl rfl rfl
    have z35 : v35 = .string (dec (d / (Nat.gcd n d))) := z35
    subst z35
    obtain ⟨v37, e37, z37⟩ := dep hK 3 (g := .data) (j := 13) (k := 37) rfl rfl rfl
    have z37 : v37 = .bool true := z37
    subst z37
    have HB9 := Lib.hid hB
    clear hF hB hK
    go_simp
    exact hC _ _ (bel_refl _) fun _ _ => rfl
  case fin =>
    intro a0 w9 hF hB hK
    have b1 := hF.base (k := 1) (v := .pointer (some ⟨w.heap.size, 0, none⟩)) (by kernel_rfl) rfl
    have b2 := hF.base (k := 2) (v := .pointer (some ⟨w.heap.size + 1, 0, none⟩)) (by kernel_rfl) rfl
    have b3 := hF.base (k := 3) (v := .string (dec (Nat.gcd n d))) (by kernel_rfl) rfl
    have hsz := hF.size
    have hdf := hF.defers
    clear hF
    obtain ⟨v38, e38, z38⟩ := known hK 14 (k := 38) (by decide) rfl
    have z38 : v38 = .agg #[.bool s, .string (dec (n / (Nat.gcd n d))), .string (dec (d / (Nat.gcd n d))), .bool true] := z38
    subst z38
    clear hK
    obtain ⟨⟨l0⟩, df⟩ := a0
    have hs0 : l0.length = 39 := hsz
    clear hsz
    replace hdf : df = _ := hdf
    subst hdf
    obtain ⟨u, rfl⟩ := lits_39 hs0
    clear hs0
    have q1 : u 1 = _ := Option.some.inj b1
    clear b1
    have q2 : u 2 = _ := Option.some.inj b2
    clear b2
    have q3 : u 3 = _ := Option.some.inj b3
    clear b3
    have q38 : u 38 = _ := Option.some.inj e38
    clear e38
    rw [q1, q2, q3, q38]
    clear q1 q2 q3 q38
    have hbl := hB; clear hB
    replace CF := Lib.hid (CF.out.below hbl CF.out.lt)
    replace RES := Lib.hid (RES.out.below hbl RES.out.lt)
    replace HW := Lib.hid (bel_trans HW.out hbl); clear hbl
    clear CF0 CF1 CF2 CF3
    have CF0 : w9.cell? ⟨w.heap.size, 0, none⟩ = some (.bool s) := CF.out.cell 0
    have CF1 : w9.cell? ⟨w.heap.size, 1, none⟩ = some (.string (dec n)) := CF.out.cell 1
    have CF2 : w9.cell? ⟨w.heap.size, 2, none⟩ = some (.string (dec d)) := CF.out.cell 2
    have CF3 : w9.cell? ⟨w.heap.size, 3, none⟩ = some (.bool true) := CF.out.cell 3
    simp only [List.drop_succ_cons, List.drop_zero]
    have d0 : w9.cell? ⟨w.heap.size + 1, 0, none⟩ = some (.bool false) := RES.out.cell 0
    have f0 : w9.frozen? ⟨w.heap.size + 1, 0, none⟩ = false := RES.out.frozen 0
    have d1 : w9.cell? ⟨w.heap.size + 1, 1, none⟩ = some (.string ⟨#[]⟩) := RES.out.cell 1
    have f1 : w9.frozen? ⟨w.heap.size + 1, 1, none⟩ = false := RES.out.frozen 1
    have d2 : w9.cell? ⟨w.heap.size + 1, 2, none⟩ = some (.string ⟨#[]⟩) := RES.out.cell 2
    have f2 : w9.frozen? ⟨w.heap.size + 1, 2, none⟩ = false := RES.out.frozen 2
    have d3 : w9.cell? ⟨w.heap.size + 1, 3, none⟩ = some (.bool false) := RES.out.cell 3
    have f3 : w9.frozen? ⟨w.heap.size + 1, 3, none⟩ = false := RES.out.frozen 3
    have D := Lib.hid (And.intro (RES.out.put4 (.bool s) (.string (dec (n / (Nat.gcd n d)))) (.string (dec (d / (Nat.gcd n d)))) (.bool true)) (bel_set4 (g := w.heap.size + 1) HW.out (by omega) (.bool s) (.string (dec (n / (Nat.gcd n d)))) (.string (dec (d / (Nat.gcd n d)))) (.bool true)))
    go_wp2
    refine bodyPost_ret (v := .agg #[.bool s, .string (dec (n / (Nat.gcd n d))), .string (dec (d / (Nat.gcd n d))), .bool true]) ?hr rfl ?hR
    case hR => exact ⟨rfl, D.out.2⟩
    case hr => exact results_cell_row rfl _ _ (w.heap.size + 1) 49 _ (0, 0) _ rfl D.out.1 Try.underlying49 rfl (by kernel_rfl)

set_option maxRecDepth 100000 in
set_option maxHeartbeats 1000000 in
theorem refRed_odz (s : Bool) (n d : Nat) (bad : Bool) (w : World) (ho : decide (Top ≤ n) = false) (ho2 : decide (Top ≤ d) = true) (hn0 : n = 0) :
    Calls Try.prog 31 #[.agg #[.bool s, .string (dec n), .string (dec d), .bool bad]] w (RetFr (redQ s n d) true w) := by
  rw [show redQ s n d = ⟨false, 0, 1⟩ by unfold redQ; rw [if_pos hn0]]
  have e1 := dec_is0 n
  rw [decide_eq_true hn0] at e1
  clear hn0
  have HO := Lib.hid (And.intro ho ho2); clear ho ho2
  obtain ⟨wa, hwa⟩ : ∃ wa, wa = (w.alloc (.cells #[.bool s, .string (dec n), .string (dec d), .bool bad] 49)).alloc (.cells #[.bool false, .string ⟨#[]⟩, .string ⟨#[]⟩, .bool false] 49) := ⟨_, rfl⟩
  have hbl : Below w.heap.size w wa := by rw [hwa]; exact bel_alloc (bel_alloc (bel_refl _) _) _
  have CF : Blk wa (w.heap.size) 49 #[.bool s, .string (dec n), .string (dec d), .bool bad] := by
    have hz := Blk.new (w) 49 #[.bool s, .string (dec n), .string (dec d), .bool bad]
    rw [hwa]
    exact (hz.alloc _)
  have RES : Blk wa (w.heap.size + 1) 49 #[.bool false, .string ⟨#[]⟩, .string ⟨#[]⟩, .bool false] := by
    have hz := Blk.new (w.alloc (.cells #[.bool s, .string (dec n), .string (dec d), .bool bad] 49)) 49 #[.bool false, .string ⟨#[]⟩, .string ⟨#[]⟩, .bool false]
    rw [World.size_alloc] at hz
    rw [hwa]
    exact hz
  have HW := Lib.hid hbl; clear hbl
  replace CF := Lib.hid CF
  replace RES := Lib.hid RES
  go_enter Try.func31, Try.ntmps31
  go_wp2_with fail
  rw [← hwa]
  clear hwa
  have CF0 : wa.cell? ⟨w.heap.size, 0, none⟩ = some (.bool s) := CF.out.cell 0
  have CF1 : wa.cell? ⟨w.heap.size, 1, none⟩ = some (.string (dec n)) := CF.out.cell 1
  have CF2 : wa.cell? ⟨w.heap.size, 2, none⟩ = some (.string (dec d)) := CF.out.cell 2
  have CF3 : wa.cell? ⟨w.heap.size, 3, none⟩ = some (.bool bad) := CF.out.cell 3
  refine (refOver_any n _).mono ?_
  rintro e w1 ⟨rfl, hbl⟩
  replace CF := Lib.hid (CF.out.below hbl CF.out.lt)
  replace RES := Lib.hid (RES.out.below hbl RES.out.lt)
  replace HW := Lib.hid (bel_trans HW.out hbl); clear hbl
  clear CF0 CF1 CF2 CF3
  have CF0 : w1.cell? ⟨w.heap.size, 0, none⟩ = some (.bool s) := CF.out.cell 0
  have CF1 : w1.cell? ⟨w.heap.size, 1, none⟩ = some (.string (dec n)) := CF.out.cell 1
  have CF2 : w1.cell? ⟨w.heap.size, 2, none⟩ = some (.string (dec d)) := CF.out.cell 2
  have CF3 : w1.cell? ⟨w.heap.size, 3, none⟩ = some (.bool bad) := CF.out.cell 3
  rw [HO.out.1]
  go_wp2_with fail
  refine (refOver_any d _).mono ?_
  rintro e w2 ⟨rfl, hbl⟩
  replace CF := Lib.hid (CF.out.below hbl CF.out.lt)
  replace RES := Lib.hid (RES.out.below hbl RES.out.lt)
  replace HW := Lib.hid (bel_trans HW.out hbl); clear hbl
  clear CF0 CF1 CF2 CF3
  have CF0 : w2.cell? ⟨w.heap.size, 0, none⟩ = some (.bool s) := CF.out.cell 0
  have CF1 : w2.cell? ⟨w.heap.size, 1, none⟩ = some (.string (dec n)) := CF.out.cell 1
  have CF2 : w2.cell? ⟨w.heap.size, 2, none⟩ = some (.string (dec d)) := CF.out.cell 2
  have CF3 : w2.cell? ⟨w.heap.size, 3, none⟩ = some (.bool bad) := CF.out.cell 3
  rw [HO.out.2]
  have f3 : w2.frozen? ⟨w.heap.size, 3, none⟩ = false := CF.out.frozen 3
  go_upto_region 3 with fail
  clear f3
  obtain ⟨wz, hwz⟩ : ∃ wz, wz = w2.setCell ⟨w.heap.size, 3, none⟩ (.bool true) := ⟨_, rfl⟩
  rw [← hwz]
  replace CF := Lib.hid (show Blk wz (w.heap.size) 49 #[.bool s, .string (dec n), .string (dec d), .bool true] by rw [hwz]; exact CF.out.put 3 (.bool true))
  replace RES := Lib.hid (show Blk wz (w.heap.size + 1) 49 #[.bool false, .string ⟨#[]⟩, .string ⟨#[]⟩, .bool false] by rw [hwz]; exact RES.out.far (p := ⟨w.heap.size, 3, none⟩) (by simp) _)
  replace HW := Lib.hid (show Below w.heap.size w wz by rw [hwz]; exact bel_set HW.out (by simp) _)
  clear hwz
  clear CF0 CF1 CF2 CF3
  have CF0 : wz.cell? ⟨w.heap.size, 0, none⟩ = some (.bool s) := CF.out.cell 0
  have CF1 : wz.cell? ⟨w.heap.size, 1, none⟩ = some (.string (dec n)) := CF.out.cell 1
  have CF2 : wz.cell? ⟨w.heap.size, 2, none⟩ = some (.string (dec d)) := CF.out.cell 2
  have CF3 : wz.cell? ⟨w.heap.size, 3, none⟩ = some (.bool true) := CF.out.cell 3
  have d0 : wz.cell? ⟨w.heap.size + 1, 0, none⟩ = some (.bool false) := RES.out.cell 0
  have f0 : wz.frozen? ⟨w.heap.size + 1, 0, none⟩ = false := RES.out.frozen 0
  have d1 : wz.cell? ⟨w.heap.size + 1, 1, none⟩ = some (.string ⟨#[]⟩) := RES.out.cell 1
  have f1 : wz.frozen? ⟨w.heap.size + 1, 1, none⟩ = false := RES.out.frozen 1
  have d2 : wz.cell? ⟨w.heap.size + 1, 2, none⟩ = some (.string ⟨#[]⟩) := RES.out.cell 2
  have f2 : wz.frozen? ⟨w.heap.size + 1, 2, none⟩ = false := RES.out.frozen 2
  have d3 : wz.cell? ⟨w.heap.size + 1, 3, none⟩ = some (.bool false) := RES.out.cell 3
  have f3 : wz.frozen? ⟨w.heap.size + 1, 3, none⟩ = false := RES.out.frozen 3
  have D := Lib.hid (And.intro (RES.out.put4 (.bool false) (.string ⟨#[48]⟩) (.string ⟨#[49]⟩) (.bool true)) (bel_set4 (g := w.heap.size + 1) HW.out (by omega) (.bool false) (.string ⟨#[48]⟩) (.string ⟨#[49]⟩) (.bool true)))
  go_wp2
  refine bodyPost_ret (v := .agg #[.bool false, .string ⟨#[48]⟩, .string ⟨#[49]⟩, .bool true]) ?hr rfl ?hR
  case hR => exact ⟨(by show Ending.returned _ = Ending.returned _; rw [dec_zero, dec_one]), D.out.2⟩
  case hr => exact results_cell_row rfl _ _ (w.heap.size + 1) 49 _ (0, 0) _ rfl D.out.1 Try.underlying49 rfl (by kernel_rfl)

set_option maxRecDepth 100000 in
set_option maxHeartbeats 1000000 in
theorem refRed_odp (s : Bool) (n d : Nat) (bad : Bool) (w : World) (ho : decide (Top ≤ n) = false) (ho2 : decide (Top ≤ d) = true) (hl : (decL n).length ≤ 900) (hl2 : (decL d).length ≤ 900) (hn0 : n ≠ 0) :
    Calls Try.prog 31 #[.agg #[.bool s, .string (dec n), .string (dec d), .bool bad]] w (RetFr (redQ s n d) true w) := by
  rw [show redQ s n d = ⟨s, n / Nat.gcd n d, d / Nat.gcd n d⟩ by unfold redQ; rw [if_neg hn0]]
  have e1 := dec_is0 n
  rw [decide_eq_false hn0] at e1
  have HL := Lib.hid (And.intro hl (And.intro hl2 hn0)); clear hl hl2
  clear hn0
  have HO := Lib.hid (And.intro ho ho2); clear ho ho2
  have hf1 := fun W => field_q (dec (n / Nat.gcd n d)) (dec (n % Nat.gcd n d)) W
  have hf2 := fun W => field_q (dec (d / Nat.gcd n d)) (dec (d % Nat.gcd n d)) W
  obtain ⟨wa, hwa⟩ : ∃ wa, wa = (w.alloc (.cells #[.bool s, .string (dec n), .string (dec d), .bool bad] 49)).alloc (.cells #[.bool false, .string ⟨#[]⟩, .string ⟨#[]⟩, .bool false] 49) := ⟨_, rfl⟩
  have hbl : Below w.heap.size w wa := by rw [hwa]; exact bel_alloc (bel_alloc (bel_refl _) _) _
  have CF : Blk wa (w.heap.size) 49 #[.bool s, .string (dec n), .string (dec d), .bool bad] := by
    have hz := Blk.new (w) 49 #[.bool s, .string (dec n), .string (dec d), .bool bad]
    rw [hwa]
    exact (hz.alloc _)
  have RES : Blk wa (w.heap.size + 1) 49 #[.bool false, .string ⟨#[]⟩, .string ⟨#[]⟩, .bool false] := by
    have hz := Blk.new (w.alloc (.cells #[.bool s, .string (dec n), .string (dec d), .bool bad] 49)) 49 #[.bool false, .string ⟨#[]⟩, .string ⟨#[]⟩, .bool false]
    rw [World.size_alloc] at hz
    rw [hwa]
    exact hz
  have HW := Lib.hid hbl; clear hbl
  replace CF := Lib.hid CF
  replace RES := Lib.hid RES
  go_enter Try.func31, Try.ntmps31
  go_wp2_with fail
  rw [← hwa]
  clear hwa
  have CF0 : wa.cell? ⟨w.heap.size, 0, none⟩ = some (.bool s) := CF.out.cell 0
  have CF1 : wa.cell? ⟨w.heap.size, 1, none⟩ = some (.string (dec n)) := CF.out.cell 1
  have CF2 : wa.cell? ⟨w.heap.size, 2, none⟩ = some (.string (dec d)) := CF.out.cell 2
  have CF3 : wa.cell? ⟨w.heap.size, 3, none⟩ = some (.bool bad) := CF.out.cell 3
  refine (refOver_any n _).mono ?_
  rintro e w1 ⟨rfl, hbl⟩
  replace CF := Lib.hid (CF.out.below hbl CF.out.lt)
  replace RES := Lib.hid (RES.out.below hbl RES.out.lt)
  replace HW := Lib.hid (bel_trans HW.out hbl); clear hbl
  clear CF0 CF1 CF2 CF3
  have CF0 : w1.cell? ⟨w.heap.size, 0, none⟩ = some (.bool s) := CF.out.cell 0
  have CF1 : w1.cell? ⟨w.heap.size, 1, none⟩ = some (.string (dec n)) := CF.out.cell 1
  have CF2 : w1.cell? ⟨w.heap.size, 2, none⟩ = some (.string (dec d)) := CF.out.cell 2
  have CF3 : w1.cell? ⟨w.heap.size, 3, none⟩ = some (.bool bad) := CF.out.cell 3
  rw [HO.out.1]
  go_wp2_with fail
  refine (refOver_any d _).mono ?_
  rintro e w2 ⟨rfl, hbl⟩
  replace CF := Lib.hid (CF.out.below hbl CF.out.lt)
  replace RES := Lib.hid (RES.out.below hbl RES.out.lt)
  replace HW := Lib.hid (bel_trans HW.out hbl); clear hbl
  clear CF0 CF1 CF2 CF3
  have CF0 : w2.cell? ⟨w.heap.size, 0, none⟩ = some (.bool s) := CF.out.cell 0
  have CF1 : w2.cell? ⟨w.heap.size, 1, none⟩ = some (.string (dec n)) := CF.out.cell 1
  have CF2 : w2.cell? ⟨w.heap.size, 2, none⟩ = some (.string (dec d)) := CF.out.cell 2
  have CF3 : w2.cell? ⟨w.heap.size, 3, none⟩ = some (.bool bad) := CF.out.cell 3
  rw [HO.out.2]
  have f3 : w2.frozen? ⟨w.heap.size, 3, none⟩ = false := CF.out.frozen 3
  go_upto_region 3 with fail
  clear f3
  obtain ⟨wz, hwz⟩ : ∃ wz, wz = w2.setCell ⟨w.heap.size, 3, none⟩ (.bool true) := ⟨_, rfl⟩
  rw [← hwz]
  replace CF := Lib.hid (show Blk wz (w.heap.size) 49 #[.bool s, .string (dec n), .string (dec d), .bool true] by rw [hwz]; exact CF.out.put 3 (.bool true))
  replace RES := Lib.hid (show Blk wz (w.heap.size + 1) 49 #[.bool false, .string ⟨#[]⟩, .string ⟨#[]⟩, .bool false] by rw [hwz]; exact RES.out.far (p := ⟨w.heap.size, 3, none⟩) (by simp) _)
  replace HW := Lib.hid (show Below w.heap.size w wz by rw [hwz]; exact bel_set HW.out (by simp) _)
  clear hwz
  clear CF0 CF1 CF2 CF3
  have CF0 : wz.cell? ⟨w.heap.size, 0, none⟩ = some (.bool s) := CF.out.cell 0
  have CF1 : wz.cell? ⟨w.heap.size, 1, none⟩ = some (.string (dec n)) := CF.out.cell 1
  have CF2 : wz.cell? ⟨w.heap.size, 2, none⟩ = some (.string (dec d)) := CF.out.cell 2
  have CF3 : wz.cell? ⟨w.heap.size, 3, none⟩ = some (.bool true) := CF.out.cell 3
  go_wp2_with fail
  refine (refCommon_any n d _ (by have := HL.out.1; omega) (by have := HL.out.2.1; omega)).mono ?_
  rintro e w3 ⟨rfl, hbl⟩
  replace CF := Lib.hid (CF.out.below hbl CF.out.lt)
  replace RES := Lib.hid (RES.out.below hbl RES.out.lt)
  replace HW := Lib.hid (bel_trans HW.out hbl); clear hbl
  clear CF0 CF1 CF2 CF3
  have CF0 : w3.cell? ⟨w.heap.size, 0, none⟩ = some (.bool s) := CF.out.cell 0
  have CF1 : w3.cell? ⟨w.heap.size, 1, none⟩ = some (.string (dec n)) := CF.out.cell 1
  have CF2 : w3.cell? ⟨w.heap.size, 2, none⟩ = some (.string (dec d)) := CF.out.cell 2
  have CF3 : w3.cell? ⟨w.heap.size, 3, none⟩ = some (.bool true) := CF.out.cell 3
  go_wp2_with fail
  refine wp_region_typed 15 (TOf [VIs (.pointer (some ⟨w.heap.size, 0, none⟩)),
      VIs (.bool s),
      VIs (.pointer (some ⟨w.heap.size, 1, none⟩)),
      VIs (.string (dec n)),
      VIs (.string (dec (Nat.gcd n d))),
      VIs (.agg #[.string (dec (n / (Nat.gcd n d))), .string (dec (n % (Nat.gcd n d)))]),
      VIs (.string (dec (n / (Nat.gcd n d)))),
      VIs (.pointer (some ⟨w.heap.size, 2, none⟩)),
      VIs (.string (dec d)),
      VIs (.string (dec (Nat.gcd n d))),
      VIs (.agg #[.string (dec (d / (Nat.gcd n d))), .string (dec (d % (Nat.gcd n d)))]),
      VIs (.string (dec (d / (Nat.gcd n d)))),
      VIs (.pointer (some ⟨w.heap.size, 3, none⟩)),
      VIs (.bool true),
      VIs (.agg #[.bool s, .string (dec (n / (Nat.gcd n d))), .string (dec (d / (Nat.gcd n d))), .bool true])]) (by kernel_rfl) (by kernel_rfl) (by kernel_rfl) (LiftAll.at_ (.cons (VIs.lift _) (.cons (VIs.lift _) (.cons (VIs.lift _) (.cons (VIs.lift _) (.cons (VIs.lift _) (.cons (VIs.lift _) (.cons (VIs.lift _) (.cons (VIs.lift _) (.cons (VIs.lift _) (.cons (VIs.lift _) (.cons (VIs.lift _) (.cons (VIs.lift _) (.cons (VIs.lift _) (.cons (VIs.lift _) (.cons (VIs.lift _) .nil)))))))))))))))) (steps_all (steps_cons ?_ (steps_cons ?_ (steps_cons ?_ (steps_cons ?_ (steps_cons ?_ (steps_cons ?_ (steps_cons ?_ (steps_cons ?_ (steps_cons ?_ (steps_cons ?_ (steps_cons ?_ (steps_cons ?_ (steps_cons ?_ (steps_cons ?_ (steps_cons ?_ steps_zero)))))))))))))))) ?fin
  · intro a0 w9 K9 hF hB hK hC
    have b1 := hF.base (k := 1) (v := .pointer (some ⟨w.heap.size, 0, none⟩)) (by kernel_rfl) rfl
    clear hF hB hK
    go_simp
    exact hC _ _ (bel_refl _) fun _ _ => rfl
  · intro a0 w9 K9 hF hB hK hC
    obtain ⟨v24, e24, z24⟩ := dep hK 0 (g := .data) (j := 0) (k := 24) rfl rfl rfl
    have z24 : v24 = .pointer (some ⟨w.heap.size, 0, none⟩) := z24
    subst z24
    have x9 : w9.cell? ⟨w.heap.size, 0, none⟩ = some (.bool s) := (CF.out.below hB CF.out.lt).cell 0
    clear hF hB hK
    go_simp
    exact hC _ _ (bel_refl _) fun _ _ => rfl
  · intro a0 w9 K9 hF hB hK hC
    have b1 := hF.base (k := 1) (v := .pointer (some ⟨w.heap.size, 0, none⟩)) (by kernel_rfl) rfl
    clear hF hB hK
    go_simp
    exact hC _ _ (bel_refl _) fun _ _ => rfl
  · intro a0 w9 K9 hF hB hK hC
    obtain ⟨v26, e26, z26⟩ := dep hK 0 (g := .data) (j := 2) (k := 26) rfl rfl rfl
    have z26 : v26 = .pointer (some ⟨w.heap.size, 1, none⟩) := z26
    subst z26
    have x9 : w9.cell? ⟨w.heap.size, 1, none⟩ = some (.string (dec n)) := (CF.out.below hB CF.out.lt).cell 1
    clear hF hB hK
    go_simp
    exact hC _ _ (bel_refl _) fun _ _ => rfl
  · intro a0 w9 K9 hF hB hK hC
    have b3 := hF.base (k := 3) (v := .string (dec (Nat.gcd n d))) (by kernel_rfl) rfl
    clear hF hB hK
    go_simp
    exact hC _ _ (bel_refl _) fun _ _ => rfl
  · intro a0 w9 K9 hF hB hK hC
    obtain ⟨v27, e27, z27⟩ := dep hK 0 (g := .data) (j := 3) (k := 27) rfl rfl rfl
    have z27 : v27 = .string (dec n) := z27
    subst z27
    obtain ⟨v28, e28, z28⟩ := dep hK 1 (g := .data) (j := 4) (k := 28) rfl rfl rfl
    have z28 : v28 = .string (dec (Nat.gcd n d)) := z28
    subst z28
    have HB9 := Lib.hid hB
    clear hF hB hK
    go_simp
    refine (refDiv_any n (Nat.gcd n d) _ (by have := HL.out.1; omega) (by have := gcd_len (d := d) HL.out.2.2 HL.out.1; omega) (Nat.ne_of_gt (Nat.gcd_pos_of_pos_left d (Nat.pos_of_ne_zero HL.out.2.2)))).mono ?_
    rintro e w7 ⟨rfl, hbl⟩
    exact hC _ _ hbl fun _ _ => rfl
  · intro a0 w9 K9 hF hB hK hC
    obtain ⟨v29, e29, z29⟩ := dep hK 0 (g := .data) (j := 5) (k := 29) rfl rfl rfl
    have z29 : v29 = .agg #[.string (dec (n / (Nat.gcd n d))), .string (dec (n % (Nat.gcd n d)))] := z29
    subst z29
    have HB9 := Lib.hid hB
    clear hF hB hK
    go_simp
    exact hC _ _ (bel_refl _) fun _ _ => rfl
  · intro a0 w9 K9 hF hB hK hC
    have b1 := hF.base (k := 1) (v := .pointer (some ⟨w.heap.size, 0, none⟩)) (by kernel_rfl) rfl
    clear hF hB hK
    go_simp
    exact hC _ _ (bel_refl _) fun _ _ => rfl
  · intro a0 w9 K9 hF hB hK hC
    obtain ⟨v31, e31, z31⟩ := dep hK 0 (g := .data) (j := 7) (k := 31) rfl rfl rfl
    have z31 : v31 = .pointer (some ⟨w.heap.size, 2, none⟩) := z31
    subst z31
    have x9 : w9.cell? ⟨w.heap.size, 2, none⟩ = some (.string (dec d)) := (CF.out.below hB CF.out.lt).cell 2
    clear hF hB hK
    go_simp
    exact hC _ _ (bel_refl _) fun _ _ => rfl
  · intro a0 w9 K9 hF hB hK hC
    have b3 := hF.base (k := 3) (v := .string (dec (Nat.gcd n d))) (by kernel_rfl) rfl
    clear hF hB hK
    go_simp
    exact hC _ _ (bel_refl _) fun _ _ => rfl
  · intro a0 w9 K9 hF hB hK hC
    obtain ⟨v32, e32, z32⟩ := dep hK 0 (g := .data) (j := 8) (k := 32) rfl rfl rfl
    have z32 : v32 = .string (dec d) := z32
    subst z32
    obtain ⟨v33, e33, z33⟩ := dep hK 1 (g := .data) (j := 9) (k := 33) rfl rfl rfl
    have z33 : v33 = .string (dec (Nat.gcd n d)) := z33
    subst z33
    have HB9 := Lib.hid hB
    clear hF hB hK
    go_simp
    refine (refDiv_any d (Nat.gcd n d) _ (by have := HL.out.2.1; omega) (by have := gcd_len (d := d) HL.out.2.2 HL.out.1; omega) (Nat.ne_of_gt (Nat.gcd_pos_of_pos_left d (Nat.pos_of_ne_zero HL.out.2.2)))).mono ?_
    rintro e w7 ⟨rfl, hbl⟩
    exact hC _ _ hbl fun _ _ => rfl
  · intro a0 w9 K9 hF hB hK hC
    obtain ⟨v34, e34, z34⟩ := dep hK 0 (g := .data) (j := 10) (k := 34) rfl rfl rfl
    have z34 : v34 = .agg #[.string (dec (d / (Nat.gcd n d))), .string (dec (d % (Nat.gcd n d)))] := z34
    subst z34
    have HB9 := Lib.hid hB
    clear hF hB hK
    go_simp
    exact hC _ _ (bel_refl _) fun _ _ => rfl
  · intro a0 w9 K9 hF hB hK hC
    have b1 := hF.base (k := 1) (v := .pointer (some ⟨w.heap.size, 0, none⟩)) (by kernel_rfl) rfl
    clear hF hB hK
    go_simp
    exact hC _ _ (bel_refl _) fun _ _ => rfl
  · intro a0 w9 K9 hF hB hK hC
    obtain ⟨v36, e36, z36⟩ := dep hK 0 (g := .data) (j := 12) (k := 36) rfl rfl rfl
    have z36 : v36 = .pointer (some ⟨w.heap.size, 3, none⟩) := z36
    subst z36
    have x9 : w9.cell? ⟨w.heap.size, 3, none⟩ = some (.bool true) := (CF.out.below hB CF.out.lt).cell 3
    clear hF hB hK
    go_simp
    exact hC _ _ (bel_refl _) fun _ _ => rfl
  · intro a0 w9 K9 hF hB hK hC
    obtain ⟨v25, e25, z25⟩ := dep hK 0 (g := .data) (j := 1) (k := 25) rfl rfl rfl
    have z25 : v25 = .bool s := z25
    subst z25
    obtain ⟨v30, e30, z30⟩ := dep hK 1 (g := .data) (j := 6) (k := 30) rfl rfl rfl
    have z30 : v30 = .string (dec (n / (Nat.gcd n d))) := z30
    subst z30
    obtain ⟨v35, e35, z35⟩ := dep hK 2 (g := .data) (j := 11) (k := 35) rfl rfl rfl
    have z35 : v35 = .string (dec (d / (Nat.gcd n d))) := z35
    subst z35
    obtain ⟨v37, e37, z37⟩ := dep hK 3 (g := .data) (j := 13) (k := 37) rfl rfl rfl
    have z37 : v37 = .bool true := z37
    subst z37
    have HB9 := Lib.hid hB
    clear hF hB hK
    go_simp
    exact hC _ _ (bel_refl _) fun _ _ => rfl
  case fin =>
    intro a0 w9 hF hB hK
    have b1 := hF.base (k := 1) (v := .pointer (some ⟨w.heap.size, 0, none⟩)) (by kernel_rfl) rfl
    have b2 := hF.base (k := 2) (v := .pointer (some ⟨w.heap.size + 1, 0, none⟩)) (by kernel_rfl) rfl
    have b3 := hF.base (k := 3) (v := .string (dec (Nat.gcd n d))) (by kernel_rfl) rfl
    have hsz := hF.size
    have hdf := hF.defers
    clear hF
    obtain ⟨v38, e38, z38⟩ := known hK 14 (k := 38) (by decide) rfl
    have z38 : v38 = .agg #[.bool s, .string (dec (n / (Nat.gcd n d))), .string (dec (d / (Nat.gcd n d))), .bool true] := z38
    subst z38
    clear hK
    obtain ⟨⟨l0⟩, df⟩ := a0
    have hs0 : l0.length = 39 := hsz
    clear hsz
    replace hdf : df = _ := hdf
    subst hdf
    obtain ⟨u, rfl⟩ := lits_39 hs0
    clear hs0
    have q1 : u 1 = _ := Option.some.inj b1
    clear b1
    have q2 : u 2 = _ := Option.some.inj b2
    clear b2
    have q3 : u 3 = _ := Option.some.inj b3
    clear b3
    have q38 : u 38 = _ := Option.some.inj e38
    clear e38
    rw [q1, q2, q3, q38]
    clear q1 q2 q3 q38
    have hbl := hB; clear hB
    replace CF := Lib.hid (CF.out.below hbl CF.out.lt)
    replace RES := Lib.hid (RES.out.below hbl RES.out.lt)
    replace HW := Lib.hid (bel_trans HW.out hbl); clear hbl
    clear CF0 CF1 CF2 CF3
    have CF0 : w9.cell? ⟨w.heap.size, 0, none⟩ = some (.bool s) := CF.out.cell 0
    have CF1 : w9.cell? ⟨w.heap.size, 1, none⟩ = some (.string (dec n)) := CF.out.cell 1
    have CF2 : w9.cell? ⟨w.heap.size, 2, none⟩ = some (.string (dec d)) := CF.out.cell 2
    have CF3 : w9.cell? ⟨w.heap.size, 3, none⟩ = some (.bool true) := CF.out.cell 3
    simp only [List.drop_succ_cons, List.drop_zero]
    have d0 : w9.cell? ⟨w.heap.size + 1, 0, none⟩ = some (.bool false) := RES.out.cell 0
    have f0 : w9.frozen? ⟨w.heap.size + 1, 0, none⟩ = false := RES.out.frozen 0
    have d1 : w9.cell? ⟨w.heap.size + 1, 1, none⟩ = some (.string ⟨#[]⟩) := RES.out.cell 1
    have f1 : w9.frozen? ⟨w.heap.size + 1, 1, none⟩ = false := RES.out.frozen 1
    have d2 : w9.cell? ⟨w.heap.size + 1, 2, none⟩ = some (.string ⟨#[]⟩) := RES.out.cell 2
    have f2 : w9.frozen? ⟨w.heap.size + 1, 2, none⟩ = false := RES.out.frozen 2
    have d3 : w9.cell? ⟨w.heap.size + 1, 3, none⟩ = some (.bool false) := RES.out.cell 3
    have f3 : w9.frozen? ⟨w.heap.size + 1, 3, none⟩ = false := RES.out.frozen 3
    have D := Lib.hid (And.intro (RES.out.put4 (.bool s) (.string (dec (n / (Nat.gcd n d)))) (.string (dec (d / (Nat.gcd n d)))) (.bool true)) (bel_set4 (g := w.heap.size + 1) HW.out (by omega) (.bool s) (.string (dec (n / (Nat.gcd n d)))) (.string (dec (d / (Nat.gcd n d)))) (.bool true)))
    go_wp2
    refine bodyPost_ret (v := .agg #[.bool s, .string (dec (n / (Nat.gcd n d))), .string (dec (d / (Nat.gcd n d))), .bool true]) ?hr rfl ?hR
    case hR => exact ⟨rfl, D.out.2⟩
    case hr => exact results_cell_row rfl _ _ (w.heap.size + 1) 49 _ (0, 0) _ rfl D.out.1 Try.underlying49 rfl (by kernel_rfl)

set_option maxRecDepth 100000 in
set_option maxHeartbeats 1000000 in
theorem refRed_okz (s : Bool) (n d : Nat) (bad : Bool) (w : World) (ho : decide (Top ≤ n) = false) (ho2 : decide (Top ≤ d) = false) (hn0 : n = 0) :
    Calls Try.prog 31 #[.agg #[.bool s, .string (dec n), .string (dec d), .bool bad]] w (RetFr (redQ s n d) bad w) := by
  rw [show redQ s n d = ⟨false, 0, 1⟩ by unfold redQ; rw [if_pos hn0]]
  have e1 := dec_is0 n
  rw [decide_eq_true hn0] at e1
  clear hn0
  have HO := Lib.hid (And.intro ho ho2); clear ho ho2
  obtain ⟨wa, hwa⟩ : ∃ wa, wa = (w.alloc (.cells #[.bool s, .string (dec n), .string (dec d), .bool bad] 49)).alloc (.cells #[.bool false, .string ⟨#[]⟩, .string ⟨#[]⟩, .bool false] 49) := ⟨_, rfl⟩
  have hbl : Below w.heap.size w wa := by rw [hwa]; exact bel_alloc (bel_alloc (bel_refl _) _) _
  have CF : Blk wa (w.heap.size) 49 #[.bool s, .string (dec n), .string (dec d), .bool bad] := by
    have hz := Blk.new (w) 49 #[.bool s, .string (dec n), .string (dec d), .bool bad]
    rw [hwa]
    exact (hz.alloc _)
  have RES : Blk wa (w.heap.size + 1) 49 #[.bool false, .string ⟨#[]⟩, .string ⟨#[]⟩, .bool false] := by
    have hz := Blk.new (w.alloc (.cells #[.bool s, .string (dec n), .string (dec d), .bool bad] 49)) 49 #[.bool false, .string ⟨#[]⟩, .string ⟨#[]⟩, .bool false]
    rw [World.size_alloc] at hz
    rw [hwa]
    exact hz
  have HW := Lib.hid hbl; clear hbl
  replace CF := Lib.hid CF
  replace RES := Lib.hid RES
  go_enter Try.func31, Try.ntmps31
  go_wp2_with fail
  rw [← hwa]
  clear hwa
  have CF0 : wa.cell? ⟨w.heap.size, 0, none⟩ = some (.bool s) := CF.out.cell 0
  have CF1 : wa.cell? ⟨w.heap.size, 1, none⟩ = some (.string (dec n)) := CF.out.cell 1
  have CF2 : wa.cell? ⟨w.heap.size, 2, none⟩ = some (.string (dec d)) := CF.out.cell 2
  have CF3 : wa.cell? ⟨w.heap.size, 3, none⟩ = some (.bool bad) := CF.out.cell 3
  refine (refOver_any n _).mono ?_
  rintro e w1 ⟨rfl, hbl⟩
  replace CF := Lib.hid (CF.out.below hbl CF.out.lt)
  replace RES := Lib.hid (RES.out.below hbl RES.out.lt)
  replace HW := Lib.hid (bel_trans HW.out hbl); clear hbl
  clear CF0 CF1 CF2 CF3
  have CF0 : w1.cell? ⟨w.heap.size, 0, none⟩ = some (.bool s) := CF.out.cell 0
  have CF1 : w1.cell? ⟨w.heap.size, 1, none⟩ = some (.string (dec n)) := CF.out.cell 1
  have CF2 : w1.cell? ⟨w.heap.size, 2, none⟩ = some (.string (dec d)) := CF.out.cell 2
  have CF3 : w1.cell? ⟨w.heap.size, 3, none⟩ = some (.bool bad) := CF.out.cell 3
  rw [HO.out.1]
  go_wp2_with fail
  refine (refOver_any d _).mono ?_
  rintro e w2 ⟨rfl, hbl⟩
  replace CF := Lib.hid (CF.out.below hbl CF.out.lt)
  replace RES := Lib.hid (RES.out.below hbl RES.out.lt)
  replace HW := Lib.hid (bel_trans HW.out hbl); clear hbl
  clear CF0 CF1 CF2 CF3
  have CF0 : w2.cell? ⟨w.heap.size, 0, none⟩ = some (.bool s) := CF.out.cell 0
  have CF1 : w2.cell? ⟨w.heap.size, 1, none⟩ = some (.string (dec n)) := CF.out.cell 1
  have CF2 : w2.cell? ⟨w.heap.size, 2, none⟩ = some (.string (dec d)) := CF.out.cell 2
  have CF3 : w2.cell? ⟨w.heap.size, 3, none⟩ = some (.bool bad) := CF.out.cell 3
  rw [HO.out.2]
  have d0 : w2.cell? ⟨w.heap.size + 1, 0, none⟩ = some (.bool false) := RES.out.cell 0
  have f0 : w2.frozen? ⟨w.heap.size + 1, 0, none⟩ = false := RES.out.frozen 0
  have d1 : w2.cell? ⟨w.heap.size + 1, 1, none⟩ = some (.string ⟨#[]⟩) := RES.out.cell 1
  have f1 : w2.frozen? ⟨w.heap.size + 1, 1, none⟩ = false := RES.out.frozen 1
  have d2 : w2.cell? ⟨w.heap.size + 1, 2, none⟩ = some (.string ⟨#[]⟩) := RES.out.cell 2
  have f2 : w2.frozen? ⟨w.heap.size + 1, 2, none⟩ = false := RES.out.frozen 2
  have d3 : w2.cell? ⟨w.heap.size + 1, 3, none⟩ = some (.bool false) := RES.out.cell 3
  have f3 : w2.frozen? ⟨w.heap.size + 1, 3, none⟩ = false := RES.out.frozen 3
  have D := Lib.hid (And.intro (RES.out.put4 (.bool false) (.string ⟨#[48]⟩) (.string ⟨#[49]⟩) (.bool bad)) (bel_set4 (g := w.heap.size + 1) HW.out (by omega) (.bool false) (.string ⟨#[48]⟩) (.string ⟨#[49]⟩) (.bool bad)))
  go_wp2
  refine bodyPost_ret (v := .agg #[.bool false, .string ⟨#[48]⟩, .string ⟨#[49]⟩, .bool bad]) ?hr rfl ?hR
  case hR => exact ⟨(by show Ending.returned _ = Ending.returned _; rw [dec_zero, dec_one]), D.out.2⟩
  case hr => exact results_cell_row rfl _ _ (w.heap.size + 1) 49 _ (0, 0) _ rfl D.out.1 Try.underlying49 rfl (by kernel_rfl)

set_option maxRecDepth 100000 in
set_option maxHeartbeats 1000000 in
theorem refRed_okp (s : Bool) (n d : Nat) (bad : Bool) (w : World) (ho : decide (Top ≤ n) = false) (ho2 : decide (Top ≤ d) = false) (hl : (decL n).length ≤ 900) (hl2 : (decL d).length ≤ 900) (hn0 : n ≠ 0) :
    Calls Try.prog 31 #[.agg #[.bool s, .string (dec n), .string (dec d), .bool bad]] w (RetFr (redQ s n d) bad w) := by
  rw [show redQ s n d = ⟨s, n / Nat.gcd n d, d / Nat.gcd n d⟩ by unfold redQ; rw [if_neg hn0]]
  have e1 := dec_is0 n
  rw [decide_eq_false hn0] at e1
  have HL := Lib.hid (And.intro hl (And.intro hl2 hn0)); clear hl hl2
  clear hn0
  have HO := Lib.hid (And.intro ho ho2); clear ho ho2
  have hf1 := fun W => field_q (dec (n / Nat.gcd n d)) (dec (n % Nat.gcd n d)) W
  have hf2 := fun W => field_q (dec (d / Nat.gcd n d)) (dec (d % Nat.gcd n d)) W
  obtain ⟨wa, hwa⟩ : ∃ wa, wa = (w.alloc (.cells #[.bool s, .string (dec n), .string (dec d), .bool bad] 49)).alloc (.cells #[.bool false, .string ⟨#[]⟩, .string ⟨#[]⟩, .bool false] 49) := ⟨_, rfl⟩
  have hbl : Below w.heap.size w wa := by rw [hwa]; exact bel_alloc (bel_alloc (bel_refl _) _) _
  have CF : Blk wa (w.heap.size) 49 #[.bool s, .string (dec n), .string (dec d), .bool bad] := by
    have hz := Blk.new (w) 49 #[.bool s, .string (dec n), .string (dec d), .bool bad]
    rw [hwa]
    exact (hz.alloc _)
  have RES : Blk wa (w.heap.size + 1) 49 #[.bool false, .string ⟨#[]⟩, .string ⟨#[]⟩, .bool false] := by
    have hz := Blk.new (w.alloc (.cells #[.bool s, .string (dec n), .string (dec d), .bool bad] 49)) 49 #[.bool false, .string ⟨#[]⟩, .string ⟨#[]⟩, .bool false]
    rw [World.size_alloc] at hz
    rw [hwa]
    exact hz
  have HW := Lib.hid hbl; clear hbl
  replace CF := Lib.hid CF
  replace RES := Lib.hid RES
  go_enter Try.func31, Try.ntmps31
  go_wp2_with fail
  rw [← hwa]
  clear hwa
  have CF0 : wa.cell? ⟨w.heap.size, 0, none⟩ = some (.bool s) := CF.out.cell 0
  have CF1 : wa.cell? ⟨w.heap.size, 1, none⟩ = some (.string (dec n)) := CF.out.cell 1
  have CF2 : wa.cell? ⟨w.heap.size, 2, none⟩ = some (.string (dec d)) := CF.out.cell 2
  have CF3 : wa.cell? ⟨w.heap.size, 3, none⟩ = some (.bool bad) := CF.out.cell 3
  refine (refOver_any n _).mono ?_
  rintro e w1 ⟨rfl, hbl⟩
  replace CF := Lib.hid (CF.out.below hbl CF.out.lt)
  replace RES := Lib.hid (RES.out.below hbl RES.out.lt)
  replace HW := Lib.hid (bel_trans HW.out hbl); clear hbl
  clear CF0 CF1 CF2 CF3
  have CF0 : w1.cell? ⟨w.heap.size, 0, none⟩ = some (.bool s) := CF.out.cell 0
  have CF1 : w1.cell? ⟨w.heap.size, 1, none⟩ = some (.string (dec n)) := CF.out.cell 1
  have CF2 : w1.cell? ⟨w.heap.size, 2, none⟩ = some (.string (dec d)) := CF.out.cell 2
  have CF3 : w1.cell? ⟨w.heap.size, 3, none⟩ = some (.bool bad) := CF.out.cell 3
  rw [HO.out.1]
  go_wp2_with fail
  refine (refOver_any d _).mono ?_
  rintro e w2 ⟨rfl, hbl⟩
  replace CF := Lib.hid (CF.out.below hbl CF.out.lt)
  replace RES := Lib.hid (RES.out.below hbl RES.out.lt)
  replace HW := Lib.hid (bel_trans HW.out hbl); clear hbl
  clear CF0 CF1 CF2 CF3
  have CF0 : w2.cell? ⟨w.heap.size, 0, none⟩ = some (.bool s) := CF.out.cell 0
  have CF1 : w2.cell? ⟨w.heap.size, 1, none⟩ = some (.string (dec n)) := CF.out.cell 1
  have CF2 : w2.cell? ⟨w.heap.size, 2, none⟩ = some (.string (dec d)) := CF.out.cell 2
  have CF3 : w2.cell? ⟨w.heap.size, 3, none⟩ = some (.bool bad) := CF.out.cell 3
  rw [HO.out.2]
  go_wp2_with fail
  refine (refCommon_any n d _ (by have := HL.out.1; omega) (by have := HL.out.2.1; omega)).mono ?_
  rintro e w3 ⟨rfl, hbl⟩
  replace CF := Lib.hid (CF.out.below hbl CF.out.lt)
  replace RES := Lib.hid (RES.out.below hbl RES.out.lt)
  replace HW := Lib.hid (bel_trans HW.out hbl); clear hbl
  clear CF0 CF1 CF2 CF3
  have CF0 : w3.cell? ⟨w.heap.size, 0, none⟩ = some (.bool s) := CF.out.cell 0
  have CF1 : w3.cell? ⟨w.heap.size, 1, none⟩ = some (.string (dec n)) := CF.out.cell 1
  have CF2 : w3.cell? ⟨w.heap.size, 2, none⟩ = some (.string (dec d)) := CF.out.cell 2
  have CF3 : w3.cell? ⟨w.heap.size, 3, none⟩ = some (.bool bad) := CF.out.cell 3
  go_wp2_with fail
  refine wp_region_typed 15 (TOf [VIs (.pointer (some ⟨w.heap.size, 0, none⟩)),
      VIs (.bool s),
      VIs (.pointer (some ⟨w.heap.size, 1, none⟩)),
      VIs (.string (dec n)),
      VIs (.string (dec (Nat.gcd n d))),
      VIs (.agg #[.string (dec (n / (Nat.gcd n d))), .string (dec (n % (Nat.gcd n d)))]),
      VIs (.string (dec (n / (Nat.gcd n d)))),
      VIs (.pointer (some ⟨w.heap.size, 2, none⟩)),
      VIs (.string (dec d)),
      VIs (.string (dec (Nat.gcd n d))),
      VIs (.agg #[.string (dec (d / (Nat.gcd n d))), .string (dec (d % (Nat.gcd n d)))]),
      VIs (.string (dec (d / (Nat.gcd n d)))),
      VIs (.pointer (some ⟨w.heap.size, 3, none⟩)),
      VIs (.bool bad),
      VIs (.agg #[.bool s, .string (dec (n / (Nat.gcd n d))), .string (dec (d / (Nat.gcd n d))), .bool bad])]) (by kernel_rfl) (by kernel_rfl) (by kernel_rfl) (LiftAll.at_ (.cons (VIs.lift _) (.cons (VIs.lift _) (.cons (VIs.lift _) (.cons (VIs.lift _) (.cons (VIs.lift _) (.cons (VIs.lift _) (.cons (VIs.lift _) (.cons (VIs.lift _) (.cons (VIs.lift _) (.cons (VIs.lift _) (.cons (VIs.lift _) (.cons (VIs.lift _) (.cons (VIs.lift _) (.cons (VIs.lift _) (.cons (VIs.lift _) .nil)))))))))))))))) (steps_all (steps_cons ?_ (steps_cons ?_ (steps_cons ?_ (steps_cons ?_ (steps_cons ?_ (steps_cons ?_ (steps_cons ?_ (steps_cons ?_ (steps_cons ?_ (steps_cons ?_ (steps_cons ?_ (steps_cons ?_ (steps_cons ?_ (steps_cons ?_ (steps_cons ?_ steps_zero)))))))))))))))) ?fin
  · intro a0 w9 K9 hF hB hK hC
    have b1 := hF.base (k := 1) (v := .pointer (some ⟨w.heap.size, 0, none⟩)) (by kernel_rfl) rfl
    clear hF hB hK
    go_simp
    exact hC _ _ (bel_refl _) fun _ _ => rfl
  · intro a0 w9 K9 hF hB hK hC
    obtain ⟨v24, e24, z24⟩ := dep hK 0 (g := .data) (j := 0) (k := 24) rfl rfl rfl
    have z24 : v24 = .pointer (some ⟨w.heap.size, 0, none⟩) := z24
    subst z24
    have x9 : w9.cell? ⟨w.heap.size, 0, none⟩ = some (.bool s) := (CF.out.below hB CF.out.lt).cell 0
    clear hF hB hK
    go_simp
    exact hC _ _ (bel_refl _) fun _ _ => rfl
  · intro a0 w9 K9 hF hB hK hC
    have b1 := hF.base (k := 1) (v := .pointer (some ⟨w.heap.size, 0, none⟩)) (by kernel_rfl) rfl
    clear hF hB hK
    go_simp
    exact hC _ _ (bel_refl _) fun _ _ => rfl
  · intro a0 w9 K9 hF hB hK hC
    obtain ⟨v26, e26, z26⟩ := dep hK 0 (g := .data) (j := 2) (k := 26) rfl rfl rfl
    have z26 : v26 = .pointer (some ⟨w.heap.size, 1, none⟩) := z26
    subst z26
    have x9 : w9.cell? ⟨w.heap.size, 1, none⟩ = some (.string (dec n)) := (CF.out.below hB CF.out.lt).cell 1
    clear hF hB hK
    go_simp
    exact hC _ _ (bel_refl _) fun _ _ => rfl
  · intro a0 w9 K9 hF hB hK hC
    have b3 := hF.base (k := 3) (v := .string (dec (Nat.gcd n d))) (by kernel_rfl) rfl
    clear hF hB hK
    go_simp
    exact hC _ _ (bel_refl _) fun _ _ => rfl
  · intro a0 w9 K9 hF hB hK hC
    obtain ⟨v27, e27, z27⟩ := dep hK 0 (g := .data) (j := 3) (k := 27) rfl rfl rfl
    have z27 : v27 = .string (dec n) := z27
    subst z27
    obtain ⟨v28, e28, z28⟩ := dep hK 1 (g := .data) (j := 4) (k := 28) rfl rfl rfl
    have z28 : v28 = .string (dec (Nat.gcd n d)) := z28
    subst z28
    have HB9 := Lib.hid hB
    clear hF hB hK
    go_simp
    refine (refDiv_any n (Nat.gcd n d) _ (by have := HL.out.1; omega) (by have := gcd_len (d := d) HL.out.2.2 HL.out.1; omega) (Nat.ne_of_gt (Nat.gcd_pos_of_pos_left d (Nat.pos_of_ne_zero HL.out.2.2)))).mono ?_
    rintro e w7 ⟨rfl, hbl⟩
    exact hC _ _ hbl fun _ _ => rfl
  · intro a0 w9 K9 hF hB hK hC
    obtain ⟨v29, e29, z29⟩ := dep hK 0 (g := .data) (j := 5) (k := 29) rfl rfl rfl
    have z29 : v29 = .agg #[.string (dec (n / (Nat.gcd n d))), .string (dec (n % (Nat.gcd n d)))] := z29
    subst z29
    have HB9 := Lib.hid hB
    clear hF hB hK
    go_simp
    exact hC _ _ (bel_refl _) fun _ _ => rfl
  · intro a0 w9 K9 hF hB hK hC
    have b1 := hF.base (k := 1) (v := .pointer (some ⟨w.heap.size, 0, none⟩)) (by kernel_rfl) rfl
    clear hF hB hK
    go_simp
    exact hC _ _ (bel_refl _) fun _ _ => rfl
  · intro a0 w9 K9 hF hB hK hC
    obtain ⟨v31, e31, z31⟩ := dep hK 0 (g := .data) (j := 7) (k := 31) rfl rfl rfl
    have z31 : v31 = .pointer (some ⟨w.heap.size, 2, none⟩) := z31
    subst z31
    have x9 : w9.cell? ⟨w.heap.size, 2, none⟩ = some (.string (dec d)) := (CF.out.below hB CF.out.lt).cell 2
    clear hF hB hK
    go_simp
    exact hC _ _ (bel_refl _) fun _ _ => rfl
  · intro a0 w9 K9 hF hB hK hC
    have b3 := hF.base (k := 3) (v := .string (dec (Nat.gcd n d))) (by kernel_rfl) rfl
    clear hF hB hK
    go_simp
    exact hC _ _ (bel_refl _) fun _ _ => rfl
  · intro a0 w9 K9 hF hB hK hC
    obtain ⟨v32, e32, z32⟩ := dep hK 0 (g := .data) (j := 8) (k := 32) rfl rfl rfl
    have z32 : v32 = .string (dec d) := z32
    subst z32
    obtain ⟨v33, e33, z33⟩ := dep hK 1 (g := .data) (j := 9) (k := 33) rfl rfl rfl
    have z33 : v33 = .string (dec (Nat.gcd n d)) := z33
    subst z33
    have HB9 := Lib.hid hB
    clear hF hB hK
    go_simp
    refine (refDiv_any d (Nat.gcd n d) _ (by have := HL.out.2.1; omega) (by have := gcd_len (d := d) HL.out.2.2 HL.out.1; omega) (Nat.ne_of_gt (Nat.gcd_pos_of_pos_left d (Nat.pos_of_ne_zero HL.out.2.2)))).mono ?_
    rintro e w7 ⟨rfl, hbl⟩
    exact hC _ _ hbl fun _ _ => rfl
  · intro a0 w9 K9 hF hB hK hC
    obtain ⟨v34, e34, z34⟩ := dep hK 0 (g := .data) (j := 10) (k := 34) rfl rfl rfl
    have z34 : v34 = .agg #[.string (dec (d / (Nat.gcd n d))), .string (dec (d % (Nat.gcd n d)))] := z34
    subst z34
    have HB9 := Lib.hid hB
    clear hF hB hK
    go_simp
    exact hC _ _ (bel_refl _) fun _ _ => rfl
  · intro a0 w9 K9 hF hB hK hC
    have b1 := hF.base (k := 1) (v := .pointer (some ⟨w.heap.size, 0, none⟩)) (by kernel_rfl) rfl
    clear hF hB hK
    go_simp
    exact hC _ _ (bel_refl _) fun _ _ => rfl
  · intro a0 w9 K9 hF hB hK hC
    obtain ⟨v36, e36, z36⟩ := dep hK 0 (g := .data) (j := 12) (k := 36) rfl rfl rfl
    have z36 : v36 = .pointer (some ⟨w.heap.size, 3, none⟩) := z36
    subst z36
    have x9 : w9.cell? ⟨w.heap.size, 3, none⟩ = some (.bool bad) := (CF.out.below hB CF.out.lt).cell 3
    clear hF hB hK
    go_simp
    exact hC _ _ (bel_refl _) fun _ _ => rfl
  · intro a0 w9 K9 hF hB hK hC
    obtain ⟨v25, e25, z25⟩ := dep hK 0 (g := .data) (j := 1) (k := 25) rfl rfl rfl
    have z25 : v25 = .bool s := z25
    subst z25
    obtain ⟨v30, e30, z30⟩ := dep hK 1 (g := .data) (j := 6) (k := 30) rfl rfl rfl
    have z30 : v30 = .string (dec (n / (Nat.gcd n d))) := z30
    subst z30
    obtain ⟨v35, e35, z35⟩ := dep hK 2 (g := .data) (j := 11) (k := 35) rfl rfl rfl
    have z35 : v35 = .string (dec (d / (Nat.gcd n d))) := z35
    subst z35
    obtain ⟨v37, e37, z37⟩ := dep hK 3 (g := .data) (j := 13) (k := 37) rfl rfl rfl
    have z37 : v37 = .bool bad := z37
    subst z37
    have HB9 := Lib.hid hB
    clear hF hB hK
    go_simp
    exact hC _ _ (bel_refl _) fun _ _ => rfl
  case fin =>
    intro a0 w9 hF hB hK
    have b1 := hF.base (k := 1) (v := .pointer (some ⟨w.heap.size, 0, none⟩)) (by kernel_rfl) rfl
    have b2 := hF.base (k := 2) (v := .pointer (some ⟨w.heap.size + 1, 0, none⟩)) (by kernel_rfl) rfl
    have b3 := hF.base (k := 3) (v := .string (dec (Nat.gcd n d))) (by kernel_rfl) rfl
    have hsz := hF.size
    have hdf := hF.defers
    clear hF
    obtain ⟨v38, e38, z38⟩ := known hK 14 (k := 38) (by decide) rfl
    have z38 : v38 = .agg #[.bool s, .string (dec (n / (Nat.gcd n d))), .string (dec (d / (Nat.gcd n d))), .bool bad] := z38
    subst z38
    clear hK
    obtain ⟨⟨l0⟩, df⟩ := a0
    have hs0 : l0.length = 39 := hsz
    clear hsz
    replace hdf : df = _ := hdf
    subst hdf
    obtain ⟨u, rfl⟩ := lits_39 hs0
    clear hs0
    have q1 : u 1 = _ := Option.some.inj b1
    clear b1
    have q2 : u 2 = _ := Option.some.inj b2
    clear b2
    have q3 : u 3 = _ := Option.some.inj b3
    clear b3
    have q38 : u 38 = _ := Option.some.inj e38
    clear e38
    rw [q1, q2, q3, q38]
    clear q1 q2 q3 q38
    have hbl := hB; clear hB
    replace CF := Lib.hid (CF.out.below hbl CF.out.lt)
    replace RES := Lib.hid (RES.out.below hbl RES.out.lt)
    replace HW := Lib.hid (bel_trans HW.out hbl); clear hbl
    clear CF0 CF1 CF2 CF3
    have CF0 : w9.cell? ⟨w.heap.size, 0, none⟩ = some (.bool s) := CF.out.cell 0
    have CF1 : w9.cell? ⟨w.heap.size, 1, none⟩ = some (.string (dec n)) := CF.out.cell 1
    have CF2 : w9.cell? ⟨w.heap.size, 2, none⟩ = some (.string (dec d)) := CF.out.cell 2
    have CF3 : w9.cell? ⟨w.heap.size, 3, none⟩ = some (.bool bad) := CF.out.cell 3
    simp only [List.drop_succ_cons, List.drop_zero]
    have d0 : w9.cell? ⟨w.heap.size + 1, 0, none⟩ = some (.bool false) := RES.out.cell 0
    have f0 : w9.frozen? ⟨w.heap.size + 1, 0, none⟩ = false := RES.out.frozen 0
    have d1 : w9.cell? ⟨w.heap.size + 1, 1, none⟩ = some (.string ⟨#[]⟩) := RES.out.cell 1
    have f1 : w9.frozen? ⟨w.heap.size + 1, 1, none⟩ = false := RES.out.frozen 1
    have d2 : w9.cell? ⟨w.heap.size + 1, 2, none⟩ = some (.string ⟨#[]⟩) := RES.out.cell 2
    have f2 : w9.frozen? ⟨w.heap.size + 1, 2, none⟩ = false := RES.out.frozen 2
    have d3 : w9.cell? ⟨w.heap.size + 1, 3, none⟩ = some (.bool false) := RES.out.cell 3
    have f3 : w9.frozen? ⟨w.heap.size + 1, 3, none⟩ = false := RES.out.frozen 3
    have D := Lib.hid (And.intro (RES.out.put4 (.bool s) (.string (dec (n / (Nat.gcd n d)))) (.string (dec (d / (Nat.gcd n d)))) (.bool bad)) (bel_set4 (g := w.heap.size + 1) HW.out (by omega) (.bool s) (.string (dec (n / (Nat.gcd n d)))) (.string (dec (d / (Nat.gcd n d)))) (.bool bad)))
    go_wp2
    refine bodyPost_ret (v := .agg #[.bool s, .string (dec (n / (Nat.gcd n d))), .string (dec (d / (Nat.gcd n d))), .bool bad]) ?hr rfl ?hR
    case hR => exact ⟨rfl, D.out.2⟩
    case hr => exact results_cell_row rfl _ _ (w.heap.size + 1) 49 _ (0, 0) _ rfl D.out.1 Try.underlying49 rfl (by kernel_rfl)

def overB (bad : Bool) (n d : Nat) : Bool := bad || decide (Top ≤ n) || decide (Top ≤ d)
theorem refRed_any (s : Bool) (n d : Nat) (bad : Bool) (w : World) (hl : (decL n).length ≤ 900) (hl2 : (decL d).length ≤ 900) :
    Calls Try.prog 31 #[.agg #[.bool s, .string (dec n), .string (dec d), .bool bad]] w (RetFr (redQ s n d) (overB bad n d) w) := by
  unfold overB
  cases ho : decide (Top ≤ n)
  · cases ho2 : decide (Top ≤ d)
    · rw [Bool.or_false, Bool.or_false]
      by_cases hn0 : n = 0
      · exact refRed_okz s n d bad w ho ho2 hn0
      · exact refRed_okp s n d bad w ho ho2 hl hl2 hn0
    · rw [Bool.or_true]
      by_cases hn0 : n = 0
      · exact refRed_odz s n d bad w ho ho2 hn0
      · exact refRed_odp s n d bad w ho ho2 hl hl2 hn0
  · rw [Bool.or_true, Bool.true_or]
    have hn0 : n ≠ 0 := by
      have h1 : Top ≤ n := of_decide_eq_true ho
      have h2 : 0 < Top := small_top (by decide)
      omega
    exact refRed_onp s n d bad w ho hl hl2 hn0
theorem refRed_q {q : Q} {b : Bool} (s : Bool) (n d : Nat) (bad : Bool) (w : World) (hl : (decL n).length ≤ 900) (hl2 : (decL d).length ≤ 900) (hq : redQ s n d = q) (hb : overB bad n d = b) :
    Calls Try.prog 31 #[.agg #[.bool s, .string (dec n), .string (dec d), .bool bad]] w (RetFr q b w) := by
  rw [← hq, ← hb]
  exact refRed_any s n d bad w hl hl2
set_option maxRecDepth 100000 in
set_option maxHeartbeats 1000000 in
theorem ref_larger_ge (x y : Nat) (w : World) (hxy : y ≤ x) : Calls Try.prog 69 #[.string (dec x), .string (dec y)] w (RetS (dec x) w) := by
  have e1 : 0 ≤ cmpI (x : Int) (y : Int) := cmp_ge hxy
  clear hxy
  have HW := Lib.hid (bel_refl w)
  go_enter Try.func69, Try.ntmps69
  go_wp2_with fail
  refine (refCmp_bb x y _).mono ?_
  rintro e w1 ⟨rfl, hbl⟩
  replace HW := Lib.hid (bel_trans HW.out hbl); clear hbl
  go_wp2
  go_ret
  exact ⟨rfl, HW.out⟩

set_option maxRecDepth 100000 in
set_option maxHeartbeats 1000000 in
theorem ref_larger_lt (x y : Nat) (w : World) (hxy : x < y) : Calls Try.prog 69 #[.string (dec x), .string (dec y)] w (RetS (dec y) w) := by
  have e1 : ¬ 0 ≤ cmpI (x : Int) (y : Int) := by rw [cmpI_lt (by omega)]; decide
  clear hxy
  have HW := Lib.hid (bel_refl w)
  go_enter Try.func69, Try.ntmps69
  go_wp2_with fail
  refine (refCmp_bb x y _).mono ?_
  rintro e w1 ⟨rfl, hbl⟩
  replace HW := Lib.hid (bel_trans HW.out hbl); clear hbl
  go_wp2
  go_ret
  exact ⟨rfl, HW.out⟩

set_option maxRecDepth 100000 in
set_option maxHeartbeats 1000000 in
theorem ref_smaller_ge (x y : Nat) (w : World) (hxy : y ≤ x) : Calls Try.prog 70 #[.string (dec x), .string (dec y)] w (RetS (dec y) w) := by
  have e1 : 0 ≤ cmpI (x : Int) (y : Int) := cmp_ge hxy
  clear hxy
  have HW := Lib.hid (bel_refl w)
  go_enter Try.func70, Try.ntmps70
  go_wp2_with fail
  refine (refCmp_bb x y _).mono ?_
  rintro e w1 ⟨rfl, hbl⟩
  replace HW := Lib.hid (bel_trans HW.out hbl); clear hbl
  go_wp2
  go_ret
  exact ⟨rfl, HW.out⟩

set_option maxRecDepth 100000 in
set_option maxHeartbeats 1000000 in
theorem ref_smaller_lt (x y : Nat) (w : World) (hxy : x < y) : Calls Try.prog 70 #[.string (dec x), .string (dec y)] w (RetS (dec x) w) := by
  have e1 : ¬ 0 ≤ cmpI (x : Int) (y : Int) := by rw [cmpI_lt (by omega)]; decide
  clear hxy
  have HW := Lib.hid (bel_refl w)
  go_enter Try.func70, Try.ntmps70
  go_wp2_with fail
  refine (refCmp_bb x y _).mono ?_
  rintro e w1 ⟨rfl, hbl⟩
  replace HW := Lib.hid (bel_trans HW.out hbl); clear hbl
  go_wp2
  go_ret
  exact ⟨rfl, HW.out⟩

set_option maxRecDepth 100000 in
set_option maxHeartbeats 1000000 in
theorem refLess_any (s : Bool) (n d : Nat) (bad : Bool) (w : World) : Calls Try.prog 37 #[.agg #[.bool s, .string (dec n), .string (dec d), .bool bad]] w (RetFr ⟨!s, n, d⟩ bad w) := by
  obtain ⟨wa, hwa⟩ : ∃ wa, wa = (w.alloc (.cells #[.bool (!s), .string (dec n), .string (dec d), .bool bad] 49)).alloc (.cells #[.bool false, .string ⟨#[]⟩, .string ⟨#[]⟩, .bool false] 49) := ⟨_, rfl⟩
  have hbl : Below w.heap.size w wa := by rw [hwa]; exact bel_alloc (bel_alloc (bel_refl _) _) _
  have CF : Blk wa (w.heap.size) 49 #[.bool (!s), .string (dec n), .string (dec d), .bool bad] := by
    have hz := Blk.new (w) 49 #[.bool (!s), .string (dec n), .string (dec d), .bool bad]
    rw [hwa]
    exact (hz.alloc _)
  have RES : Blk wa (w.heap.size + 1) 49 #[.bool false, .string ⟨#[]⟩, .string ⟨#[]⟩, .bool false] := by
    have hz := Blk.new (w.alloc (.cells #[.bool (!s), .string (dec n), .string (dec d), .bool bad] 49)) 49 #[.bool false, .string ⟨#[]⟩, .string ⟨#[]⟩, .bool false]
    rw [World.size_alloc] at hz
    rw [hwa]
    exact hz
  have HW := Lib.hid hbl; clear hbl
  replace CF := Lib.hid CF
  replace RES := Lib.hid RES
  go_enter Try.func37, Try.ntmps37
  go_upto_region 2 with fail
  rw [← hwa]
  clear hwa
  have CF0 : wa.cell? ⟨w.heap.size, 0, none⟩ = some (.bool (!s)) := CF.out.cell 0
  have CF1 : wa.cell? ⟨w.heap.size, 1, none⟩ = some (.string (dec n)) := CF.out.cell 1
  have CF2 : wa.cell? ⟨w.heap.size, 2, none⟩ = some (.string (dec d)) := CF.out.cell 2
  have CF3 : wa.cell? ⟨w.heap.size, 3, none⟩ = some (.bool bad) := CF.out.cell 3
  have d0 : wa.cell? ⟨w.heap.size + 1, 0, none⟩ = some (.bool false) := RES.out.cell 0
  have f0 : wa.frozen? ⟨w.heap.size + 1, 0, none⟩ = false := RES.out.frozen 0
  have d1 : wa.cell? ⟨w.heap.size + 1, 1, none⟩ = some (.string ⟨#[]⟩) := RES.out.cell 1
  have f1 : wa.frozen? ⟨w.heap.size + 1, 1, none⟩ = false := RES.out.frozen 1
  have d2 : wa.cell? ⟨w.heap.size + 1, 2, none⟩ = some (.string ⟨#[]⟩) := RES.out.cell 2
  have f2 : wa.frozen? ⟨w.heap.size + 1, 2, none⟩ = false := RES.out.frozen 2
  have d3 : wa.cell? ⟨w.heap.size + 1, 3, none⟩ = some (.bool false) := RES.out.cell 3
  have f3 : wa.frozen? ⟨w.heap.size + 1, 3, none⟩ = false := RES.out.frozen 3
  have D := Lib.hid (And.intro (RES.out.put4 (.bool (!s)) (.string (dec n)) (.string (dec d)) (.bool bad)) (bel_set4 (g := w.heap.size + 1) HW.out (by omega) (.bool (!s)) (.string (dec n)) (.string (dec d)) (.bool bad)))
  go_wp2
  refine bodyPost_ret (v := .agg #[.bool (!s), .string (dec n), .string (dec d), .bool bad]) ?hr rfl ?hR
  case hR => exact ⟨rfl, D.out.2⟩
  case hr => exact results_cell_row rfl _ _ (w.heap.size + 1) 49 _ (0, 0) _ rfl D.out.1 Try.underlying49 rfl (by kernel_rfl)
end
end Go.Proofs.Ytmbbdjpnecjleaa
