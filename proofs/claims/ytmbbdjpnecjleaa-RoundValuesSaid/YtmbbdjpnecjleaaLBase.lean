/-
  The reference's Is, and few, is of the laws of layer 2, walked.
  alive of the laws of layer 2, walked.
  The law RatMakes: what it asks of numbers.
-/
import Derived.Test.YtmbbdjpnecjleaaFRed
import Derived.Test.YtmbbdjpnecjleaaQAdd
import Derived.Deep.Cut
namespace Go.Proofs.Ytmbbdjpnecjleaa
section
open Go.RowKit

set_option maxRecDepth 100000 in
set_option maxHeartbeats 1000000 in
theorem refIs_true (q : Q) (k : Bool) (A B : Option Addr) (c d : Nat) (w : World) (h : RdL w A (limbs q.n)) (h' : RdL w B (limbs q.d)) (hn : q.n < Top) (hd : q.d < Top) (hq : QR q) :
    Calls Try.prog 42 #[.agg #[.bool q.s, .slice A (limbs q.n).length c, .slice B (limbs q.d).length d], .agg #[.bool q.s, .string (dec q.n), .string (dec q.d), .bool k]] w (RetBB true w) := by
  have LA := Lib.hid (And.intro hn (And.intro hd hq)); clear hn hd hq
  have RA := Lib.hid h; clear h
  have RB := Lib.hid h'; clear h'
  obtain ⟨wa, hwa⟩ : ∃ wa, wa = (w.alloc (.cells #[.bool q.s, .slice A (limbs q.n).length c, .slice B (limbs q.d).length d] 25)).alloc (.cells #[.bool q.s, .string (dec q.n), .string (dec q.d), .bool k] 49) := ⟨_, rfl⟩
  have hbl : Below w.heap.size w wa := by rw [hwa]; exact bel_alloc (bel_alloc (bel_refl _) _) _
  have CX : Blk wa (w.heap.size) 25 #[.bool q.s, .slice A (limbs q.n).length c, .slice B (limbs q.d).length d] := by
    have hz := Blk.new (w) 25 #[.bool q.s, .slice A (limbs q.n).length c, .slice B (limbs q.d).length d]
    rw [hwa]
    exact (hz.alloc _)
  have CF : Blk wa (w.heap.size + 1) 49 #[.bool q.s, .string (dec q.n), .string (dec q.d), .bool k] := by
    have hz := Blk.new (w.alloc (.cells #[.bool q.s, .slice A (limbs q.n).length c, .slice B (limbs q.d).length d] 25)) 49 #[.bool q.s, .string (dec q.n), .string (dec q.d), .bool k]
    rw [World.size_alloc] at hz
    rw [hwa]
    exact hz
  replace RA := Lib.hid (RA.out.below hbl)
  replace RB := Lib.hid (RB.out.below hbl)
  have HW := Lib.hid hbl; clear hbl
  replace CX := Lib.hid CX
  replace CF := Lib.hid CF
  go_enter Try.func42, Try.ntmps42
  go_wp2_with fail
  rw [← hwa]
  clear hwa
  have CX0 : wa.cell? ⟨w.heap.size, 0, none⟩ = some (.bool q.s) := CX.out.cell 0
  have CX1 : wa.cell? ⟨w.heap.size, 1, none⟩ = some (.slice A (limbs q.n).length c) := CX.out.cell 1
  have CX2 : wa.cell? ⟨w.heap.size, 2, none⟩ = some (.slice B (limbs q.d).length d) := CX.out.cell 2
  have CF0 : wa.cell? ⟨w.heap.size + 1, 0, none⟩ = some (.bool q.s) := CF.out.cell 0
  have CF1 : wa.cell? ⟨w.heap.size + 1, 1, none⟩ = some (.string (dec q.n)) := CF.out.cell 1
  have CF2 : wa.cell? ⟨w.heap.size + 1, 2, none⟩ = some (.string (dec q.d)) := CF.out.cell 2
  go_region_held3 (fun w' => w'.cell? ⟨w.heap.size, 0, none⟩ = some (.bool q.s) ∧ w'.cell? ⟨w.heap.size, 1, none⟩ = some (.slice A (limbs q.n).length c) ∧ w'.cell? ⟨w.heap.size, 2, none⟩ = some (.slice B (limbs q.d).length d) ∧ w'.cell? ⟨w.heap.size + 1, 0, none⟩ = some (.bool q.s) ∧ w'.cell? ⟨w.heap.size + 1, 1, none⟩ = some (.string (dec q.n)) ∧ w'.cell? ⟨w.heap.size + 1, 2, none⟩ = some (.string (dec q.d)) ∧ Below wa.heap.size wa w')
    (first | exact ⟨CX0, CX1, CX2, CF0, CF1, CF2, (Below.refl _ _).drew⟩ | exact ⟨(CX.out.below hb2 CX.out.lt).cell 0, (CX.out.below hb2 CX.out.lt).cell 1, (CX.out.below hb2 CX.out.lt).cell 2, (CF.out.below hb2 CF.out.lt).cell 0, (CF.out.below hb2 CF.out.lt).cell 1, (CF.out.below hb2 CF.out.lt).cell 2, hb2⟩)
    (first
      | (go_at_call 13; have hH := ‹_ ∧ _ ∧ _ ∧ _ ∧ _ ∧ _ ∧ Below _ _ _›; (with_reducible refine (refRatRight_q q A B c d _ (RA.out.below hH.2.2.2.2.2.2) (RB.out.below hH.2.2.2.2.2.2) LA.out.1 LA.out.2.1 LA.out.2.2).mono ?_); rintro e wr1 ⟨rfl, hbx⟩; have hb2 := bel_trans hH.2.2.2.2.2.2 hbx)
      | (go_at_call 16; have hH := ‹_ ∧ _ ∧ _ ∧ _ ∧ _ ∧ _ ∧ Below _ _ _›; (with_reducible refine (text_num A c q.n _ (RA.out.below hH.2.2.2.2.2.2) LA.out.1).mono ?_); rintro e wr2 ⟨rfl, hbx⟩; have hb2 := bel_trans hH.2.2.2.2.2.2 hbx)
      | (go_at_call 16; have hH := ‹_ ∧ _ ∧ _ ∧ _ ∧ _ ∧ _ ∧ Below _ _ _›; (with_reducible refine (text_num B d q.d _ (RB.out.below hH.2.2.2.2.2.2) LA.out.2.1).mono ?_); rintro e wr3 ⟨rfl, hbx⟩; have hb2 := bel_trans hH.2.2.2.2.2.2 hbx))
  have hH := ‹_ ∧ _ ∧ _ ∧ _ ∧ _ ∧ _ ∧ Below _ _ _›
  have hbl := hH.2.2.2.2.2.2
  replace RA := Lib.hid (RA.out.below hbl)
  replace RB := Lib.hid (RB.out.below hbl)
  replace CX := Lib.hid (CX.out.below hbl CX.out.lt)
  replace CF := Lib.hid (CF.out.below hbl CF.out.lt)
  replace HW := Lib.hid (bel_trans HW.out hbl); clear hbl
  clear CX0 CX1 CX2 CF0 CF1 CF2
  have CX0 : wr3.cell? ⟨w.heap.size, 0, none⟩ = some (.bool q.s) := CX.out.cell 0
  have CX1 : wr3.cell? ⟨w.heap.size, 1, none⟩ = some (.slice A (limbs q.n).length c) := CX.out.cell 1
  have CX2 : wr3.cell? ⟨w.heap.size, 2, none⟩ = some (.slice B (limbs q.d).length d) := CX.out.cell 2
  have CF0 : wr3.cell? ⟨w.heap.size + 1, 0, none⟩ = some (.bool q.s) := CF.out.cell 0
  have CF1 : wr3.cell? ⟨w.heap.size + 1, 1, none⟩ = some (.string (dec q.n)) := CF.out.cell 1
  have CF2 : wr3.cell? ⟨w.heap.size + 1, 2, none⟩ = some (.string (dec q.d)) := CF.out.cell 2
  go_wp2
  go_ret
  exact ⟨rfl, HW.out⟩

set_option maxRecDepth 100000 in
set_option maxHeartbeats 1000000 in
theorem fewQ_is (s : Bool) (A B : Option Addr) (c d : Nat) (xs ys xs' ys' : List Nat) (w : World) (hc : xs.length ≤ c) (hc' : ys.length ≤ d) (hx : few xs = xs') (hy : few ys = ys') :
    Calls Try.prog 20 #[.agg #[.bool s, .slice A xs.length c, .slice B ys.length d]] w (fun e w' => e = .returned (.agg #[.bool s, .slice A xs'.length c, .slice B ys'.length d]) ∧ Below w.heap.size w w') := by
  obtain ⟨n, hn⟩ : ∃ n, n = (few xs).length := ⟨_, rfl⟩
  obtain ⟨m, hm⟩ : ∃ m, m = (few ys).length := ⟨_, rfl⟩
  have hn2 := few_len xs
  rw [← hn] at hn2
  have hm2 := few_len ys
  rw [← hm] at hm2
  have hmin1 : ∀ W, (Builtin.min_ #[3, 3] 3 #[.int .i64 (xs.length : Int), .int .i64 18]).run Try.prog W = .ok (.int .i64 (n : Int)) W := fun W => by rw [run_min_int2, hn2]; congr 2; omega
  have hmin2 : ∀ W, (Builtin.min_ #[3, 3] 3 #[.int .i64 (ys.length : Int), .int .i64 18]).run Try.prog W = .ok (.int .i64 (m : Int)) W := fun W => by rw [run_min_int2, hm2]; congr 2; omega
  obtain ⟨i0, hi, hz0, hz1, hz2⟩ := info_parts info_u32
  have hcut1 := fun W => run_cut_to (P := Try.prog) 23 80 i0 (by kernel_rfl) hi A xs.length c n (by omega) W
  have hcut2 := fun W => run_cut_to (P := Try.prog) 23 80 i0 (by kernel_rfl) hi B ys.length d m (by omega) W
  rw [hx] at hn
  rw [hy] at hm
  have HN := Lib.hid (And.intro hn (And.intro hm (And.intro hn2 (And.intro hm2 (And.intro hi (And.intro hx hy)))))); clear hn hm hn2 hm2 hi hx hy
  obtain ⟨wa, hwa⟩ : ∃ wa, wa = (w.alloc (.cells #[.bool s, .slice A xs.length c, .slice B ys.length d] 25)).alloc (.cells #[.bool false, .slice none 0 0, .slice none 0 0] 25) := ⟨_, rfl⟩
  have hbl : Below w.heap.size w wa := by rw [hwa]; exact bel_alloc (bel_alloc (bel_refl _) _) _
  have CX : Blk wa (w.heap.size) 25 #[.bool s, .slice A xs.length c, .slice B ys.length d] := by
    have hz := Blk.new (w) 25 #[.bool s, .slice A xs.length c, .slice B ys.length d]
    rw [hwa]
    exact (hz.alloc _)
  have RES : Blk wa (w.heap.size + 1) 25 #[.bool false, .slice none 0 0, .slice none 0 0] := by
    have hz := Blk.new (w.alloc (.cells #[.bool s, .slice A xs.length c, .slice B ys.length d] 25)) 25 #[.bool false, .slice none 0 0, .slice none 0 0]
    rw [World.size_alloc] at hz
    rw [hwa]
    exact hz
  have HW := Lib.hid hbl; clear hbl
  replace CX := Lib.hid CX
  replace RES := Lib.hid RES
  go_enter Try.func20, Try.ntmps20
  go_wp2_with fail
  rw [← hwa]
  clear hwa
  refine wp_region_typed 17 (TOf [VIs (.pointer (some ⟨w.heap.size, 0, none⟩)),
      VIs (.bool s),
      VIs (.pointer (some ⟨w.heap.size, 1, none⟩)),
      VIs (.slice A xs.length c),
      VIs (.pointer (some ⟨w.heap.size, 1, none⟩)),
      VIs (.slice A xs.length c),
      VIs (.int .i64 (xs.length : Int)),
      VIs (.int .i64 (n : Int)),
      VIs (.slice A n c),
      VIs (.pointer (some ⟨w.heap.size, 2, none⟩)),
      VIs (.slice B ys.length d),
      VIs (.pointer (some ⟨w.heap.size, 2, none⟩)),
      VIs (.slice B ys.length d),
      VIs (.int .i64 (ys.length : Int)),
      VIs (.int .i64 (m : Int)),
      VIs (.slice B m d),
      VIs (.agg #[.bool s, .slice A n c, .slice B m d])]) (by kernel_rfl) (by kernel_rfl) (by kernel_rfl) (LiftAll.at_ (.cons (VIs.lift _) (.cons (VIs.lift _) (.cons (VIs.lift _) (.cons (VIs.lift _) (.cons (VIs.lift _) (.cons (VIs.lift _) (.cons (VIs.lift _) (.cons (VIs.lift _) (.cons (VIs.lift _) (.cons (VIs.lift _) (.cons (VIs.lift _) (.cons (VIs.lift _) (.cons (VIs.lift _) (.cons (VIs.lift _) (.cons (VIs.lift _) (.cons (VIs.lift _) (.cons (VIs.lift _) .nil)))))))))))))))))) (steps_all (steps_cons ?_ (steps_cons ?_ (steps_cons ?_ (steps_cons ?_ (steps_cons ?_ (steps_cons ?_ (steps_cons ?_ (steps_cons ?_ (steps_cons ?_ (steps_cons ?_ (steps_cons ?_ (steps_cons ?_ (steps_cons ?_ (steps_cons ?_ (steps_cons ?_ (steps_cons ?_ (steps_cons ?_ steps_zero)))))))))))))))))) ?fin
  · intro a0 w9 K9 hF hB hK hC
    have b1 := hF.base (k := 1) (v := .pointer (some ⟨w.heap.size, 0, none⟩)) (by kernel_rfl) rfl
    clear hF hB hK
    go_simp
    exact hC _ _ (bel_refl _) fun _ _ => rfl
  · intro a0 w9 K9 hF hB hK hC
    obtain ⟨v3, e3, z3⟩ := dep hK 0 (g := .data) (j := 0) (k := 3) rfl rfl rfl
    have z3 : v3 = .pointer (some ⟨w.heap.size, 0, none⟩) := z3
    subst z3
    have x9 : w9.cell? ⟨w.heap.size, 0, none⟩ = some (.bool s) := (CX.out.below hB CX.out.lt).cell 0
    clear hF hB hK
    go_simp
    exact hC _ _ (bel_refl _) fun _ _ => rfl
  · intro a0 w9 K9 hF hB hK hC
    have b1 := hF.base (k := 1) (v := .pointer (some ⟨w.heap.size, 0, none⟩)) (by kernel_rfl) rfl
    clear hF hB hK
    go_simp
    exact hC _ _ (bel_refl _) fun _ _ => rfl
  · intro a0 w9 K9 hF hB hK hC
    obtain ⟨v5, e5, z5⟩ := dep hK 0 (g := .data) (j := 2) (k := 5) rfl rfl rfl
    have z5 : v5 = .pointer (some ⟨w.heap.size, 1, none⟩) := z5
    subst z5
    have x9 : w9.cell? ⟨w.heap.size, 1, none⟩ = some (.slice A xs.length c) := (CX.out.below hB CX.out.lt).cell 1
    clear hF hB hK
    go_simp
    exact hC _ _ (bel_refl _) fun _ _ => rfl
  · intro a0 w9 K9 hF hB hK hC
    have b1 := hF.base (k := 1) (v := .pointer (some ⟨w.heap.size, 0, none⟩)) (by kernel_rfl) rfl
    clear hF hB hK
    go_simp
    exact hC _ _ (bel_refl _) fun _ _ => rfl
  · intro a0 w9 K9 hF hB hK hC
    obtain ⟨v7, e7, z7⟩ := dep hK 0 (g := .data) (j := 4) (k := 7) rfl rfl rfl
    have z7 : v7 = .pointer (some ⟨w.heap.size, 1, none⟩) := z7
    subst z7
    have x9 : w9.cell? ⟨w.heap.size, 1, none⟩ = some (.slice A xs.length c) := (CX.out.below hB CX.out.lt).cell 1
    clear hF hB hK
    go_simp
    exact hC _ _ (bel_refl _) fun _ _ => rfl
  · intro a0 w9 K9 hF hB hK hC
    obtain ⟨v8, e8, z8⟩ := dep hK 0 (g := .data) (j := 5) (k := 8) rfl rfl rfl
    have z8 : v8 = .slice A xs.length c := z8
    subst z8
    have HB9 := Lib.hid hB
    clear hF hB hK
    go_simp
    exact hC _ _ (bel_refl _) fun _ _ => rfl
  · intro a0 w9 K9 hF hB hK hC
    obtain ⟨v9, e9, z9⟩ := dep hK 0 (g := .data) (j := 6) (k := 9) rfl rfl rfl
    have z9 : v9 = .int .i64 (xs.length : Int) := z9
    subst z9
    have HB9 := Lib.hid hB
    clear hF hB hK
    go_simp
    exact hC _ _ (bel_refl _) fun _ _ => rfl
  · intro a0 w9 K9 hF hB hK hC
    obtain ⟨v6, e6, z6⟩ := dep hK 0 (g := .data) (j := 3) (k := 6) rfl rfl rfl
    have z6 : v6 = .slice A xs.length c := z6
    subst z6
    obtain ⟨v10, e10, z10⟩ := dep hK 1 (g := .data) (j := 7) (k := 10) rfl rfl rfl
    have z10 : v10 = .int .i64 (n : Int) := z10
    subst z10
    have HB9 := Lib.hid hB
    clear hF hB hK
    go_simp
    exact hC _ _ (bel_refl _) fun _ _ => rfl
  · intro a0 w9 K9 hF hB hK hC
    have b1 := hF.base (k := 1) (v := .pointer (some ⟨w.heap.size, 0, none⟩)) (by kernel_rfl) rfl
    clear hF hB hK
    go_simp
    exact hC _ _ (bel_refl _) fun _ _ => rfl
  · intro a0 w9 K9 hF hB hK hC
    obtain ⟨v12, e12, z12⟩ := dep hK 0 (g := .data) (j := 9) (k := 12) rfl rfl rfl
    have z12 : v12 = .pointer (some ⟨w.heap.size, 2, none⟩) := z12
    subst z12
    have x9 : w9.cell? ⟨w.heap.size, 2, none⟩ = some (.slice B ys.length d) := (CX.out.below hB CX.out.lt).cell 2
    clear hF hB hK
    go_simp
    exact hC _ _ (bel_refl _) fun _ _ => rfl
  · intro a0 w9 K9 hF hB hK hC
    have b1 := hF.base (k := 1) (v := .pointer (some ⟨w.heap.size, 0, none⟩)) (by kernel_rfl) rfl
    clear hF hB hK
    go_simp
    exact hC _ _ (bel_refl _) fun _ _ => rfl
  · intro a0 w9 K9 hF hB hK hC
    obtain ⟨v14, e14, z14⟩ := dep hK 0 (g := .data) (j := 11) (k := 14) rfl rfl rfl
    have z14 : v14 = .pointer (some ⟨w.heap.size, 2, none⟩) := z14
    subst z14
    have x9 : w9.cell? ⟨w.heap.size, 2, none⟩ = some (.slice B ys.length d) := (CX.out.below hB CX.out.lt).cell 2
    clear hF hB hK
    go_simp
    exact hC _ _ (bel_refl _) fun _ _ => rfl
  · intro a0 w9 K9 hF hB hK hC
    obtain ⟨v15, e15, z15⟩ := dep hK 0 (g := .data) (j := 12) (k := 15) rfl rfl rfl
    have z15 : v15 = .slice B ys.length d := z15
    subst z15
    have HB9 := Lib.hid hB
    clear hF hB hK
    go_simp
    exact hC _ _ (bel_refl _) fun _ _ => rfl
  · intro a0 w9 K9 hF hB hK hC
    obtain ⟨v16, e16, z16⟩ := dep hK 0 (g := .data) (j := 13) (k := 16) rfl rfl rfl
    have z16 : v16 = .int .i64 (ys.length : Int) := z16
    subst z16
    have HB9 := Lib.hid hB
    clear hF hB hK
    go_simp
    exact hC _ _ (bel_refl _) fun _ _ => rfl
  · intro a0 w9 K9 hF hB hK hC
    obtain ⟨v13, e13, z13⟩ := dep hK 0 (g := .data) (j := 10) (k := 13) rfl rfl rfl
    have z13 : v13 = .slice B ys.length d := z13
    subst z13
    obtain ⟨v17, e17, z17⟩ := dep hK 1 (g := .data) (j := 14) (k := 17) rfl rfl rfl
    have z17 : v17 = .int .i64 (m : Int) := z17
    subst z17
    have HB9 := Lib.hid hB
    clear hF hB hK
    go_simp
    exact hC _ _ (bel_refl _) fun _ _ => rfl
  · intro a0 w9 K9 hF hB hK hC
    obtain ⟨v4, e4, z4⟩ := dep hK 0 (g := .data) (j := 1) (k := 4) rfl rfl rfl
    have z4 : v4 = .bool s := z4
    subst z4
    obtain ⟨v11, e11, z11⟩ := dep hK 1 (g := .data) (j := 8) (k := 11) rfl rfl rfl
    have z11 : v11 = .slice A n c := z11
    subst z11
    obtain ⟨v18, e18, z18⟩ := dep hK 2 (g := .data) (j := 15) (k := 18) rfl rfl rfl
    have z18 : v18 = .slice B m d := z18
    subst z18
    have HB9 := Lib.hid hB
    clear hF hB hK
    go_simp
    exact hC _ _ (bel_refl _) fun _ _ => rfl
  case fin =>
    intro a0 w9 hF hB hK
    have b1 := hF.base (k := 1) (v := .pointer (some ⟨w.heap.size, 0, none⟩)) (by kernel_rfl) rfl
    have b2 := hF.base (k := 2) (v := .pointer (some ⟨w.heap.size + 1, 0, none⟩)) (by kernel_rfl) rfl
    have hsz := hF.size
    have hdf := hF.defers
    clear hF
    obtain ⟨v19, e19, z19⟩ := known hK 16 (k := 19) (by decide) rfl
    have z19 : v19 = .agg #[.bool s, .slice A n c, .slice B m d] := z19
    subst z19
    clear hK
    obtain ⟨⟨l0⟩, df⟩ := a0
    have hs0 : l0.length = 20 := hsz
    clear hsz
    replace hdf : df = _ := hdf
    subst hdf
    obtain ⟨u, rfl⟩ := lits_20 hs0
    clear hs0
    have q1 : u 1 = _ := Option.some.inj b1
    clear b1
    have q2 : u 2 = _ := Option.some.inj b2
    clear b2
    have q19 : u 19 = _ := Option.some.inj e19
    clear e19
    rw [q1, q2, q19]
    clear q1 q2 q19
    have hbl := hB; clear hB
    replace CX := Lib.hid (CX.out.below hbl CX.out.lt)
    replace RES := Lib.hid (RES.out.below hbl RES.out.lt)
    replace HW := Lib.hid (bel_trans HW.out hbl); clear hbl
    simp only [List.drop_succ_cons, List.drop_zero]
    have d0 : w9.cell? ⟨w.heap.size + 1, 0, none⟩ = some (.bool false) := RES.out.cell 0
    have f0 : w9.frozen? ⟨w.heap.size + 1, 0, none⟩ = false := RES.out.frozen 0
    have d1 : w9.cell? ⟨w.heap.size + 1, 1, none⟩ = some (.slice none 0 0) := RES.out.cell 1
    have f1 : w9.frozen? ⟨w.heap.size + 1, 1, none⟩ = false := RES.out.frozen 1
    have d2 : w9.cell? ⟨w.heap.size + 1, 2, none⟩ = some (.slice none 0 0) := RES.out.cell 2
    have f2 : w9.frozen? ⟨w.heap.size + 1, 2, none⟩ = false := RES.out.frozen 2
    have D := Lib.hid (And.intro (RES.out.put3 (.bool s) (.slice A n c) (.slice B m d)) (bel_set3 (g := w.heap.size + 1) HW.out (by omega) (.bool s) (.slice A n c) (.slice B m d)))
    go_wp2
    refine bodyPost_ret (v := .agg #[.bool s, .slice A n c, .slice B m d]) ?hr rfl ?hR
    case hR => exact ⟨by rw [HN.out.1, HN.out.2.1], D.out.2⟩
    case hr => exact results_cell_row rfl _ _ (w.heap.size + 1) 25 _ (0, 0) _ rfl D.out.1 Try.underlying25 rfl (by kernel_rfl)

set_option maxRecDepth 100000 in
set_option maxHeartbeats 1000000 in
theorem isQ_ok (q : Q) (A B : Option Addr) (c d : Nat) (w : World) (h : RdL w A (limbs q.n)) (h' : RdL w B (limbs q.d)) (hn : q.n < Top) (hd : q.d < Top) (hq : QR q) :
    Calls Try.prog 30 #[.agg #[.bool q.s, .slice A (limbs q.n).length c, .slice B (limbs q.d).length d], .int .i64 0, .agg #[.bool q.s, .string (dec q.n), .string (dec q.d), .bool false]] w (RetBB true w) := by
  have LA := Lib.hid (And.intro hn (And.intro hd hq)); clear hn hd hq
  have RA := Lib.hid h; clear h
  have RB := Lib.hid h'; clear h'
  obtain ⟨wa, hwa⟩ : ∃ wa, wa = (w.alloc (.cells #[.bool q.s, .slice A (limbs q.n).length c, .slice B (limbs q.d).length d] 25)).alloc (.cells #[.bool q.s, .string (dec q.n), .string (dec q.d), .bool false] 49) := ⟨_, rfl⟩
  have hbl : Below w.heap.size w wa := by rw [hwa]; exact bel_alloc (bel_alloc (bel_refl _) _) _
  have CX : Blk wa (w.heap.size) 25 #[.bool q.s, .slice A (limbs q.n).length c, .slice B (limbs q.d).length d] := by
    have hz := Blk.new (w) 25 #[.bool q.s, .slice A (limbs q.n).length c, .slice B (limbs q.d).length d]
    rw [hwa]
    exact (hz.alloc _)
  have CF : Blk wa (w.heap.size + 1) 49 #[.bool q.s, .string (dec q.n), .string (dec q.d), .bool false] := by
    have hz := Blk.new (w.alloc (.cells #[.bool q.s, .slice A (limbs q.n).length c, .slice B (limbs q.d).length d] 25)) 49 #[.bool q.s, .string (dec q.n), .string (dec q.d), .bool false]
    rw [World.size_alloc] at hz
    rw [hwa]
    exact hz
  replace RA := Lib.hid (RA.out.below hbl)
  replace RB := Lib.hid (RB.out.below hbl)
  have HW := Lib.hid hbl; clear hbl
  replace CX := Lib.hid CX
  replace CF := Lib.hid CF
  go_enter Try.func30, Try.ntmps30
  go_wp2_with fail
  rw [← hwa]
  clear hwa
  have CX0 : wa.cell? ⟨w.heap.size, 0, none⟩ = some (.bool q.s) := CX.out.cell 0
  have CX1 : wa.cell? ⟨w.heap.size, 1, none⟩ = some (.slice A (limbs q.n).length c) := CX.out.cell 1
  have CX2 : wa.cell? ⟨w.heap.size, 2, none⟩ = some (.slice B (limbs q.d).length d) := CX.out.cell 2
  have CF0 : wa.cell? ⟨w.heap.size + 1, 0, none⟩ = some (.bool q.s) := CF.out.cell 0
  have CF1 : wa.cell? ⟨w.heap.size + 1, 1, none⟩ = some (.string (dec q.n)) := CF.out.cell 1
  have CF2 : wa.cell? ⟨w.heap.size + 1, 2, none⟩ = some (.string (dec q.d)) := CF.out.cell 2
  have CF3 : wa.cell? ⟨w.heap.size + 1, 3, none⟩ = some (.bool false) := CF.out.cell 3
  refine (refIs_true q false A B c d _ RA.out RB.out LA.out.1 LA.out.2.1 LA.out.2.2).mono ?_
  rintro e w1 ⟨rfl, hbl⟩
  replace RA := Lib.hid (RA.out.below hbl)
  replace RB := Lib.hid (RB.out.below hbl)
  replace CX := Lib.hid (CX.out.below hbl CX.out.lt)
  replace CF := Lib.hid (CF.out.below hbl CF.out.lt)
  replace HW := Lib.hid (bel_trans HW.out hbl); clear hbl
  clear CX0 CX1 CX2 CF0 CF1 CF2 CF3
  have CX0 : w1.cell? ⟨w.heap.size, 0, none⟩ = some (.bool q.s) := CX.out.cell 0
  have CX1 : w1.cell? ⟨w.heap.size, 1, none⟩ = some (.slice A (limbs q.n).length c) := CX.out.cell 1
  have CX2 : w1.cell? ⟨w.heap.size, 2, none⟩ = some (.slice B (limbs q.d).length d) := CX.out.cell 2
  have CF0 : w1.cell? ⟨w.heap.size + 1, 0, none⟩ = some (.bool q.s) := CF.out.cell 0
  have CF1 : w1.cell? ⟨w.heap.size + 1, 1, none⟩ = some (.string (dec q.n)) := CF.out.cell 1
  have CF2 : w1.cell? ⟨w.heap.size + 1, 2, none⟩ = some (.string (dec q.d)) := CF.out.cell 2
  have CF3 : w1.cell? ⟨w.heap.size + 1, 3, none⟩ = some (.bool false) := CF.out.cell 3
  go_wp2
  go_ret
  exact ⟨rfl, HW.out⟩

theorem same_none (A B : Option Addr) (c d : Nat) (w : World) : Calls Try.prog 25 #[.agg #[.bool false, .slice A 0 c, .slice B 0 d], .agg #[.bool false, .slice none 0 0, .slice none 0 0]] w (RetBB true w) :=
  refSame_any false false A B none none c d 0 0 [] [] [] [] w RdL.nil RdL.nil (by simp) RdL.nil RdL.nil (by simp)
set_option maxRecDepth 100000 in
set_option maxHeartbeats 1000000 in
theorem isQ_bad (f : Q) (A B : Option Addr) (c d : Nat) (w : World) :
    Calls Try.prog 30 #[.agg #[.bool false, .slice A 0 c, .slice B 0 d], .int .i64 2, .agg #[.bool f.s, .string (dec f.n), .string (dec f.d), .bool true]] w (RetBB true w) := by
  obtain ⟨wa, hwa⟩ : ∃ wa, wa = (w.alloc (.cells #[.bool false, .slice A 0 c, .slice B 0 d] 25)).alloc (.cells #[.bool f.s, .string (dec f.n), .string (dec f.d), .bool true] 49) := ⟨_, rfl⟩
  have hbl : Below w.heap.size w wa := by rw [hwa]; exact bel_alloc (bel_alloc (bel_refl _) _) _
  have CX : Blk wa (w.heap.size) 25 #[.bool false, .slice A 0 c, .slice B 0 d] := by
    have hz := Blk.new (w) 25 #[.bool false, .slice A 0 c, .slice B 0 d]
    rw [hwa]
    exact (hz.alloc _)
  have CF : Blk wa (w.heap.size + 1) 49 #[.bool f.s, .string (dec f.n), .string (dec f.d), .bool true] := by
    have hz := Blk.new (w.alloc (.cells #[.bool false, .slice A 0 c, .slice B 0 d] 25)) 49 #[.bool f.s, .string (dec f.n), .string (dec f.d), .bool true]
    rw [World.size_alloc] at hz
    rw [hwa]
    exact hz
  have HW := Lib.hid hbl; clear hbl
  replace CX := Lib.hid CX
  replace CF := Lib.hid CF
  go_enter Try.func30, Try.ntmps30
  go_wp2_with fail
  rw [← hwa]
  clear hwa
  have CX0 : wa.cell? ⟨w.heap.size, 0, none⟩ = some (.bool false) := CX.out.cell 0
  have CX1 : wa.cell? ⟨w.heap.size, 1, none⟩ = some (.slice A 0 c) := CX.out.cell 1
  have CX2 : wa.cell? ⟨w.heap.size, 2, none⟩ = some (.slice B 0 d) := CX.out.cell 2
  have CF0 : wa.cell? ⟨w.heap.size + 1, 0, none⟩ = some (.bool f.s) := CF.out.cell 0
  have CF1 : wa.cell? ⟨w.heap.size + 1, 1, none⟩ = some (.string (dec f.n)) := CF.out.cell 1
  have CF2 : wa.cell? ⟨w.heap.size + 1, 2, none⟩ = some (.string (dec f.d)) := CF.out.cell 2
  have CF3 : wa.cell? ⟨w.heap.size + 1, 3, none⟩ = some (.bool true) := CF.out.cell 3
  refine (same_none A B c d _).mono ?_
  rintro e w1 ⟨rfl, hbl⟩
  replace CX := Lib.hid (CX.out.below hbl CX.out.lt)
  replace CF := Lib.hid (CF.out.below hbl CF.out.lt)
  replace HW := Lib.hid (bel_trans HW.out hbl); clear hbl
  clear CX0 CX1 CX2 CF0 CF1 CF2 CF3
  have CX0 : w1.cell? ⟨w.heap.size, 0, none⟩ = some (.bool false) := CX.out.cell 0
  have CX1 : w1.cell? ⟨w.heap.size, 1, none⟩ = some (.slice A 0 c) := CX.out.cell 1
  have CX2 : w1.cell? ⟨w.heap.size, 2, none⟩ = some (.slice B 0 d) := CX.out.cell 2
  have CF0 : w1.cell? ⟨w.heap.size + 1, 0, none⟩ = some (.bool f.s) := CF.out.cell 0
  have CF1 : w1.cell? ⟨w.heap.size + 1, 1, none⟩ = some (.string (dec f.n)) := CF.out.cell 1
  have CF2 : w1.cell? ⟨w.heap.size + 1, 2, none⟩ = some (.string (dec f.d)) := CF.out.cell 2
  have CF3 : w1.cell? ⟨w.heap.size + 1, 3, none⟩ = some (.bool true) := CF.out.cell 3
  go_wp2
  go_ret
  exact ⟨rfl, HW.out⟩
end
section
open Go.RowKit

theorem rd_one {w : World} {g : Nat} {t : TypeId} {k : Nat} (hB : Blk w g t #[.int .u32 (k : Int)]) (hk : limbs k = [k]) : RdL w (some ⟨g, 0, none⟩) (limbs k) := by
  rw [hk]
  intro _
  refine ⟨g, 0, rfl, hB.lt, fun j hj => ?_⟩
  have h0 : j = 0 := by simpa using hj
  subst h0
  exact hB.cell 0
theorem make_lit {q : Q} (k m : Nat) (A B : Option Addr) (w : World) (hk : limbs k = [k]) (hm : limbs m = [m]) (h : RdL w A (limbs k)) (h' : RdL w B (limbs m)) (hn : k < Top) (hd : m < Top) (hd0 : m ≠ 0) (hq : redQ false k m = q) :
    Calls Try.prog 21 #[.bool false, .slice A 1 1, .slice B 1 1] w (RetQE q 0 w) := by
  have := make_ok (q := q) false A B 1 1 k m w h h' (by rw [hk]; simp) (by rw [hm]; simp) hn hd hd0 hq
  rwa [hk, hm] at this
theorem half_text : qText false 1 2 = ⟨#[49, 47, 50]⟩ := by decide +kernel
theorem limbs_1 : limbs 1 = [1] := by decide +kernel
theorem limbs_2 : limbs 2 = [2] := by decide +kernel
theorem add_q {q : Q} {e : Int} (l : Bool) (A B A' B' : Option Addr) (c d c' d' : Nat) (a b : Q) (w : World) (h1 : RdL w A (limbs a.n)) (h2 : RdL w B (limbs a.d)) (h3 : RdL w A' (limbs b.n)) (h4 : RdL w B' (limbs b.d)) (k1 : (limbs a.n).length ≤ c) (k2 : (limbs a.d).length ≤ d) (k3 : (limbs b.n).length ≤ c') (k4 : (limbs b.d).length ≤ d') (t1 : a.n < Top) (t2 : a.d < Top) (t3 : b.n < Top) (t4 : b.d < Top) (ra : QR a) (rb : QR b)
    (hov : ¬ (a.n * b.d < Top ∧ b.n * a.d < Top ∧ a.d * b.d < Top ∧ a.n * b.d + b.n * a.d < Top) → q = noQ ∧ e = 2) (hok : a.n * b.d < Top → b.n * a.d < Top → a.d * b.d < Top → a.n * b.d + b.n * a.d < Top → sumQ a.s (b.s != l) (a.n * b.d) (b.n * a.d) (a.d * b.d) = q ∧ e = 0) :
    ∀ w1, Below w.heap.size w w1 → Calls Try.prog 63 #[.agg #[.bool a.s, .slice A (limbs a.n).length c, .slice B (limbs a.d).length d], .agg #[.bool b.s, .slice A' (limbs b.n).length c', .slice B' (limbs b.d).length d'], .bool l] w1 (RetQE q e w1) := fun w1 hb =>
  add_walk l A B A' B' c d c' d' a b w1 (h1.below hb) (h2.below hb) (h3.below hb) (h4.below hb) k1 k2 k3 k4 t1 t2 t3 t4 ra rb hov hok
set_option maxRecDepth 100000 in
set_option maxHeartbeats 1000000 in
theorem aliveQ (w : World) : Calls Try.prog 26 #[] w (RetBB true w) := by
  obtain ⟨wa, hwa⟩ : ∃ wa, wa = (w.alloc (.cells #[.int .u32 1] 80)).alloc (.cells #[.int .u32 6] 80) := ⟨_, rfl⟩
  have hbl : Below w.heap.size w wa := by rw [hwa]; exact bel_alloc (bel_alloc (bel_refl _) _) _
  have N1 : Blk wa (w.heap.size) 80 #[.int .u32 1] := by
    have hz := Blk.new (w) 80 #[.int .u32 1]
    rw [hwa]
    exact (hz.alloc _)
  have N2 : Blk wa (w.heap.size + 1) 80 #[.int .u32 6] := by
    have hz := Blk.new (w.alloc (.cells #[.int .u32 1] 80)) 80 #[.int .u32 6]
    rw [World.size_alloc] at hz
    rw [hwa]
    exact hz
  have HW := Lib.hid hbl; clear hbl
  replace N1 := Lib.hid N1
  replace N2 := Lib.hid N2
  go_enter Try.func26, Try.ntmps26
  go_wp2_with fail
  rw [← hwa]
  clear hwa
  refine (make_lit (q := ⟨false, 1, 6⟩) 1 6 _ _ _ limbs_1 limbs_6 (rd_one N1.out limbs_1) (rd_one N2.out limbs_6) (small_top (by decide)) (small_top (by decide)) (by decide) (by decide)).mono ?_
  rintro e w1 ⟨va, vb, rfl, hna, hnb, hbl⟩
  replace N1 := Lib.hid (N1.out.below hbl N1.out.lt)
  replace N2 := Lib.hid (N2.out.below hbl N2.out.lt)
  replace HW := Lib.hid (bel_trans HW.out hbl); clear hbl
  have HNa := Lib.hid hna; clear hna
  obtain ⟨Aa, ca, rfl, hca, hra⟩ := HNa.out.row
  have Ra := Lib.hid hra; have HCa := Lib.hid hca; clear hra hca
  have HNb := Lib.hid hnb; clear hnb
  obtain ⟨Ab, cb, rfl, hcb, hrb⟩ := HNb.out.row
  have Rb := Lib.hid hrb; have HCb := Lib.hid hcb; clear hrb hcb
  go_wp2_with fail
  obtain ⟨wb, hwb⟩ : ∃ wb, wb = ((w1.alloc (.cells #[.bool false, .slice Aa (limbs 1).length ca, .slice Ab (limbs 6).length cb] 25)).alloc (.cells #[.int .u32 2] 80)).alloc (.cells #[.int .u32 6] 80) := ⟨_, rfl⟩
  rw [← hwb]
  have hbl : Below w1.heap.size w1 wb := by rw [hwb]; exact bel_alloc (bel_alloc (bel_alloc (bel_refl _) _) _) _
  have VA : Blk wb (w1.heap.size) 25 #[.bool false, .slice Aa (limbs 1).length ca, .slice Ab (limbs 6).length cb] := by
    have hz := Blk.new (w1) 25 #[.bool false, .slice Aa (limbs 1).length ca, .slice Ab (limbs 6).length cb]
    rw [hwb]
    exact ((hz.alloc _).alloc _)
  have N3 : Blk wb (w1.heap.size + 1) 80 #[.int .u32 2] := by
    have hz := Blk.new (w1.alloc (.cells #[.bool false, .slice Aa (limbs 1).length ca, .slice Ab (limbs 6).length cb] 25)) 80 #[.int .u32 2]
    rw [World.size_alloc] at hz
    rw [hwb]
    exact (hz.alloc _)
  have N4 : Blk wb (w1.heap.size + 2) 80 #[.int .u32 6] := by
    have hz := Blk.new ((w1.alloc (.cells #[.bool false, .slice Aa (limbs 1).length ca, .slice Ab (limbs 6).length cb] 25)).alloc (.cells #[.int .u32 2] 80)) 80 #[.int .u32 6]
    rw [World.size_alloc, World.size_alloc] at hz
    rw [hwb]
    exact hz
  clear hwb
  replace Ra := Lib.hid (Ra.out.below hbl)
  replace HNa := Lib.hid (HNa.out.below hbl)
  replace Rb := Lib.hid (Rb.out.below hbl)
  replace HNb := Lib.hid (HNb.out.below hbl)
  replace N1 := Lib.hid (N1.out.below hbl N1.out.lt)
  replace N2 := Lib.hid (N2.out.below hbl N2.out.lt)
  replace HW := Lib.hid (bel_trans HW.out hbl); clear hbl
  replace VA := Lib.hid VA
  replace N3 := Lib.hid N3
  replace N4 := Lib.hid N4
  have VA0 : wb.cell? ⟨w1.heap.size, 0, none⟩ = some (.bool false) := VA.out.cell 0
  have VA1 : wb.cell? ⟨w1.heap.size, 1, none⟩ = some (.slice Aa (limbs 1).length ca) := VA.out.cell 1
  have VA2 : wb.cell? ⟨w1.heap.size, 2, none⟩ = some (.slice Ab (limbs 6).length cb) := VA.out.cell 2
  refine (make_lit (q := ⟨false, 1, 3⟩) 2 6 _ _ _ limbs_2 limbs_6 (rd_one N3.out limbs_2) (rd_one N4.out limbs_6) (small_top (by decide)) (small_top (by decide)) (by decide) (by decide)).mono ?_
  rintro e w2 ⟨vc, vd, rfl, hnc, hnd, hbl⟩
  replace Ra := Lib.hid (Ra.out.below hbl)
  replace HNa := Lib.hid (HNa.out.below hbl)
  replace Rb := Lib.hid (Rb.out.below hbl)
  replace HNb := Lib.hid (HNb.out.below hbl)
  replace N1 := Lib.hid (N1.out.below hbl N1.out.lt)
  replace N2 := Lib.hid (N2.out.below hbl N2.out.lt)
  replace VA := Lib.hid (VA.out.below hbl VA.out.lt)
  replace N3 := Lib.hid (N3.out.below hbl N3.out.lt)
  replace N4 := Lib.hid (N4.out.below hbl N4.out.lt)
  replace HW := Lib.hid (bel_trans HW.out hbl); clear hbl
  clear VA0 VA1 VA2
  have VA0 : w2.cell? ⟨w1.heap.size, 0, none⟩ = some (.bool false) := VA.out.cell 0
  have VA1 : w2.cell? ⟨w1.heap.size, 1, none⟩ = some (.slice Aa (limbs 1).length ca) := VA.out.cell 1
  have VA2 : w2.cell? ⟨w1.heap.size, 2, none⟩ = some (.slice Ab (limbs 6).length cb) := VA.out.cell 2
  have HNc := Lib.hid hnc; clear hnc
  obtain ⟨Ac, cc, rfl, hcc, hrc⟩ := HNc.out.row
  have Rc := Lib.hid hrc; have HCc := Lib.hid hcc; clear hrc hcc
  have HNd := Lib.hid hnd; clear hnd
  obtain ⟨Ad, cd, rfl, hcd, hrd⟩ := HNd.out.row
  have Rd := Lib.hid hrd; have HCd := Lib.hid hcd; clear hrd hcd
  go_upto_region 3 with fail
  obtain ⟨wc, hwc⟩ : ∃ wc, wc = w2.alloc (.cells #[.bool false, .slice Ac (limbs 1).length cc, .slice Ad (limbs 3).length cd] 25) := ⟨_, rfl⟩
  rw [← hwc]
  have hbl : Below w2.heap.size w2 wc := by rw [hwc]; exact bel_alloc (bel_refl _) _
  have VB : Blk wc (w2.heap.size) 25 #[.bool false, .slice Ac (limbs 1).length cc, .slice Ad (limbs 3).length cd] := by
    have hz := Blk.new (w2) 25 #[.bool false, .slice Ac (limbs 1).length cc, .slice Ad (limbs 3).length cd]
    rw [hwc]
    exact hz
  clear hwc
  replace Ra := Lib.hid (Ra.out.below hbl)
  replace HNa := Lib.hid (HNa.out.below hbl)
  replace Rb := Lib.hid (Rb.out.below hbl)
  replace HNb := Lib.hid (HNb.out.below hbl)
  replace Rc := Lib.hid (Rc.out.below hbl)
  replace HNc := Lib.hid (HNc.out.below hbl)
  replace Rd := Lib.hid (Rd.out.below hbl)
  replace HNd := Lib.hid (HNd.out.below hbl)
  replace N1 := Lib.hid (N1.out.below hbl N1.out.lt)
  replace N2 := Lib.hid (N2.out.below hbl N2.out.lt)
  replace VA := Lib.hid (VA.out.below hbl VA.out.lt)
  replace N3 := Lib.hid (N3.out.below hbl N3.out.lt)
  replace N4 := Lib.hid (N4.out.below hbl N4.out.lt)
  replace HW := Lib.hid (bel_trans HW.out hbl); clear hbl
  replace VB := Lib.hid VB
  clear VA0 VA1 VA2
  have VA0 : wc.cell? ⟨w1.heap.size, 0, none⟩ = some (.bool false) := VA.out.cell 0
  have VA1 : wc.cell? ⟨w1.heap.size, 1, none⟩ = some (.slice Aa (limbs 1).length ca) := VA.out.cell 1
  have VA2 : wc.cell? ⟨w1.heap.size, 2, none⟩ = some (.slice Ab (limbs 6).length cb) := VA.out.cell 2
  have VB0 : wc.cell? ⟨w2.heap.size, 0, none⟩ = some (.bool false) := VB.out.cell 0
  have VB1 : wc.cell? ⟨w2.heap.size, 1, none⟩ = some (.slice Ac (limbs 1).length cc) := VB.out.cell 1
  have VB2 : wc.cell? ⟨w2.heap.size, 2, none⟩ = some (.slice Ad (limbs 3).length cd) := VB.out.cell 2
  go_wp2_with fail
  refine (add_of false false Aa Ab Ac Ad _ _ _ _ ca cb cc cd _ (add_q (q := ⟨false, 1, 2⟩) (e := 0) false Aa Ab Ac Ad ca cb cc cd ⟨false, 1, 6⟩ ⟨false, 1, 3⟩ _ Ra.out Rb.out Rc.out Rd.out HCa.out HCb.out HCc.out HCd.out (small_top (by decide)) (small_top (by decide)) (small_top (by decide)) (small_top (by decide)) ⟨by decide, by decide, by decide⟩ ⟨by decide, by decide, by decide⟩ (fun h => absurd (And.intro (small_top (n := 1 * 3) (by decide)) (And.intro (small_top (n := 1 * 6) (by decide)) (And.intro (small_top (n := 6 * 3) (by decide)) (small_top (n := 1 * 3 + 1 * 6) (by decide))))) h) (fun _ _ _ _ => ⟨by decide, rfl⟩))).mono ?_
  rintro e w3 ⟨ve, vf, rfl, hne, hnf, hbl⟩
  replace Ra := Lib.hid (Ra.out.below hbl)
  replace HNa := Lib.hid (HNa.out.below hbl)
  replace Rb := Lib.hid (Rb.out.below hbl)
  replace HNb := Lib.hid (HNb.out.below hbl)
  replace Rc := Lib.hid (Rc.out.below hbl)
  replace HNc := Lib.hid (HNc.out.below hbl)
  replace Rd := Lib.hid (Rd.out.below hbl)
  replace HNd := Lib.hid (HNd.out.below hbl)
  replace N1 := Lib.hid (N1.out.below hbl N1.out.lt)
  replace N2 := Lib.hid (N2.out.below hbl N2.out.lt)
  replace VA := Lib.hid (VA.out.below hbl VA.out.lt)
  replace N3 := Lib.hid (N3.out.below hbl N3.out.lt)
  replace N4 := Lib.hid (N4.out.below hbl N4.out.lt)
  replace VB := Lib.hid (VB.out.below hbl VB.out.lt)
  replace HW := Lib.hid (bel_trans HW.out hbl); clear hbl
  clear VA0 VA1 VA2 VB0 VB1 VB2
  have VA0 : w3.cell? ⟨w1.heap.size, 0, none⟩ = some (.bool false) := VA.out.cell 0
  have VA1 : w3.cell? ⟨w1.heap.size, 1, none⟩ = some (.slice Aa (limbs 1).length ca) := VA.out.cell 1
  have VA2 : w3.cell? ⟨w1.heap.size, 2, none⟩ = some (.slice Ab (limbs 6).length cb) := VA.out.cell 2
  have VB0 : w3.cell? ⟨w2.heap.size, 0, none⟩ = some (.bool false) := VB.out.cell 0
  have VB1 : w3.cell? ⟨w2.heap.size, 1, none⟩ = some (.slice Ac (limbs 1).length cc) := VB.out.cell 1
  have VB2 : w3.cell? ⟨w2.heap.size, 2, none⟩ = some (.slice Ad (limbs 3).length cd) := VB.out.cell 2
  have HNe := Lib.hid hne; clear hne
  obtain ⟨Ae, ce, rfl, hce, hre⟩ := HNe.out.row
  have Re := Lib.hid hre; have HCe := Lib.hid hce; clear hre hce
  have HNf := Lib.hid hnf; clear hnf
  obtain ⟨Af, cf, rfl, hcf, hrf⟩ := HNf.out.row
  have Rf := Lib.hid hrf; have HCf := Lib.hid hcf; clear hrf hcf
  go_upto_region 4 with fail
  obtain ⟨wd, hwd⟩ : ∃ wd, wd = w3.alloc (.cells #[.bool false, .slice Ae (limbs 1).length ce, .slice Af (limbs 2).length cf] 25) := ⟨_, rfl⟩
  rw [← hwd]
  have hbl : Below w3.heap.size w3 wd := by rw [hwd]; exact bel_alloc (bel_refl _) _
  have VC : Blk wd (w3.heap.size) 25 #[.bool false, .slice Ae (limbs 1).length ce, .slice Af (limbs 2).length cf] := by
    have hz := Blk.new (w3) 25 #[.bool false, .slice Ae (limbs 1).length ce, .slice Af (limbs 2).length cf]
    rw [hwd]
    exact hz
  clear hwd
  replace Ra := Lib.hid (Ra.out.below hbl)
  replace HNa := Lib.hid (HNa.out.below hbl)
  replace Rb := Lib.hid (Rb.out.below hbl)
  replace HNb := Lib.hid (HNb.out.below hbl)
  replace Rc := Lib.hid (Rc.out.below hbl)
  replace HNc := Lib.hid (HNc.out.below hbl)
  replace Rd := Lib.hid (Rd.out.below hbl)
  replace HNd := Lib.hid (HNd.out.below hbl)
  replace Re := Lib.hid (Re.out.below hbl)
  replace HNe := Lib.hid (HNe.out.below hbl)
  replace Rf := Lib.hid (Rf.out.below hbl)
  replace HNf := Lib.hid (HNf.out.below hbl)
  replace N1 := Lib.hid (N1.out.below hbl N1.out.lt)
  replace N2 := Lib.hid (N2.out.below hbl N2.out.lt)
  replace VA := Lib.hid (VA.out.below hbl VA.out.lt)
  replace N3 := Lib.hid (N3.out.below hbl N3.out.lt)
  replace N4 := Lib.hid (N4.out.below hbl N4.out.lt)
  replace VB := Lib.hid (VB.out.below hbl VB.out.lt)
  replace HW := Lib.hid (bel_trans HW.out hbl); clear hbl
  replace VC := Lib.hid VC
  clear VA0 VA1 VA2 VB0 VB1 VB2
  have VA0 : wd.cell? ⟨w1.heap.size, 0, none⟩ = some (.bool false) := VA.out.cell 0
  have VA1 : wd.cell? ⟨w1.heap.size, 1, none⟩ = some (.slice Aa (limbs 1).length ca) := VA.out.cell 1
  have VA2 : wd.cell? ⟨w1.heap.size, 2, none⟩ = some (.slice Ab (limbs 6).length cb) := VA.out.cell 2
  have VB0 : wd.cell? ⟨w2.heap.size, 0, none⟩ = some (.bool false) := VB.out.cell 0
  have VB1 : wd.cell? ⟨w2.heap.size, 1, none⟩ = some (.slice Ac (limbs 1).length cc) := VB.out.cell 1
  have VB2 : wd.cell? ⟨w2.heap.size, 2, none⟩ = some (.slice Ad (limbs 3).length cd) := VB.out.cell 2
  have VC0 : wd.cell? ⟨w3.heap.size, 0, none⟩ = some (.bool false) := VC.out.cell 0
  have VC1 : wd.cell? ⟨w3.heap.size, 1, none⟩ = some (.slice Ae (limbs 1).length ce) := VC.out.cell 1
  have VC2 : wd.cell? ⟨w3.heap.size, 2, none⟩ = some (.slice Af (limbs 2).length cf) := VC.out.cell 2
  go_wp2_with fail
  refine (rtext_q ⟨false, 1, 2⟩ Ae Af ce cf _ Re.out Rf.out HCe.out HCf.out (small_top (by decide)) (small_top (by decide)) ⟨by decide, by decide, by decide⟩).mono ?_
  rintro e w4 ⟨rfl, hbl⟩
  replace Ra := Lib.hid (Ra.out.below hbl)
  replace HNa := Lib.hid (HNa.out.below hbl)
  replace Rb := Lib.hid (Rb.out.below hbl)
  replace HNb := Lib.hid (HNb.out.below hbl)
  replace Rc := Lib.hid (Rc.out.below hbl)
  replace HNc := Lib.hid (HNc.out.below hbl)
  replace Rd := Lib.hid (Rd.out.below hbl)
  replace HNd := Lib.hid (HNd.out.below hbl)
  replace Re := Lib.hid (Re.out.below hbl)
  replace HNe := Lib.hid (HNe.out.below hbl)
  replace Rf := Lib.hid (Rf.out.below hbl)
  replace HNf := Lib.hid (HNf.out.below hbl)
  replace N1 := Lib.hid (N1.out.below hbl N1.out.lt)
  replace N2 := Lib.hid (N2.out.below hbl N2.out.lt)
  replace VA := Lib.hid (VA.out.below hbl VA.out.lt)
  replace N3 := Lib.hid (N3.out.below hbl N3.out.lt)
  replace N4 := Lib.hid (N4.out.below hbl N4.out.lt)
  replace VB := Lib.hid (VB.out.below hbl VB.out.lt)
  replace VC := Lib.hid (VC.out.below hbl VC.out.lt)
  replace HW := Lib.hid (bel_trans HW.out hbl); clear hbl
  clear VA0 VA1 VA2 VB0 VB1 VB2 VC0 VC1 VC2
  have VA0 : w4.cell? ⟨w1.heap.size, 0, none⟩ = some (.bool false) := VA.out.cell 0
  have VA1 : w4.cell? ⟨w1.heap.size, 1, none⟩ = some (.slice Aa (limbs 1).length ca) := VA.out.cell 1
  have VA2 : w4.cell? ⟨w1.heap.size, 2, none⟩ = some (.slice Ab (limbs 6).length cb) := VA.out.cell 2
  have VB0 : w4.cell? ⟨w2.heap.size, 0, none⟩ = some (.bool false) := VB.out.cell 0
  have VB1 : w4.cell? ⟨w2.heap.size, 1, none⟩ = some (.slice Ac (limbs 1).length cc) := VB.out.cell 1
  have VB2 : w4.cell? ⟨w2.heap.size, 2, none⟩ = some (.slice Ad (limbs 3).length cd) := VB.out.cell 2
  have VC0 : w4.cell? ⟨w3.heap.size, 0, none⟩ = some (.bool false) := VC.out.cell 0
  have VC1 : w4.cell? ⟨w3.heap.size, 1, none⟩ = some (.slice Ae (limbs 1).length ce) := VC.out.cell 1
  have VC2 : w4.cell? ⟨w3.heap.size, 2, none⟩ = some (.slice Af (limbs 2).length cf) := VC.out.cell 2
  rw [half_text]
  go_wp2
  go_ret
  exact ⟨rfl, HW.out⟩
end
section
open Go.RowKit

theorem few_short (xs : List Nat) : (few xs).length ≤ xs.length := by rw [few_len]; omega
theorem like_self (s : Bool) (xs ys : List Nat) : likeB s s xs ys xs ys = true := by simp [likeB]
theorem like_ok {b : Bool} (s s' : Bool) (A B A' B' : Option Addr) (c d c' d' : Nat) (xs ys xs' ys' : List Nat) (w : World) (h1 : RdL w A xs) (h2 : RdL w A' xs') (hl1 : xs.length ≤ 18) (h3 : RdL w B ys) (h4 : RdL w B' ys') (hl3 : ys.length ≤ 18) (hb : likeB s s' xs ys xs' ys' = b) :
    Calls Try.prog 24 #[.agg #[.bool s, .slice A xs.length c, .slice B ys.length d], .agg #[.bool s', .slice A' xs'.length c', .slice B' ys'.length d']] w (RetBB b w) := by
  rw [← hb]
  exact like_any s s' A B A' B' c d c' d' xs ys xs' ys' w h1 h2 hl1 h3 h4 hl3
theorem refSame_ok {b : Bool} (s s' : Bool) (A B A' B' : Option Addr) (c d c' d' : Nat) (xs ys xs' ys' : List Nat) (w : World) (h1 : RdL w A xs) (h2 : RdL w A' xs') (hl1 : xs.length ≤ 18) (h3 : RdL w B ys) (h4 : RdL w B' ys') (hl3 : ys.length ≤ 18) (hb : likeB s s' xs ys xs' ys' = b) :
    Calls Try.prog 25 #[.agg #[.bool s, .slice A xs.length c, .slice B ys.length d], .agg #[.bool s', .slice A' xs'.length c', .slice B' ys'.length d']] w (RetBB b w) := by
  rw [← hb]
  exact refSame_any s s' A B A' B' c d c' d' xs ys xs' ys' w h1 h2 hl1 h3 h4 hl3
theorem ratRight_is {b : Bool} (s : Bool) (A B : Option Addr) (c d : Nat) (xs ys : List Nat) (w : World) (h : RdL w A xs) (h' : RdL w B ys) (hx : Lim xs) (hy : Lim ys) (hl : xs.length ≤ 18) (hl' : ys.length ≤ 18) (hc : xs.length ≤ c) (hc' : ys.length ≤ d) (hb : rightB s xs ys = b) :
    Calls Try.prog 23 #[.agg #[.bool s, .slice A xs.length c, .slice B ys.length d]] w (RetBB b w) := by
  rw [← hb]
  exact ratRight_any s A B c d xs ys w h h' hx hy hl hl' hc hc'
theorem refRatRight_is {b : Bool} (s : Bool) (A B : Option Addr) (c d : Nat) (xs ys : List Nat) (w : World) (h : RdL w A xs) (h' : RdL w B ys) (hx : Lim xs) (hy : Lim ys) (hl : xs.length ≤ 18) (hl' : ys.length ≤ 18) (hb : rightB s xs ys = b) :
    Calls Try.prog 13 #[.agg #[.bool s, .slice A xs.length c, .slice B ys.length d]] w (RetBB b w) := by
  rw [← hb]
  exact refRatRight_any s A B c d xs ys w h h' hx hy hl hl'
theorem redQ_fit {s : Bool} {n d : Nat} {q : Q} (hn : n < Top) (hd : d < Top) (hd0 : d ≠ 0) (h : redQ s n d = q) : q.n < Top ∧ q.d < Top ∧ QR q := by
  have h1 := redQ_top s hn hd (small_top (by decide))
  have h2 := redQ_right s n d hd0
  rw [h] at h1 h2
  exact ⟨h1.1, h1.2, h2⟩
theorem refRed_fit {q : Q} (s : Bool) (n d : Nat) (w : World) (hn : n < Top) (hd : d < Top) (hq : redQ s n d = q) :
    Calls Try.prog 31 #[.agg #[.bool s, .string (dec n), .string (dec d), .bool false]] w (RetFr q false w) :=
  refRed_q s n d false w (by have := decL_top hn; omega) (by have := decL_top hd; omega) hq (by unfold overB; rw [decide_eq_false (by omega), decide_eq_false (by omega)]; rfl)
end
end Go.Proofs.Ytmbbdjpnecjleaa
