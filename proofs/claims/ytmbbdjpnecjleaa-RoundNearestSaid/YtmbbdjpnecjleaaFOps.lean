/-
  The reference's Mul, Quo, Add, walked.
-/
import Derived.Test.YtmbbdjpnecjleaaFRed
namespace Go.Proofs.Ytmbbdjpnecjleaa
open Go.RowKit

theorem decL_mul (a b : Nat) : (decL (a * b)).length ≤ (decL a).length + (decL b).length := by
  refine decL_len_le ?_ (by have := decL_len_pos a; omega)
  have h1 := decL_bound a
  have h2 := decL_bound b
  rw [Nat.pow_add]
  by_cases h : b = 0
  · rw [h, Nat.mul_zero]; exact Nat.mul_pos (Nat.pow_pos (by decide)) (Nat.pow_pos (by decide))
  · exact Nat.lt_of_lt_of_le (Nat.mul_lt_mul_of_pos_right h1 (Nat.pos_of_ne_zero h)) (Nat.mul_le_mul_left _ (Nat.le_of_lt h2))
theorem decL_add {a b k : Nat} (h1 : (decL a).length ≤ k) (h2 : (decL b).length ≤ k) (hk : 0 < k) : (decL (a + b)).length ≤ k + 1 := by
  refine decL_len_le ?_ (by omega)
  have h3 := decL_bound a
  have h4 := decL_bound b
  have h5 : 10 ^ (decL a).length ≤ 10 ^ k := Nat.pow_le_pow_right (by decide) h1
  have h6 : 10 ^ (decL b).length ≤ 10 ^ k := Nat.pow_le_pow_right (by decide) h2
  rw [Nat.pow_succ]
  omega
set_option maxRecDepth 100000 in
set_option maxHeartbeats 1000000 in
theorem ref_mul {q : Q} {k : Bool} (a b : Q) (w : World) (l1 : (decL a.n).length ≤ 160) (l2 : (decL a.d).length ≤ 160) (l3 : (decL b.n).length ≤ 160) (l4 : (decL b.d).length ≤ 160) (hq : redQ (a.s != b.s) (a.n * b.n) (a.d * b.d) = q) (hb : overB false (a.n * b.n) (a.d * b.d) = k) :
    Calls Try.prog 38 #[.agg #[.bool a.s, .string (dec a.n), .string (dec a.d), .bool false], .agg #[.bool b.s, .string (dec b.n), .string (dec b.d), .bool false]] w (RetFr q k w) := by
  have L := Lib.hid (And.intro l1 (And.intro l2 (And.intro l3 l4))); clear l1 l2 l3 l4
  have HQ := Lib.hid (And.intro hq hb); clear hq hb
  obtain ⟨wa, hwa⟩ : ∃ wa, wa = ((w.alloc (.cells #[.bool a.s, .string (dec a.n), .string (dec a.d), .bool false] 49)).alloc (.cells #[.bool b.s, .string (dec b.n), .string (dec b.d), .bool false] 49)).alloc (.cells #[.bool false, .string ⟨#[]⟩, .string ⟨#[]⟩, .bool false] 49) := ⟨_, rfl⟩
  have hbl : Below w.heap.size w wa := by rw [hwa]; exact bel_alloc (bel_alloc (bel_alloc (bel_refl _) _) _) _
  have CX : Blk wa (w.heap.size) 49 #[.bool a.s, .string (dec a.n), .string (dec a.d), .bool false] := by
    have hz := Blk.new (w) 49 #[.bool a.s, .string (dec a.n), .string (dec a.d), .bool false]
    rw [hwa]
    exact ((hz.alloc _).alloc _)
  have CY : Blk wa (w.heap.size + 1) 49 #[.bool b.s, .string (dec b.n), .string (dec b.d), .bool false] := by
    have hz := Blk.new (w.alloc (.cells #[.bool a.s, .string (dec a.n), .string (dec a.d), .bool false] 49)) 49 #[.bool b.s, .string (dec b.n), .string (dec b.d), .bool false]
    rw [World.size_alloc] at hz
    rw [hwa]
    exact (hz.alloc _)
  have RES : Blk wa (w.heap.size + 2) 49 #[.bool false, .string ⟨#[]⟩, .string ⟨#[]⟩, .bool false] := by
    have hz := Blk.new ((w.alloc (.cells #[.bool a.s, .string (dec a.n), .string (dec a.d), .bool false] 49)).alloc (.cells #[.bool b.s, .string (dec b.n), .string (dec b.d), .bool false] 49)) 49 #[.bool false, .string ⟨#[]⟩, .string ⟨#[]⟩, .bool false]
    rw [World.size_alloc, World.size_alloc] at hz
    rw [hwa]
    exact hz
  have HW := Lib.hid hbl; clear hbl
  replace CX := Lib.hid CX
  replace CY := Lib.hid CY
  replace RES := Lib.hid RES
  go_enter Try.func38, Try.ntmps38
  go_wp2_with fail
  rw [← hwa]
  clear hwa
  refine wp_region_typed 17 (TOf [VIs (.pointer (some ⟨w.heap.size, 0, none⟩)),
      VIs (.bool a.s),
      VIs (.pointer (some ⟨w.heap.size + 1, 0, none⟩)),
      VIs (.bool b.s),
      VIs (.bool (a.s != b.s)),
      VIs (.pointer (some ⟨w.heap.size, 1, none⟩)),
      VIs (.string (dec a.n)),
      VIs (.pointer (some ⟨w.heap.size + 1, 1, none⟩)),
      VIs (.string (dec b.n)),
      VIs (.string (dec (a.n * b.n))),
      VIs (.pointer (some ⟨w.heap.size, 2, none⟩)),
      VIs (.string (dec a.d)),
      VIs (.pointer (some ⟨w.heap.size + 1, 2, none⟩)),
      VIs (.string (dec b.d)),
      VIs (.string (dec (a.d * b.d))),
      VIs (.agg #[.bool (a.s != b.s), .string (dec (a.n * b.n)), .string (dec (a.d * b.d)), .bool false]),
      VIs (.agg #[.bool q.s, .string (dec q.n), .string (dec q.d), .bool k])]) (by kernel_rfl) (by kernel_rfl) (by kernel_rfl) (LiftAll.at_ (.cons (VIs.lift _) (.cons (VIs.lift _) (.cons (VIs.lift _) (.cons (VIs.lift _) (.cons (VIs.lift _) (.cons (VIs.lift _) (.cons (VIs.lift _) (.cons (VIs.lift _) (.cons (VIs.lift _) (.cons (VIs.lift _) (.cons (VIs.lift _) (.cons (VIs.lift _) (.cons (VIs.lift _) (.cons (VIs.lift _) (.cons (VIs.lift _) (.cons (VIs.lift _) (.cons (VIs.lift _) .nil)))))))))))))))))) (steps_all (steps_cons ?_ (steps_cons ?_ (steps_cons ?_ (steps_cons ?_ (steps_cons ?_ (steps_cons ?_ (steps_cons ?_ (steps_cons ?_ (steps_cons ?_ (steps_cons ?_ (steps_cons ?_ (steps_cons ?_ (steps_cons ?_ (steps_cons ?_ (steps_cons ?_ (steps_cons ?_ (steps_cons ?_ steps_zero)))))))))))))))))) ?fin
  · intro a0 w9 K9 hF hB hK hC
    have b2 := hF.base (k := 2) (v := .pointer (some ⟨w.heap.size, 0, none⟩)) (by kernel_rfl) rfl
    clear hF hB hK
    go_simp
    exact hC _ _ (bel_refl _) fun _ _ => rfl
  · intro a0 w9 K9 hF hB hK hC
    obtain ⟨v5, e5, z5⟩ := dep hK 0 (g := .data) (j := 0) (k := 5) rfl rfl rfl
    have z5 : v5 = .pointer (some ⟨w.heap.size, 0, none⟩) := z5
    subst z5
    have x9 : w9.cell? ⟨w.heap.size, 0, none⟩ = some (.bool a.s) := (CX.out.below hB CX.out.lt).cell 0
    clear hF hB hK
    go_simp
    exact hC _ _ (bel_refl _) fun _ _ => rfl
  · intro a0 w9 K9 hF hB hK hC
    have b3 := hF.base (k := 3) (v := .pointer (some ⟨w.heap.size + 1, 0, none⟩)) (by kernel_rfl) rfl
    clear hF hB hK
    go_simp
    exact hC _ _ (bel_refl _) fun _ _ => rfl
  · intro a0 w9 K9 hF hB hK hC
    obtain ⟨v7, e7, z7⟩ := dep hK 0 (g := .data) (j := 2) (k := 7) rfl rfl rfl
    have z7 : v7 = .pointer (some ⟨w.heap.size + 1, 0, none⟩) := z7
    subst z7
    have x9 : w9.cell? ⟨w.heap.size + 1, 0, none⟩ = some (.bool b.s) := (CY.out.below hB CY.out.lt).cell 0
    clear hF hB hK
    go_simp
    exact hC _ _ (bel_refl _) fun _ _ => rfl
  · intro a0 w9 K9 hF hB hK hC
    obtain ⟨v6, e6, z6⟩ := dep hK 0 (g := .data) (j := 1) (k := 6) rfl rfl rfl
    have z6 : v6 = .bool a.s := z6
    subst z6
    obtain ⟨v8, e8, z8⟩ := dep hK 1 (g := .data) (j := 3) (k := 8) rfl rfl rfl
    have z8 : v8 = .bool b.s := z8
    subst z8
    have HB9 := Lib.hid hB
    clear hF hB hK
    go_simp
    exact hC _ _ (bel_refl _) fun _ _ => rfl
  · intro a0 w9 K9 hF hB hK hC
    have b2 := hF.base (k := 2) (v := .pointer (some ⟨w.heap.size, 0, none⟩)) (by kernel_rfl) rfl
    clear hF hB hK
    go_simp
    exact hC _ _ (bel_refl _) fun _ _ => rfl
  · intro a0 w9 K9 hF hB hK hC
    obtain ⟨v10, e10, z10⟩ := dep hK 0 (g := .data) (j := 5) (k := 10) rfl rfl rfl
    have z10 : v10 = .pointer (some ⟨w.heap.size, 1, none⟩) := z10
    subst z10
    have x9 : w9.cell? ⟨w.heap.size, 1, none⟩ = some (.string (dec a.n)) := (CX.out.below hB CX.out.lt).cell 1
    clear hF hB hK
    go_simp
    exact hC _ _ (bel_refl _) fun _ _ => rfl
  · intro a0 w9 K9 hF hB hK hC
    have b3 := hF.base (k := 3) (v := .pointer (some ⟨w.heap.size + 1, 0, none⟩)) (by kernel_rfl) rfl
    clear hF hB hK
    go_simp
    exact hC _ _ (bel_refl _) fun _ _ => rfl
  · intro a0 w9 K9 hF hB hK hC
    obtain ⟨v12, e12, z12⟩ := dep hK 0 (g := .data) (j := 7) (k := 12) rfl rfl rfl
    have z12 : v12 = .pointer (some ⟨w.heap.size + 1, 1, none⟩) := z12
    subst z12
    have x9 : w9.cell? ⟨w.heap.size + 1, 1, none⟩ = some (.string (dec b.n)) := (CY.out.below hB CY.out.lt).cell 1
    clear hF hB hK
    go_simp
    exact hC _ _ (bel_refl _) fun _ _ => rfl
  · intro a0 w9 K9 hF hB hK hC
    obtain ⟨v11, e11, z11⟩ := dep hK 0 (g := .data) (j := 6) (k := 11) rfl rfl rfl
    have z11 : v11 = .string (dec a.n) := z11
    subst z11
    obtain ⟨v13, e13, z13⟩ := dep hK 1 (g := .data) (j := 8) (k := 13) rfl rfl rfl
    have z13 : v13 = .string (dec b.n) := z13
    subst z13
    have HB9 := Lib.hid hB
    clear hF hB hK
    go_simp
    refine (refMul_any a.n b.n _ (by have := L.out.1; omega) (by have := L.out.2.2.1; omega)).mono ?_
    rintro e w7 ⟨rfl, hbl⟩
    exact hC _ _ hbl fun _ _ => rfl
  · intro a0 w9 K9 hF hB hK hC
    have b2 := hF.base (k := 2) (v := .pointer (some ⟨w.heap.size, 0, none⟩)) (by kernel_rfl) rfl
    clear hF hB hK
    go_simp
    exact hC _ _ (bel_refl _) fun _ _ => rfl
  · intro a0 w9 K9 hF hB hK hC
    obtain ⟨v15, e15, z15⟩ := dep hK 0 (g := .data) (j := 10) (k := 15) rfl rfl rfl
    have z15 : v15 = .pointer (some ⟨w.heap.size, 2, none⟩) := z15
    subst z15
    have x9 : w9.cell? ⟨w.heap.size, 2, none⟩ = some (.string (dec a.d)) := (CX.out.below hB CX.out.lt).cell 2
    clear hF hB hK
    go_simp
    exact hC _ _ (bel_refl _) fun _ _ => rfl
  · intro a0 w9 K9 hF hB hK hC
    have b3 := hF.base (k := 3) (v := .pointer (some ⟨w.heap.size + 1, 0, none⟩)) (by kernel_rfl) rfl
    clear hF hB hK
    go_simp
    exact hC _ _ (bel_refl _) fun _ _ => rfl
  · intro a0 w9 K9 hF hB hK hC
    obtain ⟨v17, e17, z17⟩ := dep hK 0 (g := .data) (j := 12) (k := 17) rfl rfl rfl
    have z17 : v17 = .pointer (some ⟨w.heap.size + 1, 2, none⟩) := z17
    subst z17
    have x9 : w9.cell? ⟨w.heap.size + 1, 2, none⟩ = some (.string (dec b.d)) := (CY.out.below hB CY.out.lt).cell 2
    clear hF hB hK
    go_simp
    exact hC _ _ (bel_refl _) fun _ _ => rfl
  · intro a0 w9 K9 hF hB hK hC
    obtain ⟨v16, e16, z16⟩ := dep hK 0 (g := .data) (j := 11) (k := 16) rfl rfl rfl
    have z16 : v16 = .string (dec a.d) := z16
    subst z16
    obtain ⟨v18, e18, z18⟩ := dep hK 1 (g := .data) (j := 13) (k := 18) rfl rfl rfl
    have z18 : v18 = .string (dec b.d) := z18
    subst z18
    have HB9 := Lib.hid hB
    clear hF hB hK
    go_simp
    refine (refMul_any a.d b.d _ (by have := L.out.2.1; omega) (by have := L.out.2.2.2; omega)).mono ?_
    rintro e w7 ⟨rfl, hbl⟩
    exact hC _ _ hbl fun _ _ => rfl
  · intro a0 w9 K9 hF hB hK hC
    obtain ⟨v9, e9, z9⟩ := dep hK 0 (g := .data) (j := 4) (k := 9) rfl rfl rfl
    have z9 : v9 = .bool (a.s != b.s) := z9
    subst z9
    obtain ⟨v14, e14, z14⟩ := dep hK 1 (g := .data) (j := 9) (k := 14) rfl rfl rfl
    have z14 : v14 = .string (dec (a.n * b.n)) := z14
    subst z14
    obtain ⟨v19, e19, z19⟩ := dep hK 2 (g := .data) (j := 14) (k := 19) rfl rfl rfl
    have z19 : v19 = .string (dec (a.d * b.d)) := z19
    subst z19
    have HB9 := Lib.hid hB
    clear hF hB hK
    go_simp
    exact hC _ _ (bel_refl _) fun _ _ => rfl
  · intro a0 w9 K9 hF hB hK hC
    obtain ⟨v20, e20, z20⟩ := dep hK 0 (g := .data) (j := 15) (k := 20) rfl rfl rfl
    have z20 : v20 = .agg #[.bool (a.s != b.s), .string (dec (a.n * b.n)), .string (dec (a.d * b.d)), .bool false] := z20
    subst z20
    have HB9 := Lib.hid hB
    clear hF hB hK
    go_simp
    refine (refRed_q (a.s != b.s) (a.n * b.n) (a.d * b.d) false _ (by have h := decL_mul a.n b.n; have := L.out.1; have := L.out.2.2.1; omega) (by have h := decL_mul a.d b.d; have := L.out.2.1; have := L.out.2.2.2; omega) HQ.out.1 HQ.out.2).mono ?_
    rintro e w7 ⟨rfl, hbl⟩
    exact hC _ _ hbl fun _ _ => rfl
  case fin =>
    intro a0 w9 hF hB hK
    have b2 := hF.base (k := 2) (v := .pointer (some ⟨w.heap.size, 0, none⟩)) (by kernel_rfl) rfl
    have b3 := hF.base (k := 3) (v := .pointer (some ⟨w.heap.size + 1, 0, none⟩)) (by kernel_rfl) rfl
    have b4 := hF.base (k := 4) (v := .pointer (some ⟨w.heap.size + 2, 0, none⟩)) (by kernel_rfl) rfl
    have hsz := hF.size
    have hdf := hF.defers
    clear hF
    obtain ⟨v21, e21, z21⟩ := known hK 16 (k := 21) (by decide) rfl
    have z21 : v21 = .agg #[.bool q.s, .string (dec q.n), .string (dec q.d), .bool k] := z21
    subst z21
    clear hK
    obtain ⟨⟨l0⟩, df⟩ := a0
    have hs0 : l0.length = 22 := hsz
    clear hsz
    replace hdf : df = _ := hdf
    subst hdf
    obtain ⟨u, rfl⟩ := lits_22 hs0
    clear hs0
    have q2 : u 2 = _ := Option.some.inj b2
    clear b2
    have q3 : u 3 = _ := Option.some.inj b3
    clear b3
    have q4 : u 4 = _ := Option.some.inj b4
    clear b4
    have q21 : u 21 = _ := Option.some.inj e21
    clear e21
    rw [q2, q3, q4, q21]
    clear q2 q3 q4 q21
    have hbl := hB; clear hB
    replace CX := Lib.hid (CX.out.below hbl CX.out.lt)
    replace CY := Lib.hid (CY.out.below hbl CY.out.lt)
    replace RES := Lib.hid (RES.out.below hbl RES.out.lt)
    replace HW := Lib.hid (bel_trans HW.out hbl); clear hbl
    simp only [List.drop_succ_cons, List.drop_zero]
    have d0 : w9.cell? ⟨w.heap.size + 2, 0, none⟩ = some (.bool false) := RES.out.cell 0
    have f0 : w9.frozen? ⟨w.heap.size + 2, 0, none⟩ = false := RES.out.frozen 0
    have d1 : w9.cell? ⟨w.heap.size + 2, 1, none⟩ = some (.string ⟨#[]⟩) := RES.out.cell 1
    have f1 : w9.frozen? ⟨w.heap.size + 2, 1, none⟩ = false := RES.out.frozen 1
    have d2 : w9.cell? ⟨w.heap.size + 2, 2, none⟩ = some (.string ⟨#[]⟩) := RES.out.cell 2
    have f2 : w9.frozen? ⟨w.heap.size + 2, 2, none⟩ = false := RES.out.frozen 2
    have d3 : w9.cell? ⟨w.heap.size + 2, 3, none⟩ = some (.bool false) := RES.out.cell 3
    have f3 : w9.frozen? ⟨w.heap.size + 2, 3, none⟩ = false := RES.out.frozen 3
    have D := Lib.hid (And.intro (RES.out.put4 (.bool q.s) (.string (dec q.n)) (.string (dec q.d)) (.bool k)) (bel_set4 (g := w.heap.size + 2) HW.out (by omega) (.bool q.s) (.string (dec q.n)) (.string (dec q.d)) (.bool k)))
    go_wp2
    refine bodyPost_ret (v := .agg #[.bool q.s, .string (dec q.n), .string (dec q.d), .bool k]) ?hr rfl ?hR
    case hR => exact ⟨rfl, D.out.2⟩
    case hr => exact results_cell_row rfl _ _ (w.heap.size + 2) 49 _ (0, 0) _ rfl D.out.1 Try.underlying49 rfl (by kernel_rfl)

set_option maxRecDepth 100000 in
set_option maxHeartbeats 1000000 in
theorem ref_quo {q : Q} {k : Bool} (a b : Q) (w : World) (l1 : (decL a.n).length ≤ 160) (l2 : (decL a.d).length ≤ 160) (l3 : (decL b.n).length ≤ 160) (l4 : (decL b.d).length ≤ 160) (hq : redQ (a.s != b.s) (a.n * b.d) (a.d * b.n) = q) (hb : overB false (a.n * b.d) (a.d * b.n) = k) :
    Calls Try.prog 39 #[.agg #[.bool a.s, .string (dec a.n), .string (dec a.d), .bool false], .agg #[.bool b.s, .string (dec b.n), .string (dec b.d), .bool false]] w (RetFr q k w) := by
  have L := Lib.hid (And.intro l1 (And.intro l2 (And.intro l3 l4))); clear l1 l2 l3 l4
  have HQ := Lib.hid (And.intro hq hb); clear hq hb
  obtain ⟨wa, hwa⟩ : ∃ wa, wa = ((w.alloc (.cells #[.bool a.s, .string (dec a.n), .string (dec a.d), .bool false] 49)).alloc (.cells #[.bool b.s, .string (dec b.n), .string (dec b.d), .bool false] 49)).alloc (.cells #[.bool false, .string ⟨#[]⟩, .string ⟨#[]⟩, .bool false] 49) := ⟨_, rfl⟩
  have hbl : Below w.heap.size w wa := by rw [hwa]; exact bel_alloc (bel_alloc (bel_alloc (bel_refl _) _) _) _
  have CX : Blk wa (w.heap.size) 49 #[.bool a.s, .string (dec a.n), .string (dec a.d), .bool false] := by
    have hz := Blk.new (w) 49 #[.bool a.s, .string (dec a.n), .string (dec a.d), .bool false]
    rw [hwa]
    exact ((hz.alloc _).alloc _)
  have CY : Blk wa (w.heap.size + 1) 49 #[.bool b.s, .string (dec b.n), .string (dec b.d), .bool false] := by
    have hz := Blk.new (w.alloc (.cells #[.bool a.s, .string (dec a.n), .string (dec a.d), .bool false] 49)) 49 #[.bool b.s, .string (dec b.n), .string (dec b.d), .bool false]
    rw [World.size_alloc] at hz
    rw [hwa]
    exact (hz.alloc _)
  have RES : Blk wa (w.heap.size + 2) 49 #[.bool false, .string ⟨#[]⟩, .string ⟨#[]⟩, .bool false] := by
    have hz := Blk.new ((w.alloc (.cells #[.bool a.s, .string (dec a.n), .string (dec a.d), .bool false] 49)).alloc (.cells #[.bool b.s, .string (dec b.n), .string (dec b.d), .bool false] 49)) 49 #[.bool false, .string ⟨#[]⟩, .string ⟨#[]⟩, .bool false]
    rw [World.size_alloc, World.size_alloc] at hz
    rw [hwa]
    exact hz
  have HW := Lib.hid hbl; clear hbl
  replace CX := Lib.hid CX
  replace CY := Lib.hid CY
  replace RES := Lib.hid RES
  go_enter Try.func39, Try.ntmps39
  go_wp2_with fail
  rw [← hwa]
  clear hwa
  refine wp_region_typed 17 (TOf [VIs (.pointer (some ⟨w.heap.size, 0, none⟩)),
      VIs (.bool a.s),
      VIs (.pointer (some ⟨w.heap.size + 1, 0, none⟩)),
      VIs (.bool b.s),
      VIs (.bool (a.s != b.s)),
      VIs (.pointer (some ⟨w.heap.size, 1, none⟩)),
      VIs (.string (dec a.n)),
      VIs (.pointer (some ⟨w.heap.size + 1, 2, none⟩)),
      VIs (.string (dec b.d)),
      VIs (.string (dec (a.n * b.d))),
      VIs (.pointer (some ⟨w.heap.size, 2, none⟩)),
      VIs (.string (dec a.d)),
      VIs (.pointer (some ⟨w.heap.size + 1, 1, none⟩)),
      VIs (.string (dec b.n)),
      VIs (.string (dec (a.d * b.n))),
      VIs (.agg #[.bool (a.s != b.s), .string (dec (a.n * b.d)), .string (dec (a.d * b.n)), .bool false]),
      VIs (.agg #[.bool q.s, .string (dec q.n), .string (dec q.d), .bool k])]) (by kernel_rfl) (by kernel_rfl) (by kernel_rfl) (LiftAll.at_ (.cons (VIs.lift _) (.cons (VIs.lift _) (.cons (VIs.lift _) (.cons (VIs.lift _) (.cons (VIs.lift _) (.cons (VIs.lift _) (.cons (VIs.lift _) (.cons (VIs.lift _) (.cons (VIs.lift _) (.cons (VIs.lift _) (.cons (VIs.lift _) (.cons (VIs.lift _) (.cons (VIs.lift _) (.cons (VIs.lift _) (.cons (VIs.lift _) (.cons (VIs.lift _) (.cons (VIs.lift _) .nil)))))))))))))))))) (steps_all (steps_cons ?_ (steps_cons ?_ (steps_cons ?_ (steps_cons ?_ (steps_cons ?_ (steps_cons ?_ (steps_cons ?_ (steps_cons ?_ (steps_cons ?_ (steps_cons ?_ (steps_cons ?_ (steps_cons ?_ (steps_cons ?_ (steps_cons ?_ (steps_cons ?_ (steps_cons ?_ (steps_cons ?_ steps_zero)))))))))))))))))) ?fin
  · intro a0 w9 K9 hF hB hK hC
    have b2 := hF.base (k := 2) (v := .pointer (some ⟨w.heap.size, 0, none⟩)) (by kernel_rfl) rfl
    clear hF hB hK
    go_simp
    exact hC _ _ (bel_refl _) fun _ _ => rfl
  · intro a0 w9 K9 hF hB hK hC
    obtain ⟨v5, e5, z5⟩ := dep hK 0 (g := .data) (j := 0) (k := 5) rfl rfl rfl
    have z5 : v5 = .pointer (some ⟨w.heap.size, 0, none⟩) := z5
    subst z5
    have x9 : w9.cell? ⟨w.heap.size, 0, none⟩ = some (.bool a.s) := (CX.out.below hB CX.out.lt).cell 0
    clear hF hB hK
    go_simp
    exact hC _ _ (bel_refl _) fun _ _ => rfl
  · intro a0 w9 K9 hF hB hK hC
    have b3 := hF.base (k := 3) (v := .pointer (some ⟨w.heap.size + 1, 0, none⟩)) (by kernel_rfl) rfl
    clear hF hB hK
    go_simp
    exact hC _ _ (bel_refl _) fun _ _ => rfl
  · intro a0 w9 K9 hF hB hK hC
    obtain ⟨v7, e7, z7⟩ := dep hK 0 (g := .data) (j := 2) (k := 7) rfl rfl rfl
    have z7 : v7 = .pointer (some ⟨w.heap.size + 1, 0, none⟩) := z7
    subst z7
    have x9 : w9.cell? ⟨w.heap.size + 1, 0, none⟩ = some (.bool b.s) := (CY.out.below hB CY.out.lt).cell 0
    clear hF hB hK
    go_simp
    exact hC _ _ (bel_refl _) fun _ _ => rfl
  · intro a0 w9 K9 hF hB hK hC
    obtain ⟨v6, e6, z6⟩ := dep hK 0 (g := .data) (j := 1) (k := 6) rfl rfl rfl
    have z6 : v6 = .bool a.s := z6
    subst z6
    obtain ⟨v8, e8, z8⟩ := dep hK 1 (g := .data) (j := 3) (k := 8) rfl rfl rfl
    have z8 : v8 = .bool b.s := z8
    subst z8
    have HB9 := Lib.hid hB
    clear hF hB hK
    go_simp
    exact hC _ _ (bel_refl _) fun _ _ => rfl
  · intro a0 w9 K9 hF hB hK hC
    have b2 := hF.base (k := 2) (v := .pointer (some ⟨w.heap.size, 0, none⟩)) (by kernel_rfl) rfl
    clear hF hB hK
    go_simp
    exact hC _ _ (bel_refl _) fun _ _ => rfl
  · intro a0 w9 K9 hF hB hK hC
    obtain ⟨v10, e10, z10⟩ := dep hK 0 (g := .data) (j := 5) (k := 10) rfl rfl rfl
    have z10 : v10 = .pointer (some ⟨w.heap.size, 1, none⟩) := z10
    subst z10
    have x9 : w9.cell? ⟨w.heap.size, 1, none⟩ = some (.string (dec a.n)) := (CX.out.below hB CX.out.lt).cell 1
    clear hF hB hK
    go_simp
    exact hC _ _ (bel_refl _) fun _ _ => rfl
  · intro a0 w9 K9 hF hB hK hC
    have b3 := hF.base (k := 3) (v := .pointer (some ⟨w.heap.size + 1, 0, none⟩)) (by kernel_rfl) rfl
    clear hF hB hK
    go_simp
    exact hC _ _ (bel_refl _) fun _ _ => rfl
  · intro a0 w9 K9 hF hB hK hC
    obtain ⟨v12, e12, z12⟩ := dep hK 0 (g := .data) (j := 7) (k := 12) rfl rfl rfl
    have z12 : v12 = .pointer (some ⟨w.heap.size + 1, 2, none⟩) := z12
    subst z12
    have x9 : w9.cell? ⟨w.heap.size + 1, 2, none⟩ = some (.string (dec b.d)) := (CY.out.below hB CY.out.lt).cell 2
    clear hF hB hK
    go_simp
    exact hC _ _ (bel_refl _) fun _ _ => rfl
  · intro a0 w9 K9 hF hB hK hC
    obtain ⟨v11, e11, z11⟩ := dep hK 0 (g := .data) (j := 6) (k := 11) rfl rfl rfl
    have z11 : v11 = .string (dec a.n) := z11
    subst z11
    obtain ⟨v13, e13, z13⟩ := dep hK 1 (g := .data) (j := 8) (k := 13) rfl rfl rfl
    have z13 : v13 = .string (dec b.d) := z13
    subst z13
    have HB9 := Lib.hid hB
    clear hF hB hK
    go_simp
    refine (refMul_any a.n b.d _ (by have := L.out.1; omega) (by have := L.out.2.2.2; omega)).mono ?_
    rintro e w7 ⟨rfl, hbl⟩
    exact hC _ _ hbl fun _ _ => rfl
  · intro a0 w9 K9 hF hB hK hC
    have b2 := hF.base (k := 2) (v := .pointer (some ⟨w.heap.size, 0, none⟩)) (by kernel_rfl) rfl
    clear hF hB hK
    go_simp
    exact hC _ _ (bel_refl _) fun _ _ => rfl
  · intro a0 w9 K9 hF hB hK hC
    obtain ⟨v15, e15, z15⟩ := dep hK 0 (g := .data) (j := 10) (k := 15) rfl rfl rfl
    have z15 : v15 = .pointer (some ⟨w.heap.size, 2, none⟩) := z15
    subst z15
    have x9 : w9.cell? ⟨w.heap.size, 2, none⟩ = some (.string (dec a.d)) := (CX.out.below hB CX.out.lt).cell 2
    clear hF hB hK
    go_simp
    exact hC _ _ (bel_refl _) fun _ _ => rfl
  · intro a0 w9 K9 hF hB hK hC
    have b3 := hF.base (k := 3) (v := .pointer (some ⟨w.heap.size + 1, 0, none⟩)) (by kernel_rfl) rfl
    clear hF hB hK
    go_simp
    exact hC _ _ (bel_refl _) fun _ _ => rfl
  · intro a0 w9 K9 hF hB hK hC
    obtain ⟨v17, e17, z17⟩ := dep hK 0 (g := .data) (j := 12) (k := 17) rfl rfl rfl
    have z17 : v17 = .pointer (some ⟨w.heap.size + 1, 1, none⟩) := z17
    subst z17
    have x9 : w9.cell? ⟨w.heap.size + 1, 1, none⟩ = some (.string (dec b.n)) := (CY.out.below hB CY.out.lt).cell 1
    clear hF hB hK
    go_simp
    exact hC _ _ (bel_refl _) fun _ _ => rfl
  · intro a0 w9 K9 hF hB hK hC
    obtain ⟨v16, e16, z16⟩ := dep hK 0 (g := .data) (j := 11) (k := 16) rfl rfl rfl
    have z16 : v16 = .string (dec a.d) := z16
    subst z16
    obtain ⟨v18, e18, z18⟩ := dep hK 1 (g := .data) (j := 13) (k := 18) rfl rfl rfl
    have z18 : v18 = .string (dec b.n) := z18
    subst z18
    have HB9 := Lib.hid hB
    clear hF hB hK
    go_simp
    refine (refMul_any a.d b.n _ (by have := L.out.2.1; omega) (by have := L.out.2.2.1; omega)).mono ?_
    rintro e w7 ⟨rfl, hbl⟩
    exact hC _ _ hbl fun _ _ => rfl
  · intro a0 w9 K9 hF hB hK hC
    obtain ⟨v9, e9, z9⟩ := dep hK 0 (g := .data) (j := 4) (k := 9) rfl rfl rfl
    have z9 : v9 = .bool (a.s != b.s) := z9
    subst z9
    obtain ⟨v14, e14, z14⟩ := dep hK 1 (g := .data) (j := 9) (k := 14) rfl rfl rfl
    have z14 : v14 = .string (dec (a.n * b.d)) := z14
    subst z14
    obtain ⟨v19, e19, z19⟩ := dep hK 2 (g := .data) (j := 14) (k := 19) rfl rfl rfl
    have z19 : v19 = .string (dec (a.d * b.n)) := z19
    subst z19
    have HB9 := Lib.hid hB
    clear hF hB hK
    go_simp
    exact hC _ _ (bel_refl _) fun _ _ => rfl
  · intro a0 w9 K9 hF hB hK hC
    obtain ⟨v20, e20, z20⟩ := dep hK 0 (g := .data) (j := 15) (k := 20) rfl rfl rfl
    have z20 : v20 = .agg #[.bool (a.s != b.s), .string (dec (a.n * b.d)), .string (dec (a.d * b.n)), .bool false] := z20
    subst z20
    have HB9 := Lib.hid hB
    clear hF hB hK
    go_simp
    refine (refRed_q (a.s != b.s) (a.n * b.d) (a.d * b.n) false _ (by have h := decL_mul a.n b.d; have := L.out.1; have := L.out.2.2.2; omega) (by have h := decL_mul a.d b.n; have := L.out.2.1; have := L.out.2.2.1; omega) HQ.out.1 HQ.out.2).mono ?_
    rintro e w7 ⟨rfl, hbl⟩
    exact hC _ _ hbl fun _ _ => rfl
  case fin =>
    intro a0 w9 hF hB hK
    have b2 := hF.base (k := 2) (v := .pointer (some ⟨w.heap.size, 0, none⟩)) (by kernel_rfl) rfl
    have b3 := hF.base (k := 3) (v := .pointer (some ⟨w.heap.size + 1, 0, none⟩)) (by kernel_rfl) rfl
    have b4 := hF.base (k := 4) (v := .pointer (some ⟨w.heap.size + 2, 0, none⟩)) (by kernel_rfl) rfl
    have hsz := hF.size
    have hdf := hF.defers
    clear hF
    obtain ⟨v21, e21, z21⟩ := known hK 16 (k := 21) (by decide) rfl
    have z21 : v21 = .agg #[.bool q.s, .string (dec q.n), .string (dec q.d), .bool k] := z21
    subst z21
    clear hK
    obtain ⟨⟨l0⟩, df⟩ := a0
    have hs0 : l0.length = 22 := hsz
    clear hsz
    replace hdf : df = _ := hdf
    subst hdf
    obtain ⟨u, rfl⟩ := lits_22 hs0
    clear hs0
    have q2 : u 2 = _ := Option.some.inj b2
    clear b2
    have q3 : u 3 = _ := Option.some.inj b3
    clear b3
    have q4 : u 4 = _ := Option.some.inj b4
    clear b4
    have q21 : u 21 = _ := Option.some.inj e21
    clear e21
    rw [q2, q3, q4, q21]
    clear q2 q3 q4 q21
    have hbl := hB; clear hB
    replace CX := Lib.hid (CX.out.below hbl CX.out.lt)
    replace CY := Lib.hid (CY.out.below hbl CY.out.lt)
    replace RES := Lib.hid (RES.out.below hbl RES.out.lt)
    replace HW := Lib.hid (bel_trans HW.out hbl); clear hbl
    simp only [List.drop_succ_cons, List.drop_zero]
    have d0 : w9.cell? ⟨w.heap.size + 2, 0, none⟩ = some (.bool false) := RES.out.cell 0
    have f0 : w9.frozen? ⟨w.heap.size + 2, 0, none⟩ = false := RES.out.frozen 0
    have d1 : w9.cell? ⟨w.heap.size + 2, 1, none⟩ = some (.string ⟨#[]⟩) := RES.out.cell 1
    have f1 : w9.frozen? ⟨w.heap.size + 2, 1, none⟩ = false := RES.out.frozen 1
    have d2 : w9.cell? ⟨w.heap.size + 2, 2, none⟩ = some (.string ⟨#[]⟩) := RES.out.cell 2
    have f2 : w9.frozen? ⟨w.heap.size + 2, 2, none⟩ = false := RES.out.frozen 2
    have d3 : w9.cell? ⟨w.heap.size + 2, 3, none⟩ = some (.bool false) := RES.out.cell 3
    have f3 : w9.frozen? ⟨w.heap.size + 2, 3, none⟩ = false := RES.out.frozen 3
    have D := Lib.hid (And.intro (RES.out.put4 (.bool q.s) (.string (dec q.n)) (.string (dec q.d)) (.bool k)) (bel_set4 (g := w.heap.size + 2) HW.out (by omega) (.bool q.s) (.string (dec q.n)) (.string (dec q.d)) (.bool k)))
    go_wp2
    refine bodyPost_ret (v := .agg #[.bool q.s, .string (dec q.n), .string (dec q.d), .bool k]) ?hr rfl ?hR
    case hR => exact ⟨rfl, D.out.2⟩
    case hr => exact results_cell_row rfl _ _ (w.heap.size + 2) 49 _ (0, 0) _ rfl D.out.1 Try.underlying49 rfl (by kernel_rfl)

/-- A block of its own. -/
def VNewF (B : Nat) (t : TypeId) (cs : Array Value) : World → Value → Prop := fun w v => ∃ g, v = .pointer (some ⟨g, 0, none⟩) ∧ B ≤ g ∧ Blk w g t cs
theorem VNewF.lift (B : Nat) (t : TypeId) (cs : Array Value) : LiftP (VNewF B t cs) := fun _ _ _ ⟨g, h, h2, hb⟩ hbl => ⟨g, h, h2, hb.below hbl hb.lt⟩
theorem k_same {x y z : Nat} : overB true (x + y) z = true := by unfold overB; simp
theorem k_diff {z m : Nat} : overB true m z = true := by unfold overB; simp
theorem k_samef {x y z : Nat} (ho : decide (Top ≤ x + y) = false) : overB (decide (Top ≤ z)) (x + y) z = decide (Top ≤ z) := by unfold overB; rw [ho]; simp
theorem k_difff {x y z m : Nat} (hm : m ≤ x + y) (ho : decide (Top ≤ x + y) = false) : overB (decide (Top ≤ z)) m z = decide (Top ≤ z) := by
  have h1 := of_decide_eq_false ho
  unfold overB
  rw [decide_eq_false (show ¬ Top ≤ m by omega)]
  simp
set_option maxRecDepth 100000 in
set_option maxHeartbeats 1000000 in
theorem ref_add_samet {q : Q} (a b : Q) (w : World) (l1 : (decL a.n).length ≤ 160) (l2 : (decL a.d).length ≤ 160) (l3 : (decL b.n).length ≤ 160) (l4 : (decL b.d).length ≤ 160) (hs : a.s = b.s) (hq : redQ a.s ((a.n * b.d) + (b.n * a.d)) (a.d * b.d) = q) (ho : decide (Top ≤ (a.n * b.d) + (b.n * a.d)) = true) :
    Calls Try.prog 36 #[.agg #[.bool a.s, .string (dec a.n), .string (dec a.d), .bool false], .agg #[.bool b.s, .string (dec b.n), .string (dec b.d), .bool false]] w (RetFr q true w) := by
  have L := Lib.hid (And.intro l1 (And.intro l2 (And.intro l3 l4))); clear l1 l2 l3 l4
  have M1 := decL_mul a.n b.d
  have M2 := decL_mul b.n a.d
  have M3 := decL_mul a.d b.d
  have M4 := L.out
  have M := Lib.hid (show (decL (a.n * b.d)).length ≤ 320 ∧ (decL (b.n * a.d)).length ≤ 320 ∧ (decL (a.d * b.d)).length ≤ 320 by omega); clear M1 M2 M3 M4
  have MA := Lib.hid (decL_add M.out.1 M.out.2.1 (by decide))
  obtain ⟨x, hx⟩ : ∃ x, x = (a.n * b.d) := ⟨_, rfl⟩
  obtain ⟨y, hy⟩ : ∃ y, y = (b.n * a.d) := ⟨_, rfl⟩
  obtain ⟨z, hz⟩ : ∃ z, z = (a.d * b.d) := ⟨_, rfl⟩
  rw [← hx, ← hy, ← hz] at M
  rw [← hx, ← hy] at MA ho

  rw [← hx, ← hy, ← hz] at hq
  have HZ := Lib.hid (And.intro hx (And.intro hy hz)); clear hx hy hz
  have e0 : (a.s == b.s) = true := by simp [hs]
  have HO := Lib.hid ho; clear ho
  have HQ := Lib.hid hq; clear hq
  clear hs
  obtain ⟨wa, hwa⟩ : ∃ wa, wa = ((w.alloc (.cells #[.bool a.s, .string (dec a.n), .string (dec a.d), .bool false] 49)).alloc (.cells #[.bool b.s, .string (dec b.n), .string (dec b.d), .bool false] 49)).alloc (.cells #[.bool false, .string ⟨#[]⟩, .string ⟨#[]⟩, .bool false] 49) := ⟨_, rfl⟩
  have hbl : Below w.heap.size w wa := by rw [hwa]; exact bel_alloc (bel_alloc (bel_alloc (bel_refl _) _) _) _
  have CX : Blk wa (w.heap.size) 49 #[.bool a.s, .string (dec a.n), .string (dec a.d), .bool false] := by
    have hz := Blk.new (w) 49 #[.bool a.s, .string (dec a.n), .string (dec a.d), .bool false]
    rw [hwa]
    exact ((hz.alloc _).alloc _)
  have CY : Blk wa (w.heap.size + 1) 49 #[.bool b.s, .string (dec b.n), .string (dec b.d), .bool false] := by
    have hz := Blk.new (w.alloc (.cells #[.bool a.s, .string (dec a.n), .string (dec a.d), .bool false] 49)) 49 #[.bool b.s, .string (dec b.n), .string (dec b.d), .bool false]
    rw [World.size_alloc] at hz
    rw [hwa]
    exact (hz.alloc _)
  have RES : Blk wa (w.heap.size + 2) 49 #[.bool false, .string ⟨#[]⟩, .string ⟨#[]⟩, .bool false] := by
    have hz := Blk.new ((w.alloc (.cells #[.bool a.s, .string (dec a.n), .string (dec a.d), .bool false] 49)).alloc (.cells #[.bool b.s, .string (dec b.n), .string (dec b.d), .bool false] 49)) 49 #[.bool false, .string ⟨#[]⟩, .string ⟨#[]⟩, .bool false]
    rw [World.size_alloc, World.size_alloc] at hz
    rw [hwa]
    exact hz
  have HW := Lib.hid hbl; clear hbl
  replace CX := Lib.hid CX
  replace CY := Lib.hid CY
  replace RES := Lib.hid RES
  go_enter Try.func36, Try.ntmps36
  go_wp2_with fail
  rw [← hwa]
  clear hwa
  have CX0 : wa.cell? ⟨w.heap.size, 0, none⟩ = some (.bool a.s) := CX.out.cell 0
  have CX1 : wa.cell? ⟨w.heap.size, 1, none⟩ = some (.string (dec a.n)) := CX.out.cell 1
  have CX2 : wa.cell? ⟨w.heap.size, 2, none⟩ = some (.string (dec a.d)) := CX.out.cell 2
  have CY0 : wa.cell? ⟨w.heap.size + 1, 0, none⟩ = some (.bool b.s) := CY.out.cell 0
  have CY1 : wa.cell? ⟨w.heap.size + 1, 1, none⟩ = some (.string (dec b.n)) := CY.out.cell 1
  have CY2 : wa.cell? ⟨w.heap.size + 1, 2, none⟩ = some (.string (dec b.d)) := CY.out.cell 2
  refine (refMul_any a.n b.d _ (by have := L.out.1; omega) (by have := L.out.2.2.2; omega)).mono ?_
  rintro e w1 ⟨rfl, hbl⟩
  replace CX := Lib.hid (CX.out.below hbl CX.out.lt)
  replace CY := Lib.hid (CY.out.below hbl CY.out.lt)
  replace RES := Lib.hid (RES.out.below hbl RES.out.lt)
  replace HW := Lib.hid (bel_trans HW.out hbl); clear hbl
  clear CX0 CX1 CX2 CY0 CY1 CY2
  have CX0 : w1.cell? ⟨w.heap.size, 0, none⟩ = some (.bool a.s) := CX.out.cell 0
  have CX1 : w1.cell? ⟨w.heap.size, 1, none⟩ = some (.string (dec a.n)) := CX.out.cell 1
  have CX2 : w1.cell? ⟨w.heap.size, 2, none⟩ = some (.string (dec a.d)) := CX.out.cell 2
  have CY0 : w1.cell? ⟨w.heap.size + 1, 0, none⟩ = some (.bool b.s) := CY.out.cell 0
  have CY1 : w1.cell? ⟨w.heap.size + 1, 1, none⟩ = some (.string (dec b.n)) := CY.out.cell 1
  have CY2 : w1.cell? ⟨w.heap.size + 1, 2, none⟩ = some (.string (dec b.d)) := CY.out.cell 2
  rw [← HZ.out.1]
  go_wp2_with fail
  refine (refMul_any b.n a.d _ (by have := L.out.2.2.1; omega) (by have := L.out.2.1; omega)).mono ?_
  rintro e w2 ⟨rfl, hbl⟩
  replace CX := Lib.hid (CX.out.below hbl CX.out.lt)
  replace CY := Lib.hid (CY.out.below hbl CY.out.lt)
  replace RES := Lib.hid (RES.out.below hbl RES.out.lt)
  replace HW := Lib.hid (bel_trans HW.out hbl); clear hbl
  clear CX0 CX1 CX2 CY0 CY1 CY2
  have CX0 : w2.cell? ⟨w.heap.size, 0, none⟩ = some (.bool a.s) := CX.out.cell 0
  have CX1 : w2.cell? ⟨w.heap.size, 1, none⟩ = some (.string (dec a.n)) := CX.out.cell 1
  have CX2 : w2.cell? ⟨w.heap.size, 2, none⟩ = some (.string (dec a.d)) := CX.out.cell 2
  have CY0 : w2.cell? ⟨w.heap.size + 1, 0, none⟩ = some (.bool b.s) := CY.out.cell 0
  have CY1 : w2.cell? ⟨w.heap.size + 1, 1, none⟩ = some (.string (dec b.n)) := CY.out.cell 1
  have CY2 : w2.cell? ⟨w.heap.size + 1, 2, none⟩ = some (.string (dec b.d)) := CY.out.cell 2
  rw [← HZ.out.2.1]
  go_wp2_with fail
  clear CX0 CX1 CX2 CY0 CY1 CY2
  have hsz0 : w.heap.size + 2 < w2.heap.size := RES.out.lt
  refine wp_region_typed 12 (TOf [VIs (.pointer (some ⟨w.heap.size, 0, none⟩)),
      VIs (.bool a.s),
      VIs (.string (dec x)),
      VIs (.string (dec y)),
      VIs (.string (dec (x + y))),
      VIs (.pointer (some ⟨w.heap.size, 2, none⟩)),
      VIs (.string (dec a.d)),
      VIs (.pointer (some ⟨w.heap.size + 1, 2, none⟩)),
      VIs (.string (dec b.d)),
      VIs (.string (dec z)),
      VIs (.agg #[.bool a.s, .string (dec (x + y)), .string (dec z), .bool false]),
      VNewF w2.heap.size 49 #[.bool false, .string ⟨#[]⟩, .string ⟨#[]⟩, .bool false]]) (by kernel_rfl) (by kernel_rfl) (by kernel_rfl) (LiftAll.at_ (.cons (VIs.lift _) (.cons (VIs.lift _) (.cons (VIs.lift _) (.cons (VIs.lift _) (.cons (VIs.lift _) (.cons (VIs.lift _) (.cons (VIs.lift _) (.cons (VIs.lift _) (.cons (VIs.lift _) (.cons (VIs.lift _) (.cons (VIs.lift _) (.cons (VNewF.lift _ _ _) .nil))))))))))))) (steps_all (steps_cons ?_ (steps_cons ?_ (steps_cons ?_ (steps_cons ?_ (steps_cons ?_ (steps_cons ?_ (steps_cons ?_ (steps_cons ?_ (steps_cons ?_ (steps_cons ?_ (steps_cons ?_ (steps_cons ?_ steps_zero))))))))))))) ?fin
  · intro a0 w9 K9 hF hB hK hC
    have b2 := hF.base (k := 2) (v := .pointer (some ⟨w.heap.size, 0, none⟩)) (by kernel_rfl) rfl
    clear hF hB hK
    go_simp
    exact hC _ _ (bel_refl _) fun _ _ => rfl
  · intro a0 w9 K9 hF hB hK hC
    obtain ⟨v18, e18, z18⟩ := dep hK 0 (g := .data) (j := 0) (k := 18) rfl rfl rfl
    have z18 : v18 = .pointer (some ⟨w.heap.size, 0, none⟩) := z18
    subst z18
    have x9 : w9.cell? ⟨w.heap.size, 0, none⟩ = some (.bool a.s) := (CX.out.below hB CX.out.lt).cell 0
    clear hF hB hK
    go_simp
    exact hC _ _ (bel_refl _) fun _ _ => rfl
  · intro a0 w9 K9 hF hB hK hC
    have b5 := hF.base (k := 5) (v := .string (dec x)) (by kernel_rfl) rfl
    clear hF hB hK
    go_simp
    exact hC _ _ (bel_refl _) fun _ _ => rfl
  · intro a0 w9 K9 hF hB hK hC
    have b6 := hF.base (k := 6) (v := .string (dec y)) (by kernel_rfl) rfl
    clear hF hB hK
    go_simp
    exact hC _ _ (bel_refl _) fun _ _ => rfl
  · intro a0 w9 K9 hF hB hK hC
    obtain ⟨v20, e20, z20⟩ := dep hK 0 (g := .data) (j := 2) (k := 20) rfl rfl rfl
    have z20 : v20 = .string (dec x) := z20
    subst z20
    obtain ⟨v21, e21, z21⟩ := dep hK 1 (g := .data) (j := 3) (k := 21) rfl rfl rfl
    have z21 : v21 = .string (dec y) := z21
    subst z21
    have HB9 := Lib.hid hB
    clear hF hB hK
    go_simp
    refine (refAdd_any x y _ (by have := M.out.1; omega) (by have := M.out.2.1; omega)).mono ?_
    rintro e w7 ⟨rfl, hbl⟩
    exact hC _ _ hbl fun _ _ => rfl
  · intro a0 w9 K9 hF hB hK hC
    have b2 := hF.base (k := 2) (v := .pointer (some ⟨w.heap.size, 0, none⟩)) (by kernel_rfl) rfl
    clear hF hB hK
    go_simp
    exact hC _ _ (bel_refl _) fun _ _ => rfl
  · intro a0 w9 K9 hF hB hK hC
    obtain ⟨v23, e23, z23⟩ := dep hK 0 (g := .data) (j := 5) (k := 23) rfl rfl rfl
    have z23 : v23 = .pointer (some ⟨w.heap.size, 2, none⟩) := z23
    subst z23
    have x9 : w9.cell? ⟨w.heap.size, 2, none⟩ = some (.string (dec a.d)) := (CX.out.below hB CX.out.lt).cell 2
    clear hF hB hK
    go_simp
    exact hC _ _ (bel_refl _) fun _ _ => rfl
  · intro a0 w9 K9 hF hB hK hC
    have b3 := hF.base (k := 3) (v := .pointer (some ⟨w.heap.size + 1, 0, none⟩)) (by kernel_rfl) rfl
    clear hF hB hK
    go_simp
    exact hC _ _ (bel_refl _) fun _ _ => rfl
  · intro a0 w9 K9 hF hB hK hC
    obtain ⟨v25, e25, z25⟩ := dep hK 0 (g := .data) (j := 7) (k := 25) rfl rfl rfl
    have z25 : v25 = .pointer (some ⟨w.heap.size + 1, 2, none⟩) := z25
    subst z25
    have x9 : w9.cell? ⟨w.heap.size + 1, 2, none⟩ = some (.string (dec b.d)) := (CY.out.below hB CY.out.lt).cell 2
    clear hF hB hK
    go_simp
    exact hC _ _ (bel_refl _) fun _ _ => rfl
  · intro a0 w9 K9 hF hB hK hC
    obtain ⟨v24, e24, z24⟩ := dep hK 0 (g := .data) (j := 6) (k := 24) rfl rfl rfl
    have z24 : v24 = .string (dec a.d) := z24
    subst z24
    obtain ⟨v26, e26, z26⟩ := dep hK 1 (g := .data) (j := 8) (k := 26) rfl rfl rfl
    have z26 : v26 = .string (dec b.d) := z26
    subst z26
    have HB9 := Lib.hid hB
    clear hF hB hK
    go_simp
    refine (refMul_any a.d b.d _ (by have := L.out.2.1; omega) (by have := L.out.2.2.2; omega)).mono ?_
    rintro e w7 ⟨rfl, hbl⟩
    rw [← HZ.out.2.2]
    exact hC _ _ hbl fun _ _ => rfl
  · intro a0 w9 K9 hF hB hK hC
    obtain ⟨v19, e19, z19⟩ := dep hK 0 (g := .data) (j := 1) (k := 19) rfl rfl rfl
    have z19 : v19 = .bool a.s := z19
    subst z19
    obtain ⟨v22, e22, z22⟩ := dep hK 1 (g := .data) (j := 4) (k := 22) rfl rfl rfl
    have z22 : v22 = .string (dec (x + y)) := z22
    subst z22
    obtain ⟨v27, e27, z27⟩ := dep hK 2 (g := .data) (j := 9) (k := 27) rfl rfl rfl
    have z27 : v27 = .string (dec z) := z27
    subst z27
    have HB9 := Lib.hid hB
    clear hF hB hK
    go_simp
    exact hC _ _ (bel_refl _) fun _ _ => rfl
  · intro a0 w9 K9 hF hB hK hC
    have HB9 := Lib.hid hB
    clear hF hB hK
    go_simp
    exact hC _ _ (bel_alloc (bel_refl _) _) fun _ _ => ⟨_, rfl, HB9.out.size, Blk.new _ _ _⟩
  case fin =>
    intro a0 w9 hF hB hK
    have b2 := hF.base (k := 2) (v := .pointer (some ⟨w.heap.size, 0, none⟩)) (by kernel_rfl) rfl
    have b3 := hF.base (k := 3) (v := .pointer (some ⟨w.heap.size + 1, 0, none⟩)) (by kernel_rfl) rfl
    have b4 := hF.base (k := 4) (v := .pointer (some ⟨w.heap.size + 2, 0, none⟩)) (by kernel_rfl) rfl
    have b5 := hF.base (k := 5) (v := .string (dec x)) (by kernel_rfl) rfl
    have b6 := hF.base (k := 6) (v := .string (dec y)) (by kernel_rfl) rfl
    have hsz := hF.size
    have hdf := hF.defers
    clear hF
    obtain ⟨v7, e7, z7⟩ := known hK 11 (k := 7) (by decide) rfl
    have z7 : ∃ g, v7 = .pointer (some ⟨g, 0, none⟩) ∧ w2.heap.size ≤ g ∧ Blk w9 g 49 #[.bool false, .string ⟨#[]⟩, .string ⟨#[]⟩, .bool false] := z7
    obtain ⟨gf, rfl, hgf, FB⟩ := z7
    obtain ⟨v28, e28, z28⟩ := known hK 10 (k := 28) (by decide) rfl
    have z28 : v28 = .agg #[.bool a.s, .string (dec (x + y)), .string (dec z), .bool false] := z28
    subst z28
    clear hK
    obtain ⟨⟨l0⟩, df⟩ := a0
    have hs0 : l0.length = 63 := hsz
    clear hsz
    replace hdf : df = _ := hdf
    subst hdf
    obtain ⟨u, rfl⟩ := lits_63 hs0
    clear hs0
    have q2 : u 2 = _ := Option.some.inj b2
    clear b2
    have q3 : u 3 = _ := Option.some.inj b3
    clear b3
    have q4 : u 4 = _ := Option.some.inj b4
    clear b4
    have q5 : u 5 = _ := Option.some.inj b5
    clear b5
    have q6 : u 6 = _ := Option.some.inj b6
    clear b6
    have q7 : u 7 = _ := Option.some.inj e7
    clear e7
    have q28 : u 28 = _ := Option.some.inj e28
    clear e28
    rw [q2, q3, q4, q5, q6, q7, q28]
    clear q2 q3 q4 q5 q6 q7 q28
    have hbl := hB; clear hB
    replace CX := Lib.hid (CX.out.below hbl CX.out.lt)
    replace CY := Lib.hid (CY.out.below hbl CY.out.lt)
    replace RES := Lib.hid (RES.out.below hbl RES.out.lt)
    replace HW := Lib.hid (bel_trans HW.out hbl); clear hbl
    simp only [List.drop_succ_cons, List.drop_zero]
    replace FB := Lib.hid FB
    have gl : w.heap.size + 2 < gf := by omega
    have d0 : w9.cell? ⟨gf, 0, none⟩ = some (.bool false) := FB.out.cell 0
    have f0 : w9.frozen? ⟨gf, 0, none⟩ = false := FB.out.frozen 0
    have d1 : w9.cell? ⟨gf, 1, none⟩ = some (.string ⟨#[]⟩) := FB.out.cell 1
    have f1 : w9.frozen? ⟨gf, 1, none⟩ = false := FB.out.frozen 1
    have d2 : w9.cell? ⟨gf, 2, none⟩ = some (.string ⟨#[]⟩) := FB.out.cell 2
    have f2 : w9.frozen? ⟨gf, 2, none⟩ = false := FB.out.frozen 2
    have d3 : w9.cell? ⟨gf, 3, none⟩ = some (.bool false) := FB.out.cell 3
    have f3 : w9.frozen? ⟨gf, 3, none⟩ = false := FB.out.frozen 3
    go_wp2_with fail
    clear d0 d1 d2 d3 f0 f1 f2 f3
    obtain ⟨wb, hwb⟩ : ∃ wb, wb = ((((w9.setCell ⟨gf, 0, none⟩ (.bool a.s)).setCell ⟨gf, 1, none⟩ (.string (dec (x + y)))).setCell ⟨gf, 2, none⟩ (.string (dec z))).setCell ⟨gf, 3, none⟩ (.bool false)) := ⟨_, rfl⟩
    rw [← hwb]
    replace CX := Lib.hid (show Blk wb (w.heap.size) 49 #[.bool a.s, .string (dec a.n), .string (dec a.d), .bool false] by rw [hwb]; exact ((((CX.out).far (p := ⟨gf, 0, none⟩) (by simp; omega) _).far (p := ⟨gf, 1, none⟩) (by simp; omega) _).far (p := ⟨gf, 2, none⟩) (by simp; omega) _).far (p := ⟨gf, 3, none⟩) (by simp; omega) _)
    replace CY := Lib.hid (show Blk wb (w.heap.size + 1) 49 #[.bool b.s, .string (dec b.n), .string (dec b.d), .bool false] by rw [hwb]; exact ((((CY.out).far (p := ⟨gf, 0, none⟩) (by simp; omega) _).far (p := ⟨gf, 1, none⟩) (by simp; omega) _).far (p := ⟨gf, 2, none⟩) (by simp; omega) _).far (p := ⟨gf, 3, none⟩) (by simp; omega) _)
    replace RES := Lib.hid (show Blk wb (w.heap.size + 2) 49 #[.bool false, .string ⟨#[]⟩, .string ⟨#[]⟩, .bool false] by rw [hwb]; exact ((((RES.out).far (p := ⟨gf, 0, none⟩) (by simp; omega) _).far (p := ⟨gf, 1, none⟩) (by simp; omega) _).far (p := ⟨gf, 2, none⟩) (by simp; omega) _).far (p := ⟨gf, 3, none⟩) (by simp; omega) _)
    replace FB := Lib.hid (show Blk wb (gf) 49 #[.bool a.s, .string (dec (x + y)), .string (dec z), .bool false] by rw [hwb]; exact ((((FB.out).put 0 (.bool a.s)).put 1 (.string (dec (x + y)))).put 2 (.string (dec z))).put 3 (.bool false))
    replace HW := Lib.hid (show Below w.heap.size w wb by rw [hwb]; exact bel_set (p := ⟨gf, 3, none⟩) (bel_set (p := ⟨gf, 2, none⟩) (bel_set (p := ⟨gf, 1, none⟩) (bel_set (p := ⟨gf, 0, none⟩) (HW.out) (by show w.heap.size ≤ gf; omega) _) (by show w.heap.size ≤ gf; omega) _) (by show w.heap.size ≤ gf; omega) _) (by show w.heap.size ≤ gf; omega) _)
    clear hwb
    refine (refOver_any (x + y) _).mono ?_
    rintro e w3 ⟨rfl, hbl⟩
    replace CX := Lib.hid (CX.out.below hbl CX.out.lt)
    replace CY := Lib.hid (CY.out.below hbl CY.out.lt)
    replace RES := Lib.hid (RES.out.below hbl RES.out.lt)
    replace FB := Lib.hid (FB.out.below hbl FB.out.lt)
    replace HW := Lib.hid (bel_trans HW.out hbl); clear hbl
    rw [HO.out]
    have f3 : w3.frozen? ⟨gf, 3, none⟩ = false := FB.out.frozen 3
    have d3 := FB.out.cell 3
    go_upto_region 5 with fail
    clear f3 d3
    obtain ⟨wc, hwc⟩ : ∃ wc, wc = (w3.setCell ⟨gf, 3, none⟩ (.bool true)) := ⟨_, rfl⟩
    rw [← hwc]
    replace CX := Lib.hid (show Blk wc (w.heap.size) 49 #[.bool a.s, .string (dec a.n), .string (dec a.d), .bool false] by rw [hwc]; exact (CX.out).far (p := ⟨gf, 3, none⟩) (by simp; omega) _)
    replace CY := Lib.hid (show Blk wc (w.heap.size + 1) 49 #[.bool b.s, .string (dec b.n), .string (dec b.d), .bool false] by rw [hwc]; exact (CY.out).far (p := ⟨gf, 3, none⟩) (by simp; omega) _)
    replace RES := Lib.hid (show Blk wc (w.heap.size + 2) 49 #[.bool false, .string ⟨#[]⟩, .string ⟨#[]⟩, .bool false] by rw [hwc]; exact (RES.out).far (p := ⟨gf, 3, none⟩) (by simp; omega) _)
    replace FB := Lib.hid (show Blk wc (gf) 49 #[.bool a.s, .string (dec (x + y)), .string (dec z), .bool true] by rw [hwc]; exact (FB.out).put 3 (.bool true))
    replace HW := Lib.hid (show Below w.heap.size w wc by rw [hwc]; exact bel_set (p := ⟨gf, 3, none⟩) (HW.out) (by show w.heap.size ≤ gf; omega) _)
    clear hwc
    have X0 : wc.cell? ⟨w.heap.size, 0, none⟩ = some (.bool a.s) := CX.out.cell 0
    have Y0 : wc.cell? ⟨w.heap.size + 1, 0, none⟩ = some (.bool b.s) := CY.out.cell 0
    have d0 : wc.cell? ⟨gf, 0, none⟩ = some (.bool a.s) := FB.out.cell 0
    have d1 : wc.cell? ⟨gf, 1, none⟩ = some (.string (dec (x + y))) := FB.out.cell 1
    have d2 : wc.cell? ⟨gf, 2, none⟩ = some (.string (dec z)) := FB.out.cell 2
    have d3 : wc.cell? ⟨gf, 3, none⟩ = some (.bool true) := FB.out.cell 3
    go_wp2_with fail
    clear d0 d1 d2 d3 X0 Y0
    refine (refRed_q a.s (x + y) z true _ (by have := MA.out; omega) (by have := M.out.2.2; omega) HQ.out k_same).mono ?_
    rintro e w4 ⟨rfl, hbl⟩
    replace CX := Lib.hid (CX.out.below hbl CX.out.lt)
    replace CY := Lib.hid (CY.out.below hbl CY.out.lt)
    replace RES := Lib.hid (RES.out.below hbl RES.out.lt)
    replace FB := Lib.hid (FB.out.below hbl FB.out.lt)
    replace HW := Lib.hid (bel_trans HW.out hbl); clear hbl
    have d0 : w4.cell? ⟨w.heap.size + 2, 0, none⟩ = some (.bool false) := RES.out.cell 0
    have f0 : w4.frozen? ⟨w.heap.size + 2, 0, none⟩ = false := RES.out.frozen 0
    have d1 : w4.cell? ⟨w.heap.size + 2, 1, none⟩ = some (.string ⟨#[]⟩) := RES.out.cell 1
    have f1 : w4.frozen? ⟨w.heap.size + 2, 1, none⟩ = false := RES.out.frozen 1
    have d2 : w4.cell? ⟨w.heap.size + 2, 2, none⟩ = some (.string ⟨#[]⟩) := RES.out.cell 2
    have f2 : w4.frozen? ⟨w.heap.size + 2, 2, none⟩ = false := RES.out.frozen 2
    have d3 : w4.cell? ⟨w.heap.size + 2, 3, none⟩ = some (.bool false) := RES.out.cell 3
    have f3 : w4.frozen? ⟨w.heap.size + 2, 3, none⟩ = false := RES.out.frozen 3
    have D := Lib.hid (And.intro (RES.out.put4 (.bool q.s) (.string (dec q.n)) (.string (dec q.d)) (.bool true)) (bel_set4 (g := w.heap.size + 2) HW.out (by omega) (.bool q.s) (.string (dec q.n)) (.string (dec q.d)) (.bool true)))
    go_wp2
    refine bodyPost_ret (v := .agg #[.bool q.s, .string (dec q.n), .string (dec q.d), .bool true]) ?hr rfl ?hR
    case hR => exact ⟨rfl, D.out.2⟩
    case hr => exact results_cell_row rfl _ _ (w.heap.size + 2) 49 _ (0, 0) _ rfl D.out.1 Try.underlying49 rfl (by kernel_rfl)

set_option maxRecDepth 100000 in
set_option maxHeartbeats 1000000 in
theorem ref_add_ltt {q : Q} (a b : Q) (w : World) (l1 : (decL a.n).length ≤ 160) (l2 : (decL a.d).length ≤ 160) (l3 : (decL b.n).length ≤ 160) (l4 : (decL b.d).length ≤ 160) (hs : ¬ a.s = b.s) (hl : (a.n * b.d) < (b.n * a.d)) (hq : redQ b.s ((b.n * a.d) - (a.n * b.d)) (a.d * b.d) = q) (ho : decide (Top ≤ (a.n * b.d) + (b.n * a.d)) = true) :
    Calls Try.prog 36 #[.agg #[.bool a.s, .string (dec a.n), .string (dec a.d), .bool false], .agg #[.bool b.s, .string (dec b.n), .string (dec b.d), .bool false]] w (RetFr q true w) := by
  have L := Lib.hid (And.intro l1 (And.intro l2 (And.intro l3 l4))); clear l1 l2 l3 l4
  have M1 := decL_mul a.n b.d
  have M2 := decL_mul b.n a.d
  have M3 := decL_mul a.d b.d
  have M4 := L.out
  have M := Lib.hid (show (decL (a.n * b.d)).length ≤ 320 ∧ (decL (b.n * a.d)).length ≤ 320 ∧ (decL (a.d * b.d)).length ≤ 320 by omega); clear M1 M2 M3 M4
  have MA := Lib.hid (decL_add M.out.1 M.out.2.1 (by decide))
  obtain ⟨x, hx⟩ : ∃ x, x = (a.n * b.d) := ⟨_, rfl⟩
  obtain ⟨y, hy⟩ : ∃ y, y = (b.n * a.d) := ⟨_, rfl⟩
  obtain ⟨z, hz⟩ : ∃ z, z = (a.d * b.d) := ⟨_, rfl⟩
  rw [← hx, ← hy, ← hz] at M
  rw [← hx, ← hy] at MA ho
  rw [← hx, ← hy] at hl
  rw [← hx, ← hy, ← hz] at hq
  have HZ := Lib.hid (And.intro hx (And.intro hy hz)); clear hx hy hz
  have e0 : (a.s == b.s) = false := by simp [hs]
  have e1 : ¬ 0 ≤ cmpI (x : Int) (y : Int) := by rw [cmpI_lt (by omega)]; decide
  have HO := Lib.hid ho; clear ho
  have HQ := Lib.hid hq; clear hq
  clear hs
  have HL := Lib.hid hl; clear hl
  obtain ⟨wa, hwa⟩ : ∃ wa, wa = ((w.alloc (.cells #[.bool a.s, .string (dec a.n), .string (dec a.d), .bool false] 49)).alloc (.cells #[.bool b.s, .string (dec b.n), .string (dec b.d), .bool false] 49)).alloc (.cells #[.bool false, .string ⟨#[]⟩, .string ⟨#[]⟩, .bool false] 49) := ⟨_, rfl⟩
  have hbl : Below w.heap.size w wa := by rw [hwa]; exact bel_alloc (bel_alloc (bel_alloc (bel_refl _) _) _) _
  have CX : Blk wa (w.heap.size) 49 #[.bool a.s, .string (dec a.n), .string (dec a.d), .bool false] := by
    have hz := Blk.new (w) 49 #[.bool a.s, .string (dec a.n), .string (dec a.d), .bool false]
    rw [hwa]
    exact ((hz.alloc _).alloc _)
  have CY : Blk wa (w.heap.size + 1) 49 #[.bool b.s, .string (dec b.n), .string (dec b.d), .bool false] := by
    have hz := Blk.new (w.alloc (.cells #[.bool a.s, .string (dec a.n), .string (dec a.d), .bool false] 49)) 49 #[.bool b.s, .string (dec b.n), .string (dec b.d), .bool false]
    rw [World.size_alloc] at hz
    rw [hwa]
    exact (hz.alloc _)
  have RES : Blk wa (w.heap.size + 2) 49 #[.bool false, .string ⟨#[]⟩, .string ⟨#[]⟩, .bool false] := by
    have hz := Blk.new ((w.alloc (.cells #[.bool a.s, .string (dec a.n), .string (dec a.d), .bool false] 49)).alloc (.cells #[.bool b.s, .string (dec b.n), .string (dec b.d), .bool false] 49)) 49 #[.bool false, .string ⟨#[]⟩, .string ⟨#[]⟩, .bool false]
    rw [World.size_alloc, World.size_alloc] at hz
    rw [hwa]
    exact hz
  have HW := Lib.hid hbl; clear hbl
  replace CX := Lib.hid CX
  replace CY := Lib.hid CY
  replace RES := Lib.hid RES
  go_enter Try.func36, Try.ntmps36
  go_wp2_with fail
  rw [← hwa]
  clear hwa
  have CX0 : wa.cell? ⟨w.heap.size, 0, none⟩ = some (.bool a.s) := CX.out.cell 0
  have CX1 : wa.cell? ⟨w.heap.size, 1, none⟩ = some (.string (dec a.n)) := CX.out.cell 1
  have CX2 : wa.cell? ⟨w.heap.size, 2, none⟩ = some (.string (dec a.d)) := CX.out.cell 2
  have CY0 : wa.cell? ⟨w.heap.size + 1, 0, none⟩ = some (.bool b.s) := CY.out.cell 0
  have CY1 : wa.cell? ⟨w.heap.size + 1, 1, none⟩ = some (.string (dec b.n)) := CY.out.cell 1
  have CY2 : wa.cell? ⟨w.heap.size + 1, 2, none⟩ = some (.string (dec b.d)) := CY.out.cell 2
  refine (refMul_any a.n b.d _ (by have := L.out.1; omega) (by have := L.out.2.2.2; omega)).mono ?_
  rintro e w1 ⟨rfl, hbl⟩
  replace CX := Lib.hid (CX.out.below hbl CX.out.lt)
  replace CY := Lib.hid (CY.out.below hbl CY.out.lt)
  replace RES := Lib.hid (RES.out.below hbl RES.out.lt)
  replace HW := Lib.hid (bel_trans HW.out hbl); clear hbl
  clear CX0 CX1 CX2 CY0 CY1 CY2
  have CX0 : w1.cell? ⟨w.heap.size, 0, none⟩ = some (.bool a.s) := CX.out.cell 0
  have CX1 : w1.cell? ⟨w.heap.size, 1, none⟩ = some (.string (dec a.n)) := CX.out.cell 1
  have CX2 : w1.cell? ⟨w.heap.size, 2, none⟩ = some (.string (dec a.d)) := CX.out.cell 2
  have CY0 : w1.cell? ⟨w.heap.size + 1, 0, none⟩ = some (.bool b.s) := CY.out.cell 0
  have CY1 : w1.cell? ⟨w.heap.size + 1, 1, none⟩ = some (.string (dec b.n)) := CY.out.cell 1
  have CY2 : w1.cell? ⟨w.heap.size + 1, 2, none⟩ = some (.string (dec b.d)) := CY.out.cell 2
  rw [← HZ.out.1]
  go_wp2_with fail
  refine (refMul_any b.n a.d _ (by have := L.out.2.2.1; omega) (by have := L.out.2.1; omega)).mono ?_
  rintro e w2 ⟨rfl, hbl⟩
  replace CX := Lib.hid (CX.out.below hbl CX.out.lt)
  replace CY := Lib.hid (CY.out.below hbl CY.out.lt)
  replace RES := Lib.hid (RES.out.below hbl RES.out.lt)
  replace HW := Lib.hid (bel_trans HW.out hbl); clear hbl
  clear CX0 CX1 CX2 CY0 CY1 CY2
  have CX0 : w2.cell? ⟨w.heap.size, 0, none⟩ = some (.bool a.s) := CX.out.cell 0
  have CX1 : w2.cell? ⟨w.heap.size, 1, none⟩ = some (.string (dec a.n)) := CX.out.cell 1
  have CX2 : w2.cell? ⟨w.heap.size, 2, none⟩ = some (.string (dec a.d)) := CX.out.cell 2
  have CY0 : w2.cell? ⟨w.heap.size + 1, 0, none⟩ = some (.bool b.s) := CY.out.cell 0
  have CY1 : w2.cell? ⟨w.heap.size + 1, 1, none⟩ = some (.string (dec b.n)) := CY.out.cell 1
  have CY2 : w2.cell? ⟨w.heap.size + 1, 2, none⟩ = some (.string (dec b.d)) := CY.out.cell 2
  rw [← HZ.out.2.1]
  go_wp2_with fail
  clear CX0 CX1 CX2 CY0 CY1 CY2
  have hsz0 : w.heap.size + 2 < w2.heap.size := RES.out.lt
  refine wp_region_typed 12 (TOf [VIs (.pointer (some ⟨w.heap.size, 0, none⟩)),
      VIs (.bool a.s),
      VIs (.string (dec x)),
      VIs (.string (dec y)),
      VIs (.string (dec (x + y))),
      VIs (.pointer (some ⟨w.heap.size, 2, none⟩)),
      VIs (.string (dec a.d)),
      VIs (.pointer (some ⟨w.heap.size + 1, 2, none⟩)),
      VIs (.string (dec b.d)),
      VIs (.string (dec z)),
      VIs (.agg #[.bool a.s, .string (dec (x + y)), .string (dec z), .bool false]),
      VNewF w2.heap.size 49 #[.bool false, .string ⟨#[]⟩, .string ⟨#[]⟩, .bool false]]) (by kernel_rfl) (by kernel_rfl) (by kernel_rfl) (LiftAll.at_ (.cons (VIs.lift _) (.cons (VIs.lift _) (.cons (VIs.lift _) (.cons (VIs.lift _) (.cons (VIs.lift _) (.cons (VIs.lift _) (.cons (VIs.lift _) (.cons (VIs.lift _) (.cons (VIs.lift _) (.cons (VIs.lift _) (.cons (VIs.lift _) (.cons (VNewF.lift _ _ _) .nil))))))))))))) (steps_all (steps_cons ?_ (steps_cons ?_ (steps_cons ?_ (steps_cons ?_ (steps_cons ?_ (steps_cons ?_ (steps_cons ?_ (steps_cons ?_ (steps_cons ?_ (steps_cons ?_ (steps_cons ?_ (steps_cons ?_ steps_zero))))))))))))) ?fin
  · intro a0 w9 K9 hF hB hK hC
    have b2 := hF.base (k := 2) (v := .pointer (some ⟨w.heap.size, 0, none⟩)) (by kernel_rfl) rfl
    clear hF hB hK
    go_simp
    exact hC _ _ (bel_refl _) fun _ _ => rfl
  · intro a0 w9 K9 hF hB hK hC
    obtain ⟨v18, e18, z18⟩ := dep hK 0 (g := .data) (j := 0) (k := 18) rfl rfl rfl
    have z18 : v18 = .pointer (some ⟨w.heap.size, 0, none⟩) := z18
    subst z18
    have x9 : w9.cell? ⟨w.heap.size, 0, none⟩ = some (.bool a.s) := (CX.out.below hB CX.out.lt).cell 0
    clear hF hB hK
    go_simp
    exact hC _ _ (bel_refl _) fun _ _ => rfl
  · intro a0 w9 K9 hF hB hK hC
    have b5 := hF.base (k := 5) (v := .string (dec x)) (by kernel_rfl) rfl
    clear hF hB hK
    go_simp
    exact hC _ _ (bel_refl _) fun _ _ => rfl
  · intro a0 w9 K9 hF hB hK hC
    have b6 := hF.base (k := 6) (v := .string (dec y)) (by kernel_rfl) rfl
    clear hF hB hK
    go_simp
    exact hC _ _ (bel_refl _) fun _ _ => rfl
  · intro a0 w9 K9 hF hB hK hC
    obtain ⟨v20, e20, z20⟩ := dep hK 0 (g := .data) (j := 2) (k := 20) rfl rfl rfl
    have z20 : v20 = .string (dec x) := z20
    subst z20
    obtain ⟨v21, e21, z21⟩ := dep hK 1 (g := .data) (j := 3) (k := 21) rfl rfl rfl
    have z21 : v21 = .string (dec y) := z21
    subst z21
    have HB9 := Lib.hid hB
    clear hF hB hK
    go_simp
    refine (refAdd_any x y _ (by have := M.out.1; omega) (by have := M.out.2.1; omega)).mono ?_
    rintro e w7 ⟨rfl, hbl⟩
    exact hC _ _ hbl fun _ _ => rfl
  · intro a0 w9 K9 hF hB hK hC
    have b2 := hF.base (k := 2) (v := .pointer (some ⟨w.heap.size, 0, none⟩)) (by kernel_rfl) rfl
    clear hF hB hK
    go_simp
    exact hC _ _ (bel_refl _) fun _ _ => rfl
  · intro a0 w9 K9 hF hB hK hC
    obtain ⟨v23, e23, z23⟩ := dep hK 0 (g := .data) (j := 5) (k := 23) rfl rfl rfl
    have z23 : v23 = .pointer (some ⟨w.heap.size, 2, none⟩) := z23
    subst z23
    have x9 : w9.cell? ⟨w.heap.size, 2, none⟩ = some (.string (dec a.d)) := (CX.out.below hB CX.out.lt).cell 2
    clear hF hB hK
    go_simp
    exact hC _ _ (bel_refl _) fun _ _ => rfl
  · intro a0 w9 K9 hF hB hK hC
    have b3 := hF.base (k := 3) (v := .pointer (some ⟨w.heap.size + 1, 0, none⟩)) (by kernel_rfl) rfl
    clear hF hB hK
    go_simp
    exact hC _ _ (bel_refl _) fun _ _ => rfl
  · intro a0 w9 K9 hF hB hK hC
    obtain ⟨v25, e25, z25⟩ := dep hK 0 (g := .data) (j := 7) (k := 25) rfl rfl rfl
    have z25 : v25 = .pointer (some ⟨w.heap.size + 1, 2, none⟩) := z25
    subst z25
    have x9 : w9.cell? ⟨w.heap.size + 1, 2, none⟩ = some (.string (dec b.d)) := (CY.out.below hB CY.out.lt).cell 2
    clear hF hB hK
    go_simp
    exact hC _ _ (bel_refl _) fun _ _ => rfl
  · intro a0 w9 K9 hF hB hK hC
    obtain ⟨v24, e24, z24⟩ := dep hK 0 (g := .data) (j := 6) (k := 24) rfl rfl rfl
    have z24 : v24 = .string (dec a.d) := z24
    subst z24
    obtain ⟨v26, e26, z26⟩ := dep hK 1 (g := .data) (j := 8) (k := 26) rfl rfl rfl
    have z26 : v26 = .string (dec b.d) := z26
    subst z26
    have HB9 := Lib.hid hB
    clear hF hB hK
    go_simp
    refine (refMul_any a.d b.d _ (by have := L.out.2.1; omega) (by have := L.out.2.2.2; omega)).mono ?_
    rintro e w7 ⟨rfl, hbl⟩
    rw [← HZ.out.2.2]
    exact hC _ _ hbl fun _ _ => rfl
  · intro a0 w9 K9 hF hB hK hC
    obtain ⟨v19, e19, z19⟩ := dep hK 0 (g := .data) (j := 1) (k := 19) rfl rfl rfl
    have z19 : v19 = .bool a.s := z19
    subst z19
    obtain ⟨v22, e22, z22⟩ := dep hK 1 (g := .data) (j := 4) (k := 22) rfl rfl rfl
    have z22 : v22 = .string (dec (x + y)) := z22
    subst z22
    obtain ⟨v27, e27, z27⟩ := dep hK 2 (g := .data) (j := 9) (k := 27) rfl rfl rfl
    have z27 : v27 = .string (dec z) := z27
    subst z27
    have HB9 := Lib.hid hB
    clear hF hB hK
    go_simp
    exact hC _ _ (bel_refl _) fun _ _ => rfl
  · intro a0 w9 K9 hF hB hK hC
    have HB9 := Lib.hid hB
    clear hF hB hK
    go_simp
    exact hC _ _ (bel_alloc (bel_refl _) _) fun _ _ => ⟨_, rfl, HB9.out.size, Blk.new _ _ _⟩
  case fin =>
    intro a0 w9 hF hB hK
    have b2 := hF.base (k := 2) (v := .pointer (some ⟨w.heap.size, 0, none⟩)) (by kernel_rfl) rfl
    have b3 := hF.base (k := 3) (v := .pointer (some ⟨w.heap.size + 1, 0, none⟩)) (by kernel_rfl) rfl
    have b4 := hF.base (k := 4) (v := .pointer (some ⟨w.heap.size + 2, 0, none⟩)) (by kernel_rfl) rfl
    have b5 := hF.base (k := 5) (v := .string (dec x)) (by kernel_rfl) rfl
    have b6 := hF.base (k := 6) (v := .string (dec y)) (by kernel_rfl) rfl
    have hsz := hF.size
    have hdf := hF.defers
    clear hF
    obtain ⟨v7, e7, z7⟩ := known hK 11 (k := 7) (by decide) rfl
    have z7 : ∃ g, v7 = .pointer (some ⟨g, 0, none⟩) ∧ w2.heap.size ≤ g ∧ Blk w9 g 49 #[.bool false, .string ⟨#[]⟩, .string ⟨#[]⟩, .bool false] := z7
    obtain ⟨gf, rfl, hgf, FB⟩ := z7
    obtain ⟨v28, e28, z28⟩ := known hK 10 (k := 28) (by decide) rfl
    have z28 : v28 = .agg #[.bool a.s, .string (dec (x + y)), .string (dec z), .bool false] := z28
    subst z28
    clear hK
    obtain ⟨⟨l0⟩, df⟩ := a0
    have hs0 : l0.length = 63 := hsz
    clear hsz
    replace hdf : df = _ := hdf
    subst hdf
    obtain ⟨u, rfl⟩ := lits_63 hs0
    clear hs0
    have q2 : u 2 = _ := Option.some.inj b2
    clear b2
    have q3 : u 3 = _ := Option.some.inj b3
    clear b3
    have q4 : u 4 = _ := Option.some.inj b4
    clear b4
    have q5 : u 5 = _ := Option.some.inj b5
    clear b5
    have q6 : u 6 = _ := Option.some.inj b6
    clear b6
    have q7 : u 7 = _ := Option.some.inj e7
    clear e7
    have q28 : u 28 = _ := Option.some.inj e28
    clear e28
    rw [q2, q3, q4, q5, q6, q7, q28]
    clear q2 q3 q4 q5 q6 q7 q28
    have hbl := hB; clear hB
    replace CX := Lib.hid (CX.out.below hbl CX.out.lt)
    replace CY := Lib.hid (CY.out.below hbl CY.out.lt)
    replace RES := Lib.hid (RES.out.below hbl RES.out.lt)
    replace HW := Lib.hid (bel_trans HW.out hbl); clear hbl
    simp only [List.drop_succ_cons, List.drop_zero]
    replace FB := Lib.hid FB
    have gl : w.heap.size + 2 < gf := by omega
    have d0 : w9.cell? ⟨gf, 0, none⟩ = some (.bool false) := FB.out.cell 0
    have f0 : w9.frozen? ⟨gf, 0, none⟩ = false := FB.out.frozen 0
    have d1 : w9.cell? ⟨gf, 1, none⟩ = some (.string ⟨#[]⟩) := FB.out.cell 1
    have f1 : w9.frozen? ⟨gf, 1, none⟩ = false := FB.out.frozen 1
    have d2 : w9.cell? ⟨gf, 2, none⟩ = some (.string ⟨#[]⟩) := FB.out.cell 2
    have f2 : w9.frozen? ⟨gf, 2, none⟩ = false := FB.out.frozen 2
    have d3 : w9.cell? ⟨gf, 3, none⟩ = some (.bool false) := FB.out.cell 3
    have f3 : w9.frozen? ⟨gf, 3, none⟩ = false := FB.out.frozen 3
    go_wp2_with fail
    clear d0 d1 d2 d3 f0 f1 f2 f3
    obtain ⟨wb, hwb⟩ : ∃ wb, wb = ((((w9.setCell ⟨gf, 0, none⟩ (.bool a.s)).setCell ⟨gf, 1, none⟩ (.string (dec (x + y)))).setCell ⟨gf, 2, none⟩ (.string (dec z))).setCell ⟨gf, 3, none⟩ (.bool false)) := ⟨_, rfl⟩
    rw [← hwb]
    replace CX := Lib.hid (show Blk wb (w.heap.size) 49 #[.bool a.s, .string (dec a.n), .string (dec a.d), .bool false] by rw [hwb]; exact ((((CX.out).far (p := ⟨gf, 0, none⟩) (by simp; omega) _).far (p := ⟨gf, 1, none⟩) (by simp; omega) _).far (p := ⟨gf, 2, none⟩) (by simp; omega) _).far (p := ⟨gf, 3, none⟩) (by simp; omega) _)
    replace CY := Lib.hid (show Blk wb (w.heap.size + 1) 49 #[.bool b.s, .string (dec b.n), .string (dec b.d), .bool false] by rw [hwb]; exact ((((CY.out).far (p := ⟨gf, 0, none⟩) (by simp; omega) _).far (p := ⟨gf, 1, none⟩) (by simp; omega) _).far (p := ⟨gf, 2, none⟩) (by simp; omega) _).far (p := ⟨gf, 3, none⟩) (by simp; omega) _)
    replace RES := Lib.hid (show Blk wb (w.heap.size + 2) 49 #[.bool false, .string ⟨#[]⟩, .string ⟨#[]⟩, .bool false] by rw [hwb]; exact ((((RES.out).far (p := ⟨gf, 0, none⟩) (by simp; omega) _).far (p := ⟨gf, 1, none⟩) (by simp; omega) _).far (p := ⟨gf, 2, none⟩) (by simp; omega) _).far (p := ⟨gf, 3, none⟩) (by simp; omega) _)
    replace FB := Lib.hid (show Blk wb (gf) 49 #[.bool a.s, .string (dec (x + y)), .string (dec z), .bool false] by rw [hwb]; exact ((((FB.out).put 0 (.bool a.s)).put 1 (.string (dec (x + y)))).put 2 (.string (dec z))).put 3 (.bool false))
    replace HW := Lib.hid (show Below w.heap.size w wb by rw [hwb]; exact bel_set (p := ⟨gf, 3, none⟩) (bel_set (p := ⟨gf, 2, none⟩) (bel_set (p := ⟨gf, 1, none⟩) (bel_set (p := ⟨gf, 0, none⟩) (HW.out) (by show w.heap.size ≤ gf; omega) _) (by show w.heap.size ≤ gf; omega) _) (by show w.heap.size ≤ gf; omega) _) (by show w.heap.size ≤ gf; omega) _)
    clear hwb
    refine (refOver_any (x + y) _).mono ?_
    rintro e w3 ⟨rfl, hbl⟩
    replace CX := Lib.hid (CX.out.below hbl CX.out.lt)
    replace CY := Lib.hid (CY.out.below hbl CY.out.lt)
    replace RES := Lib.hid (RES.out.below hbl RES.out.lt)
    replace FB := Lib.hid (FB.out.below hbl FB.out.lt)
    replace HW := Lib.hid (bel_trans HW.out hbl); clear hbl
    rw [HO.out]
    have f3 : w3.frozen? ⟨gf, 3, none⟩ = false := FB.out.frozen 3
    have d3 := FB.out.cell 3
    go_upto_region 5 with fail
    clear f3 d3
    obtain ⟨wc, hwc⟩ : ∃ wc, wc = (w3.setCell ⟨gf, 3, none⟩ (.bool true)) := ⟨_, rfl⟩
    rw [← hwc]
    replace CX := Lib.hid (show Blk wc (w.heap.size) 49 #[.bool a.s, .string (dec a.n), .string (dec a.d), .bool false] by rw [hwc]; exact (CX.out).far (p := ⟨gf, 3, none⟩) (by simp; omega) _)
    replace CY := Lib.hid (show Blk wc (w.heap.size + 1) 49 #[.bool b.s, .string (dec b.n), .string (dec b.d), .bool false] by rw [hwc]; exact (CY.out).far (p := ⟨gf, 3, none⟩) (by simp; omega) _)
    replace RES := Lib.hid (show Blk wc (w.heap.size + 2) 49 #[.bool false, .string ⟨#[]⟩, .string ⟨#[]⟩, .bool false] by rw [hwc]; exact (RES.out).far (p := ⟨gf, 3, none⟩) (by simp; omega) _)
    replace FB := Lib.hid (show Blk wc (gf) 49 #[.bool a.s, .string (dec (x + y)), .string (dec z), .bool true] by rw [hwc]; exact (FB.out).put 3 (.bool true))
    replace HW := Lib.hid (show Below w.heap.size w wc by rw [hwc]; exact bel_set (p := ⟨gf, 3, none⟩) (HW.out) (by show w.heap.size ≤ gf; omega) _)
    clear hwc
    have X0 : wc.cell? ⟨w.heap.size, 0, none⟩ = some (.bool a.s) := CX.out.cell 0
    have Y0 : wc.cell? ⟨w.heap.size + 1, 0, none⟩ = some (.bool b.s) := CY.out.cell 0
    have f0 : wc.frozen? ⟨gf, 0, none⟩ = false := FB.out.frozen 0
    have d0 := FB.out.cell 0
    go_upto_region 7 with fail
    clear X0 Y0 f0 d0
    obtain ⟨wd, hwd⟩ : ∃ wd, wd = (wc.setCell ⟨gf, 0, none⟩ (.bool b.s)) := ⟨_, rfl⟩
    rw [← hwd]
    replace CX := Lib.hid (show Blk wd (w.heap.size) 49 #[.bool a.s, .string (dec a.n), .string (dec a.d), .bool false] by rw [hwd]; exact (CX.out).far (p := ⟨gf, 0, none⟩) (by simp; omega) _)
    replace CY := Lib.hid (show Blk wd (w.heap.size + 1) 49 #[.bool b.s, .string (dec b.n), .string (dec b.d), .bool false] by rw [hwd]; exact (CY.out).far (p := ⟨gf, 0, none⟩) (by simp; omega) _)
    replace RES := Lib.hid (show Blk wd (w.heap.size + 2) 49 #[.bool false, .string ⟨#[]⟩, .string ⟨#[]⟩, .bool false] by rw [hwd]; exact (RES.out).far (p := ⟨gf, 0, none⟩) (by simp; omega) _)
    replace FB := Lib.hid (show Blk wd (gf) 49 #[.bool b.s, .string (dec (x + y)), .string (dec z), .bool true] by rw [hwd]; exact (FB.out).put 0 (.bool b.s))
    replace HW := Lib.hid (show Below w.heap.size w wd by rw [hwd]; exact bel_set (p := ⟨gf, 0, none⟩) (HW.out) (by show w.heap.size ≤ gf; omega) _)
    clear hwd
    go_wp2_with fail
    refine (ref_larger_lt x y _ HL.out).mono ?_
    rintro e w4 ⟨rfl, hbl⟩
    replace CX := Lib.hid (CX.out.below hbl CX.out.lt)
    replace CY := Lib.hid (CY.out.below hbl CY.out.lt)
    replace RES := Lib.hid (RES.out.below hbl RES.out.lt)
    replace FB := Lib.hid (FB.out.below hbl FB.out.lt)
    replace HW := Lib.hid (bel_trans HW.out hbl); clear hbl
    go_wp2_with fail
    refine (ref_smaller_lt x y _ HL.out).mono ?_
    rintro e w5 ⟨rfl, hbl⟩
    replace CX := Lib.hid (CX.out.below hbl CX.out.lt)
    replace CY := Lib.hid (CY.out.below hbl CY.out.lt)
    replace RES := Lib.hid (RES.out.below hbl RES.out.lt)
    replace FB := Lib.hid (FB.out.below hbl FB.out.lt)
    replace HW := Lib.hid (bel_trans HW.out hbl); clear hbl
    go_wp2_with fail
    refine (refSub_any y x _ (by have := M.out; omega) (by have := M.out; omega) (Nat.le_of_lt HL.out)).mono ?_
    rintro e w6 ⟨rfl, hbl⟩
    replace CX := Lib.hid (CX.out.below hbl CX.out.lt)
    replace CY := Lib.hid (CY.out.below hbl CY.out.lt)
    replace RES := Lib.hid (RES.out.below hbl RES.out.lt)
    replace FB := Lib.hid (FB.out.below hbl FB.out.lt)
    replace HW := Lib.hid (bel_trans HW.out hbl); clear hbl
    have f1 : w6.frozen? ⟨gf, 1, none⟩ = false := FB.out.frozen 1
    have d1 := FB.out.cell 1
    go_upto_region 8 with fail
    clear f1 d1
    obtain ⟨we, hwe⟩ : ∃ we, we = (w6.setCell ⟨gf, 1, none⟩ (.string (dec (y - x)))) := ⟨_, rfl⟩
    rw [← hwe]
    replace CX := Lib.hid (show Blk we (w.heap.size) 49 #[.bool a.s, .string (dec a.n), .string (dec a.d), .bool false] by rw [hwe]; exact (CX.out).far (p := ⟨gf, 1, none⟩) (by simp; omega) _)
    replace CY := Lib.hid (show Blk we (w.heap.size + 1) 49 #[.bool b.s, .string (dec b.n), .string (dec b.d), .bool false] by rw [hwe]; exact (CY.out).far (p := ⟨gf, 1, none⟩) (by simp; omega) _)
    replace RES := Lib.hid (show Blk we (w.heap.size + 2) 49 #[.bool false, .string ⟨#[]⟩, .string ⟨#[]⟩, .bool false] by rw [hwe]; exact (RES.out).far (p := ⟨gf, 1, none⟩) (by simp; omega) _)
    replace FB := Lib.hid (show Blk we (gf) 49 #[.bool b.s, .string (dec (y - x)), .string (dec z), .bool true] by rw [hwe]; exact (FB.out).put 1 (.string (dec (y - x))))
    replace HW := Lib.hid (show Below w.heap.size w we by rw [hwe]; exact bel_set (p := ⟨gf, 1, none⟩) (HW.out) (by show w.heap.size ≤ gf; omega) _)
    clear hwe
    go_wp2_with fail
    refine (refCmp_bb x y _).mono ?_
    rintro e w7 ⟨rfl, hbl⟩
    replace CX := Lib.hid (CX.out.below hbl CX.out.lt)
    replace CY := Lib.hid (CY.out.below hbl CY.out.lt)
    replace RES := Lib.hid (RES.out.below hbl RES.out.lt)
    replace FB := Lib.hid (FB.out.below hbl FB.out.lt)
    replace HW := Lib.hid (bel_trans HW.out hbl); clear hbl
    have d0 : w7.cell? ⟨gf, 0, none⟩ = some (.bool b.s) := FB.out.cell 0
    have d1 : w7.cell? ⟨gf, 1, none⟩ = some (.string (dec (y - x))) := FB.out.cell 1
    have d2 : w7.cell? ⟨gf, 2, none⟩ = some (.string (dec z)) := FB.out.cell 2
    have d3 : w7.cell? ⟨gf, 3, none⟩ = some (.bool true) := FB.out.cell 3
    go_wp2_with fail
    clear d0 d1 d2 d3
    refine (refRed_q b.s (y - x) z true _ (by have := decL_mono (Nat.sub_le y x); have := M.out; omega) (by have := M.out.2.2; omega) HQ.out k_diff).mono ?_
    rintro e w8 ⟨rfl, hbl⟩
    replace CX := Lib.hid (CX.out.below hbl CX.out.lt)
    replace CY := Lib.hid (CY.out.below hbl CY.out.lt)
    replace RES := Lib.hid (RES.out.below hbl RES.out.lt)
    replace FB := Lib.hid (FB.out.below hbl FB.out.lt)
    replace HW := Lib.hid (bel_trans HW.out hbl); clear hbl
    have d0 : w8.cell? ⟨w.heap.size + 2, 0, none⟩ = some (.bool false) := RES.out.cell 0
    have f0 : w8.frozen? ⟨w.heap.size + 2, 0, none⟩ = false := RES.out.frozen 0
    have d1 : w8.cell? ⟨w.heap.size + 2, 1, none⟩ = some (.string ⟨#[]⟩) := RES.out.cell 1
    have f1 : w8.frozen? ⟨w.heap.size + 2, 1, none⟩ = false := RES.out.frozen 1
    have d2 : w8.cell? ⟨w.heap.size + 2, 2, none⟩ = some (.string ⟨#[]⟩) := RES.out.cell 2
    have f2 : w8.frozen? ⟨w.heap.size + 2, 2, none⟩ = false := RES.out.frozen 2
    have d3 : w8.cell? ⟨w.heap.size + 2, 3, none⟩ = some (.bool false) := RES.out.cell 3
    have f3 : w8.frozen? ⟨w.heap.size + 2, 3, none⟩ = false := RES.out.frozen 3
    have D := Lib.hid (And.intro (RES.out.put4 (.bool q.s) (.string (dec q.n)) (.string (dec q.d)) (.bool true)) (bel_set4 (g := w.heap.size + 2) HW.out (by omega) (.bool q.s) (.string (dec q.n)) (.string (dec q.d)) (.bool true)))
    go_wp2
    refine bodyPost_ret (v := .agg #[.bool q.s, .string (dec q.n), .string (dec q.d), .bool true]) ?hr rfl ?hR
    case hR => exact ⟨rfl, D.out.2⟩
    case hr => exact results_cell_row rfl _ _ (w.heap.size + 2) 49 _ (0, 0) _ rfl D.out.1 Try.underlying49 rfl (by kernel_rfl)

set_option maxRecDepth 100000 in
set_option maxHeartbeats 1000000 in
theorem ref_add_get {q : Q} (a b : Q) (w : World) (l1 : (decL a.n).length ≤ 160) (l2 : (decL a.d).length ≤ 160) (l3 : (decL b.n).length ≤ 160) (l4 : (decL b.d).length ≤ 160) (hs : ¬ a.s = b.s) (hl : (b.n * a.d) ≤ (a.n * b.d)) (hq : redQ a.s ((a.n * b.d) - (b.n * a.d)) (a.d * b.d) = q) (ho : decide (Top ≤ (a.n * b.d) + (b.n * a.d)) = true) :
    Calls Try.prog 36 #[.agg #[.bool a.s, .string (dec a.n), .string (dec a.d), .bool false], .agg #[.bool b.s, .string (dec b.n), .string (dec b.d), .bool false]] w (RetFr q true w) := by
  have L := Lib.hid (And.intro l1 (And.intro l2 (And.intro l3 l4))); clear l1 l2 l3 l4
  have M1 := decL_mul a.n b.d
  have M2 := decL_mul b.n a.d
  have M3 := decL_mul a.d b.d
  have M4 := L.out
  have M := Lib.hid (show (decL (a.n * b.d)).length ≤ 320 ∧ (decL (b.n * a.d)).length ≤ 320 ∧ (decL (a.d * b.d)).length ≤ 320 by omega); clear M1 M2 M3 M4
  have MA := Lib.hid (decL_add M.out.1 M.out.2.1 (by decide))
  obtain ⟨x, hx⟩ : ∃ x, x = (a.n * b.d) := ⟨_, rfl⟩
  obtain ⟨y, hy⟩ : ∃ y, y = (b.n * a.d) := ⟨_, rfl⟩
  obtain ⟨z, hz⟩ : ∃ z, z = (a.d * b.d) := ⟨_, rfl⟩
  rw [← hx, ← hy, ← hz] at M
  rw [← hx, ← hy] at MA ho
  rw [← hx, ← hy] at hl
  rw [← hx, ← hy, ← hz] at hq
  have HZ := Lib.hid (And.intro hx (And.intro hy hz)); clear hx hy hz
  have e0 : (a.s == b.s) = false := by simp [hs]
  have e1 : 0 ≤ cmpI (x : Int) (y : Int) := cmp_ge hl
  have HO := Lib.hid ho; clear ho
  have HQ := Lib.hid hq; clear hq
  clear hs
  have HL := Lib.hid hl; clear hl
  obtain ⟨wa, hwa⟩ : ∃ wa, wa = ((w.alloc (.cells #[.bool a.s, .string (dec a.n), .string (dec a.d), .bool false] 49)).alloc (.cells #[.bool b.s, .string (dec b.n), .string (dec b.d), .bool false] 49)).alloc (.cells #[.bool false, .string ⟨#[]⟩, .string ⟨#[]⟩, .bool false] 49) := ⟨_, rfl⟩
  have hbl : Below w.heap.size w wa := by rw [hwa]; exact bel_alloc (bel_alloc (bel_alloc (bel_refl _) _) _) _
  have CX : Blk wa (w.heap.size) 49 #[.bool a.s, .string (dec a.n), .string (dec a.d), .bool false] := by
    have hz := Blk.new (w) 49 #[.bool a.s, .string (dec a.n), .string (dec a.d), .bool false]
    rw [hwa]
    exact ((hz.alloc _).alloc _)
  have CY : Blk wa (w.heap.size + 1) 49 #[.bool b.s, .string (dec b.n), .string (dec b.d), .bool false] := by
    have hz := Blk.new (w.alloc (.cells #[.bool a.s, .string (dec a.n), .string (dec a.d), .bool false] 49)) 49 #[.bool b.s, .string (dec b.n), .string (dec b.d), .bool false]
    rw [World.size_alloc] at hz
    rw [hwa]
    exact (hz.alloc _)
  have RES : Blk wa (w.heap.size + 2) 49 #[.bool false, .string ⟨#[]⟩, .string ⟨#[]⟩, .bool false] := by
    have hz := Blk.new ((w.alloc (.cells #[.bool a.s, .string (dec a.n), .string (dec a.d), .bool false] 49)).alloc (.cells #[.bool b.s, .string (dec b.n), .string (dec b.d), .bool false] 49)) 49 #[.bool false, .string ⟨#[]⟩, .string ⟨#[]⟩, .bool false]
    rw [World.size_alloc, World.size_alloc] at hz
    rw [hwa]
    exact hz
  have HW := Lib.hid hbl; clear hbl
  replace CX := Lib.hid CX
  replace CY := Lib.hid CY
  replace RES := Lib.hid RES
  go_enter Try.func36, Try.ntmps36
  go_wp2_with fail
  rw [← hwa]
  clear hwa
  have CX0 : wa.cell? ⟨w.heap.size, 0, none⟩ = some (.bool a.s) := CX.out.cell 0
  have CX1 : wa.cell? ⟨w.heap.size, 1, none⟩ = some (.string (dec a.n)) := CX.out.cell 1
  have CX2 : wa.cell? ⟨w.heap.size, 2, none⟩ = some (.string (dec a.d)) := CX.out.cell 2
  have CY0 : wa.cell? ⟨w.heap.size + 1, 0, none⟩ = some (.bool b.s) := CY.out.cell 0
  have CY1 : wa.cell? ⟨w.heap.size + 1, 1, none⟩ = some (.string (dec b.n)) := CY.out.cell 1
  have CY2 : wa.cell? ⟨w.heap.size + 1, 2, none⟩ = some (.string (dec b.d)) := CY.out.cell 2
  refine (refMul_any a.n b.d _ (by have := L.out.1; omega) (by have := L.out.2.2.2; omega)).mono ?_
  rintro e w1 ⟨rfl, hbl⟩
  replace CX := Lib.hid (CX.out.below hbl CX.out.lt)
  replace CY := Lib.hid (CY.out.below hbl CY.out.lt)
  replace RES := Lib.hid (RES.out.below hbl RES.out.lt)
  replace HW := Lib.hid (bel_trans HW.out hbl); clear hbl
  clear CX0 CX1 CX2 CY0 CY1 CY2
  have CX0 : w1.cell? ⟨w.heap.size, 0, none⟩ = some (.bool a.s) := CX.out.cell 0
  have CX1 : w1.cell? ⟨w.heap.size, 1, none⟩ = some (.string (dec a.n)) := CX.out.cell 1
  have CX2 : w1.cell? ⟨w.heap.size, 2, none⟩ = some (.string (dec a.d)) := CX.out.cell 2
  have CY0 : w1.cell? ⟨w.heap.size + 1, 0, none⟩ = some (.bool b.s) := CY.out.cell 0
  have CY1 : w1.cell? ⟨w.heap.size + 1, 1, none⟩ = some (.string (dec b.n)) := CY.out.cell 1
  have CY2 : w1.cell? ⟨w.heap.size + 1, 2, none⟩ = some (.string (dec b.d)) := CY.out.cell 2
  rw [← HZ.out.1]
  go_wp2_with fail
  refine (refMul_any b.n a.d _ (by have := L.out.2.2.1; omega) (by have := L.out.2.1; omega)).mono ?_
  rintro e w2 ⟨rfl, hbl⟩
  replace CX := Lib.hid (CX.out.below hbl CX.out.lt)
  replace CY := Lib.hid (CY.out.below hbl CY.out.lt)
  replace RES := Lib.hid (RES.out.below hbl RES.out.lt)
  replace HW := Lib.hid (bel_trans HW.out hbl); clear hbl
  clear CX0 CX1 CX2 CY0 CY1 CY2
  have CX0 : w2.cell? ⟨w.heap.size, 0, none⟩ = some (.bool a.s) := CX.out.cell 0
  have CX1 : w2.cell? ⟨w.heap.size, 1, none⟩ = some (.string (dec a.n)) := CX.out.cell 1
  have CX2 : w2.cell? ⟨w.heap.size, 2, none⟩ = some (.string (dec a.d)) := CX.out.cell 2
  have CY0 : w2.cell? ⟨w.heap.size + 1, 0, none⟩ = some (.bool b.s) := CY.out.cell 0
  have CY1 : w2.cell? ⟨w.heap.size + 1, 1, none⟩ = some (.string (dec b.n)) := CY.out.cell 1
  have CY2 : w2.cell? ⟨w.heap.size + 1, 2, none⟩ = some (.string (dec b.d)) := CY.out.cell 2
  rw [← HZ.out.2.1]
  go_wp2_with fail
  clear CX0 CX1 CX2 CY0 CY1 CY2
  have hsz0 : w.heap.size + 2 < w2.heap.size := RES.out.lt
  refine wp_region_typed 12 (TOf [VIs (.pointer (some ⟨w.heap.size, 0, none⟩)),
      VIs (.bool a.s),
      VIs (.string (dec x)),
      VIs (.string (dec y)),
      VIs (.string (dec (x + y))),
      VIs (.pointer (some ⟨w.heap.size, 2, none⟩)),
      VIs (.string (dec a.d)),
      VIs (.pointer (some ⟨w.heap.size + 1, 2, none⟩)),
      VIs (.string (dec b.d)),
      VIs (.string (dec z)),
      VIs (.agg #[.bool a.s, .string (dec (x + y)), .string (dec z), .bool false]),
      VNewF w2.heap.size 49 #[.bool false, .string ⟨#[]⟩, .string ⟨#[]⟩, .bool false]]) (by kernel_rfl) (by kernel_rfl) (by kernel_rfl) (LiftAll.at_ (.cons (VIs.lift _) (.cons (VIs.lift _) (.cons (VIs.lift _) (.cons (VIs.lift _) (.cons (VIs.lift _) (.cons (VIs.lift _) (.cons (VIs.lift _) (.cons (VIs.lift _) (.cons (VIs.lift _) (.cons (VIs.lift _) (.cons (VIs.lift _) (.cons (VNewF.lift _ _ _) .nil))))))))))))) (steps_all (steps_cons ?_ (steps_cons ?_ (steps_cons ?_ (steps_cons ?_ (steps_cons ?_ (steps_cons ?_ (steps_cons ?_ (steps_cons ?_ (steps_cons ?_ (steps_cons ?_ (steps_cons ?_ (steps_cons ?_ steps_zero))))))))))))) ?fin
  · intro a0 w9 K9 hF hB hK hC
    have b2 := hF.base (k := 2) (v := .pointer (some ⟨w.heap.size, 0, none⟩)) (by kernel_rfl) rfl
    clear hF hB hK
    go_simp
    exact hC _ _ (bel_refl _) fun _ _ => rfl
  · intro a0 w9 K9 hF hB hK hC
    obtain ⟨v18, e18, z18⟩ := dep hK 0 (g := .data) (j := 0) (k := 18) rfl rfl rfl
    have z18 : v18 = .pointer (some ⟨w.heap.size, 0, none⟩) := z18
    subst z18
    have x9 : w9.cell? ⟨w.heap.size, 0, none⟩ = some (.bool a.s) := (CX.out.below hB CX.out.lt).cell 0
    clear hF hB hK
    go_simp
    exact hC _ _ (bel_refl _) fun _ _ => rfl
  · intro a0 w9 K9 hF hB hK hC
    have b5 := hF.base (k := 5) (v := .string (dec x)) (by kernel_rfl) rfl
    clear hF hB hK
    go_simp
    exact hC _ _ (bel_refl _) fun _ _ => rfl
  · intro a0 w9 K9 hF hB hK hC
    have b6 := hF.base (k := 6) (v := .string (dec y)) (by kernel_rfl) rfl
    clear hF hB hK
    go_simp
    exact hC _ _ (bel_refl _) fun _ _ => rfl
  · intro a0 w9 K9 hF hB hK hC
    obtain ⟨v20, e20, z20⟩ := dep hK 0 (g := .data) (j := 2) (k := 20) rfl rfl rfl
    have z20 : v20 = .string (dec x) := z20
    subst z20
    obtain ⟨v21, e21, z21⟩ := dep hK 1 (g := .data) (j := 3) (k := 21) rfl rfl rfl
    have z21 : v21 = .string (dec y) := z21
    subst z21
    have HB9 := Lib.hid hB
    clear hF hB hK
    go_simp
    refine (refAdd_any x y _ (by have := M.out.1; omega) (by have := M.out.2.1; omega)).mono ?_
    rintro e w7 ⟨rfl, hbl⟩
    exact hC _ _ hbl fun _ _ => rfl
  · intro a0 w9 K9 hF hB hK hC
    have b2 := hF.base (k := 2) (v := .pointer (some ⟨w.heap.size, 0, none⟩)) (by kernel_rfl) rfl
    clear hF hB hK
    go_simp
    exact hC _ _ (bel_refl _) fun _ _ => rfl
  · intro a0 w9 K9 hF hB hK hC
    obtain ⟨v23, e23, z23⟩ := dep hK 0 (g := .data) (j := 5) (k := 23) rfl rfl rfl
    have z23 : v23 = .pointer (some ⟨w.heap.size, 2, none⟩) := z23
    subst z23
    have x9 : w9.cell? ⟨w.heap.size, 2, none⟩ = some (.string (dec a.d)) := (CX.out.below hB CX.out.lt).cell 2
    clear hF hB hK
    go_simp
    exact hC _ _ (bel_refl _) fun _ _ => rfl
  · intro a0 w9 K9 hF hB hK hC
    have b3 := hF.base (k := 3) (v := .pointer (some ⟨w.heap.size + 1, 0, none⟩)) (by kernel_rfl) rfl
    clear hF hB hK
    go_simp
    exact hC _ _ (bel_refl _) fun _ _ => rfl
  · intro a0 w9 K9 hF hB hK hC
    obtain ⟨v25, e25, z25⟩ := dep hK 0 (g := .data) (j := 7) (k := 25) rfl rfl rfl
    have z25 : v25 = .pointer (some ⟨w.heap.size + 1, 2, none⟩) := z25
    subst z25
    have x9 : w9.cell? ⟨w.heap.size + 1, 2, none⟩ = some (.string (dec b.d)) := (CY.out.below hB CY.out.lt).cell 2
    clear hF hB hK
    go_simp
    exact hC _ _ (bel_refl _) fun _ _ => rfl
  · intro a0 w9 K9 hF hB hK hC
    obtain ⟨v24, e24, z24⟩ := dep hK 0 (g := .data) (j := 6) (k := 24) rfl rfl rfl
    have z24 : v24 = .string (dec a.d) := z24
    subst z24
    obtain ⟨v26, e26, z26⟩ := dep hK 1 (g := .data) (j := 8) (k := 26) rfl rfl rfl
    have z26 : v26 = .string (dec b.d) := z26
    subst z26
    have HB9 := Lib.hid hB
    clear hF hB hK
    go_simp
    refine (refMul_any a.d b.d _ (by have := L.out.2.1; omega) (by have := L.out.2.2.2; omega)).mono ?_
    rintro e w7 ⟨rfl, hbl⟩
    rw [← HZ.out.2.2]
    exact hC _ _ hbl fun _ _ => rfl
  · intro a0 w9 K9 hF hB hK hC
    obtain ⟨v19, e19, z19⟩ := dep hK 0 (g := .data) (j := 1) (k := 19) rfl rfl rfl
    have z19 : v19 = .bool a.s := z19
    subst z19
    obtain ⟨v22, e22, z22⟩ := dep hK 1 (g := .data) (j := 4) (k := 22) rfl rfl rfl
    have z22 : v22 = .string (dec (x + y)) := z22
    subst z22
    obtain ⟨v27, e27, z27⟩ := dep hK 2 (g := .data) (j := 9) (k := 27) rfl rfl rfl
    have z27 : v27 = .string (dec z) := z27
    subst z27
    have HB9 := Lib.hid hB
    clear hF hB hK
    go_simp
    exact hC _ _ (bel_refl _) fun _ _ => rfl
  · intro a0 w9 K9 hF hB hK hC
    have HB9 := Lib.hid hB
    clear hF hB hK
    go_simp
    exact hC _ _ (bel_alloc (bel_refl _) _) fun _ _ => ⟨_, rfl, HB9.out.size, Blk.new _ _ _⟩
  case fin =>
    intro a0 w9 hF hB hK
    have b2 := hF.base (k := 2) (v := .pointer (some ⟨w.heap.size, 0, none⟩)) (by kernel_rfl) rfl
    have b3 := hF.base (k := 3) (v := .pointer (some ⟨w.heap.size + 1, 0, none⟩)) (by kernel_rfl) rfl
    have b4 := hF.base (k := 4) (v := .pointer (some ⟨w.heap.size + 2, 0, none⟩)) (by kernel_rfl) rfl
    have b5 := hF.base (k := 5) (v := .string (dec x)) (by kernel_rfl) rfl
    have b6 := hF.base (k := 6) (v := .string (dec y)) (by kernel_rfl) rfl
    have hsz := hF.size
    have hdf := hF.defers
    clear hF
    obtain ⟨v7, e7, z7⟩ := known hK 11 (k := 7) (by decide) rfl
    have z7 : ∃ g, v7 = .pointer (some ⟨g, 0, none⟩) ∧ w2.heap.size ≤ g ∧ Blk w9 g 49 #[.bool false, .string ⟨#[]⟩, .string ⟨#[]⟩, .bool false] := z7
    obtain ⟨gf, rfl, hgf, FB⟩ := z7
    obtain ⟨v28, e28, z28⟩ := known hK 10 (k := 28) (by decide) rfl
    have z28 : v28 = .agg #[.bool a.s, .string (dec (x + y)), .string (dec z), .bool false] := z28
    subst z28
    clear hK
    obtain ⟨⟨l0⟩, df⟩ := a0
    have hs0 : l0.length = 63 := hsz
    clear hsz
    replace hdf : df = _ := hdf
    subst hdf
    obtain ⟨u, rfl⟩ := lits_63 hs0
    clear hs0
    have q2 : u 2 = _ := Option.some.inj b2
    clear b2
    have q3 : u 3 = _ := Option.some.inj b3
    clear b3
    have q4 : u 4 = _ := Option.some.inj b4
    clear b4
    have q5 : u 5 = _ := Option.some.inj b5
    clear b5
    have q6 : u 6 = _ := Option.some.inj b6
    clear b6
    have q7 : u 7 = _ := Option.some.inj e7
    clear e7
    have q28 : u 28 = _ := Option.some.inj e28
    clear e28
    rw [q2, q3, q4, q5, q6, q7, q28]
    clear q2 q3 q4 q5 q6 q7 q28
    have hbl := hB; clear hB
    replace CX := Lib.hid (CX.out.below hbl CX.out.lt)
    replace CY := Lib.hid (CY.out.below hbl CY.out.lt)
    replace RES := Lib.hid (RES.out.below hbl RES.out.lt)
    replace HW := Lib.hid (bel_trans HW.out hbl); clear hbl
    simp only [List.drop_succ_cons, List.drop_zero]
    replace FB := Lib.hid FB
    have gl : w.heap.size + 2 < gf := by omega
    have d0 : w9.cell? ⟨gf, 0, none⟩ = some (.bool false) := FB.out.cell 0
    have f0 : w9.frozen? ⟨gf, 0, none⟩ = false := FB.out.frozen 0
    have d1 : w9.cell? ⟨gf, 1, none⟩ = some (.string ⟨#[]⟩) := FB.out.cell 1
    have f1 : w9.frozen? ⟨gf, 1, none⟩ = false := FB.out.frozen 1
    have d2 : w9.cell? ⟨gf, 2, none⟩ = some (.string ⟨#[]⟩) := FB.out.cell 2
    have f2 : w9.frozen? ⟨gf, 2, none⟩ = false := FB.out.frozen 2
    have d3 : w9.cell? ⟨gf, 3, none⟩ = some (.bool false) := FB.out.cell 3
    have f3 : w9.frozen? ⟨gf, 3, none⟩ = false := FB.out.frozen 3
    go_wp2_with fail
    clear d0 d1 d2 d3 f0 f1 f2 f3
    obtain ⟨wb, hwb⟩ : ∃ wb, wb = ((((w9.setCell ⟨gf, 0, none⟩ (.bool a.s)).setCell ⟨gf, 1, none⟩ (.string (dec (x + y)))).setCell ⟨gf, 2, none⟩ (.string (dec z))).setCell ⟨gf, 3, none⟩ (.bool false)) := ⟨_, rfl⟩
    rw [← hwb]
    replace CX := Lib.hid (show Blk wb (w.heap.size) 49 #[.bool a.s, .string (dec a.n), .string (dec a.d), .bool false] by rw [hwb]; exact ((((CX.out).far (p := ⟨gf, 0, none⟩) (by simp; omega) _).far (p := ⟨gf, 1, none⟩) (by simp; omega) _).far (p := ⟨gf, 2, none⟩) (by simp; omega) _).far (p := ⟨gf, 3, none⟩) (by simp; omega) _)
    replace CY := Lib.hid (show Blk wb (w.heap.size + 1) 49 #[.bool b.s, .string (dec b.n), .string (dec b.d), .bool false] by rw [hwb]; exact ((((CY.out).far (p := ⟨gf, 0, none⟩) (by simp; omega) _).far (p := ⟨gf, 1, none⟩) (by simp; omega) _).far (p := ⟨gf, 2, none⟩) (by simp; omega) _).far (p := ⟨gf, 3, none⟩) (by simp; omega) _)
    replace RES := Lib.hid (show Blk wb (w.heap.size + 2) 49 #[.bool false, .string ⟨#[]⟩, .string ⟨#[]⟩, .bool false] by rw [hwb]; exact ((((RES.out).far (p := ⟨gf, 0, none⟩) (by simp; omega) _).far (p := ⟨gf, 1, none⟩) (by simp; omega) _).far (p := ⟨gf, 2, none⟩) (by simp; omega) _).far (p := ⟨gf, 3, none⟩) (by simp; omega) _)
    replace FB := Lib.hid (show Blk wb (gf) 49 #[.bool a.s, .string (dec (x + y)), .string (dec z), .bool false] by rw [hwb]; exact ((((FB.out).put 0 (.bool a.s)).put 1 (.string (dec (x + y)))).put 2 (.string (dec z))).put 3 (.bool false))
    replace HW := Lib.hid (show Below w.heap.size w wb by rw [hwb]; exact bel_set (p := ⟨gf, 3, none⟩) (bel_set (p := ⟨gf, 2, none⟩) (bel_set (p := ⟨gf, 1, none⟩) (bel_set (p := ⟨gf, 0, none⟩) (HW.out) (by show w.heap.size ≤ gf; omega) _) (by show w.heap.size ≤ gf; omega) _) (by show w.heap.size ≤ gf; omega) _) (by show w.heap.size ≤ gf; omega) _)
    clear hwb
    refine (refOver_any (x + y) _).mono ?_
    rintro e w3 ⟨rfl, hbl⟩
    replace CX := Lib.hid (CX.out.below hbl CX.out.lt)
    replace CY := Lib.hid (CY.out.below hbl CY.out.lt)
    replace RES := Lib.hid (RES.out.below hbl RES.out.lt)
    replace FB := Lib.hid (FB.out.below hbl FB.out.lt)
    replace HW := Lib.hid (bel_trans HW.out hbl); clear hbl
    rw [HO.out]
    have f3 : w3.frozen? ⟨gf, 3, none⟩ = false := FB.out.frozen 3
    have d3 := FB.out.cell 3
    go_upto_region 5 with fail
    clear f3 d3
    obtain ⟨wc, hwc⟩ : ∃ wc, wc = (w3.setCell ⟨gf, 3, none⟩ (.bool true)) := ⟨_, rfl⟩
    rw [← hwc]
    replace CX := Lib.hid (show Blk wc (w.heap.size) 49 #[.bool a.s, .string (dec a.n), .string (dec a.d), .bool false] by rw [hwc]; exact (CX.out).far (p := ⟨gf, 3, none⟩) (by simp; omega) _)
    replace CY := Lib.hid (show Blk wc (w.heap.size + 1) 49 #[.bool b.s, .string (dec b.n), .string (dec b.d), .bool false] by rw [hwc]; exact (CY.out).far (p := ⟨gf, 3, none⟩) (by simp; omega) _)
    replace RES := Lib.hid (show Blk wc (w.heap.size + 2) 49 #[.bool false, .string ⟨#[]⟩, .string ⟨#[]⟩, .bool false] by rw [hwc]; exact (RES.out).far (p := ⟨gf, 3, none⟩) (by simp; omega) _)
    replace FB := Lib.hid (show Blk wc (gf) 49 #[.bool a.s, .string (dec (x + y)), .string (dec z), .bool true] by rw [hwc]; exact (FB.out).put 3 (.bool true))
    replace HW := Lib.hid (show Below w.heap.size w wc by rw [hwc]; exact bel_set (p := ⟨gf, 3, none⟩) (HW.out) (by show w.heap.size ≤ gf; omega) _)
    clear hwc
    have X0 : wc.cell? ⟨w.heap.size, 0, none⟩ = some (.bool a.s) := CX.out.cell 0
    have Y0 : wc.cell? ⟨w.heap.size + 1, 0, none⟩ = some (.bool b.s) := CY.out.cell 0
    have f0 : wc.frozen? ⟨gf, 0, none⟩ = false := FB.out.frozen 0
    have d0 := FB.out.cell 0
    go_upto_region 7 with fail
    clear X0 Y0 f0 d0
    obtain ⟨wd, hwd⟩ : ∃ wd, wd = (wc.setCell ⟨gf, 0, none⟩ (.bool b.s)) := ⟨_, rfl⟩
    rw [← hwd]
    replace CX := Lib.hid (show Blk wd (w.heap.size) 49 #[.bool a.s, .string (dec a.n), .string (dec a.d), .bool false] by rw [hwd]; exact (CX.out).far (p := ⟨gf, 0, none⟩) (by simp; omega) _)
    replace CY := Lib.hid (show Blk wd (w.heap.size + 1) 49 #[.bool b.s, .string (dec b.n), .string (dec b.d), .bool false] by rw [hwd]; exact (CY.out).far (p := ⟨gf, 0, none⟩) (by simp; omega) _)
    replace RES := Lib.hid (show Blk wd (w.heap.size + 2) 49 #[.bool false, .string ⟨#[]⟩, .string ⟨#[]⟩, .bool false] by rw [hwd]; exact (RES.out).far (p := ⟨gf, 0, none⟩) (by simp; omega) _)
    replace FB := Lib.hid (show Blk wd (gf) 49 #[.bool b.s, .string (dec (x + y)), .string (dec z), .bool true] by rw [hwd]; exact (FB.out).put 0 (.bool b.s))
    replace HW := Lib.hid (show Below w.heap.size w wd by rw [hwd]; exact bel_set (p := ⟨gf, 0, none⟩) (HW.out) (by show w.heap.size ≤ gf; omega) _)
    clear hwd
    go_wp2_with fail
    refine (ref_larger_ge x y _ HL.out).mono ?_
    rintro e w4 ⟨rfl, hbl⟩
    replace CX := Lib.hid (CX.out.below hbl CX.out.lt)
    replace CY := Lib.hid (CY.out.below hbl CY.out.lt)
    replace RES := Lib.hid (RES.out.below hbl RES.out.lt)
    replace FB := Lib.hid (FB.out.below hbl FB.out.lt)
    replace HW := Lib.hid (bel_trans HW.out hbl); clear hbl
    go_wp2_with fail
    refine (ref_smaller_ge x y _ HL.out).mono ?_
    rintro e w5 ⟨rfl, hbl⟩
    replace CX := Lib.hid (CX.out.below hbl CX.out.lt)
    replace CY := Lib.hid (CY.out.below hbl CY.out.lt)
    replace RES := Lib.hid (RES.out.below hbl RES.out.lt)
    replace FB := Lib.hid (FB.out.below hbl FB.out.lt)
    replace HW := Lib.hid (bel_trans HW.out hbl); clear hbl
    go_wp2_with fail
    refine (refSub_any x y _ (by have := M.out; omega) (by have := M.out; omega) HL.out).mono ?_
    rintro e w6 ⟨rfl, hbl⟩
    replace CX := Lib.hid (CX.out.below hbl CX.out.lt)
    replace CY := Lib.hid (CY.out.below hbl CY.out.lt)
    replace RES := Lib.hid (RES.out.below hbl RES.out.lt)
    replace FB := Lib.hid (FB.out.below hbl FB.out.lt)
    replace HW := Lib.hid (bel_trans HW.out hbl); clear hbl
    have f1 : w6.frozen? ⟨gf, 1, none⟩ = false := FB.out.frozen 1
    have d1 := FB.out.cell 1
    go_upto_region 8 with fail
    clear f1 d1
    obtain ⟨we, hwe⟩ : ∃ we, we = (w6.setCell ⟨gf, 1, none⟩ (.string (dec (x - y)))) := ⟨_, rfl⟩
    rw [← hwe]
    replace CX := Lib.hid (show Blk we (w.heap.size) 49 #[.bool a.s, .string (dec a.n), .string (dec a.d), .bool false] by rw [hwe]; exact (CX.out).far (p := ⟨gf, 1, none⟩) (by simp; omega) _)
    replace CY := Lib.hid (show Blk we (w.heap.size + 1) 49 #[.bool b.s, .string (dec b.n), .string (dec b.d), .bool false] by rw [hwe]; exact (CY.out).far (p := ⟨gf, 1, none⟩) (by simp; omega) _)
    replace RES := Lib.hid (show Blk we (w.heap.size + 2) 49 #[.bool false, .string ⟨#[]⟩, .string ⟨#[]⟩, .bool false] by rw [hwe]; exact (RES.out).far (p := ⟨gf, 1, none⟩) (by simp; omega) _)
    replace FB := Lib.hid (show Blk we (gf) 49 #[.bool b.s, .string (dec (x - y)), .string (dec z), .bool true] by rw [hwe]; exact (FB.out).put 1 (.string (dec (x - y))))
    replace HW := Lib.hid (show Below w.heap.size w we by rw [hwe]; exact bel_set (p := ⟨gf, 1, none⟩) (HW.out) (by show w.heap.size ≤ gf; omega) _)
    clear hwe
    go_wp2_with fail
    refine (refCmp_bb x y _).mono ?_
    rintro e w7 ⟨rfl, hbl⟩
    replace CX := Lib.hid (CX.out.below hbl CX.out.lt)
    replace CY := Lib.hid (CY.out.below hbl CY.out.lt)
    replace RES := Lib.hid (RES.out.below hbl RES.out.lt)
    replace FB := Lib.hid (FB.out.below hbl FB.out.lt)
    replace HW := Lib.hid (bel_trans HW.out hbl); clear hbl
    have X0 : w7.cell? ⟨w.heap.size, 0, none⟩ = some (.bool a.s) := CX.out.cell 0
    have f0 : w7.frozen? ⟨gf, 0, none⟩ = false := FB.out.frozen 0
    have d0 := FB.out.cell 0
    go_upto_region 10 with fail
    clear X0 f0 d0
    obtain ⟨wf, hwf⟩ : ∃ wf, wf = (w7.setCell ⟨gf, 0, none⟩ (.bool a.s)) := ⟨_, rfl⟩
    rw [← hwf]
    replace CX := Lib.hid (show Blk wf (w.heap.size) 49 #[.bool a.s, .string (dec a.n), .string (dec a.d), .bool false] by rw [hwf]; exact (CX.out).far (p := ⟨gf, 0, none⟩) (by simp; omega) _)
    replace CY := Lib.hid (show Blk wf (w.heap.size + 1) 49 #[.bool b.s, .string (dec b.n), .string (dec b.d), .bool false] by rw [hwf]; exact (CY.out).far (p := ⟨gf, 0, none⟩) (by simp; omega) _)
    replace RES := Lib.hid (show Blk wf (w.heap.size + 2) 49 #[.bool false, .string ⟨#[]⟩, .string ⟨#[]⟩, .bool false] by rw [hwf]; exact (RES.out).far (p := ⟨gf, 0, none⟩) (by simp; omega) _)
    replace FB := Lib.hid (show Blk wf (gf) 49 #[.bool a.s, .string (dec (x - y)), .string (dec z), .bool true] by rw [hwf]; exact (FB.out).put 0 (.bool a.s))
    replace HW := Lib.hid (show Below w.heap.size w wf by rw [hwf]; exact bel_set (p := ⟨gf, 0, none⟩) (HW.out) (by show w.heap.size ≤ gf; omega) _)
    clear hwf
    have d0 : wf.cell? ⟨gf, 0, none⟩ = some (.bool a.s) := FB.out.cell 0
    have d1 : wf.cell? ⟨gf, 1, none⟩ = some (.string (dec (x - y))) := FB.out.cell 1
    have d2 : wf.cell? ⟨gf, 2, none⟩ = some (.string (dec z)) := FB.out.cell 2
    have d3 : wf.cell? ⟨gf, 3, none⟩ = some (.bool true) := FB.out.cell 3
    go_wp2_with fail
    clear d0 d1 d2 d3
    refine (refRed_q a.s (x - y) z true _ (by have := decL_mono (Nat.sub_le x y); have := M.out; omega) (by have := M.out.2.2; omega) HQ.out k_diff).mono ?_
    rintro e w8 ⟨rfl, hbl⟩
    replace CX := Lib.hid (CX.out.below hbl CX.out.lt)
    replace CY := Lib.hid (CY.out.below hbl CY.out.lt)
    replace RES := Lib.hid (RES.out.below hbl RES.out.lt)
    replace FB := Lib.hid (FB.out.below hbl FB.out.lt)
    replace HW := Lib.hid (bel_trans HW.out hbl); clear hbl
    have d0 : w8.cell? ⟨w.heap.size + 2, 0, none⟩ = some (.bool false) := RES.out.cell 0
    have f0 : w8.frozen? ⟨w.heap.size + 2, 0, none⟩ = false := RES.out.frozen 0
    have d1 : w8.cell? ⟨w.heap.size + 2, 1, none⟩ = some (.string ⟨#[]⟩) := RES.out.cell 1
    have f1 : w8.frozen? ⟨w.heap.size + 2, 1, none⟩ = false := RES.out.frozen 1
    have d2 : w8.cell? ⟨w.heap.size + 2, 2, none⟩ = some (.string ⟨#[]⟩) := RES.out.cell 2
    have f2 : w8.frozen? ⟨w.heap.size + 2, 2, none⟩ = false := RES.out.frozen 2
    have d3 : w8.cell? ⟨w.heap.size + 2, 3, none⟩ = some (.bool false) := RES.out.cell 3
    have f3 : w8.frozen? ⟨w.heap.size + 2, 3, none⟩ = false := RES.out.frozen 3
    have D := Lib.hid (And.intro (RES.out.put4 (.bool q.s) (.string (dec q.n)) (.string (dec q.d)) (.bool true)) (bel_set4 (g := w.heap.size + 2) HW.out (by omega) (.bool q.s) (.string (dec q.n)) (.string (dec q.d)) (.bool true)))
    go_wp2
    refine bodyPost_ret (v := .agg #[.bool q.s, .string (dec q.n), .string (dec q.d), .bool true]) ?hr rfl ?hR
    case hR => exact ⟨rfl, D.out.2⟩
    case hr => exact results_cell_row rfl _ _ (w.heap.size + 2) 49 _ (0, 0) _ rfl D.out.1 Try.underlying49 rfl (by kernel_rfl)

set_option maxRecDepth 100000 in
set_option maxHeartbeats 1000000 in
theorem ref_add_samef {q : Q} (a b : Q) (w : World) (l1 : (decL a.n).length ≤ 160) (l2 : (decL a.d).length ≤ 160) (l3 : (decL b.n).length ≤ 160) (l4 : (decL b.d).length ≤ 160) (hs : a.s = b.s) (hq : redQ a.s ((a.n * b.d) + (b.n * a.d)) (a.d * b.d) = q) (ho : decide (Top ≤ (a.n * b.d) + (b.n * a.d)) = false) :
    Calls Try.prog 36 #[.agg #[.bool a.s, .string (dec a.n), .string (dec a.d), .bool false], .agg #[.bool b.s, .string (dec b.n), .string (dec b.d), .bool false]] w (RetFr q (decide (Top ≤ (a.d * b.d))) w) := by
  have L := Lib.hid (And.intro l1 (And.intro l2 (And.intro l3 l4))); clear l1 l2 l3 l4
  have M1 := decL_mul a.n b.d
  have M2 := decL_mul b.n a.d
  have M3 := decL_mul a.d b.d
  have M4 := L.out
  have M := Lib.hid (show (decL (a.n * b.d)).length ≤ 320 ∧ (decL (b.n * a.d)).length ≤ 320 ∧ (decL (a.d * b.d)).length ≤ 320 by omega); clear M1 M2 M3 M4
  have MA := Lib.hid (decL_add M.out.1 M.out.2.1 (by decide))
  obtain ⟨x, hx⟩ : ∃ x, x = (a.n * b.d) := ⟨_, rfl⟩
  obtain ⟨y, hy⟩ : ∃ y, y = (b.n * a.d) := ⟨_, rfl⟩
  obtain ⟨z, hz⟩ : ∃ z, z = (a.d * b.d) := ⟨_, rfl⟩
  rw [← hx, ← hy, ← hz] at M
  rw [← hx, ← hy] at MA ho

  rw [← hx, ← hy, ← hz] at hq
  have HZ := Lib.hid (And.intro hx (And.intro hy hz)); clear hx hy hz
  have e0 : (a.s == b.s) = true := by simp [hs]
  have HO := Lib.hid ho; clear ho
  have HQ := Lib.hid hq; clear hq
  clear hs
  obtain ⟨wa, hwa⟩ : ∃ wa, wa = ((w.alloc (.cells #[.bool a.s, .string (dec a.n), .string (dec a.d), .bool false] 49)).alloc (.cells #[.bool b.s, .string (dec b.n), .string (dec b.d), .bool false] 49)).alloc (.cells #[.bool false, .string ⟨#[]⟩, .string ⟨#[]⟩, .bool false] 49) := ⟨_, rfl⟩
  have hbl : Below w.heap.size w wa := by rw [hwa]; exact bel_alloc (bel_alloc (bel_alloc (bel_refl _) _) _) _
  have CX : Blk wa (w.heap.size) 49 #[.bool a.s, .string (dec a.n), .string (dec a.d), .bool false] := by
    have hz := Blk.new (w) 49 #[.bool a.s, .string (dec a.n), .string (dec a.d), .bool false]
    rw [hwa]
    exact ((hz.alloc _).alloc _)
  have CY : Blk wa (w.heap.size + 1) 49 #[.bool b.s, .string (dec b.n), .string (dec b.d), .bool false] := by
    have hz := Blk.new (w.alloc (.cells #[.bool a.s, .string (dec a.n), .string (dec a.d), .bool false] 49)) 49 #[.bool b.s, .string (dec b.n), .string (dec b.d), .bool false]
    rw [World.size_alloc] at hz
    rw [hwa]
    exact (hz.alloc _)
  have RES : Blk wa (w.heap.size + 2) 49 #[.bool false, .string ⟨#[]⟩, .string ⟨#[]⟩, .bool false] := by
    have hz := Blk.new ((w.alloc (.cells #[.bool a.s, .string (dec a.n), .string (dec a.d), .bool false] 49)).alloc (.cells #[.bool b.s, .string (dec b.n), .string (dec b.d), .bool false] 49)) 49 #[.bool false, .string ⟨#[]⟩, .string ⟨#[]⟩, .bool false]
    rw [World.size_alloc, World.size_alloc] at hz
    rw [hwa]
    exact hz
  have HW := Lib.hid hbl; clear hbl
  replace CX := Lib.hid CX
  replace CY := Lib.hid CY
  replace RES := Lib.hid RES
  go_enter Try.func36, Try.ntmps36
  go_wp2_with fail
  rw [← hwa]
  clear hwa
  have CX0 : wa.cell? ⟨w.heap.size, 0, none⟩ = some (.bool a.s) := CX.out.cell 0
  have CX1 : wa.cell? ⟨w.heap.size, 1, none⟩ = some (.string (dec a.n)) := CX.out.cell 1
  have CX2 : wa.cell? ⟨w.heap.size, 2, none⟩ = some (.string (dec a.d)) := CX.out.cell 2
  have CY0 : wa.cell? ⟨w.heap.size + 1, 0, none⟩ = some (.bool b.s) := CY.out.cell 0
  have CY1 : wa.cell? ⟨w.heap.size + 1, 1, none⟩ = some (.string (dec b.n)) := CY.out.cell 1
  have CY2 : wa.cell? ⟨w.heap.size + 1, 2, none⟩ = some (.string (dec b.d)) := CY.out.cell 2
  refine (refMul_any a.n b.d _ (by have := L.out.1; omega) (by have := L.out.2.2.2; omega)).mono ?_
  rintro e w1 ⟨rfl, hbl⟩
  replace CX := Lib.hid (CX.out.below hbl CX.out.lt)
  replace CY := Lib.hid (CY.out.below hbl CY.out.lt)
  replace RES := Lib.hid (RES.out.below hbl RES.out.lt)
  replace HW := Lib.hid (bel_trans HW.out hbl); clear hbl
  clear CX0 CX1 CX2 CY0 CY1 CY2
  have CX0 : w1.cell? ⟨w.heap.size, 0, none⟩ = some (.bool a.s) := CX.out.cell 0
  have CX1 : w1.cell? ⟨w.heap.size, 1, none⟩ = some (.string (dec a.n)) := CX.out.cell 1
  have CX2 : w1.cell? ⟨w.heap.size, 2, none⟩ = some (.string (dec a.d)) := CX.out.cell 2
  have CY0 : w1.cell? ⟨w.heap.size + 1, 0, none⟩ = some (.bool b.s) := CY.out.cell 0
  have CY1 : w1.cell? ⟨w.heap.size + 1, 1, none⟩ = some (.string (dec b.n)) := CY.out.cell 1
  have CY2 : w1.cell? ⟨w.heap.size + 1, 2, none⟩ = some (.string (dec b.d)) := CY.out.cell 2
  rw [← HZ.out.1]
  go_wp2_with fail
  refine (refMul_any b.n a.d _ (by have := L.out.2.2.1; omega) (by have := L.out.2.1; omega)).mono ?_
  rintro e w2 ⟨rfl, hbl⟩
  replace CX := Lib.hid (CX.out.below hbl CX.out.lt)
  replace CY := Lib.hid (CY.out.below hbl CY.out.lt)
  replace RES := Lib.hid (RES.out.below hbl RES.out.lt)
  replace HW := Lib.hid (bel_trans HW.out hbl); clear hbl
  clear CX0 CX1 CX2 CY0 CY1 CY2
  have CX0 : w2.cell? ⟨w.heap.size, 0, none⟩ = some (.bool a.s) := CX.out.cell 0
  have CX1 : w2.cell? ⟨w.heap.size, 1, none⟩ = some (.string (dec a.n)) := CX.out.cell 1
  have CX2 : w2.cell? ⟨w.heap.size, 2, none⟩ = some (.string (dec a.d)) := CX.out.cell 2
  have CY0 : w2.cell? ⟨w.heap.size + 1, 0, none⟩ = some (.bool b.s) := CY.out.cell 0
  have CY1 : w2.cell? ⟨w.heap.size + 1, 1, none⟩ = some (.string (dec b.n)) := CY.out.cell 1
  have CY2 : w2.cell? ⟨w.heap.size + 1, 2, none⟩ = some (.string (dec b.d)) := CY.out.cell 2
  rw [← HZ.out.2.1]
  go_wp2_with fail
  clear CX0 CX1 CX2 CY0 CY1 CY2
  have hsz0 : w.heap.size + 2 < w2.heap.size := RES.out.lt
  refine wp_region_typed 12 (TOf [VIs (.pointer (some ⟨w.heap.size, 0, none⟩)),
      VIs (.bool a.s),
      VIs (.string (dec x)),
      VIs (.string (dec y)),
      VIs (.string (dec (x + y))),
      VIs (.pointer (some ⟨w.heap.size, 2, none⟩)),
      VIs (.string (dec a.d)),
      VIs (.pointer (some ⟨w.heap.size + 1, 2, none⟩)),
      VIs (.string (dec b.d)),
      VIs (.string (dec z)),
      VIs (.agg #[.bool a.s, .string (dec (x + y)), .string (dec z), .bool false]),
      VNewF w2.heap.size 49 #[.bool false, .string ⟨#[]⟩, .string ⟨#[]⟩, .bool false]]) (by kernel_rfl) (by kernel_rfl) (by kernel_rfl) (LiftAll.at_ (.cons (VIs.lift _) (.cons (VIs.lift _) (.cons (VIs.lift _) (.cons (VIs.lift _) (.cons (VIs.lift _) (.cons (VIs.lift _) (.cons (VIs.lift _) (.cons (VIs.lift _) (.cons (VIs.lift _) (.cons (VIs.lift _) (.cons (VIs.lift _) (.cons (VNewF.lift _ _ _) .nil))))))))))))) (steps_all (steps_cons ?_ (steps_cons ?_ (steps_cons ?_ (steps_cons ?_ (steps_cons ?_ (steps_cons ?_ (steps_cons ?_ (steps_cons ?_ (steps_cons ?_ (steps_cons ?_ (steps_cons ?_ (steps_cons ?_ steps_zero))))))))))))) ?fin
  · intro a0 w9 K9 hF hB hK hC
    have b2 := hF.base (k := 2) (v := .pointer (some ⟨w.heap.size, 0, none⟩)) (by kernel_rfl) rfl
    clear hF hB hK
    go_simp
    exact hC _ _ (bel_refl _) fun _ _ => rfl
  · intro a0 w9 K9 hF hB hK hC
    obtain ⟨v18, e18, z18⟩ := dep hK 0 (g := .data) (j := 0) (k := 18) rfl rfl rfl
    have z18 : v18 = .pointer (some ⟨w.heap.size, 0, none⟩) := z18
    subst z18
    have x9 : w9.cell? ⟨w.heap.size, 0, none⟩ = some (.bool a.s) := (CX.out.below hB CX.out.lt).cell 0
    clear hF hB hK
    go_simp
    exact hC _ _ (bel_refl _) fun _ _ => rfl
  · intro a0 w9 K9 hF hB hK hC
    have b5 := hF.base (k := 5) (v := .string (dec x)) (by kernel_rfl) rfl
    clear hF hB hK
    go_simp
    exact hC _ _ (bel_refl _) fun _ _ => rfl
  · intro a0 w9 K9 hF hB hK hC
    have b6 := hF.base (k := 6) (v := .string (dec y)) (by kernel_rfl) rfl
    clear hF hB hK
    go_simp
    exact hC _ _ (bel_refl _) fun _ _ => rfl
  · intro a0 w9 K9 hF hB hK hC
    obtain ⟨v20, e20, z20⟩ := dep hK 0 (g := .data) (j := 2) (k := 20) rfl rfl rfl
    have z20 : v20 = .string (dec x) := z20
    subst z20
    obtain ⟨v21, e21, z21⟩ := dep hK 1 (g := .data) (j := 3) (k := 21) rfl rfl rfl
    have z21 : v21 = .string (dec y) := z21
    subst z21
    have HB9 := Lib.hid hB
    clear hF hB hK
    go_simp
    refine (refAdd_any x y _ (by have := M.out.1; omega) (by have := M.out.2.1; omega)).mono ?_
    rintro e w7 ⟨rfl, hbl⟩
    exact hC _ _ hbl fun _ _ => rfl
  · intro a0 w9 K9 hF hB hK hC
    have b2 := hF.base (k := 2) (v := .pointer (some ⟨w.heap.size, 0, none⟩)) (by kernel_rfl) rfl
    clear hF hB hK
    go_simp
    exact hC _ _ (bel_refl _) fun _ _ => rfl
  · intro a0 w9 K9 hF hB hK hC
    obtain ⟨v23, e23, z23⟩ := dep hK 0 (g := .data) (j := 5) (k := 23) rfl rfl rfl
    have z23 : v23 = .pointer (some ⟨w.heap.size, 2, none⟩) := z23
    subst z23
    have x9 : w9.cell? ⟨w.heap.size, 2, none⟩ = some (.string (dec a.d)) := (CX.out.below hB CX.out.lt).cell 2
    clear hF hB hK
    go_simp
    exact hC _ _ (bel_refl _) fun _ _ => rfl
  · intro a0 w9 K9 hF hB hK hC
    have b3 := hF.base (k := 3) (v := .pointer (some ⟨w.heap.size + 1, 0, none⟩)) (by kernel_rfl) rfl
    clear hF hB hK
    go_simp
    exact hC _ _ (bel_refl _) fun _ _ => rfl
  · intro a0 w9 K9 hF hB hK hC
    obtain ⟨v25, e25, z25⟩ := dep hK 0 (g := .data) (j := 7) (k := 25) rfl rfl rfl
    have z25 : v25 = .pointer (some ⟨w.heap.size + 1, 2, none⟩) := z25
    subst z25
    have x9 : w9.cell? ⟨w.heap.size + 1, 2, none⟩ = some (.string (dec b.d)) := (CY.out.below hB CY.out.lt).cell 2
    clear hF hB hK
    go_simp
    exact hC _ _ (bel_refl _) fun _ _ => rfl
  · intro a0 w9 K9 hF hB hK hC
    obtain ⟨v24, e24, z24⟩ := dep hK 0 (g := .data) (j := 6) (k := 24) rfl rfl rfl
    have z24 : v24 = .string (dec a.d) := z24
    subst z24
    obtain ⟨v26, e26, z26⟩ := dep hK 1 (g := .data) (j := 8) (k := 26) rfl rfl rfl
    have z26 : v26 = .string (dec b.d) := z26
    subst z26
    have HB9 := Lib.hid hB
    clear hF hB hK
    go_simp
    refine (refMul_any a.d b.d _ (by have := L.out.2.1; omega) (by have := L.out.2.2.2; omega)).mono ?_
    rintro e w7 ⟨rfl, hbl⟩
    rw [← HZ.out.2.2]
    exact hC _ _ hbl fun _ _ => rfl
  · intro a0 w9 K9 hF hB hK hC
    obtain ⟨v19, e19, z19⟩ := dep hK 0 (g := .data) (j := 1) (k := 19) rfl rfl rfl
    have z19 : v19 = .bool a.s := z19
    subst z19
    obtain ⟨v22, e22, z22⟩ := dep hK 1 (g := .data) (j := 4) (k := 22) rfl rfl rfl
    have z22 : v22 = .string (dec (x + y)) := z22
    subst z22
    obtain ⟨v27, e27, z27⟩ := dep hK 2 (g := .data) (j := 9) (k := 27) rfl rfl rfl
    have z27 : v27 = .string (dec z) := z27
    subst z27
    have HB9 := Lib.hid hB
    clear hF hB hK
    go_simp
    exact hC _ _ (bel_refl _) fun _ _ => rfl
  · intro a0 w9 K9 hF hB hK hC
    have HB9 := Lib.hid hB
    clear hF hB hK
    go_simp
    exact hC _ _ (bel_alloc (bel_refl _) _) fun _ _ => ⟨_, rfl, HB9.out.size, Blk.new _ _ _⟩
  case fin =>
    intro a0 w9 hF hB hK
    have b2 := hF.base (k := 2) (v := .pointer (some ⟨w.heap.size, 0, none⟩)) (by kernel_rfl) rfl
    have b3 := hF.base (k := 3) (v := .pointer (some ⟨w.heap.size + 1, 0, none⟩)) (by kernel_rfl) rfl
    have b4 := hF.base (k := 4) (v := .pointer (some ⟨w.heap.size + 2, 0, none⟩)) (by kernel_rfl) rfl
    have b5 := hF.base (k := 5) (v := .string (dec x)) (by kernel_rfl) rfl
    have b6 := hF.base (k := 6) (v := .string (dec y)) (by kernel_rfl) rfl
    have hsz := hF.size
    have hdf := hF.defers
    clear hF
    obtain ⟨v7, e7, z7⟩ := known hK 11 (k := 7) (by decide) rfl
    have z7 : ∃ g, v7 = .pointer (some ⟨g, 0, none⟩) ∧ w2.heap.size ≤ g ∧ Blk w9 g 49 #[.bool false, .string ⟨#[]⟩, .string ⟨#[]⟩, .bool false] := z7
    obtain ⟨gf, rfl, hgf, FB⟩ := z7
    obtain ⟨v28, e28, z28⟩ := known hK 10 (k := 28) (by decide) rfl
    have z28 : v28 = .agg #[.bool a.s, .string (dec (x + y)), .string (dec z), .bool false] := z28
    subst z28
    clear hK
    obtain ⟨⟨l0⟩, df⟩ := a0
    have hs0 : l0.length = 63 := hsz
    clear hsz
    replace hdf : df = _ := hdf
    subst hdf
    obtain ⟨u, rfl⟩ := lits_63 hs0
    clear hs0
    have q2 : u 2 = _ := Option.some.inj b2
    clear b2
    have q3 : u 3 = _ := Option.some.inj b3
    clear b3
    have q4 : u 4 = _ := Option.some.inj b4
    clear b4
    have q5 : u 5 = _ := Option.some.inj b5
    clear b5
    have q6 : u 6 = _ := Option.some.inj b6
    clear b6
    have q7 : u 7 = _ := Option.some.inj e7
    clear e7
    have q28 : u 28 = _ := Option.some.inj e28
    clear e28
    rw [q2, q3, q4, q5, q6, q7, q28]
    clear q2 q3 q4 q5 q6 q7 q28
    have hbl := hB; clear hB
    replace CX := Lib.hid (CX.out.below hbl CX.out.lt)
    replace CY := Lib.hid (CY.out.below hbl CY.out.lt)
    replace RES := Lib.hid (RES.out.below hbl RES.out.lt)
    replace HW := Lib.hid (bel_trans HW.out hbl); clear hbl
    simp only [List.drop_succ_cons, List.drop_zero]
    replace FB := Lib.hid FB
    have gl : w.heap.size + 2 < gf := by omega
    have d0 : w9.cell? ⟨gf, 0, none⟩ = some (.bool false) := FB.out.cell 0
    have f0 : w9.frozen? ⟨gf, 0, none⟩ = false := FB.out.frozen 0
    have d1 : w9.cell? ⟨gf, 1, none⟩ = some (.string ⟨#[]⟩) := FB.out.cell 1
    have f1 : w9.frozen? ⟨gf, 1, none⟩ = false := FB.out.frozen 1
    have d2 : w9.cell? ⟨gf, 2, none⟩ = some (.string ⟨#[]⟩) := FB.out.cell 2
    have f2 : w9.frozen? ⟨gf, 2, none⟩ = false := FB.out.frozen 2
    have d3 : w9.cell? ⟨gf, 3, none⟩ = some (.bool false) := FB.out.cell 3
    have f3 : w9.frozen? ⟨gf, 3, none⟩ = false := FB.out.frozen 3
    go_wp2_with fail
    clear d0 d1 d2 d3 f0 f1 f2 f3
    obtain ⟨wb, hwb⟩ : ∃ wb, wb = ((((w9.setCell ⟨gf, 0, none⟩ (.bool a.s)).setCell ⟨gf, 1, none⟩ (.string (dec (x + y)))).setCell ⟨gf, 2, none⟩ (.string (dec z))).setCell ⟨gf, 3, none⟩ (.bool false)) := ⟨_, rfl⟩
    rw [← hwb]
    replace CX := Lib.hid (show Blk wb (w.heap.size) 49 #[.bool a.s, .string (dec a.n), .string (dec a.d), .bool false] by rw [hwb]; exact ((((CX.out).far (p := ⟨gf, 0, none⟩) (by simp; omega) _).far (p := ⟨gf, 1, none⟩) (by simp; omega) _).far (p := ⟨gf, 2, none⟩) (by simp; omega) _).far (p := ⟨gf, 3, none⟩) (by simp; omega) _)
    replace CY := Lib.hid (show Blk wb (w.heap.size + 1) 49 #[.bool b.s, .string (dec b.n), .string (dec b.d), .bool false] by rw [hwb]; exact ((((CY.out).far (p := ⟨gf, 0, none⟩) (by simp; omega) _).far (p := ⟨gf, 1, none⟩) (by simp; omega) _).far (p := ⟨gf, 2, none⟩) (by simp; omega) _).far (p := ⟨gf, 3, none⟩) (by simp; omega) _)
    replace RES := Lib.hid (show Blk wb (w.heap.size + 2) 49 #[.bool false, .string ⟨#[]⟩, .string ⟨#[]⟩, .bool false] by rw [hwb]; exact ((((RES.out).far (p := ⟨gf, 0, none⟩) (by simp; omega) _).far (p := ⟨gf, 1, none⟩) (by simp; omega) _).far (p := ⟨gf, 2, none⟩) (by simp; omega) _).far (p := ⟨gf, 3, none⟩) (by simp; omega) _)
    replace FB := Lib.hid (show Blk wb (gf) 49 #[.bool a.s, .string (dec (x + y)), .string (dec z), .bool false] by rw [hwb]; exact ((((FB.out).put 0 (.bool a.s)).put 1 (.string (dec (x + y)))).put 2 (.string (dec z))).put 3 (.bool false))
    replace HW := Lib.hid (show Below w.heap.size w wb by rw [hwb]; exact bel_set (p := ⟨gf, 3, none⟩) (bel_set (p := ⟨gf, 2, none⟩) (bel_set (p := ⟨gf, 1, none⟩) (bel_set (p := ⟨gf, 0, none⟩) (HW.out) (by show w.heap.size ≤ gf; omega) _) (by show w.heap.size ≤ gf; omega) _) (by show w.heap.size ≤ gf; omega) _) (by show w.heap.size ≤ gf; omega) _)
    clear hwb
    refine (refOver_any (x + y) _).mono ?_
    rintro e w3 ⟨rfl, hbl⟩
    replace CX := Lib.hid (CX.out.below hbl CX.out.lt)
    replace CY := Lib.hid (CY.out.below hbl CY.out.lt)
    replace RES := Lib.hid (RES.out.below hbl RES.out.lt)
    replace FB := Lib.hid (FB.out.below hbl FB.out.lt)
    replace HW := Lib.hid (bel_trans HW.out hbl); clear hbl
    rw [HO.out]
    have d2 : w3.cell? ⟨gf, 2, none⟩ = some (.string (dec z)) := FB.out.cell 2
    go_wp2_with fail
    clear d2
    refine (refOver_any z _).mono ?_
    rintro e w4 ⟨rfl, hbl⟩
    replace CX := Lib.hid (CX.out.below hbl CX.out.lt)
    replace CY := Lib.hid (CY.out.below hbl CY.out.lt)
    replace RES := Lib.hid (RES.out.below hbl RES.out.lt)
    replace FB := Lib.hid (FB.out.below hbl FB.out.lt)
    replace HW := Lib.hid (bel_trans HW.out hbl); clear hbl
    have f3 : w4.frozen? ⟨gf, 3, none⟩ = false := FB.out.frozen 3
    have d3 := FB.out.cell 3
    go_upto_region 5 with fail
    clear f3 d3
    obtain ⟨wc, hwc⟩ : ∃ wc, wc = (w4.setCell ⟨gf, 3, none⟩ (.bool (decide (Top ≤ z)))) := ⟨_, rfl⟩
    rw [← hwc]
    replace CX := Lib.hid (show Blk wc (w.heap.size) 49 #[.bool a.s, .string (dec a.n), .string (dec a.d), .bool false] by rw [hwc]; exact (CX.out).far (p := ⟨gf, 3, none⟩) (by simp; omega) _)
    replace CY := Lib.hid (show Blk wc (w.heap.size + 1) 49 #[.bool b.s, .string (dec b.n), .string (dec b.d), .bool false] by rw [hwc]; exact (CY.out).far (p := ⟨gf, 3, none⟩) (by simp; omega) _)
    replace RES := Lib.hid (show Blk wc (w.heap.size + 2) 49 #[.bool false, .string ⟨#[]⟩, .string ⟨#[]⟩, .bool false] by rw [hwc]; exact (RES.out).far (p := ⟨gf, 3, none⟩) (by simp; omega) _)
    replace FB := Lib.hid (show Blk wc (gf) 49 #[.bool a.s, .string (dec (x + y)), .string (dec z), .bool (decide (Top ≤ z))] by rw [hwc]; exact (FB.out).put 3 (.bool (decide (Top ≤ z))))
    replace HW := Lib.hid (show Below w.heap.size w wc by rw [hwc]; exact bel_set (p := ⟨gf, 3, none⟩) (HW.out) (by show w.heap.size ≤ gf; omega) _)
    clear hwc
    have X0 : wc.cell? ⟨w.heap.size, 0, none⟩ = some (.bool a.s) := CX.out.cell 0
    have Y0 : wc.cell? ⟨w.heap.size + 1, 0, none⟩ = some (.bool b.s) := CY.out.cell 0
    have d0 : wc.cell? ⟨gf, 0, none⟩ = some (.bool a.s) := FB.out.cell 0
    have d1 : wc.cell? ⟨gf, 1, none⟩ = some (.string (dec (x + y))) := FB.out.cell 1
    have d2 : wc.cell? ⟨gf, 2, none⟩ = some (.string (dec z)) := FB.out.cell 2
    have d3 : wc.cell? ⟨gf, 3, none⟩ = some (.bool (decide (Top ≤ z))) := FB.out.cell 3
    go_wp2_with fail
    clear d0 d1 d2 d3 X0 Y0
    refine (refRed_q a.s (x + y) z (decide (Top ≤ z)) _ (by have := MA.out; omega) (by have := M.out.2.2; omega) HQ.out (k_samef HO.out)).mono ?_
    rintro e w5 ⟨rfl, hbl⟩
    replace CX := Lib.hid (CX.out.below hbl CX.out.lt)
    replace CY := Lib.hid (CY.out.below hbl CY.out.lt)
    replace RES := Lib.hid (RES.out.below hbl RES.out.lt)
    replace FB := Lib.hid (FB.out.below hbl FB.out.lt)
    replace HW := Lib.hid (bel_trans HW.out hbl); clear hbl
    have d0 : w5.cell? ⟨w.heap.size + 2, 0, none⟩ = some (.bool false) := RES.out.cell 0
    have f0 : w5.frozen? ⟨w.heap.size + 2, 0, none⟩ = false := RES.out.frozen 0
    have d1 : w5.cell? ⟨w.heap.size + 2, 1, none⟩ = some (.string ⟨#[]⟩) := RES.out.cell 1
    have f1 : w5.frozen? ⟨w.heap.size + 2, 1, none⟩ = false := RES.out.frozen 1
    have d2 : w5.cell? ⟨w.heap.size + 2, 2, none⟩ = some (.string ⟨#[]⟩) := RES.out.cell 2
    have f2 : w5.frozen? ⟨w.heap.size + 2, 2, none⟩ = false := RES.out.frozen 2
    have d3 : w5.cell? ⟨w.heap.size + 2, 3, none⟩ = some (.bool false) := RES.out.cell 3
    have f3 : w5.frozen? ⟨w.heap.size + 2, 3, none⟩ = false := RES.out.frozen 3
    have D := Lib.hid (And.intro (RES.out.put4 (.bool q.s) (.string (dec q.n)) (.string (dec q.d)) (.bool (decide (Top ≤ z)))) (bel_set4 (g := w.heap.size + 2) HW.out (by omega) (.bool q.s) (.string (dec q.n)) (.string (dec q.d)) (.bool (decide (Top ≤ z)))))
    go_wp2
    refine bodyPost_ret (v := .agg #[.bool q.s, .string (dec q.n), .string (dec q.d), .bool (decide (Top ≤ z))]) ?hr rfl ?hR
    case hR => exact ⟨(by rw [HZ.out.2.2]), D.out.2⟩
    case hr => exact results_cell_row rfl _ _ (w.heap.size + 2) 49 _ (0, 0) _ rfl D.out.1 Try.underlying49 rfl (by kernel_rfl)

set_option maxRecDepth 100000 in
set_option maxHeartbeats 1000000 in
theorem ref_add_ltf {q : Q} (a b : Q) (w : World) (l1 : (decL a.n).length ≤ 160) (l2 : (decL a.d).length ≤ 160) (l3 : (decL b.n).length ≤ 160) (l4 : (decL b.d).length ≤ 160) (hs : ¬ a.s = b.s) (hl : (a.n * b.d) < (b.n * a.d)) (hq : redQ b.s ((b.n * a.d) - (a.n * b.d)) (a.d * b.d) = q) (ho : decide (Top ≤ (a.n * b.d) + (b.n * a.d)) = false) :
    Calls Try.prog 36 #[.agg #[.bool a.s, .string (dec a.n), .string (dec a.d), .bool false], .agg #[.bool b.s, .string (dec b.n), .string (dec b.d), .bool false]] w (RetFr q (decide (Top ≤ (a.d * b.d))) w) := by
  have L := Lib.hid (And.intro l1 (And.intro l2 (And.intro l3 l4))); clear l1 l2 l3 l4
  have M1 := decL_mul a.n b.d
  have M2 := decL_mul b.n a.d
  have M3 := decL_mul a.d b.d
  have M4 := L.out
  have M := Lib.hid (show (decL (a.n * b.d)).length ≤ 320 ∧ (decL (b.n * a.d)).length ≤ 320 ∧ (decL (a.d * b.d)).length ≤ 320 by omega); clear M1 M2 M3 M4
  have MA := Lib.hid (decL_add M.out.1 M.out.2.1 (by decide))
  obtain ⟨x, hx⟩ : ∃ x, x = (a.n * b.d) := ⟨_, rfl⟩
  obtain ⟨y, hy⟩ : ∃ y, y = (b.n * a.d) := ⟨_, rfl⟩
  obtain ⟨z, hz⟩ : ∃ z, z = (a.d * b.d) := ⟨_, rfl⟩
  rw [← hx, ← hy, ← hz] at M
  rw [← hx, ← hy] at MA ho
  rw [← hx, ← hy] at hl
  rw [← hx, ← hy, ← hz] at hq
  have HZ := Lib.hid (And.intro hx (And.intro hy hz)); clear hx hy hz
  have e0 : (a.s == b.s) = false := by simp [hs]
  have e1 : ¬ 0 ≤ cmpI (x : Int) (y : Int) := by rw [cmpI_lt (by omega)]; decide
  have HO := Lib.hid ho; clear ho
  have HQ := Lib.hid hq; clear hq
  clear hs
  have HL := Lib.hid hl; clear hl
  obtain ⟨wa, hwa⟩ : ∃ wa, wa = ((w.alloc (.cells #[.bool a.s, .string (dec a.n), .string (dec a.d), .bool false] 49)).alloc (.cells #[.bool b.s, .string (dec b.n), .string (dec b.d), .bool false] 49)).alloc (.cells #[.bool false, .string ⟨#[]⟩, .string ⟨#[]⟩, .bool false] 49) := ⟨_, rfl⟩
  have hbl : Below w.heap.size w wa := by rw [hwa]; exact bel_alloc (bel_alloc (bel_alloc (bel_refl _) _) _) _
  have CX : Blk wa (w.heap.size) 49 #[.bool a.s, .string (dec a.n), .string (dec a.d), .bool false] := by
    have hz := Blk.new (w) 49 #[.bool a.s, .string (dec a.n), .string (dec a.d), .bool false]
    rw [hwa]
    exact ((hz.alloc _).alloc _)
  have CY : Blk wa (w.heap.size + 1) 49 #[.bool b.s, .string (dec b.n), .string (dec b.d), .bool false] := by
    have hz := Blk.new (w.alloc (.cells #[.bool a.s, .string (dec a.n), .string (dec a.d), .bool false] 49)) 49 #[.bool b.s, .string (dec b.n), .string (dec b.d), .bool false]
    rw [World.size_alloc] at hz
    rw [hwa]
    exact (hz.alloc _)
  have RES : Blk wa (w.heap.size + 2) 49 #[.bool false, .string ⟨#[]⟩, .string ⟨#[]⟩, .bool false] := by
    have hz := Blk.new ((w.alloc (.cells #[.bool a.s, .string (dec a.n), .string (dec a.d), .bool false] 49)).alloc (.cells #[.bool b.s, .string (dec b.n), .string (dec b.d), .bool false] 49)) 49 #[.bool false, .string ⟨#[]⟩, .string ⟨#[]⟩, .bool false]
    rw [World.size_alloc, World.size_alloc] at hz
    rw [hwa]
    exact hz
  have HW := Lib.hid hbl; clear hbl
  replace CX := Lib.hid CX
  replace CY := Lib.hid CY
  replace RES := Lib.hid RES
  go_enter Try.func36, Try.ntmps36
  go_wp2_with fail
  rw [← hwa]
  clear hwa
  have CX0 : wa.cell? ⟨w.heap.size, 0, none⟩ = some (.bool a.s) := CX.out.cell 0
  have CX1 : wa.cell? ⟨w.heap.size, 1, none⟩ = some (.string (dec a.n)) := CX.out.cell 1
  have CX2 : wa.cell? ⟨w.heap.size, 2, none⟩ = some (.string (dec a.d)) := CX.out.cell 2
  have CY0 : wa.cell? ⟨w.heap.size + 1, 0, none⟩ = some (.bool b.s) := CY.out.cell 0
  have CY1 : wa.cell? ⟨w.heap.size + 1, 1, none⟩ = some (.string (dec b.n)) := CY.out.cell 1
  have CY2 : wa.cell? ⟨w.heap.size + 1, 2, none⟩ = some (.string (dec b.d)) := CY.out.cell 2
  refine (refMul_any a.n b.d _ (by have := L.out.1; omega) (by have := L.out.2.2.2; omega)).mono ?_
  rintro e w1 ⟨rfl, hbl⟩
  replace CX := Lib.hid (CX.out.below hbl CX.out.lt)
  replace CY := Lib.hid (CY.out.below hbl CY.out.lt)
  replace RES := Lib.hid (RES.out.below hbl RES.out.lt)
  replace HW := Lib.hid (bel_trans HW.out hbl); clear hbl
  clear CX0 CX1 CX2 CY0 CY1 CY2
  have CX0 : w1.cell? ⟨w.heap.size, 0, none⟩ = some (.bool a.s) := CX.out.cell 0
  have CX1 : w1.cell? ⟨w.heap.size, 1, none⟩ = some (.string (dec a.n)) := CX.out.cell 1
  have CX2 : w1.cell? ⟨w.heap.size, 2, none⟩ = some (.string (dec a.d)) := CX.out.cell 2
  have CY0 : w1.cell? ⟨w.heap.size + 1, 0, none⟩ = some (.bool b.s) := CY.out.cell 0
  have CY1 : w1.cell? ⟨w.heap.size + 1, 1, none⟩ = some (.string (dec b.n)) := CY.out.cell 1
  have CY2 : w1.cell? ⟨w.heap.size + 1, 2, none⟩ = some (.string (dec b.d)) := CY.out.cell 2
  rw [← HZ.out.1]
  go_wp2_with fail
  refine (refMul_any b.n a.d _ (by have := L.out.2.2.1; omega) (by have := L.out.2.1; omega)).mono ?_
  rintro e w2 ⟨rfl, hbl⟩
  replace CX := Lib.hid (CX.out.below hbl CX.out.lt)
  replace CY := Lib.hid (CY.out.below hbl CY.out.lt)
  replace RES := Lib.hid (RES.out.below hbl RES.out.lt)
  replace HW := Lib.hid (bel_trans HW.out hbl); clear hbl
  clear CX0 CX1 CX2 CY0 CY1 CY2
  have CX0 : w2.cell? ⟨w.heap.size, 0, none⟩ = some (.bool a.s) := CX.out.cell 0
  have CX1 : w2.cell? ⟨w.heap.size, 1, none⟩ = some (.string (dec a.n)) := CX.out.cell 1
  have CX2 : w2.cell? ⟨w.heap.size, 2, none⟩ = some (.string (dec a.d)) := CX.out.cell 2
  have CY0 : w2.cell? ⟨w.heap.size + 1, 0, none⟩ = some (.bool b.s) := CY.out.cell 0
  have CY1 : w2.cell? ⟨w.heap.size + 1, 1, none⟩ = some (.string (dec b.n)) := CY.out.cell 1
  have CY2 : w2.cell? ⟨w.heap.size + 1, 2, none⟩ = some (.string (dec b.d)) := CY.out.cell 2
  rw [← HZ.out.2.1]
  go_wp2_with fail
  clear CX0 CX1 CX2 CY0 CY1 CY2
  have hsz0 : w.heap.size + 2 < w2.heap.size := RES.out.lt
  refine wp_region_typed 12 (TOf [VIs (.pointer (some ⟨w.heap.size, 0, none⟩)),
      VIs (.bool a.s),
      VIs (.string (dec x)),
      VIs (.string (dec y)),
      VIs (.string (dec (x + y))),
      VIs (.pointer (some ⟨w.heap.size, 2, none⟩)),
      VIs (.string (dec a.d)),
      VIs (.pointer (some ⟨w.heap.size + 1, 2, none⟩)),
      VIs (.string (dec b.d)),
      VIs (.string (dec z)),
      VIs (.agg #[.bool a.s, .string (dec (x + y)), .string (dec z), .bool false]),
      VNewF w2.heap.size 49 #[.bool false, .string ⟨#[]⟩, .string ⟨#[]⟩, .bool false]]) (by kernel_rfl) (by kernel_rfl) (by kernel_rfl) (LiftAll.at_ (.cons (VIs.lift _) (.cons (VIs.lift _) (.cons (VIs.lift _) (.cons (VIs.lift _) (.cons (VIs.lift _) (.cons (VIs.lift _) (.cons (VIs.lift _) (.cons (VIs.lift _) (.cons (VIs.lift _) (.cons (VIs.lift _) (.cons (VIs.lift _) (.cons (VNewF.lift _ _ _) .nil))))))))))))) (steps_all (steps_cons ?_ (steps_cons ?_ (steps_cons ?_ (steps_cons ?_ (steps_cons ?_ (steps_cons ?_ (steps_cons ?_ (steps_cons ?_ (steps_cons ?_ (steps_cons ?_ (steps_cons ?_ (steps_cons ?_ steps_zero))))))))))))) ?fin
  · intro a0 w9 K9 hF hB hK hC
    have b2 := hF.base (k := 2) (v := .pointer (some ⟨w.heap.size, 0, none⟩)) (by kernel_rfl) rfl
    clear hF hB hK
    go_simp
    exact hC _ _ (bel_refl _) fun _ _ => rfl
  · intro a0 w9 K9 hF hB hK hC
    obtain ⟨v18, e18, z18⟩ := dep hK 0 (g := .data) (j := 0) (k := 18) rfl rfl rfl
    have z18 : v18 = .pointer (some ⟨w.heap.size, 0, none⟩) := z18
    subst z18
    have x9 : w9.cell? ⟨w.heap.size, 0, none⟩ = some (.bool a.s) := (CX.out.below hB CX.out.lt).cell 0
    clear hF hB hK
    go_simp
    exact hC _ _ (bel_refl _) fun _ _ => rfl
  · intro a0 w9 K9 hF hB hK hC
    have b5 := hF.base (k := 5) (v := .string (dec x)) (by kernel_rfl) rfl
    clear hF hB hK
    go_simp
    exact hC _ _ (bel_refl _) fun _ _ => rfl
  · intro a0 w9 K9 hF hB hK hC
    have b6 := hF.base (k := 6) (v := .string (dec y)) (by kernel_rfl) rfl
    clear hF hB hK
    go_simp
    exact hC _ _ (bel_refl _) fun _ _ => rfl
  · intro a0 w9 K9 hF hB hK hC
    obtain ⟨v20, e20, z20⟩ := dep hK 0 (g := .data) (j := 2) (k := 20) rfl rfl rfl
    have z20 : v20 = .string (dec x) := z20
    subst z20
    obtain ⟨v21, e21, z21⟩ := dep hK 1 (g := .data) (j := 3) (k := 21) rfl rfl rfl
    have z21 : v21 = .string (dec y) := z21
    subst z21
    have HB9 := Lib.hid hB
    clear hF hB hK
    go_simp
    refine (refAdd_any x y _ (by have := M.out.1; omega) (by have := M.out.2.1; omega)).mono ?_
    rintro e w7 ⟨rfl, hbl⟩
    exact hC _ _ hbl fun _ _ => rfl
  · intro a0 w9 K9 hF hB hK hC
    have b2 := hF.base (k := 2) (v := .pointer (some ⟨w.heap.size, 0, none⟩)) (by kernel_rfl) rfl
    clear hF hB hK
    go_simp
    exact hC _ _ (bel_refl _) fun _ _ => rfl
  · intro a0 w9 K9 hF hB hK hC
    obtain ⟨v23, e23, z23⟩ := dep hK 0 (g := .data) (j := 5) (k := 23) rfl rfl rfl
    have z23 : v23 = .pointer (some ⟨w.heap.size, 2, none⟩) := z23
    subst z23
    have x9 : w9.cell? ⟨w.heap.size, 2, none⟩ = some (.string (dec a.d)) := (CX.out.below hB CX.out.lt).cell 2
    clear hF hB hK
    go_simp
    exact hC _ _ (bel_refl _) fun _ _ => rfl
  · intro a0 w9 K9 hF hB hK hC
    have b3 := hF.base (k := 3) (v := .pointer (some ⟨w.heap.size + 1, 0, none⟩)) (by kernel_rfl) rfl
    clear hF hB hK
    go_simp
    exact hC _ _ (bel_refl _) fun _ _ => rfl
  · intro a0 w9 K9 hF hB hK hC
    obtain ⟨v25, e25, z25⟩ := dep hK 0 (g := .data) (j := 7) (k := 25) rfl rfl rfl
    have z25 : v25 = .pointer (some ⟨w.heap.size + 1, 2, none⟩) := z25
    subst z25
    have x9 : w9.cell? ⟨w.heap.size + 1, 2, none⟩ = some (.string (dec b.d)) := (CY.out.below hB CY.out.lt).cell 2
    clear hF hB hK
    go_simp
    exact hC _ _ (bel_refl _) fun _ _ => rfl
  · intro a0 w9 K9 hF hB hK hC
    obtain ⟨v24, e24, z24⟩ := dep hK 0 (g := .data) (j := 6) (k := 24) rfl rfl rfl
    have z24 : v24 = .string (dec a.d) := z24
    subst z24
    obtain ⟨v26, e26, z26⟩ := dep hK 1 (g := .data) (j := 8) (k := 26) rfl rfl rfl
    have z26 : v26 = .string (dec b.d) := z26
    subst z26
    have HB9 := Lib.hid hB
    clear hF hB hK
    go_simp
    refine (refMul_any a.d b.d _ (by have := L.out.2.1; omega) (by have := L.out.2.2.2; omega)).mono ?_
    rintro e w7 ⟨rfl, hbl⟩
    rw [← HZ.out.2.2]
    exact hC _ _ hbl fun _ _ => rfl
  · intro a0 w9 K9 hF hB hK hC
    obtain ⟨v19, e19, z19⟩ := dep hK 0 (g := .data) (j := 1) (k := 19) rfl rfl rfl
    have z19 : v19 = .bool a.s := z19
    subst z19
    obtain ⟨v22, e22, z22⟩ := dep hK 1 (g := .data) (j := 4) (k := 22) rfl rfl rfl
    have z22 : v22 = .string (dec (x + y)) := z22
    subst z22
    obtain ⟨v27, e27, z27⟩ := dep hK 2 (g := .data) (j := 9) (k := 27) rfl rfl rfl
    have z27 : v27 = .string (dec z) := z27
    subst z27
    have HB9 := Lib.hid hB
    clear hF hB hK
    go_simp
    exact hC _ _ (bel_refl _) fun _ _ => rfl
  · intro a0 w9 K9 hF hB hK hC
    have HB9 := Lib.hid hB
    clear hF hB hK
    go_simp
    exact hC _ _ (bel_alloc (bel_refl _) _) fun _ _ => ⟨_, rfl, HB9.out.size, Blk.new _ _ _⟩
  case fin =>
    intro a0 w9 hF hB hK
    have b2 := hF.base (k := 2) (v := .pointer (some ⟨w.heap.size, 0, none⟩)) (by kernel_rfl) rfl
    have b3 := hF.base (k := 3) (v := .pointer (some ⟨w.heap.size + 1, 0, none⟩)) (by kernel_rfl) rfl
    have b4 := hF.base (k := 4) (v := .pointer (some ⟨w.heap.size + 2, 0, none⟩)) (by kernel_rfl) rfl
    have b5 := hF.base (k := 5) (v := .string (dec x)) (by kernel_rfl) rfl
    have b6 := hF.base (k := 6) (v := .string (dec y)) (by kernel_rfl) rfl
    have hsz := hF.size
    have hdf := hF.defers
    clear hF
    obtain ⟨v7, e7, z7⟩ := known hK 11 (k := 7) (by decide) rfl
    have z7 : ∃ g, v7 = .pointer (some ⟨g, 0, none⟩) ∧ w2.heap.size ≤ g ∧ Blk w9 g 49 #[.bool false, .string ⟨#[]⟩, .string ⟨#[]⟩, .bool false] := z7
    obtain ⟨gf, rfl, hgf, FB⟩ := z7
    obtain ⟨v28, e28, z28⟩ := known hK 10 (k := 28) (by decide) rfl
    have z28 : v28 = .agg #[.bool a.s, .string (dec (x + y)), .string (dec z), .bool false] := z28
    subst z28
    clear hK
    obtain ⟨⟨l0⟩, df⟩ := a0
    have hs0 : l0.length = 63 := hsz
    clear hsz
    replace hdf : df = _ := hdf
    subst hdf
    obtain ⟨u, rfl⟩ := lits_63 hs0
    clear hs0
    have q2 : u 2 = _ := Option.some.inj b2
    clear b2
    have q3 : u 3 = _ := Option.some.inj b3
    clear b3
    have q4 : u 4 = _ := Option.some.inj b4
    clear b4
    have q5 : u 5 = _ := Option.some.inj b5
    clear b5
    have q6 : u 6 = _ := Option.some.inj b6
    clear b6
    have q7 : u 7 = _ := Option.some.inj e7
    clear e7
    have q28 : u 28 = _ := Option.some.inj e28
    clear e28
    rw [q2, q3, q4, q5, q6, q7, q28]
    clear q2 q3 q4 q5 q6 q7 q28
    have hbl := hB; clear hB
    replace CX := Lib.hid (CX.out.below hbl CX.out.lt)
    replace CY := Lib.hid (CY.out.below hbl CY.out.lt)
    replace RES := Lib.hid (RES.out.below hbl RES.out.lt)
    replace HW := Lib.hid (bel_trans HW.out hbl); clear hbl
    simp only [List.drop_succ_cons, List.drop_zero]
    replace FB := Lib.hid FB
    have gl : w.heap.size + 2 < gf := by omega
    have d0 : w9.cell? ⟨gf, 0, none⟩ = some (.bool false) := FB.out.cell 0
    have f0 : w9.frozen? ⟨gf, 0, none⟩ = false := FB.out.frozen 0
    have d1 : w9.cell? ⟨gf, 1, none⟩ = some (.string ⟨#[]⟩) := FB.out.cell 1
    have f1 : w9.frozen? ⟨gf, 1, none⟩ = false := FB.out.frozen 1
    have d2 : w9.cell? ⟨gf, 2, none⟩ = some (.string ⟨#[]⟩) := FB.out.cell 2
    have f2 : w9.frozen? ⟨gf, 2, none⟩ = false := FB.out.frozen 2
    have d3 : w9.cell? ⟨gf, 3, none⟩ = some (.bool false) := FB.out.cell 3
    have f3 : w9.frozen? ⟨gf, 3, none⟩ = false := FB.out.frozen 3
    go_wp2_with fail
    clear d0 d1 d2 d3 f0 f1 f2 f3
    obtain ⟨wb, hwb⟩ : ∃ wb, wb = ((((w9.setCell ⟨gf, 0, none⟩ (.bool a.s)).setCell ⟨gf, 1, none⟩ (.string (dec (x + y)))).setCell ⟨gf, 2, none⟩ (.string (dec z))).setCell ⟨gf, 3, none⟩ (.bool false)) := ⟨_, rfl⟩
    rw [← hwb]
    replace CX := Lib.hid (show Blk wb (w.heap.size) 49 #[.bool a.s, .string (dec a.n), .string (dec a.d), .bool false] by rw [hwb]; exact ((((CX.out).far (p := ⟨gf, 0, none⟩) (by simp; omega) _).far (p := ⟨gf, 1, none⟩) (by simp; omega) _).far (p := ⟨gf, 2, none⟩) (by simp; omega) _).far (p := ⟨gf, 3, none⟩) (by simp; omega) _)
    replace CY := Lib.hid (show Blk wb (w.heap.size + 1) 49 #[.bool b.s, .string (dec b.n), .string (dec b.d), .bool false] by rw [hwb]; exact ((((CY.out).far (p := ⟨gf, 0, none⟩) (by simp; omega) _).far (p := ⟨gf, 1, none⟩) (by simp; omega) _).far (p := ⟨gf, 2, none⟩) (by simp; omega) _).far (p := ⟨gf, 3, none⟩) (by simp; omega) _)
    replace RES := Lib.hid (show Blk wb (w.heap.size + 2) 49 #[.bool false, .string ⟨#[]⟩, .string ⟨#[]⟩, .bool false] by rw [hwb]; exact ((((RES.out).far (p := ⟨gf, 0, none⟩) (by simp; omega) _).far (p := ⟨gf, 1, none⟩) (by simp; omega) _).far (p := ⟨gf, 2, none⟩) (by simp; omega) _).far (p := ⟨gf, 3, none⟩) (by simp; omega) _)
    replace FB := Lib.hid (show Blk wb (gf) 49 #[.bool a.s, .string (dec (x + y)), .string (dec z), .bool false] by rw [hwb]; exact ((((FB.out).put 0 (.bool a.s)).put 1 (.string (dec (x + y)))).put 2 (.string (dec z))).put 3 (.bool false))
    replace HW := Lib.hid (show Below w.heap.size w wb by rw [hwb]; exact bel_set (p := ⟨gf, 3, none⟩) (bel_set (p := ⟨gf, 2, none⟩) (bel_set (p := ⟨gf, 1, none⟩) (bel_set (p := ⟨gf, 0, none⟩) (HW.out) (by show w.heap.size ≤ gf; omega) _) (by show w.heap.size ≤ gf; omega) _) (by show w.heap.size ≤ gf; omega) _) (by show w.heap.size ≤ gf; omega) _)
    clear hwb
    refine (refOver_any (x + y) _).mono ?_
    rintro e w3 ⟨rfl, hbl⟩
    replace CX := Lib.hid (CX.out.below hbl CX.out.lt)
    replace CY := Lib.hid (CY.out.below hbl CY.out.lt)
    replace RES := Lib.hid (RES.out.below hbl RES.out.lt)
    replace FB := Lib.hid (FB.out.below hbl FB.out.lt)
    replace HW := Lib.hid (bel_trans HW.out hbl); clear hbl
    rw [HO.out]
    have d2 : w3.cell? ⟨gf, 2, none⟩ = some (.string (dec z)) := FB.out.cell 2
    go_wp2_with fail
    clear d2
    refine (refOver_any z _).mono ?_
    rintro e w4 ⟨rfl, hbl⟩
    replace CX := Lib.hid (CX.out.below hbl CX.out.lt)
    replace CY := Lib.hid (CY.out.below hbl CY.out.lt)
    replace RES := Lib.hid (RES.out.below hbl RES.out.lt)
    replace FB := Lib.hid (FB.out.below hbl FB.out.lt)
    replace HW := Lib.hid (bel_trans HW.out hbl); clear hbl
    have f3 : w4.frozen? ⟨gf, 3, none⟩ = false := FB.out.frozen 3
    have d3 := FB.out.cell 3
    go_upto_region 5 with fail
    clear f3 d3
    obtain ⟨wc, hwc⟩ : ∃ wc, wc = (w4.setCell ⟨gf, 3, none⟩ (.bool (decide (Top ≤ z)))) := ⟨_, rfl⟩
    rw [← hwc]
    replace CX := Lib.hid (show Blk wc (w.heap.size) 49 #[.bool a.s, .string (dec a.n), .string (dec a.d), .bool false] by rw [hwc]; exact (CX.out).far (p := ⟨gf, 3, none⟩) (by simp; omega) _)
    replace CY := Lib.hid (show Blk wc (w.heap.size + 1) 49 #[.bool b.s, .string (dec b.n), .string (dec b.d), .bool false] by rw [hwc]; exact (CY.out).far (p := ⟨gf, 3, none⟩) (by simp; omega) _)
    replace RES := Lib.hid (show Blk wc (w.heap.size + 2) 49 #[.bool false, .string ⟨#[]⟩, .string ⟨#[]⟩, .bool false] by rw [hwc]; exact (RES.out).far (p := ⟨gf, 3, none⟩) (by simp; omega) _)
    replace FB := Lib.hid (show Blk wc (gf) 49 #[.bool a.s, .string (dec (x + y)), .string (dec z), .bool (decide (Top ≤ z))] by rw [hwc]; exact (FB.out).put 3 (.bool (decide (Top ≤ z))))
    replace HW := Lib.hid (show Below w.heap.size w wc by rw [hwc]; exact bel_set (p := ⟨gf, 3, none⟩) (HW.out) (by show w.heap.size ≤ gf; omega) _)
    clear hwc
    have X0 : wc.cell? ⟨w.heap.size, 0, none⟩ = some (.bool a.s) := CX.out.cell 0
    have Y0 : wc.cell? ⟨w.heap.size + 1, 0, none⟩ = some (.bool b.s) := CY.out.cell 0
    have f0 : wc.frozen? ⟨gf, 0, none⟩ = false := FB.out.frozen 0
    have d0 := FB.out.cell 0
    go_upto_region 7 with fail
    clear X0 Y0 f0 d0
    obtain ⟨wd, hwd⟩ : ∃ wd, wd = (wc.setCell ⟨gf, 0, none⟩ (.bool b.s)) := ⟨_, rfl⟩
    rw [← hwd]
    replace CX := Lib.hid (show Blk wd (w.heap.size) 49 #[.bool a.s, .string (dec a.n), .string (dec a.d), .bool false] by rw [hwd]; exact (CX.out).far (p := ⟨gf, 0, none⟩) (by simp; omega) _)
    replace CY := Lib.hid (show Blk wd (w.heap.size + 1) 49 #[.bool b.s, .string (dec b.n), .string (dec b.d), .bool false] by rw [hwd]; exact (CY.out).far (p := ⟨gf, 0, none⟩) (by simp; omega) _)
    replace RES := Lib.hid (show Blk wd (w.heap.size + 2) 49 #[.bool false, .string ⟨#[]⟩, .string ⟨#[]⟩, .bool false] by rw [hwd]; exact (RES.out).far (p := ⟨gf, 0, none⟩) (by simp; omega) _)
    replace FB := Lib.hid (show Blk wd (gf) 49 #[.bool b.s, .string (dec (x + y)), .string (dec z), .bool (decide (Top ≤ z))] by rw [hwd]; exact (FB.out).put 0 (.bool b.s))
    replace HW := Lib.hid (show Below w.heap.size w wd by rw [hwd]; exact bel_set (p := ⟨gf, 0, none⟩) (HW.out) (by show w.heap.size ≤ gf; omega) _)
    clear hwd
    go_wp2_with fail
    refine (ref_larger_lt x y _ HL.out).mono ?_
    rintro e w5 ⟨rfl, hbl⟩
    replace CX := Lib.hid (CX.out.below hbl CX.out.lt)
    replace CY := Lib.hid (CY.out.below hbl CY.out.lt)
    replace RES := Lib.hid (RES.out.below hbl RES.out.lt)
    replace FB := Lib.hid (FB.out.below hbl FB.out.lt)
    replace HW := Lib.hid (bel_trans HW.out hbl); clear hbl
    go_wp2_with fail
    refine (ref_smaller_lt x y _ HL.out).mono ?_
    rintro e w6 ⟨rfl, hbl⟩
    replace CX := Lib.hid (CX.out.below hbl CX.out.lt)
    replace CY := Lib.hid (CY.out.below hbl CY.out.lt)
    replace RES := Lib.hid (RES.out.below hbl RES.out.lt)
    replace FB := Lib.hid (FB.out.below hbl FB.out.lt)
    replace HW := Lib.hid (bel_trans HW.out hbl); clear hbl
    go_wp2_with fail
    refine (refSub_any y x _ (by have := M.out; omega) (by have := M.out; omega) (Nat.le_of_lt HL.out)).mono ?_
    rintro e w7 ⟨rfl, hbl⟩
    replace CX := Lib.hid (CX.out.below hbl CX.out.lt)
    replace CY := Lib.hid (CY.out.below hbl CY.out.lt)
    replace RES := Lib.hid (RES.out.below hbl RES.out.lt)
    replace FB := Lib.hid (FB.out.below hbl FB.out.lt)
    replace HW := Lib.hid (bel_trans HW.out hbl); clear hbl
    have f1 : w7.frozen? ⟨gf, 1, none⟩ = false := FB.out.frozen 1
    have d1 := FB.out.cell 1
    go_upto_region 8 with fail
    clear f1 d1
    obtain ⟨we, hwe⟩ : ∃ we, we = (w7.setCell ⟨gf, 1, none⟩ (.string (dec (y - x)))) := ⟨_, rfl⟩
    rw [← hwe]
    replace CX := Lib.hid (show Blk we (w.heap.size) 49 #[.bool a.s, .string (dec a.n), .string (dec a.d), .bool false] by rw [hwe]; exact (CX.out).far (p := ⟨gf, 1, none⟩) (by simp; omega) _)
    replace CY := Lib.hid (show Blk we (w.heap.size + 1) 49 #[.bool b.s, .string (dec b.n), .string (dec b.d), .bool false] by rw [hwe]; exact (CY.out).far (p := ⟨gf, 1, none⟩) (by simp; omega) _)
    replace RES := Lib.hid (show Blk we (w.heap.size + 2) 49 #[.bool false, .string ⟨#[]⟩, .string ⟨#[]⟩, .bool false] by rw [hwe]; exact (RES.out).far (p := ⟨gf, 1, none⟩) (by simp; omega) _)
    replace FB := Lib.hid (show Blk we (gf) 49 #[.bool b.s, .string (dec (y - x)), .string (dec z), .bool (decide (Top ≤ z))] by rw [hwe]; exact (FB.out).put 1 (.string (dec (y - x))))
    replace HW := Lib.hid (show Below w.heap.size w we by rw [hwe]; exact bel_set (p := ⟨gf, 1, none⟩) (HW.out) (by show w.heap.size ≤ gf; omega) _)
    clear hwe
    go_wp2_with fail
    refine (refCmp_bb x y _).mono ?_
    rintro e w8 ⟨rfl, hbl⟩
    replace CX := Lib.hid (CX.out.below hbl CX.out.lt)
    replace CY := Lib.hid (CY.out.below hbl CY.out.lt)
    replace RES := Lib.hid (RES.out.below hbl RES.out.lt)
    replace FB := Lib.hid (FB.out.below hbl FB.out.lt)
    replace HW := Lib.hid (bel_trans HW.out hbl); clear hbl
    have d0 : w8.cell? ⟨gf, 0, none⟩ = some (.bool b.s) := FB.out.cell 0
    have d1 : w8.cell? ⟨gf, 1, none⟩ = some (.string (dec (y - x))) := FB.out.cell 1
    have d2 : w8.cell? ⟨gf, 2, none⟩ = some (.string (dec z)) := FB.out.cell 2
    have d3 : w8.cell? ⟨gf, 3, none⟩ = some (.bool (decide (Top ≤ z))) := FB.out.cell 3
    go_wp2_with fail
    clear d0 d1 d2 d3
    refine (refRed_q b.s (y - x) z (decide (Top ≤ z)) _ (by have := decL_mono (Nat.sub_le y x); have := M.out; omega) (by have := M.out.2.2; omega) HQ.out (k_difff (x := x) (y := y) (by have := HL.out; omega) HO.out)).mono ?_
    rintro e w9 ⟨rfl, hbl⟩
    replace CX := Lib.hid (CX.out.below hbl CX.out.lt)
    replace CY := Lib.hid (CY.out.below hbl CY.out.lt)
    replace RES := Lib.hid (RES.out.below hbl RES.out.lt)
    replace FB := Lib.hid (FB.out.below hbl FB.out.lt)
    replace HW := Lib.hid (bel_trans HW.out hbl); clear hbl
    have d0 : w9.cell? ⟨w.heap.size + 2, 0, none⟩ = some (.bool false) := RES.out.cell 0
    have f0 : w9.frozen? ⟨w.heap.size + 2, 0, none⟩ = false := RES.out.frozen 0
    have d1 : w9.cell? ⟨w.heap.size + 2, 1, none⟩ = some (.string ⟨#[]⟩) := RES.out.cell 1
    have f1 : w9.frozen? ⟨w.heap.size + 2, 1, none⟩ = false := RES.out.frozen 1
    have d2 : w9.cell? ⟨w.heap.size + 2, 2, none⟩ = some (.string ⟨#[]⟩) := RES.out.cell 2
    have f2 : w9.frozen? ⟨w.heap.size + 2, 2, none⟩ = false := RES.out.frozen 2
    have d3 : w9.cell? ⟨w.heap.size + 2, 3, none⟩ = some (.bool false) := RES.out.cell 3
    have f3 : w9.frozen? ⟨w.heap.size + 2, 3, none⟩ = false := RES.out.frozen 3
    have D := Lib.hid (And.intro (RES.out.put4 (.bool q.s) (.string (dec q.n)) (.string (dec q.d)) (.bool (decide (Top ≤ z)))) (bel_set4 (g := w.heap.size + 2) HW.out (by omega) (.bool q.s) (.string (dec q.n)) (.string (dec q.d)) (.bool (decide (Top ≤ z)))))
    go_wp2
    refine bodyPost_ret (v := .agg #[.bool q.s, .string (dec q.n), .string (dec q.d), .bool (decide (Top ≤ z))]) ?hr rfl ?hR
    case hR => exact ⟨(by rw [HZ.out.2.2]), D.out.2⟩
    case hr => exact results_cell_row rfl _ _ (w.heap.size + 2) 49 _ (0, 0) _ rfl D.out.1 Try.underlying49 rfl (by kernel_rfl)

set_option maxRecDepth 100000 in
set_option maxHeartbeats 1000000 in
theorem ref_add_gef {q : Q} (a b : Q) (w : World) (l1 : (decL a.n).length ≤ 160) (l2 : (decL a.d).length ≤ 160) (l3 : (decL b.n).length ≤ 160) (l4 : (decL b.d).length ≤ 160) (hs : ¬ a.s = b.s) (hl : (b.n * a.d) ≤ (a.n * b.d)) (hq : redQ a.s ((a.n * b.d) - (b.n * a.d)) (a.d * b.d) = q) (ho : decide (Top ≤ (a.n * b.d) + (b.n * a.d)) = false) :
    Calls Try.prog 36 #[.agg #[.bool a.s, .string (dec a.n), .string (dec a.d), .bool false], .agg #[.bool b.s, .string (dec b.n), .string (dec b.d), .bool false]] w (RetFr q (decide (Top ≤ (a.d * b.d))) w) := by
  have L := Lib.hid (And.intro l1 (And.intro l2 (And.intro l3 l4))); clear l1 l2 l3 l4
  have M1 := decL_mul a.n b.d
  have M2 := decL_mul b.n a.d
  have M3 := decL_mul a.d b.d
  have M4 := L.out
  have M := Lib.hid (show (decL (a.n * b.d)).length ≤ 320 ∧ (decL (b.n * a.d)).length ≤ 320 ∧ (decL (a.d * b.d)).length ≤ 320 by omega); clear M1 M2 M3 M4
  have MA := Lib.hid (decL_add M.out.1 M.out.2.1 (by decide))
  obtain ⟨x, hx⟩ : ∃ x, x = (a.n * b.d) := ⟨_, rfl⟩
  obtain ⟨y, hy⟩ : ∃ y, y = (b.n * a.d) := ⟨_, rfl⟩
  obtain ⟨z, hz⟩ : ∃ z, z = (a.d * b.d) := ⟨_, rfl⟩
  rw [← hx, ← hy, ← hz] at M
  rw [← hx, ← hy] at MA ho
  rw [← hx, ← hy] at hl
  rw [← hx, ← hy, ← hz] at hq
  have HZ := Lib.hid (And.intro hx (And.intro hy hz)); clear hx hy hz
  have e0 : (a.s == b.s) = false := by simp [hs]
  have e1 : 0 ≤ cmpI (x : Int) (y : Int) := cmp_ge hl
  have HO := Lib.hid ho; clear ho
  have HQ := Lib.hid hq; clear hq
  clear hs
  have HL := Lib.hid hl; clear hl
  obtain ⟨wa, hwa⟩ : ∃ wa, wa = ((w.alloc (.cells #[.bool a.s, .string (dec a.n), .string (dec a.d), .bool false] 49)).alloc (.cells #[.bool b.s, .string (dec b.n), .string (dec b.d), .bool false] 49)).alloc (.cells #[.bool false, .string ⟨#[]⟩, .string ⟨#[]⟩, .bool false] 49) := ⟨_, rfl⟩
  have hbl : Below w.heap.size w wa := by rw [hwa]; exact bel_alloc (bel_alloc (bel_alloc (bel_refl _) _) _) _
  have CX : Blk wa (w.heap.size) 49 #[.bool a.s, .string (dec a.n), .string (dec a.d), .bool false] := by
    have hz := Blk.new (w) 49 #[.bool a.s, .string (dec a.n), .string (dec a.d), .bool false]
    rw [hwa]
    exact ((hz.alloc _).alloc _)
  have CY : Blk wa (w.heap.size + 1) 49 #[.bool b.s, .string (dec b.n), .string (dec b.d), .bool false] := by
    have hz := Blk.new (w.alloc (.cells #[.bool a.s, .string (dec a.n), .string (dec a.d), .bool false] 49)) 49 #[.bool b.s, .string (dec b.n), .string (dec b.d), .bool false]
    rw [World.size_alloc] at hz
    rw [hwa]
    exact (hz.alloc _)
  have RES : Blk wa (w.heap.size + 2) 49 #[.bool false, .string ⟨#[]⟩, .string ⟨#[]⟩, .bool false] := by
    have hz := Blk.new ((w.alloc (.cells #[.bool a.s, .string (dec a.n), .string (dec a.d), .bool false] 49)).alloc (.cells #[.bool b.s, .string (dec b.n), .string (dec b.d), .bool false] 49)) 49 #[.bool false, .string ⟨#[]⟩, .string ⟨#[]⟩, .bool false]
    rw [World.size_alloc, World.size_alloc] at hz
    rw [hwa]
    exact hz
  have HW := Lib.hid hbl; clear hbl
  replace CX := Lib.hid CX
  replace CY := Lib.hid CY
  replace RES := Lib.hid RES
  go_enter Try.func36, Try.ntmps36
  go_wp2_with fail
  rw [← hwa]
  clear hwa
  have CX0 : wa.cell? ⟨w.heap.size, 0, none⟩ = some (.bool a.s) := CX.out.cell 0
  have CX1 : wa.cell? ⟨w.heap.size, 1, none⟩ = some (.string (dec a.n)) := CX.out.cell 1
  have CX2 : wa.cell? ⟨w.heap.size, 2, none⟩ = some (.string (dec a.d)) := CX.out.cell 2
  have CY0 : wa.cell? ⟨w.heap.size + 1, 0, none⟩ = some (.bool b.s) := CY.out.cell 0
  have CY1 : wa.cell? ⟨w.heap.size + 1, 1, none⟩ = some (.string (dec b.n)) := CY.out.cell 1
  have CY2 : wa.cell? ⟨w.heap.size + 1, 2, none⟩ = some (.string (dec b.d)) := CY.out.cell 2
  refine (refMul_any a.n b.d _ (by have := L.out.1; omega) (by have := L.out.2.2.2; omega)).mono ?_
  rintro e w1 ⟨rfl, hbl⟩
  replace CX := Lib.hid (CX.out.below hbl CX.out.lt)
  replace CY := Lib.hid (CY.out.below hbl CY.out.lt)
  replace RES := Lib.hid (RES.out.below hbl RES.out.lt)
  replace HW := Lib.hid (bel_trans HW.out hbl); clear hbl
  clear CX0 CX1 CX2 CY0 CY1 CY2
  have CX0 : w1.cell? ⟨w.heap.size, 0, none⟩ = some (.bool a.s) := CX.out.cell 0
  have CX1 : w1.cell? ⟨w.heap.size, 1, none⟩ = some (.string (dec a.n)) := CX.out.cell 1
  have CX2 : w1.cell? ⟨w.heap.size, 2, none⟩ = some (.string (dec a.d)) := CX.out.cell 2
  have CY0 : w1.cell? ⟨w.heap.size + 1, 0, none⟩ = some (.bool b.s) := CY.out.cell 0
  have CY1 : w1.cell? ⟨w.heap.size + 1, 1, none⟩ = some (.string (dec b.n)) := CY.out.cell 1
  have CY2 : w1.cell? ⟨w.heap.size + 1, 2, none⟩ = some (.string (dec b.d)) := CY.out.cell 2
  rw [← HZ.out.1]
  go_wp2_with fail
  refine (refMul_any b.n a.d _ (by have := L.out.2.2.1; omega) (by have := L.out.2.1; omega)).mono ?_
  rintro e w2 ⟨rfl, hbl⟩
  replace CX := Lib.hid (CX.out.below hbl CX.out.lt)
  replace CY := Lib.hid (CY.out.below hbl CY.out.lt)
  replace RES := Lib.hid (RES.out.below hbl RES.out.lt)
  replace HW := Lib.hid (bel_trans HW.out hbl); clear hbl
  clear CX0 CX1 CX2 CY0 CY1 CY2
  have CX0 : w2.cell? ⟨w.heap.size, 0, none⟩ = some (.bool a.s) := CX.out.cell 0
  have CX1 : w2.cell? ⟨w.heap.size, 1, none⟩ = some (.string (dec a.n)) := CX.out.cell 1
  have CX2 : w2.cell? ⟨w.heap.size, 2, none⟩ = some (.string (dec a.d)) := CX.out.cell 2
  have CY0 : w2.cell? ⟨w.heap.size + 1, 0, none⟩ = some (.bool b.s) := CY.out.cell 0
  have CY1 : w2.cell? ⟨w.heap.size + 1, 1, none⟩ = some (.string (dec b.n)) := CY.out.cell 1
  have CY2 : w2.cell? ⟨w.heap.size + 1, 2, none⟩ = some (.string (dec b.d)) := CY.out.cell 2
  rw [← HZ.out.2.1]
  go_wp2_with fail
  clear CX0 CX1 CX2 CY0 CY1 CY2
  have hsz0 : w.heap.size + 2 < w2.heap.size := RES.out.lt
  refine wp_region_typed 12 (TOf [VIs (.pointer (some ⟨w.heap.size, 0, none⟩)),
      VIs (.bool a.s),
      VIs (.string (dec x)),
      VIs (.string (dec y)),
      VIs (.string (dec (x + y))),
      VIs (.pointer (some ⟨w.heap.size, 2, none⟩)),
      VIs (.string (dec a.d)),
      VIs (.pointer (some ⟨w.heap.size + 1, 2, none⟩)),
      VIs (.string (dec b.d)),
      VIs (.string (dec z)),
      VIs (.agg #[.bool a.s, .string (dec (x + y)), .string (dec z), .bool false]),
      VNewF w2.heap.size 49 #[.bool false, .string ⟨#[]⟩, .string ⟨#[]⟩, .bool false]]) (by kernel_rfl) (by kernel_rfl) (by kernel_rfl) (LiftAll.at_ (.cons (VIs.lift _) (.cons (VIs.lift _) (.cons (VIs.lift _) (.cons (VIs.lift _) (.cons (VIs.lift _) (.cons (VIs.lift _) (.cons (VIs.lift _) (.cons (VIs.lift _) (.cons (VIs.lift _) (.cons (VIs.lift _) (.cons (VIs.lift _) (.cons (VNewF.lift _ _ _) .nil))))))))))))) (steps_all (steps_cons ?_ (steps_cons ?_ (steps_cons ?_ (steps_cons ?_ (steps_cons ?_ (steps_cons ?_ (steps_cons ?_ (steps_cons ?_ (steps_cons ?_ (steps_cons ?_ (steps_cons ?_ (steps_cons ?_ steps_zero))))))))))))) ?fin
  · intro a0 w9 K9 hF hB hK hC
    have b2 := hF.base (k := 2) (v := .pointer (some ⟨w.heap.size, 0, none⟩)) (by kernel_rfl) rfl
    clear hF hB hK
    go_simp
    exact hC _ _ (bel_refl _) fun _ _ => rfl
  · intro a0 w9 K9 hF hB hK hC
    obtain ⟨v18, e18, z18⟩ := dep hK 0 (g := .data) (j := 0) (k := 18) rfl rfl rfl
    have z18 : v18 = .pointer (some ⟨w.heap.size, 0, none⟩) := z18
    subst z18
    have x9 : w9.cell? ⟨w.heap.size, 0, none⟩ = some (.bool a.s) := (CX.out.below hB CX.out.lt).cell 0
    clear hF hB hK
    go_simp
    exact hC _ _ (bel_refl _) fun _ _ => rfl
  · intro a0 w9 K9 hF hB hK hC
    have b5 := hF.base (k := 5) (v := .string (dec x)) (by kernel_rfl) rfl
    clear hF hB hK
    go_simp
    exact hC _ _ (bel_refl _) fun _ _ => rfl
  · intro a0 w9 K9 hF hB hK hC
    have b6 := hF.base (k := 6) (v := .string (dec y)) (by kernel_rfl) rfl
    clear hF hB hK
    go_simp
    exact hC _ _ (bel_refl _) fun _ _ => rfl
  · intro a0 w9 K9 hF hB hK hC
    obtain ⟨v20, e20, z20⟩ := dep hK 0 (g := .data) (j := 2) (k := 20) rfl rfl rfl
    have z20 : v20 = .string (dec x) := z20
    subst z20
    obtain ⟨v21, e21, z21⟩ := dep hK 1 (g := .data) (j := 3) (k := 21) rfl rfl rfl
    have z21 : v21 = .string (dec y) := z21
    subst z21
    have HB9 := Lib.hid hB
    clear hF hB hK
    go_simp
    refine (refAdd_any x y _ (by have := M.out.1; omega) (by have := M.out.2.1; omega)).mono ?_
    rintro e w7 ⟨rfl, hbl⟩
    exact hC _ _ hbl fun _ _ => rfl
  · intro a0 w9 K9 hF hB hK hC
    have b2 := hF.base (k := 2) (v := .pointer (some ⟨w.heap.size, 0, none⟩)) (by kernel_rfl) rfl
    clear hF hB hK
    go_simp
    exact hC _ _ (bel_refl _) fun _ _ => rfl
  · intro a0 w9 K9 hF hB hK hC
    obtain ⟨v23, e23, z23⟩ := dep hK 0 (g := .data) (j := 5) (k := 23) rfl rfl rfl
    have z23 : v23 = .pointer (some ⟨w.heap.size, 2, none⟩) := z23
    subst z23
    have x9 : w9.cell? ⟨w.heap.size, 2, none⟩ = some (.string (dec a.d)) := (CX.out.below hB CX.out.lt).cell 2
    clear hF hB hK
    go_simp
    exact hC _ _ (bel_refl _) fun _ _ => rfl
  · intro a0 w9 K9 hF hB hK hC
    have b3 := hF.base (k := 3) (v := .pointer (some ⟨w.heap.size + 1, 0, none⟩)) (by kernel_rfl) rfl
    clear hF hB hK
    go_simp
    exact hC _ _ (bel_refl _) fun _ _ => rfl
  · intro a0 w9 K9 hF hB hK hC
    obtain ⟨v25, e25, z25⟩ := dep hK 0 (g := .data) (j := 7) (k := 25) rfl rfl rfl
    have z25 : v25 = .pointer (some ⟨w.heap.size + 1, 2, none⟩) := z25
    subst z25
    have x9 : w9.cell? ⟨w.heap.size + 1, 2, none⟩ = some (.string (dec b.d)) := (CY.out.below hB CY.out.lt).cell 2
    clear hF hB hK
    go_simp
    exact hC _ _ (bel_refl _) fun _ _ => rfl
  · intro a0 w9 K9 hF hB hK hC
    obtain ⟨v24, e24, z24⟩ := dep hK 0 (g := .data) (j := 6) (k := 24) rfl rfl rfl
    have z24 : v24 = .string (dec a.d) := z24
    subst z24
    obtain ⟨v26, e26, z26⟩ := dep hK 1 (g := .data) (j := 8) (k := 26) rfl rfl rfl
    have z26 : v26 = .string (dec b.d) := z26
    subst z26
    have HB9 := Lib.hid hB
    clear hF hB hK
    go_simp
    refine (refMul_any a.d b.d _ (by have := L.out.2.1; omega) (by have := L.out.2.2.2; omega)).mono ?_
    rintro e w7 ⟨rfl, hbl⟩
    rw [← HZ.out.2.2]
    exact hC _ _ hbl fun _ _ => rfl
  · intro a0 w9 K9 hF hB hK hC
    obtain ⟨v19, e19, z19⟩ := dep hK 0 (g := .data) (j := 1) (k := 19) rfl rfl rfl
    have z19 : v19 = .bool a.s := z19
    subst z19
    obtain ⟨v22, e22, z22⟩ := dep hK 1 (g := .data) (j := 4) (k := 22) rfl rfl rfl
    have z22 : v22 = .string (dec (x + y)) := z22
    subst z22
    obtain ⟨v27, e27, z27⟩ := dep hK 2 (g := .data) (j := 9) (k := 27) rfl rfl rfl
    have z27 : v27 = .string (dec z) := z27
    subst z27
    have HB9 := Lib.hid hB
    clear hF hB hK
    go_simp
    exact hC _ _ (bel_refl _) fun _ _ => rfl
  · intro a0 w9 K9 hF hB hK hC
    have HB9 := Lib.hid hB
    clear hF hB hK
    go_simp
    exact hC _ _ (bel_alloc (bel_refl _) _) fun _ _ => ⟨_, rfl, HB9.out.size, Blk.new _ _ _⟩
  case fin =>
    intro a0 w9 hF hB hK
    have b2 := hF.base (k := 2) (v := .pointer (some ⟨w.heap.size, 0, none⟩)) (by kernel_rfl) rfl
    have b3 := hF.base (k := 3) (v := .pointer (some ⟨w.heap.size + 1, 0, none⟩)) (by kernel_rfl) rfl
    have b4 := hF.base (k := 4) (v := .pointer (some ⟨w.heap.size + 2, 0, none⟩)) (by kernel_rfl) rfl
    have b5 := hF.base (k := 5) (v := .string (dec x)) (by kernel_rfl) rfl
    have b6 := hF.base (k := 6) (v := .string (dec y)) (by kernel_rfl) rfl
    have hsz := hF.size
    have hdf := hF.defers
    clear hF
    obtain ⟨v7, e7, z7⟩ := known hK 11 (k := 7) (by decide) rfl
    have z7 : ∃ g, v7 = .pointer (some ⟨g, 0, none⟩) ∧ w2.heap.size ≤ g ∧ Blk w9 g 49 #[.bool false, .string ⟨#[]⟩, .string ⟨#[]⟩, .bool false] := z7
    obtain ⟨gf, rfl, hgf, FB⟩ := z7
    obtain ⟨v28, e28, z28⟩ := known hK 10 (k := 28) (by decide) rfl
    have z28 : v28 = .agg #[.bool a.s, .string (dec (x + y)), .string (dec z), .bool false] := z28
    subst z28
    clear hK
    obtain ⟨⟨l0⟩, df⟩ := a0
    have hs0 : l0.length = 63 := hsz
    clear hsz
    replace hdf : df = _ := hdf
    subst hdf
    obtain ⟨u, rfl⟩ := lits_63 hs0
    clear hs0
    have q2 : u 2 = _ := Option.some.inj b2
    clear b2
    have q3 : u 3 = _ := Option.some.inj b3
    clear b3
    have q4 : u 4 = _ := Option.some.inj b4
    clear b4
    have q5 : u 5 = _ := Option.some.inj b5
    clear b5
    have q6 : u 6 = _ := Option.some.inj b6
    clear b6
    have q7 : u 7 = _ := Option.some.inj e7
    clear e7
    have q28 : u 28 = _ := Option.some.inj e28
    clear e28
    rw [q2, q3, q4, q5, q6, q7, q28]
    clear q2 q3 q4 q5 q6 q7 q28
    have hbl := hB; clear hB
    replace CX := Lib.hid (CX.out.below hbl CX.out.lt)
    replace CY := Lib.hid (CY.out.below hbl CY.out.lt)
    replace RES := Lib.hid (RES.out.below hbl RES.out.lt)
    replace HW := Lib.hid (bel_trans HW.out hbl); clear hbl
    simp only [List.drop_succ_cons, List.drop_zero]
    replace FB := Lib.hid FB
    have gl : w.heap.size + 2 < gf := by omega
    have d0 : w9.cell? ⟨gf, 0, none⟩ = some (.bool false) := FB.out.cell 0
    have f0 : w9.frozen? ⟨gf, 0, none⟩ = false := FB.out.frozen 0
    have d1 : w9.cell? ⟨gf, 1, none⟩ = some (.string ⟨#[]⟩) := FB.out.cell 1
    have f1 : w9.frozen? ⟨gf, 1, none⟩ = false := FB.out.frozen 1
    have d2 : w9.cell? ⟨gf, 2, none⟩ = some (.string ⟨#[]⟩) := FB.out.cell 2
    have f2 : w9.frozen? ⟨gf, 2, none⟩ = false := FB.out.frozen 2
    have d3 : w9.cell? ⟨gf, 3, none⟩ = some (.bool false) := FB.out.cell 3
    have f3 : w9.frozen? ⟨gf, 3, none⟩ = false := FB.out.frozen 3
    go_wp2_with fail
    clear d0 d1 d2 d3 f0 f1 f2 f3
    obtain ⟨wb, hwb⟩ : ∃ wb, wb = ((((w9.setCell ⟨gf, 0, none⟩ (.bool a.s)).setCell ⟨gf, 1, none⟩ (.string (dec (x + y)))).setCell ⟨gf, 2, none⟩ (.string (dec z))).setCell ⟨gf, 3, none⟩ (.bool false)) := ⟨_, rfl⟩
    rw [← hwb]
    replace CX := Lib.hid (show Blk wb (w.heap.size) 49 #[.bool a.s, .string (dec a.n), .string (dec a.d), .bool false] by rw [hwb]; exact ((((CX.out).far (p := ⟨gf, 0, none⟩) (by simp; omega) _).far (p := ⟨gf, 1, none⟩) (by simp; omega) _).far (p := ⟨gf, 2, none⟩) (by simp; omega) _).far (p := ⟨gf, 3, none⟩) (by simp; omega) _)
    replace CY := Lib.hid (show Blk wb (w.heap.size + 1) 49 #[.bool b.s, .string (dec b.n), .string (dec b.d), .bool false] by rw [hwb]; exact ((((CY.out).far (p := ⟨gf, 0, none⟩) (by simp; omega) _).far (p := ⟨gf, 1, none⟩) (by simp; omega) _).far (p := ⟨gf, 2, none⟩) (by simp; omega) _).far (p := ⟨gf, 3, none⟩) (by simp; omega) _)
    replace RES := Lib.hid (show Blk wb (w.heap.size + 2) 49 #[.bool false, .string ⟨#[]⟩, .string ⟨#[]⟩, .bool false] by rw [hwb]; exact ((((RES.out).far (p := ⟨gf, 0, none⟩) (by simp; omega) _).far (p := ⟨gf, 1, none⟩) (by simp; omega) _).far (p := ⟨gf, 2, none⟩) (by simp; omega) _).far (p := ⟨gf, 3, none⟩) (by simp; omega) _)
    replace FB := Lib.hid (show Blk wb (gf) 49 #[.bool a.s, .string (dec (x + y)), .string (dec z), .bool false] by rw [hwb]; exact ((((FB.out).put 0 (.bool a.s)).put 1 (.string (dec (x + y)))).put 2 (.string (dec z))).put 3 (.bool false))
    replace HW := Lib.hid (show Below w.heap.size w wb by rw [hwb]; exact bel_set (p := ⟨gf, 3, none⟩) (bel_set (p := ⟨gf, 2, none⟩) (bel_set (p := ⟨gf, 1, none⟩) (bel_set (p := ⟨gf, 0, none⟩) (HW.out) (by show w.heap.size ≤ gf; omega) _) (by show w.heap.size ≤ gf; omega) _) (by show w.heap.size ≤ gf; omega) _) (by show w.heap.size ≤ gf; omega) _)
    clear hwb
    refine (refOver_any (x + y) _).mono ?_
    rintro e w3 ⟨rfl, hbl⟩
    replace CX := Lib.hid (CX.out.below hbl CX.out.lt)
    replace CY := Lib.hid (CY.out.below hbl CY.out.lt)
    replace RES := Lib.hid (RES.out.below hbl RES.out.lt)
    replace FB := Lib.hid (FB.out.below hbl FB.out.lt)
    replace HW := Lib.hid (bel_trans HW.out hbl); clear hbl
    rw [HO.out]
    have d2 : w3.cell? ⟨gf, 2, none⟩ = some (.string (dec z)) := FB.out.cell 2
    go_wp2_with fail
    clear d2
    refine (refOver_any z _).mono ?_
    rintro e w4 ⟨rfl, hbl⟩
    replace CX := Lib.hid (CX.out.below hbl CX.out.lt)
    replace CY := Lib.hid (CY.out.below hbl CY.out.lt)
    replace RES := Lib.hid (RES.out.below hbl RES.out.lt)
    replace FB := Lib.hid (FB.out.below hbl FB.out.lt)
    replace HW := Lib.hid (bel_trans HW.out hbl); clear hbl
    have f3 : w4.frozen? ⟨gf, 3, none⟩ = false := FB.out.frozen 3
    have d3 := FB.out.cell 3
    go_upto_region 5 with fail
    clear f3 d3
    obtain ⟨wc, hwc⟩ : ∃ wc, wc = (w4.setCell ⟨gf, 3, none⟩ (.bool (decide (Top ≤ z)))) := ⟨_, rfl⟩
    rw [← hwc]
    replace CX := Lib.hid (show Blk wc (w.heap.size) 49 #[.bool a.s, .string (dec a.n), .string (dec a.d), .bool false] by rw [hwc]; exact (CX.out).far (p := ⟨gf, 3, none⟩) (by simp; omega) _)
    replace CY := Lib.hid (show Blk wc (w.heap.size + 1) 49 #[.bool b.s, .string (dec b.n), .string (dec b.d), .bool false] by rw [hwc]; exact (CY.out).far (p := ⟨gf, 3, none⟩) (by simp; omega) _)
    replace RES := Lib.hid (show Blk wc (w.heap.size + 2) 49 #[.bool false, .string ⟨#[]⟩, .string ⟨#[]⟩, .bool false] by rw [hwc]; exact (RES.out).far (p := ⟨gf, 3, none⟩) (by simp; omega) _)
    replace FB := Lib.hid (show Blk wc (gf) 49 #[.bool a.s, .string (dec (x + y)), .string (dec z), .bool (decide (Top ≤ z))] by rw [hwc]; exact (FB.out).put 3 (.bool (decide (Top ≤ z))))
    replace HW := Lib.hid (show Below w.heap.size w wc by rw [hwc]; exact bel_set (p := ⟨gf, 3, none⟩) (HW.out) (by show w.heap.size ≤ gf; omega) _)
    clear hwc
    have X0 : wc.cell? ⟨w.heap.size, 0, none⟩ = some (.bool a.s) := CX.out.cell 0
    have Y0 : wc.cell? ⟨w.heap.size + 1, 0, none⟩ = some (.bool b.s) := CY.out.cell 0
    have f0 : wc.frozen? ⟨gf, 0, none⟩ = false := FB.out.frozen 0
    have d0 := FB.out.cell 0
    go_upto_region 7 with fail
    clear X0 Y0 f0 d0
    obtain ⟨wd, hwd⟩ : ∃ wd, wd = (wc.setCell ⟨gf, 0, none⟩ (.bool b.s)) := ⟨_, rfl⟩
    rw [← hwd]
    replace CX := Lib.hid (show Blk wd (w.heap.size) 49 #[.bool a.s, .string (dec a.n), .string (dec a.d), .bool false] by rw [hwd]; exact (CX.out).far (p := ⟨gf, 0, none⟩) (by simp; omega) _)
    replace CY := Lib.hid (show Blk wd (w.heap.size + 1) 49 #[.bool b.s, .string (dec b.n), .string (dec b.d), .bool false] by rw [hwd]; exact (CY.out).far (p := ⟨gf, 0, none⟩) (by simp; omega) _)
    replace RES := Lib.hid (show Blk wd (w.heap.size + 2) 49 #[.bool false, .string ⟨#[]⟩, .string ⟨#[]⟩, .bool false] by rw [hwd]; exact (RES.out).far (p := ⟨gf, 0, none⟩) (by simp; omega) _)
    replace FB := Lib.hid (show Blk wd (gf) 49 #[.bool b.s, .string (dec (x + y)), .string (dec z), .bool (decide (Top ≤ z))] by rw [hwd]; exact (FB.out).put 0 (.bool b.s))
    replace HW := Lib.hid (show Below w.heap.size w wd by rw [hwd]; exact bel_set (p := ⟨gf, 0, none⟩) (HW.out) (by show w.heap.size ≤ gf; omega) _)
    clear hwd
    go_wp2_with fail
    refine (ref_larger_ge x y _ HL.out).mono ?_
    rintro e w5 ⟨rfl, hbl⟩
    replace CX := Lib.hid (CX.out.below hbl CX.out.lt)
    replace CY := Lib.hid (CY.out.below hbl CY.out.lt)
    replace RES := Lib.hid (RES.out.below hbl RES.out.lt)
    replace FB := Lib.hid (FB.out.below hbl FB.out.lt)
    replace HW := Lib.hid (bel_trans HW.out hbl); clear hbl
    go_wp2_with fail
    refine (ref_smaller_ge x y _ HL.out).mono ?_
    rintro e w6 ⟨rfl, hbl⟩
    replace CX := Lib.hid (CX.out.below hbl CX.out.lt)
    replace CY := Lib.hid (CY.out.below hbl CY.out.lt)
    replace RES := Lib.hid (RES.out.below hbl RES.out.lt)
    replace FB := Lib.hid (FB.out.below hbl FB.out.lt)
    replace HW := Lib.hid (bel_trans HW.out hbl); clear hbl
    go_wp2_with fail
    refine (refSub_any x y _ (by have := M.out; omega) (by have := M.out; omega) HL.out).mono ?_
    rintro e w7 ⟨rfl, hbl⟩
    replace CX := Lib.hid (CX.out.below hbl CX.out.lt)
    replace CY := Lib.hid (CY.out.below hbl CY.out.lt)
    replace RES := Lib.hid (RES.out.below hbl RES.out.lt)
    replace FB := Lib.hid (FB.out.below hbl FB.out.lt)
    replace HW := Lib.hid (bel_trans HW.out hbl); clear hbl
    have f1 : w7.frozen? ⟨gf, 1, none⟩ = false := FB.out.frozen 1
    have d1 := FB.out.cell 1
    go_upto_region 8 with fail
    clear f1 d1
    obtain ⟨we, hwe⟩ : ∃ we, we = (w7.setCell ⟨gf, 1, none⟩ (.string (dec (x - y)))) := ⟨_, rfl⟩
    rw [← hwe]
    replace CX := Lib.hid (show Blk we (w.heap.size) 49 #[.bool a.s, .string (dec a.n), .string (dec a.d), .bool false] by rw [hwe]; exact (CX.out).far (p := ⟨gf, 1, none⟩) (by simp; omega) _)
    replace CY := Lib.hid (show Blk we (w.heap.size + 1) 49 #[.bool b.s, .string (dec b.n), .string (dec b.d), .bool false] by rw [hwe]; exact (CY.out).far (p := ⟨gf, 1, none⟩) (by simp; omega) _)
    replace RES := Lib.hid (show Blk we (w.heap.size + 2) 49 #[.bool false, .string ⟨#[]⟩, .string ⟨#[]⟩, .bool false] by rw [hwe]; exact (RES.out).far (p := ⟨gf, 1, none⟩) (by simp; omega) _)
    replace FB := Lib.hid (show Blk we (gf) 49 #[.bool b.s, .string (dec (x - y)), .string (dec z), .bool (decide (Top ≤ z))] by rw [hwe]; exact (FB.out).put 1 (.string (dec (x - y))))
    replace HW := Lib.hid (show Below w.heap.size w we by rw [hwe]; exact bel_set (p := ⟨gf, 1, none⟩) (HW.out) (by show w.heap.size ≤ gf; omega) _)
    clear hwe
    go_wp2_with fail
    refine (refCmp_bb x y _).mono ?_
    rintro e w8 ⟨rfl, hbl⟩
    replace CX := Lib.hid (CX.out.below hbl CX.out.lt)
    replace CY := Lib.hid (CY.out.below hbl CY.out.lt)
    replace RES := Lib.hid (RES.out.below hbl RES.out.lt)
    replace FB := Lib.hid (FB.out.below hbl FB.out.lt)
    replace HW := Lib.hid (bel_trans HW.out hbl); clear hbl
    have X0 : w8.cell? ⟨w.heap.size, 0, none⟩ = some (.bool a.s) := CX.out.cell 0
    have f0 : w8.frozen? ⟨gf, 0, none⟩ = false := FB.out.frozen 0
    have d0 := FB.out.cell 0
    go_upto_region 10 with fail
    clear X0 f0 d0
    obtain ⟨wf, hwf⟩ : ∃ wf, wf = (w8.setCell ⟨gf, 0, none⟩ (.bool a.s)) := ⟨_, rfl⟩
    rw [← hwf]
    replace CX := Lib.hid (show Blk wf (w.heap.size) 49 #[.bool a.s, .string (dec a.n), .string (dec a.d), .bool false] by rw [hwf]; exact (CX.out).far (p := ⟨gf, 0, none⟩) (by simp; omega) _)
    replace CY := Lib.hid (show Blk wf (w.heap.size + 1) 49 #[.bool b.s, .string (dec b.n), .string (dec b.d), .bool false] by rw [hwf]; exact (CY.out).far (p := ⟨gf, 0, none⟩) (by simp; omega) _)
    replace RES := Lib.hid (show Blk wf (w.heap.size + 2) 49 #[.bool false, .string ⟨#[]⟩, .string ⟨#[]⟩, .bool false] by rw [hwf]; exact (RES.out).far (p := ⟨gf, 0, none⟩) (by simp; omega) _)
    replace FB := Lib.hid (show Blk wf (gf) 49 #[.bool a.s, .string (dec (x - y)), .string (dec z), .bool (decide (Top ≤ z))] by rw [hwf]; exact (FB.out).put 0 (.bool a.s))
    replace HW := Lib.hid (show Below w.heap.size w wf by rw [hwf]; exact bel_set (p := ⟨gf, 0, none⟩) (HW.out) (by show w.heap.size ≤ gf; omega) _)
    clear hwf
    have d0 : wf.cell? ⟨gf, 0, none⟩ = some (.bool a.s) := FB.out.cell 0
    have d1 : wf.cell? ⟨gf, 1, none⟩ = some (.string (dec (x - y))) := FB.out.cell 1
    have d2 : wf.cell? ⟨gf, 2, none⟩ = some (.string (dec z)) := FB.out.cell 2
    have d3 : wf.cell? ⟨gf, 3, none⟩ = some (.bool (decide (Top ≤ z))) := FB.out.cell 3
    go_wp2_with fail
    clear d0 d1 d2 d3
    refine (refRed_q a.s (x - y) z (decide (Top ≤ z)) _ (by have := decL_mono (Nat.sub_le x y); have := M.out; omega) (by have := M.out.2.2; omega) HQ.out (k_difff (x := x) (y := y) (by have := HL.out; omega) HO.out)).mono ?_
    rintro e w9 ⟨rfl, hbl⟩
    replace CX := Lib.hid (CX.out.below hbl CX.out.lt)
    replace CY := Lib.hid (CY.out.below hbl CY.out.lt)
    replace RES := Lib.hid (RES.out.below hbl RES.out.lt)
    replace FB := Lib.hid (FB.out.below hbl FB.out.lt)
    replace HW := Lib.hid (bel_trans HW.out hbl); clear hbl
    have d0 : w9.cell? ⟨w.heap.size + 2, 0, none⟩ = some (.bool false) := RES.out.cell 0
    have f0 : w9.frozen? ⟨w.heap.size + 2, 0, none⟩ = false := RES.out.frozen 0
    have d1 : w9.cell? ⟨w.heap.size + 2, 1, none⟩ = some (.string ⟨#[]⟩) := RES.out.cell 1
    have f1 : w9.frozen? ⟨w.heap.size + 2, 1, none⟩ = false := RES.out.frozen 1
    have d2 : w9.cell? ⟨w.heap.size + 2, 2, none⟩ = some (.string ⟨#[]⟩) := RES.out.cell 2
    have f2 : w9.frozen? ⟨w.heap.size + 2, 2, none⟩ = false := RES.out.frozen 2
    have d3 : w9.cell? ⟨w.heap.size + 2, 3, none⟩ = some (.bool false) := RES.out.cell 3
    have f3 : w9.frozen? ⟨w.heap.size + 2, 3, none⟩ = false := RES.out.frozen 3
    have D := Lib.hid (And.intro (RES.out.put4 (.bool q.s) (.string (dec q.n)) (.string (dec q.d)) (.bool (decide (Top ≤ z)))) (bel_set4 (g := w.heap.size + 2) HW.out (by omega) (.bool q.s) (.string (dec q.n)) (.string (dec q.d)) (.bool (decide (Top ≤ z)))))
    go_wp2
    refine bodyPost_ret (v := .agg #[.bool q.s, .string (dec q.n), .string (dec q.d), .bool (decide (Top ≤ z))]) ?hr rfl ?hR
    case hR => exact ⟨(by rw [HZ.out.2.2]), D.out.2⟩
    case hr => exact results_cell_row rfl _ _ (w.heap.size + 2) 49 _ (0, 0) _ rfl D.out.1 Try.underlying49 rfl (by kernel_rfl)

theorem ref_add {q : Q} {k : Bool} (a b : Q) (w : World) (l1 : (decL a.n).length ≤ 160) (l2 : (decL a.d).length ≤ 160) (l3 : (decL b.n).length ≤ 160) (l4 : (decL b.d).length ≤ 160) (hq : addQ a b = q) (hk : (decide (Top ≤ a.n * b.d + b.n * a.d) || decide (Top ≤ a.d * b.d)) = k) :
    Calls Try.prog 36 #[.agg #[.bool a.s, .string (dec a.n), .string (dec a.d), .bool false], .agg #[.bool b.s, .string (dec b.n), .string (dec b.d), .bool false]] w (RetFr q k w) := by
  unfold addQ sumQ at hq
  rw [← hk]
  cases ho : decide (Top ≤ a.n * b.d + b.n * a.d)
  · rw [Bool.false_or]
    by_cases hs : a.s = b.s
    · rw [if_pos hs] at hq
      exact ref_add_samef a b w l1 l2 l3 l4 hs hq ho
    · rw [if_neg hs] at hq
      by_cases hl : a.n * b.d < b.n * a.d
      · rw [if_pos hl] at hq
        exact ref_add_ltf a b w l1 l2 l3 l4 hs hl hq ho
      · rw [if_neg hl] at hq
        exact ref_add_gef a b w l1 l2 l3 l4 hs (Nat.le_of_not_lt hl) hq ho
  · rw [Bool.true_or]
    by_cases hs : a.s = b.s
    · rw [if_pos hs] at hq
      exact ref_add_samet a b w l1 l2 l3 l4 hs hq ho
    · rw [if_neg hs] at hq
      by_cases hl : a.n * b.d < b.n * a.d
      · rw [if_pos hl] at hq
        exact ref_add_ltt a b w l1 l2 l3 l4 hs hl hq ho
      · rw [if_neg hl] at hq
        exact ref_add_get a b w l1 l2 l3 l4 hs (Nat.le_of_not_lt hl) hq ho
end Go.Proofs.Ytmbbdjpnecjleaa
