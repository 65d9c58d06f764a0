/-
 Parts: K8 K9 FOps.
-/
import Derived.Test.YtmbbdjpnecjleaaGreatH19
import Derived.BigQuiet
import Derived.Laws.BitsAllLaws
import Derived.Test.YtmbbdjpnecjleaaGreatH17
namespace Go.Proofs.YtmbbdjpnecjleaaGreat
section
set_option maxRecDepth 100000
set_option maxHeartbeats 1000000
open Go.RowKit

section
variable {P : Program} {ops : Array Oper} {rest : List Oper} {o : Oper} {a : Act} {w : World} {Q : Exit → Act → World → Prop}
end
def zipL (f : Nat → Nat → Nat) (xs ys : List Nat) (m : Nat) : List Nat := (List.range m).map fun i => f (xs.getD i 0) (ys.getD i 0)
theorem zipL_len (f : Nat → Nat → Nat) (xs ys : List Nat) (m : Nat) : (zipL f xs ys m).length = m := by unfold zipL; simp
theorem zipL_lim {f : Nat → Nat → Nat} {xs ys : List Nat} {m : Nat} (hf : ∀ x y, x < B32 → y < B32 → f x y < B32) (hx : Lim xs) (hy : Lim ys) : Lim (zipL f xs ys m) := by
 intro z hz
 unfold zipL at hz
 obtain ⟨i, _, rfl⟩ := List.mem_map.1 hz
 exact hf _ _ (hx.get i) (hy.get i)
def zipTo (f : Nat → Nat → Nat) (xs ys : List Nat) (m k : Nat) : List Nat := zipL f xs ys k ++ List.replicate (m - k) 0
theorem zipTo_step {f : Nat → Nat → Nat} {xs ys : List Nat} {m k v : Nat} (h : k < m) (hv : f (xs.getD k 0) (ys.getD k 0) = v) : (zipTo f xs ys m k).set k v = zipTo f xs ys m (k + 1) := by
 subst hv
 unfold zipTo
 obtain ⟨r, hr⟩ : ∃ r, m - k = r + 1 := ⟨m - k - 1, by omega⟩
 rw [List.set_append_right _ _ (by rw [zipL_len]; exact Nat.le_refl _), zipL_len, Nat.sub_self, hr, show m - (k + 1) = r by omega, List.replicate_succ, List.set_cons_zero]
 unfold zipL
 rw [List.range_succ, List.map_append, List.append_assoc]
 rfl
theorem zipTo_len {f : Nat → Nat → Nat} {xs ys : List Nat} {m k : Nat} (h : k ≤ m) : (zipTo f xs ys m k).length = m := by
 unfold zipTo
 rw [List.length_append, zipL_len, List.length_replicate]
 omega
theorem zipTo_all {f : Nat → Nat → Nat} {xs ys : List Nat} {m k : Nat} (h : ¬ k < m) (hk : k ≤ m) : zipTo f xs ys m k = zipL f xs ys m := by
 obtain rfl : k = m := by omega
 unfold zipTo
 rw [Nat.sub_self, List.replicate_zero, List.append_nil]
structure BwR (w wr : World) (G : Nat) (cx cy : Array Value) (u : List Nat) : Prop where
 old : Below w.heap.size w wr
 cx : Blk wr w.heap.size 25 cx
 cy : Blk wr (w.heap.size + 1) 25 cy
 res : Blk wr (w.heap.size + 2) 25 #[.bool false, .slice none 0 0, .slice none 0 0]
 out : Blk wr G 62 (arr limbV u)
 new : w.heap.size + 3 ≤ G
theorem BwR.step {w wr : World} {G : Nat} {cx cy : Array Value} {u : List Nat} (h : BwR w wr G cx cy u) (k v : Nat) : BwR w (wr.setCell ⟨G, k, none⟩ (.int .u32 (v : Int))) G cx cy (u.set k v) :=
 ⟨h.old.setCell (by have := h.new; show _ ≤ G; omega) _, h.cx.far (p := ⟨G, k, none⟩) (by have := h.new; show _ ≠ G; omega) _, h.cy.far (p := ⟨G, k, none⟩) (by have := h.new; show _ ≠ G; omega) _, h.res.far (p := ⟨G, k, none⟩) (by have := h.new; show _ ≠ G; omega) _, h.out.set_ k v, h.new⟩
theorem BwR.drew {w wr : World} {G : Nat} {cx cy : Array Value} {u : List Nat} (h : BwR w wr G cx cy u) (n : Nat) : BwR w (wr.drewN n) G cx cy u := by
 have hb : Below wr.heap.size wr (wr.drewN n) := bel_drewN (bel_refl _) _
 exact ⟨bel_trans h.old hb, h.cx.below hb h.cx.lt, h.cy.below hb h.cy.lt, h.res.below hb h.res.lt, h.out.below hb h.out.lt, h.new⟩
theorem run_maxN (n m k : Nat) (hk : max n m = k) (ts : Array TypeId) (t : TypeId) (w : World) : (Builtin.max_ ts t #[.int .i64 (n : Int), .int .i64 (m : Int)]).run Tryz.prog w = .ok (.int .i64 (k : Int)) w := by
 rw [run_max_int2]
 congr 2
 subst hk
 split <;> omega
theorem kBitw_nega (F : FuncId) (a b : Q) (A B A' B' : Option Addr) (c d c' d' : Nat) (w : World) :
 Calls Tryz.prog 104 #[.agg #[.bool true, .slice A (limbs a.n).length c, .slice B (limbs a.d).length d], .agg #[.bool b.s, .slice A' (limbs b.n).length c', .slice B' (limbs b.d).length d'], .func (.func F) #[] #[]] w (RetQE noQ 2 w) := by
 have D := Lib.hid (And.intro (Blk.new ((w.alloc (.cells #[.bool true, .slice A (limbs a.n).length c, .slice B (limbs a.d).length d] 25)).alloc (.cells #[.bool b.s, .slice A' (limbs b.n).length c', .slice B' (limbs b.d).length d'] 25)) 25 #[.bool false, .slice none 0 0, .slice none 0 0]) (bel_alloc (bel_alloc (bel_alloc (bel_refl w) (.cells #[.bool true, .slice A (limbs a.n).length c, .slice B (limbs a.d).length d] 25)) (.cells #[.bool b.s, .slice A' (limbs b.n).length c', .slice B' (limbs b.d).length d'] 25)) (.cells #[.bool false, .slice none 0 0, .slice none 0 0] 25)))
 rw [World.size_alloc, World.size_alloc] at D
 go_enter Tryz.func104, Tryz.ntmps104
 go_wp2
 exact bodyPost_ret (results_row_tmp rfl _ _ (w.heap.size + 2) 25 _ (0, 0) _ _ rfl rfl D.out.1 Tryz.underlying25 rfl (by kernel_rfl)) rfl ⟨_, _, rfl, RdN.none0 _, RdN.none0 _, D.out.2⟩
theorem kBitw_negb (F : FuncId) (a b : Q) (A B A' B' : Option Addr) (c d c' d' : Nat) (w : World) :
 Calls Tryz.prog 104 #[.agg #[.bool false, .slice A (limbs a.n).length c, .slice B (limbs a.d).length d], .agg #[.bool true, .slice A' (limbs b.n).length c', .slice B' (limbs b.d).length d'], .func (.func F) #[] #[]] w (RetQE noQ 2 w) := by
 have D := Lib.hid (And.intro (Blk.new ((w.alloc (.cells #[.bool false, .slice A (limbs a.n).length c, .slice B (limbs a.d).length d] 25)).alloc (.cells #[.bool true, .slice A' (limbs b.n).length c', .slice B' (limbs b.d).length d'] 25)) 25 #[.bool false, .slice none 0 0, .slice none 0 0]) (bel_alloc (bel_alloc (bel_alloc (bel_refl w) (.cells #[.bool false, .slice A (limbs a.n).length c, .slice B (limbs a.d).length d] 25)) (.cells #[.bool true, .slice A' (limbs b.n).length c', .slice B' (limbs b.d).length d'] 25)) (.cells #[.bool false, .slice none 0 0, .slice none 0 0] 25)))
 rw [World.size_alloc, World.size_alloc] at D
 go_enter Tryz.func104, Tryz.ntmps104
 go_wp2
 exact bodyPost_ret (results_row_tmp rfl _ _ (w.heap.size + 2) 25 _ (0, 0) _ _ rfl rfl D.out.1 Tryz.underlying25 rfl (by kernel_rfl)) rfl ⟨_, _, rfl, RdN.none0 _, RdN.none0 _, D.out.2⟩
theorem kBitw_fit {r : Q} {f : Nat → Nat → Nat} (F : FuncId) (a b : Q) (A B A' B' : Option Addr) (c d c' d' : Nat) (w : World) (h1 : RdL w A (limbs a.n)) (h3 : RdL w A' (limbs b.n)) (ha : a.n < Top) (hb : b.n < Top) (hE : ∀ vs w, (callFunc F vs).run Tryz.prog w = .ok (.enter F vs) w)
 (hF : ∀ (x y : Nat) W, x < B32 → y < B32 → Calls Tryz.prog F #[.int .u32 (x : Int), .int .u32 (y : Int)] W fun e w' => e = .returned (.int .u32 (f x y : Nat)) ∧ w' = W) (hf : ∀ x y, x < B32 → y < B32 → f x y < B32) (hr : redQ false (lval (zipL f (limbs a.n) (limbs b.n) (max (limbs a.n).length (limbs b.n).length))) 1 = r) :
 Calls Tryz.prog 104 #[.agg #[.bool false, .slice A (limbs a.n).length c, .slice B (limbs a.d).length d], .agg #[.bool false, .slice A' (limbs b.n).length c', .slice B' (limbs b.d).length d'], .func (.func F) #[] #[]] w (RetQE r 0 w) := by
 have R1 := Lib.hid h1; clear h1
 have R3 := Lib.hid h3; clear h3
 have HF := Lib.hid hF; clear hF
 have l1 := limbs_len16 ha
 have l3 := limbs_len16 hb
 have hlx := limbs_lim a.n
 have hly := limbs_lim b.n
 have HT := Lib.hid (And.intro ha hb); clear ha hb
 obtain ⟨xs, hxs⟩ : ∃ xs, limbs a.n = xs := ⟨_, rfl⟩
 obtain ⟨ys, hys⟩ : ∃ ys, limbs b.n = ys := ⟨_, rfl⟩
 rw [hxs] at R1 l1 hlx hr ⊢
 rw [hys] at R3 l3 hly hr ⊢
 clear hxs hys
 obtain ⟨m, hm⟩ : ∃ m, max xs.length ys.length = m := ⟨_, rfl⟩
 rw [hm] at hr
 have hmk := fun W => run_mk (P := Tryz.prog) limbV 0 23 62 4 (by kernel_rfl) info_u32 rfl m (by omega) (by omega) W
 have hmx := fun ts t W => run_maxN xs.length ys.length m hm ts t W
 have hm16 : m ≤ 16 := by omega
 have HM := Lib.hid (And.intro hm hm16); clear hm
 have HZ := Lib.hid (And.intro hr (And.intro hlx (And.intro hly hf))); clear hr hlx hly hf
 go_enter Tryz.func104, Tryz.ntmps104
 go_wp2
 go_loopw [9, 10, 11, 29] (fun _ _ _ iv wr => ∃ (k : Nat), iv = .int .i64 (k : Int) ∧ k ≤ m ∧ BwR w wr (w.heap.size + 1 + 1 + 1) #[.bool false, .slice A xs.length c, .slice B (limbs a.d).length d] #[.bool false, .slice A' ys.length c', .slice B' (limbs b.d).length d'] (zipTo f xs ys m k)) (fun _ _ _ iv _ => m - (intOf iv).toNat)
 case atStart =>
  refine ⟨0, rfl, Nat.zero_le _, ⟨bel_alloc (bel_alloc (bel_alloc (bel_alloc (bel_refl _) _) _) _) _, (((Blk.new w _ _).alloc _).alloc _).alloc _, ?_, ?_, ?_, by omega⟩⟩
  · have hz := Blk.new (w.alloc (.cells #[.bool false, .slice A xs.length c, .slice B (limbs a.d).length d] 25)) 25 #[.bool false, .slice A' ys.length c', .slice B' (limbs b.d).length d']
    rw [World.size_alloc] at hz
    exact (hz.alloc _).alloc _
  · have hz := Blk.new ((w.alloc (.cells #[.bool false, .slice A xs.length c, .slice B (limbs a.d).length d] 25)).alloc (.cells #[.bool false, .slice A' ys.length c', .slice B' (limbs b.d).length d'] 25)) 25 #[.bool false, .slice none 0 0, .slice none 0 0]
    rw [World.size_alloc, World.size_alloc] at hz
    exact hz.alloc _
  · have hz := Blk.new (((w.alloc (.cells #[.bool false, .slice A xs.length c, .slice B (limbs a.d).length d] 25)).alloc (.cells #[.bool false, .slice A' ys.length c', .slice B' (limbs b.d).length d'] 25)).alloc (.cells #[.bool false, .slice none 0 0, .slice none 0 0] 25)) 62 (arr limbV (List.replicate m 0))
    rw [World.size_alloc, World.size_alloc, World.size_alloc] at hz
    exact hz
 case round =>
  obtain ⟨k, rfl, hk, hrel⟩ := hrel
  have HA := Lib.hid hrel; clear hrel
  have x0 : wr.cell? ⟨w.heap.size, 1, none⟩ = some (.slice A xs.length c) := HA.out.cx.cell 1
  have y0 : wr.cell? ⟨w.heap.size + 1, 1, none⟩ = some (.slice A' ys.length c') := HA.out.cy.cell 1
  by_cases hlt : k < m
  · have hlt' : (k : Int) < (m : Int) := by omega
    have hcj := HA.out.out.at_ 0 (k := k) (by rw [zipTo_len hk]; exact hlt)
    rw [limbV_eq] at hcj
    have hfz : wr.frozen? ⟨(w.heap.size + 1 + 1 + 1), k, none⟩ = false := HA.out.out.frozen k
    have RX := Lib.hid (R1.out.below HA.out.old)
    have RY := Lib.hid (R3.out.below HA.out.old)
    obtain ⟨x, hx⟩ : ∃ x, x = xs.getD k 0 := ⟨_, rfl⟩
    obtain ⟨y, hy⟩ : ∃ y, y = ys.getD k 0 := ⟨_, rfl⟩
    by_cases hX : k < xs.length
    · obtain ⟨gx, ox, rfl, hgx, hcx⟩ := RX.out.at_ hX
      rw [← hx] at hcx
      have ix : (k : Int) < (xs.length : Int) := by omega
      by_cases hY : k < ys.length
      · obtain ⟨gy, oy, rfl, hgy, hcy⟩ := RY.out.at_ hY
        rw [← hy] at hcy
        have iy : (k : Int) < (ys.length : Int) := by omega
        have HXY := Lib.hid (And.intro hx hy); clear hx hy
        go_wp2_with fail
        refine (HF.out x y _ (by have := HZ.out.2.1.get k; rwa [← HXY.out.1] at this) (by have := HZ.out.2.2.1.get k; rwa [← HXY.out.2] at this)).mono ?_
        rintro e wf ⟨rfl, hwf⟩
        obtain rfl := hwf.symm
        clear hwf
        go_wp2
        go_roundw
        case rel => exact ⟨k + 1, by go_num, by omega, by rw [← zipTo_step hlt (v := f x y) (by rw [← HXY.out.1, ← HXY.out.2])]; exact HA.out.step k _⟩
        case measure => simp [intOf]; omega
      · have iy : ¬ (k : Int) < (ys.length : Int) := by omega
        have zy : y = 0 := by rw [hy, List.getD_eq_getElem?_getD, List.getElem?_eq_none (by omega)]; rfl
        have HXY := Lib.hid (And.intro hx hy); clear hx hy
        subst zy
        go_wp2_with fail
        refine (HF.out x 0 _ (by have := HZ.out.2.1.get k; rwa [← HXY.out.1] at this) (by have := HZ.out.2.2.1.get k; rwa [← HXY.out.2] at this)).mono ?_
        rintro e wf ⟨rfl, hwf⟩
        obtain rfl := hwf.symm
        clear hwf
        go_wp2
        go_roundw
        case rel => exact ⟨k + 1, by go_num, by omega, by rw [← zipTo_step hlt (v := f x 0) (by rw [← HXY.out.1, ← HXY.out.2])]; exact HA.out.step k _⟩
        case measure => simp [intOf]; omega
    · have ix : ¬ (k : Int) < (xs.length : Int) := by omega
      have zx : x = 0 := by rw [hx, List.getD_eq_getElem?_getD, List.getElem?_eq_none (by omega)]; rfl
      by_cases hY : k < ys.length
      · obtain ⟨gy, oy, rfl, hgy, hcy⟩ := RY.out.at_ hY
        rw [← hy] at hcy
        have iy : (k : Int) < (ys.length : Int) := by omega
        have HXY := Lib.hid (And.intro hx hy); clear hx hy
        subst zx
        go_wp2_with fail
        refine (HF.out 0 y _ (by have := HZ.out.2.1.get k; rwa [← HXY.out.1] at this) (by have := HZ.out.2.2.1.get k; rwa [← HXY.out.2] at this)).mono ?_
        rintro e wf ⟨rfl, hwf⟩
        obtain rfl := hwf.symm
        clear hwf
        go_wp2
        go_roundw
        case rel => exact ⟨k + 1, by go_num, by omega, by rw [← zipTo_step hlt (v := f 0 y) (by rw [← HXY.out.1, ← HXY.out.2])]; exact HA.out.step k _⟩
        case measure => simp [intOf]; omega
      · have iy : ¬ (k : Int) < (ys.length : Int) := by omega
        have zy : y = 0 := by rw [hy, List.getD_eq_getElem?_getD, List.getElem?_eq_none (by omega)]; rfl
        have HXY := Lib.hid (And.intro hx hy); clear hx hy
        subst zx
        subst zy
        go_wp2_with fail
        refine (HF.out 0 0 _ (by have := HZ.out.2.1.get k; rwa [← HXY.out.1] at this) (by have := HZ.out.2.2.1.get k; rwa [← HXY.out.2] at this)).mono ?_
        rintro e wf ⟨rfl, hwf⟩
        obtain rfl := hwf.symm
        clear hwf
        go_wp2
        go_roundw
        case rel => exact ⟨k + 1, by go_num, by omega, by rw [← zipTo_step hlt (v := f 0 0) (by rw [← HXY.out.1, ← HXY.out.2])]; exact HA.out.step k _⟩
        case measure => simp [intOf]; omega
  · have hlt' : ¬ (k : Int) < (m : Int) := by omega
    have HB : Hid (BwR w wr (w.heap.size + 1 + 1 + 1) #[.bool false, .slice A xs.length c, .slice B (limbs a.d).length d] #[.bool false, .slice A' ys.length c', .slice B' (limbs b.d).length d'] (zipL f xs ys m)) := Lib.hid (by have := HA.out; rwa [zipTo_all hlt hk] at this)
    clear HA x0 y0
    have hzl := zipL_len f xs ys m
    have hzm := zipL_lim HZ.out.2.2.2 HZ.out.2.1 HZ.out.2.2.1 (m := m)
    have hzr := HZ.out.1
    obtain ⟨zs, hzs⟩ : ∃ zs, zipL f xs ys m = zs := ⟨_, rfl⟩
    rw [hzs] at HB hzl hzm hzr
    clear hzs
    have HL := Lib.hid (And.intro hzl (And.intro hzm hzr)); clear hzl hzm hzr
    obtain ⟨i0, hi, hz0, hz1, hz2⟩ := info_parts info_u32
    have HI := Lib.hid hi; clear hi hz0 hz1 hz2
    go_wp2
    go_loopw [8] (fun v wq => ∃ j : Nat, j ≤ m ∧ v = .slice (some ⟨(w.heap.size + 1 + 1 + 1), 0, none⟩) j m ∧ (∀ x ∈ zs.drop j, x = 0) ∧ BwR w wq (w.heap.size + 1 + 1 + 1) #[.bool false, .slice A xs.length c, .slice B (limbs a.d).length d] #[.bool false, .slice A' ys.length c', .slice B' (limbs b.d).length d'] zs) (fun v _ => match v with | .slice _ n _ => n | _ => 0)
    case atStart => exact ⟨m, Nat.le_refl _, rfl, (by rw [List.drop_eq_nil_of_le (by rw [HL.out.1]; exact Nat.le_refl _)]; intro x hx; cases hx), HB.out⟩
    case round =>
     obtain ⟨j, hj, rfl, hzz, hrel⟩ := hrel
     have HA := Lib.hid hrel; clear hrel
     have HD := Lib.hid hzz; clear hzz
     have fin : ∀ N, limbs N = zs.take j → N < Top → redQ false N 1 = r → RdL wr (some ⟨(w.heap.size + 1 + 1 + 1), 0, none⟩) (limbs N) ∧ (limbs N).length = j := fun N hN _ _ => by
      have hl : (zs.take j).length = j := by rw [List.length_take, HL.out.1]; omega
      rw [hN]
      refine ⟨?_, hl⟩
      have hrd := HA.out.out.rd 0 (zs.take j).length (by rw [hl, HL.out.1]; exact hj)
      intro hp
      obtain ⟨b0, o0, e0, hb0, hc0⟩ := hrd hp
      refine ⟨b0, o0, e0, hb0, fun i hi => ?_⟩
      rw [hc0 i hi]
      show some (limbV (zs.getD i 0)) = some (.int .u32 ((zs.take j).getD i 0 : Nat))
      rw [limbV_eq, List.getD_eq_getElem?_getD, List.getD_eq_getElem?_getD, List.getElem?_take_of_lt (by rw [hl] at hi; exact hi)]
     have HFIN := Lib.hid fin; clear fin
     have hvT : lval zs < Top := lval_le_pow HL.out.2.1 (by rw [HL.out.1]; exact hm16)
     have HVT := Lib.hid hvT; clear hvT
     have done : ∀ N, lval zs = N → limbs N = zs.take j → Hid (N < Top ∧ redQ false N 1 = r) := fun N hN _ => Lib.hid ⟨by rw [← hN]; exact HVT.out, by rw [← hN]; exact HL.out.2.2⟩
     by_cases h0 : j = 0
     · subst h0
       have hN0 : lval zs = 0 := val_zeros _ _ (by simpa using HD.out)
       have hE0 : limbs 0 = zs.take 0 := rfl
       have HN := done 0 hN0 hE0
       obtain ⟨hrd, _⟩ := HFIN.out 0 hE0 HN.out.1 HN.out.2
       have RO := Lib.hid hrd
       clear done hrd hN0 hE0
       have RES := Lib.hid HA.out.res
       have HW := Lib.hid HA.out.old
       have HJ := Lib.hid hj
       clear HA
       go_wp2_with fail
       refine (kOne_any _).mono ?_
       rintro e w1 ⟨vo, rfl, hno, hbl⟩
       replace RO := hmR RO hbl
       replace RES := hmB RES hbl
       replace HW := hmW HW hbl; clear hbl
       have HNo := Lib.hid hno; clear hno
       obtain ⟨Ao, co, rfl, hco, hro⟩ := HNo.out.row
       have Ro := Lib.hid hro; have HCo := Lib.hid hco; clear hro hco
       go_wp2_with fail
       refine (make_ok false (some ⟨(w.heap.size + 1 + 1 + 1), 0, none⟩) Ao m co 0 1 _ RO.out Ro.out (Nat.zero_le _) HCo.out HN.out.1 (small_top (by decide)) (by decide) HN.out.2).mono ?_
       rintro e w2 ⟨vx, vy, rfl, hnx, hny, hbl⟩
       replace RO := hmR RO hbl
       replace Ro := hmR Ro hbl
       replace HNo := hmN HNo hbl
       replace RES := hmB RES hbl
       replace HW := hmW HW hbl; clear hbl
       have HNx := Lib.hid hnx; clear hnx
       obtain ⟨Ax, cx, rfl, hcx, hrx⟩ := HNx.out.row
       have Rx := Lib.hid hrx; have HCx := Lib.hid hcx; clear hrx hcx
       have HNy := Lib.hid hny; clear hny
       obtain ⟨Ay, cy, rfl, hcy, hry⟩ := HNy.out.row
       have Ry := Lib.hid hry; have HCy := Lib.hid hcy; clear hry hcy
       obtain ⟨d0, d1, d2⟩ := RES.out.cs3
       obtain ⟨f0, f1, f2⟩ := RES.out.fz3
       go_wp2
       exact bodyPost_ret (results_row_tmp rfl _ _ (w.heap.size + 2) 25 _ (0, 0) _ _ rfl rfl (RES.out.put3 _ _ _) Tryz.underlying25 rfl (by kernel_rfl)) rfl ⟨_, _, rfl, (RdN.set3 RES.out (HNx.out) _ _ _), (RdN.set3 RES.out (HNy.out) _ _ _), (bel_set3 (g := w.heap.size + 2) HW.out (by omega) _ _ _)⟩
     · have hjm : j - 1 < m := by omega
       have hcj := HA.out.out.at_ 0 (k := j - 1) (by rw [HL.out.1]; exact hjm)
       rw [limbV_eq] at hcj
       obtain ⟨x, hx⟩ : ∃ x, x = zs.getD (j - 1) 0 := ⟨_, rfl⟩
       rw [← hx] at hcj
       have HC := Lib.hid hx; clear hx
       have g0 : (0 : Int) < (j : Int) := by omega
       have g3 : (j : Int) - 1 = ((j - 1 : Nat) : Int) := by omega
       have g4 : ((j - 1 : Nat) : Int) < (j : Int) := by omega
       have hcut := fun W => run_cut_to (P := Tryz.prog) 23 62 i0 (by kernel_rfl) HI.out (some ⟨(w.heap.size + 1 + 1 + 1), 0, none⟩) j m (j - 1) (by omega) W
       by_cases hx0 : x = 0
       · subst hx0
         clear done
         go_wp2
         go_roundw
         case rel => exact ⟨j - 1, by omega, rfl, trim_more (by rw [HL.out.1]; exact hj) h0 HD.out HC.out.symm, HA.out⟩
         case measure => dsimp only; omega
       · have hxz : ((x : Int) == 0) = false := by simp only [beq_eq_false_iff_ne, ne_eq]; omega
         obtain ⟨N, hN⟩ : ∃ N, lval zs = N := ⟨_, rfl⟩
         have hEN : limbs N = zs.take j := by rw [← hN]; exact trim_done HL.out.2.1 (by rw [HL.out.1]; exact hj) h0 HD.out (by rw [← HC.out]; exact hx0)
         have HN := done N hN hEN
         obtain ⟨hrd, hlj⟩ := HFIN.out N hEN HN.out.1 HN.out.2
         have RO := Lib.hid hrd
         clear done hrd hN hEN hcut HD
         subst hlj
         have RES := Lib.hid HA.out.res
         have HW := Lib.hid HA.out.old
         have HJ := Lib.hid hj
         clear HA
         go_wp2_with fail
         refine (kOne_any _).mono ?_
         rintro e w1 ⟨vo, rfl, hno, hbl⟩
         replace RO := hmR RO hbl
         replace RES := hmB RES hbl
         replace HW := hmW HW hbl; clear hbl
         have HNo := Lib.hid hno; clear hno
         obtain ⟨Ao, co, rfl, hco, hro⟩ := HNo.out.row
         have Ro := Lib.hid hro; have HCo := Lib.hid hco; clear hro hco
         go_wp2_with fail
         refine (make_ok false (some ⟨(w.heap.size + 1 + 1 + 1), 0, none⟩) Ao m co N 1 _ RO.out Ro.out HJ.out HCo.out HN.out.1 (small_top (by decide)) (by decide) HN.out.2).mono ?_
         rintro e w2 ⟨vx, vy, rfl, hnx, hny, hbl⟩
         replace RO := hmR RO hbl
         replace Ro := hmR Ro hbl
         replace HNo := hmN HNo hbl
         replace RES := hmB RES hbl
         replace HW := hmW HW hbl; clear hbl
         have HNx := Lib.hid hnx; clear hnx
         obtain ⟨Ax, cx, rfl, hcx, hrx⟩ := HNx.out.row
         have Rx := Lib.hid hrx; have HCx := Lib.hid hcx; clear hrx hcx
         have HNy := Lib.hid hny; clear hny
         obtain ⟨Ay, cy, rfl, hcy, hry⟩ := HNy.out.row
         have Ry := Lib.hid hry; have HCy := Lib.hid hcy; clear hry hcy
         obtain ⟨d0, d1, d2⟩ := RES.out.cs3
         obtain ⟨f0, f1, f2⟩ := RES.out.fz3
         go_wp2
         exact bodyPost_ret (results_row_tmp rfl _ _ (w.heap.size + 2) 25 _ (0, 0) _ _ rfl rfl (RES.out.put3 _ _ _) Tryz.underlying25 rfl (by kernel_rfl)) rfl ⟨_, _, rfl, (RdN.set3 RES.out (HNx.out) _ _ _), (RdN.set3 RES.out (HNy.out) _ _ _), (bel_set3 (g := w.heap.size + 2) HW.out (by omega) _ _ _)⟩
end
end Go.Proofs.YtmbbdjpnecjleaaGreat
namespace Go.Proofs.YtmbbdjpnecjleaaGreat
section
set_option maxRecDepth 100000
set_option maxHeartbeats 1000000
open Go.RowKit

theorem cut_bits (x X j : Nat) (h : x < 2 ^ 32) : (x + 2 ^ 32 * X).testBit j = if j < 32 then x.testBit j else X.testBit (j - 32) := by
 rw [Nat.add_comm, Nat.testBit_two_pow_mul_add _ h]
theorem and_cut {x y : Nat} (X Y : Nat) (h : x < 2 ^ 32) (h' : y < 2 ^ 32) : (x + 2 ^ 32 * X) &&& (y + 2 ^ 32 * Y) = (x &&& y) + 2 ^ 32 * (X &&& Y) := by
 apply Nat.eq_of_testBit_eq
 intro j
 rw [Nat.testBit_and, cut_bits _ _ _ h, cut_bits _ _ _ h', cut_bits _ _ _ (Nat.lt_of_le_of_lt Nat.and_le_left h)]
 split
 · rw [Nat.testBit_and]
 · rw [Nat.testBit_and]
theorem or_cut {x y : Nat} (X Y : Nat) (h : x < 2 ^ 32) (h' : y < 2 ^ 32) : (x + 2 ^ 32 * X) ||| (y + 2 ^ 32 * Y) = (x ||| y) + 2 ^ 32 * (X ||| Y) := by
 apply Nat.eq_of_testBit_eq
 intro j
 rw [Nat.testBit_or, cut_bits _ _ _ h, cut_bits _ _ _ h', cut_bits _ _ _ (Nat.or_lt_two_pow h h')]
 split
 · rw [Nat.testBit_or]
 · rw [Nat.testBit_or]
theorem xor_cut {x y : Nat} (X Y : Nat) (h : x < 2 ^ 32) (h' : y < 2 ^ 32) : (x + 2 ^ 32 * X) ^^^ (y + 2 ^ 32 * Y) = (x ^^^ y) + 2 ^ 32 * (X ^^^ Y) := by
 apply Nat.eq_of_testBit_eq
 intro j
 rw [Nat.testBit_xor, cut_bits _ _ _ h, cut_bits _ _ _ h', cut_bits _ _ _ (Nat.xor_lt_two_pow h h')]
 split
 · rw [Nat.testBit_xor]
 · rw [Nat.testBit_xor]
theorem lval_head (xs : List Nat) : lval xs = xs.getD 0 0 + 2 ^ 32 * lval xs.tail := by
 cases xs with
 | nil => rfl
 | cons x r => rfl
theorem zipL_head (f : Nat → Nat → Nat) (xs ys : List Nat) (m : Nat) : zipL f xs ys (m + 1) = f (xs.getD 0 0) (ys.getD 0 0) :: zipL f xs.tail ys.tail m := by
 unfold zipL
 rw [List.range_succ_eq_map, List.map_cons, List.map_map]
 congr 1
 apply List.map_congr_left
 intro i _
 cases xs <;> cases ys <;> simp
theorem zipL_val {f g : Nat → Nat → Nat} (h0 : g 0 0 = 0) (hc : ∀ x y X Y, x < 2 ^ 32 → y < 2 ^ 32 → g (x + 2 ^ 32 * X) (y + 2 ^ 32 * Y) = f x y + 2 ^ 32 * g X Y) :
 ∀ (m : Nat) (xs ys : List Nat), Lim xs → Lim ys → xs.length ≤ m → ys.length ≤ m → lval (zipL f xs ys m) = g (lval xs) (lval ys)
 | 0, xs, ys, _, _, h, h' => by
  rw [List.eq_nil_of_length_eq_zero (by omega : xs.length = 0), List.eq_nil_of_length_eq_zero (by omega : ys.length = 0)]
  exact h0.symm
 | m + 1, xs, ys, hx, hy, h, h' => by
  have ih := zipL_val h0 hc m xs.tail ys.tail (fun z hz => hx z (List.mem_of_mem_tail hz)) (fun z hz => hy z (List.mem_of_mem_tail hz)) (by rw [List.length_tail]; omega) (by rw [List.length_tail]; omega)
  rw [zipL_head, lval_head xs, lval_head ys, hc _ _ _ _ (hx.get 0) (hy.get 0), ← ih]
  rfl
theorem limbs_zip {f g : Nat → Nat → Nat} (h0 : g 0 0 = 0) (hc : ∀ x y X Y, x < 2 ^ 32 → y < 2 ^ 32 → g (x + 2 ^ 32 * X) (y + 2 ^ 32 * Y) = f x y + 2 ^ 32 * g X Y) (a b : Nat) :
 lval (zipL f (limbs a) (limbs b) (max (limbs a).length (limbs b).length)) = g a b := by
 rw [zipL_val h0 hc _ _ _ (limbs_lim a) (limbs_lim b) (by omega) (by omega), lval_limbs, lval_limbs]
def bop (k : Nat) (x y : Nat) : Nat := if k = 0 then x &&& y else if k = 1 then x ||| y else x ^^^ y
theorem bop_cut (k : Nat) : ∀ x y X Y, x < 2 ^ 32 → y < 2 ^ 32 → bop k (x + 2 ^ 32 * X) (y + 2 ^ 32 * Y) = bop k x y + 2 ^ 32 * bop k X Y := by
 intro x y X Y h h'
 unfold bop
 split
 · exact and_cut X Y h h'
 · split
   · exact or_cut X Y h h'
   · exact xor_cut X Y h h'
theorem bop_zero (k : Nat) : bop k 0 0 = 0 := by
 unfold bop
 split
 · rfl
 · split <;> rfl
theorem bop_lt (k : Nat) {x y n : Nat} (h : x < 2 ^ n) (h' : y < 2 ^ n) : bop k x y < 2 ^ n := by
 unfold bop
 split
 · exact Nat.lt_of_le_of_lt Nat.and_le_left h
 · split
   · exact Nat.or_lt_two_pow h h'
   · exact Nat.xor_lt_two_pow h h'
theorem kOp1_is (x y : Nat) (w : World) (h : x < B32) (h' : y < B32) : Calls Tryz.prog 60 #[.int .u32 (x : Int), .int .u32 (y : Int)] w fun e w' => e = .returned (.int .u32 (bop 0 x y : Nat)) ∧ w' = w := by
 have hb : bits .and .u32 (x : Int) (y : Int) = ((bop 0 x y : Nat) : Int) := u32_and_nat x y h h'
 go_enter Tryz.func60, Tryz.ntmps60
 go_wp2
 go_ret
 exact ⟨rfl, rfl⟩
theorem kOp1_enter (vs : Array Value) (w : World) : (callFunc 60 vs).run Tryz.prog w = .ok (.enter 60 vs) w := by kernel_rfl
theorem kOp2_is (x y : Nat) (w : World) (h : x < B32) (h' : y < B32) : Calls Tryz.prog 61 #[.int .u32 (x : Int), .int .u32 (y : Int)] w fun e w' => e = .returned (.int .u32 (bop 1 x y : Nat)) ∧ w' = w := by
 have hb : bits .or .u32 (x : Int) (y : Int) = ((bop 1 x y : Nat) : Int) := u32_or_nat x y h h'
 go_enter Tryz.func61, Tryz.ntmps61
 go_wp2
 go_ret
 exact ⟨rfl, rfl⟩
theorem kOp2_enter (vs : Array Value) (w : World) : (callFunc 61 vs).run Tryz.prog w = .ok (.enter 61 vs) w := by kernel_rfl
theorem kOp3_is (x y : Nat) (w : World) (h : x < B32) (h' : y < B32) : Calls Tryz.prog 62 #[.int .u32 (x : Int), .int .u32 (y : Int)] w fun e w' => e = .returned (.int .u32 (bop 2 x y : Nat)) ∧ w' = w := by
 have hb : bits .xor .u32 (x : Int) (y : Int) = ((bop 2 x y : Nat) : Int) := u32_xor_nat x y h h'
 go_enter Tryz.func62, Tryz.ntmps62
 go_wp2
 go_ret
 exact ⟨rfl, rfl⟩
theorem kOp3_enter (vs : Array Value) (w : World) : (callFunc 62 vs).run Tryz.prog w = .ok (.enter 62 vs) w := by kernel_rfl
end
end Go.Proofs.YtmbbdjpnecjleaaGreat
namespace Go.Proofs.YtmbbdjpnecjleaaGreat
section
set_option maxRecDepth 100000
set_option maxHeartbeats 1000000
open Go.RowKit

theorem decL_mul (a b : Nat) : (decL (a * b)).length ≤ (decL a).length + (decL b).length := by
 refine decL_len_le ?_ (by have := decL_len_pos a; omega)
 have h1 := decL_bound a
 have h2 := decL_bound b
 rw [Nat.pow_add]
 by_cases h : b = 0
 · rw [h, Nat.mul_zero]; exact Nat.mul_pos (Nat.pow_pos (by decide)) (Nat.pow_pos (by decide))
 · exact Nat.lt_of_lt_of_le (Nat.mul_lt_mul_of_pos_right h1 (Nat.pos_of_ne_zero h)) (Nat.mul_le_mul_left _ (Nat.le_of_lt h2))
theorem ref_quo {q : Q} {k : Bool} (a b : Q) (w : World) (l1 : (decL a.n).length ≤ 160) (l2 : (decL a.d).length ≤ 160) (l3 : (decL b.n).length ≤ 160) (l4 : (decL b.d).length ≤ 160) (hq : redQ (a.s != b.s) (a.n * b.d) (a.d * b.n) = q) (hb : overB false (a.n * b.d) (a.d * b.n) = k) :
 Calls Tryz.prog 127 #[.agg #[.bool a.s, .string (dec a.n), .string (dec a.d), .bool false], .agg #[.bool b.s, .string (dec b.n), .string (dec b.d), .bool false]] w (RetFr q k w) := by
 have L := Lib.hid (And.intro l1 (And.intro l2 (And.intro l3 l4))); clear l1 l2 l3 l4
 have HQ := Lib.hid (And.intro hq hb); clear hq hb
 obtain ⟨wa, hwa⟩ : ∃ wa, wa = ((w.alloc (.cells #[.bool a.s, .string (dec a.n), .string (dec a.d), .bool false] 37)).alloc (.cells #[.bool b.s, .string (dec b.n), .string (dec b.d), .bool false] 37)).alloc (.cells #[.bool false, .string ⟨#[]⟩, .string ⟨#[]⟩, .bool false] 37) := ⟨_, rfl⟩
 obtain ⟨hbl, CX, CY, RES⟩ := sal3 hwa
 have HW := Lib.hid hbl; clear hbl
 go_enter Tryz.func127, Tryz.ntmps127
 go_wp2_with fail
 rw [← hwa]
 clear hwa
 refine wp_region_typed 17 (TOf [VIs (.pointer (some ⟨w.heap.size, 0, none⟩)),
  VIs (.bool a.s),
  VIs (.pointer (some ⟨w.heap.size + 1, 0, none⟩)),
  VIs (.bool b.s),
  VIs (.bool (a.s != b.s)),
  VIs (.pointer (some ⟨w.heap.size, 1, none⟩)),
  VIs (.string (dec a.n)),
  VIs (.pointer (some ⟨w.heap.size + 1, 2, none⟩)),
  VIs (.string (dec b.d)),
  VIs (.string (dec (a.n * b.d))),
  VIs (.pointer (some ⟨w.heap.size, 2, none⟩)),
  VIs (.string (dec a.d)),
  VIs (.pointer (some ⟨w.heap.size + 1, 1, none⟩)),
  VIs (.string (dec b.n)),
  VIs (.string (dec (a.d * b.n))),
  VIs (.agg #[.bool (a.s != b.s), .string (dec (a.n * b.d)), .string (dec (a.d * b.n)), .bool false]),
  VIs (.agg #[.bool q.s, .string (dec q.n), .string (dec q.d), .bool k])]) (by kernel_rfl) (by kernel_rfl) (by kernel_rfl) (LiftAll.at_ (.cons (VIs.lift _) (.cons (VIs.lift _) (.cons (VIs.lift _) (.cons (VIs.lift _) (.cons (VIs.lift _) (.cons (VIs.lift _) (.cons (VIs.lift _) (.cons (VIs.lift _) (.cons (VIs.lift _) (.cons (VIs.lift _) (.cons (VIs.lift _) (.cons (VIs.lift _) (.cons (VIs.lift _) (.cons (VIs.lift _) (.cons (VIs.lift _) (.cons (VIs.lift _) (.cons (VIs.lift _) .nil)))))))))))))))))) (steps_all (steps_cons ?_ (steps_cons ?_ (steps_cons ?_ (steps_cons ?_ (steps_cons ?_ (steps_cons ?_ (steps_cons ?_ (steps_cons ?_ (steps_cons ?_ (steps_cons ?_ (steps_cons ?_ (steps_cons ?_ (steps_cons ?_ (steps_cons ?_ (steps_cons ?_ (steps_cons ?_ (steps_cons ?_ steps_zero)))))))))))))))))) ?fin
 · intro a0 w9 K9 hF hB hK hC
   have b2 := hF.base (k := 2) (by kernel_rfl) rfl
   clear hF hB hK
   go_simp
   exact hC _ _ (bR _) fun _ _ => rfl
 · intro a0 w9 K9 hF hB hK hC
   have e5 := depV hK 0 rfl rfl rfl rfl
   have x9 := (CX.out.below hB CX.out.lt).c0
   clear hF hB hK
   go_simp
   exact hC _ _ (bR _) fun _ _ => rfl
 · intro a0 w9 K9 hF hB hK hC
   have b3 := hF.base (k := 3) (by kernel_rfl) rfl
   clear hF hB hK
   go_simp
   exact hC _ _ (bR _) fun _ _ => rfl
 · intro a0 w9 K9 hF hB hK hC
   have e7 := depV hK 0 rfl rfl rfl rfl
   have x9 := (CY.out.below hB CY.out.lt).c0
   clear hF hB hK
   go_simp
   exact hC _ _ (bR _) fun _ _ => rfl
 · intro a0 w9 K9 hF hB hK hC
   have e6 := depV hK 0 rfl rfl rfl rfl
   have e8 := depV hK 1 rfl rfl rfl rfl
   have HB9 := Lib.hid hB
   clear hF hB hK
   go_simp
   exact hC _ _ (bR _) fun _ _ => rfl
 · intro a0 w9 K9 hF hB hK hC
   have b2 := hF.base (k := 2) (by kernel_rfl) rfl
   clear hF hB hK
   go_simp
   exact hC _ _ (bR _) fun _ _ => rfl
 · intro a0 w9 K9 hF hB hK hC
   have e10 := depV hK 0 rfl rfl rfl rfl
   have x9 := (CX.out.below hB CX.out.lt).c1
   clear hF hB hK
   go_simp
   exact hC _ _ (bR _) fun _ _ => rfl
 · intro a0 w9 K9 hF hB hK hC
   have b3 := hF.base (k := 3) (by kernel_rfl) rfl
   clear hF hB hK
   go_simp
   exact hC _ _ (bR _) fun _ _ => rfl
 · intro a0 w9 K9 hF hB hK hC
   have e12 := depV hK 0 rfl rfl rfl rfl
   have x9 := (CY.out.below hB CY.out.lt).c2
   clear hF hB hK
   go_simp
   exact hC _ _ (bR _) fun _ _ => rfl
 · intro a0 w9 K9 hF hB hK hC
   have e11 := depV hK 0 rfl rfl rfl rfl
   have e13 := depV hK 1 rfl rfl rfl rfl
   have HB9 := Lib.hid hB
   clear hF hB hK
   go_simp
   refine (refMul_any a.n b.d _ (by have := L.out.1; omega) (by have := L.out.2.2.2; omega)).mono ?_
   rintro e w7 ⟨rfl, hbl⟩
   exact hC _ _ hbl fun _ _ => rfl
 · intro a0 w9 K9 hF hB hK hC
   have b2 := hF.base (k := 2) (by kernel_rfl) rfl
   clear hF hB hK
   go_simp
   exact hC _ _ (bR _) fun _ _ => rfl
 · intro a0 w9 K9 hF hB hK hC
   have e15 := depV hK 0 rfl rfl rfl rfl
   have x9 := (CX.out.below hB CX.out.lt).c2
   clear hF hB hK
   go_simp
   exact hC _ _ (bR _) fun _ _ => rfl
 · intro a0 w9 K9 hF hB hK hC
   have b3 := hF.base (k := 3) (by kernel_rfl) rfl
   clear hF hB hK
   go_simp
   exact hC _ _ (bR _) fun _ _ => rfl
 · intro a0 w9 K9 hF hB hK hC
   have e17 := depV hK 0 rfl rfl rfl rfl
   have x9 := (CY.out.below hB CY.out.lt).c1
   clear hF hB hK
   go_simp
   exact hC _ _ (bR _) fun _ _ => rfl
 · intro a0 w9 K9 hF hB hK hC
   have e16 := depV hK 0 rfl rfl rfl rfl
   have e18 := depV hK 1 rfl rfl rfl rfl
   have HB9 := Lib.hid hB
   clear hF hB hK
   go_simp
   refine (refMul_any a.d b.n _ (by have := L.out.2.1; omega) (by have := L.out.2.2.1; omega)).mono ?_
   rintro e w7 ⟨rfl, hbl⟩
   exact hC _ _ hbl fun _ _ => rfl
 · intro a0 w9 K9 hF hB hK hC
   have e9 := depV hK 0 rfl rfl rfl rfl
   have e14 := depV hK 1 rfl rfl rfl rfl
   have e19 := depV hK 2 rfl rfl rfl rfl
   have HB9 := Lib.hid hB
   clear hF hB hK
   go_simp
   exact hC _ _ (bR _) fun _ _ => rfl
 · intro a0 w9 K9 hF hB hK hC
   have e20 := depV hK 0 rfl rfl rfl rfl
   have HB9 := Lib.hid hB
   clear hF hB hK
   go_simp
   refine (refRed_q (a.s != b.s) (a.n * b.d) (a.d * b.n) false _ (by have h := decL_mul a.n b.d; have := L.out.1; have := L.out.2.2.2; omega) (by have h := decL_mul a.d b.n; have := L.out.2.1; have := L.out.2.2.1; omega) HQ.out.1 HQ.out.2).mono ?_
   rintro e w7 ⟨rfl, hbl⟩
   exact hC _ _ hbl fun _ _ => rfl
 case fin =>
  intro a0 w9 hF hB hK
  have b2 := hF.base (k := 2) (by kernel_rfl) rfl
  have b3 := hF.base (k := 3) (by kernel_rfl) rfl
  have b4 := hF.base (k := 4) (by kernel_rfl) rfl
  have hsz := hF.size
  have hdf := hF.defers
  clear hF
  obtain ⟨v21, e21, z21⟩ := known hK 16 (k := 21) (by decide) rfl
  have z21 : v21 = .agg #[.bool q.s, .string (dec q.n), .string (dec q.d), .bool k] := z21
  subst z21
  clear hK
  obtain ⟨⟨l0⟩, df⟩ := a0
  have hs0 : l0.length = 22 := hsz
  clear hsz
  replace hdf : df = _ := hdf
  subst hdf
  obtain ⟨u, rfl⟩ := lits_22 hs0
  clear hs0
  have q2 : u 2 = _ := Option.some.inj b2
  clear b2
  have q3 : u 3 = _ := Option.some.inj b3
  clear b3
  have q4 : u 4 = _ := Option.some.inj b4
  clear b4
  have q21 : u 21 = _ := Option.some.inj e21
  clear e21
  rw [q2, q3, q4, q21]
  clear q2 q3 q4 q21
  have hbl := hB; clear hB
  replace CX := hmB CX hbl
  replace CY := hmB CY hbl
  replace RES := hmB RES hbl
  replace HW := hmW HW hbl; clear hbl
  simp only [List.drop_succ_cons, List.drop_zero]
  have d0 := RES.out.c0
  have f0 := RES.out.frozen 0
  have d1 := RES.out.c1
  have f1 := RES.out.frozen 1
  have d2 := RES.out.c2
  have f2 := RES.out.frozen 2
  have d3 := RES.out.c3
  have f3 := RES.out.frozen 3
  go_wp2
  exact bodyPost_ret (results_cell_row rfl _ _ (w.heap.size + 2) 37 _ (0, 0) _ rfl (RES.out.put4 _ _ _ _) Tryz.underlying37 rfl (by kernel_rfl)) rfl ⟨rfl, (bel_set4 (g := w.heap.size + 2) HW.out (by omega) _ _ _ _)⟩

def VNewF (B : Nat) (t : TypeId) (cs : Array Value) : World → Value → Prop := fun w v => ∃ g, v = .pointer (some ⟨g, 0, none⟩) ∧ B ≤ g ∧ Blk w g t cs
theorem VNewF.lift (B : Nat) (t : TypeId) (cs : Array Value) : LiftP (VNewF B t cs) := fun _ _ _ ⟨g, h, h2, hb⟩ hbl => ⟨g, h, h2, hb.below hbl hb.lt⟩
end
end Go.Proofs.YtmbbdjpnecjleaaGreat
