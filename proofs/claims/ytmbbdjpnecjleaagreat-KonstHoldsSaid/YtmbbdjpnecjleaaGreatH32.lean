/-
 Parts: K26 K27 K28.
-/
import Derived.Test.YtmbbdjpnecjleaaGreatH27
import Derived.Test.YtmbbdjpnecjleaaGreatH29
namespace Go.Proofs.YtmbbdjpnecjleaaGreat
section
set_option maxRecDepth 100000
set_option maxHeartbeats 1000000
open Go.RowKit

theorem alive_bin (W : World) (A B A' B' : Option Addr) (c d c' d' : Nat) (h1 : RdL W A (limbs 7)) (h2 : RdL W B (limbs 1)) (h3 : RdL W A' (limbs 2)) (h4 : RdL W B' (limbs 1)) (k1 : (limbs 7).length ≤ c) (k2 : (limbs 1).length ≤ d) (k3 : (limbs 2).length ≤ c') (k4 : (limbs 1).length ≤ d') :
 Calls Tryz.prog 6 #[.string ⟨#[47]⟩, .agg #[.int .i64 3, .bool false, .string ⟨#[]⟩, .bool true, .slice A (limbs 7).length c, .slice B (limbs 1).length d], .agg #[.int .i64 3, .bool false, .string ⟨#[]⟩, .bool false, .slice A' (limbs 2).length c', .slice B' (limbs 1).length d'], .int .i64 2] W (RetV 3 false ⟨#[]⟩ ⟨true, 3, 1⟩ 0 W) := by
 have F7 : Fit ⟨true, 7, 1⟩ := ⟨(small_top (by decide)), (small_top (by decide)), ⟨by decide, by decide, by decide⟩⟩
 have F2 : Fit ⟨false, 2, 1⟩ := ⟨(small_top (by decide)), (small_top (by decide)), ⟨by decide, by decide, by decide⟩⟩
 have F3 : Fit ⟨true, 3, 1⟩ := ⟨(small_top (by decide)), (small_top (by decide)), ⟨by decide, by decide, by decide⟩⟩
 obtain ⟨q, e, f, k, hA, hQ, -, hX⟩ := quo_ex ⟨true, 7, 1⟩ ⟨false, 2, 1⟩ 2 F7 F2 (by decide)
 obtain ⟨rfl, hf⟩ := hX rfl rfl rfl
 obtain ⟨hq, rfl, -⟩ := hA.fine rfl
 obtain rfl : q = ⟨true, 3, 1⟩ := by rw [hq, hf]; rfl
 exact kBin_any ⟨#[47]⟩ 57 cpN 2 ⟨true, 7, 1⟩ ⟨false, 2, 1⟩ A B A' B' c d c' d' W h1 h2 h3 h4 k1 k2 k3 k4 F7 F2 (fun vs w => by kernel_rfl) (by decide) (by decide) (fun _ _ _ _ _ _ => rfl) (does_quo ⟨true, 7, 1⟩ ⟨false, 2, 1⟩ 2 hQ) rfl rfl (fun _ => F3) (fun _ => ⟨.inr (.inr (.inl ⟨rfl, rfl, rfl, by decide +kernel, rfl, rfl⟩)), rfl⟩) (fun h => absurd rfl h)
theorem aliveV (w : World) : Calls Tryz.prog 8 #[] w (RetBB true w) := by
 have HBI := Lib.hid (fun W A B A' B' c d c' d' => alive_bin W A B A' B' c d c' d')
 go_enter Tryz.func8, Tryz.ntmps8
 go_wp2_with fail
 have HW := Lib.hid (bel_refl w)
 refine (val_7 _).mono ?_
 rintro e w1 ⟨vx, vy, rfl, hnx, hny, hbl⟩
 replace HW := hmW HW hbl; clear hbl
 have HNx := Lib.hid hnx; clear hnx
 obtain ⟨Ax, cx, rfl, hcx, hrx⟩ := HNx.out.row
 have Rx := Lib.hid hrx; have HCx := Lib.hid hcx; clear hrx hcx
 have HNy := Lib.hid hny; clear hny
 obtain ⟨Ay, cy, rfl, hcy, hry⟩ := HNy.out.row
 have Ry := Lib.hid hry; have HCy := Lib.hid hcy; clear hry hcy
 go_wp2_with fail
 refine (val_2 _).mono ?_
 rintro e w2 ⟨vz, vu, rfl, hnz, hnu, hbl⟩
 replace Rx := hmR Rx hbl
 replace HNx := hmN HNx hbl
 replace Ry := hmR Ry hbl
 replace HNy := hmN HNy hbl
 replace HW := hmW HW hbl; clear hbl
 have HNz := Lib.hid hnz; clear hnz
 obtain ⟨Az, cz, rfl, hcz, hrz⟩ := HNz.out.row
 have Rz := Lib.hid hrz; have HCz := Lib.hid hcz; clear hrz hcz
 have HNu := Lib.hid hnu; clear hnu
 obtain ⟨Au, cu, rfl, hcu, hru⟩ := HNu.out.row
 have Ru := Lib.hid hru; have HCu := Lib.hid hcu; clear hru hcu
 go_wp2_with fail
 refine (HBI.out _ Ax Ay Az Au cx cy cz cu Rx.out Ry.out Rz.out Ru.out HCx.out HCy.out HCz.out HCu.out).mono ?_
 rintro e w3 ⟨vr, vt, rfl, hnr, hnt, hbl⟩
 replace Rx := hmR Rx hbl
 replace HNx := hmN HNx hbl
 replace Ry := hmR Ry hbl
 replace HNy := hmN HNy hbl
 replace Rz := hmR Rz hbl
 replace HNz := hmN HNz hbl
 replace Ru := hmR Ru hbl
 replace HNu := hmN HNu hbl
 replace HW := hmW HW hbl; clear hbl
 have HNr := Lib.hid hnr; clear hnr
 obtain ⟨Ar, cr, rfl, hcr, hrr⟩ := HNr.out.row
 have Rr := Lib.hid hrr; have HCr := Lib.hid hcr; clear hrr hcr
 have HNt := Lib.hid hnt; clear hnt
 obtain ⟨At, ct, rfl, hct, hrt⟩ := HNt.out.row
 have Rt := Lib.hid hrt; have HCt := Lib.hid hct; clear hrt hct
 go_upto_region 2 with fail
 obtain ⟨wv, hwv⟩ : ∃ wv, wv = w3.alloc (.cells #[.int .i64 3, .bool false, .string ⟨#[]⟩, .bool true, .slice Ar (limbs 3).length cr, .slice At (limbs 1).length ct] 27) := ⟨_, rfl⟩
 rw [← hwv]
 obtain ⟨hbl, CV⟩ := sal1 hwv
 clear hwv
 replace Rx := hmR Rx hbl
 replace HNx := hmN HNx hbl
 replace Ry := hmR Ry hbl
 replace HNy := hmN HNy hbl
 replace Rz := hmR Rz hbl
 replace HNz := hmN HNz hbl
 replace Ru := hmR Ru hbl
 replace HNu := hmN HNu hbl
 replace Rr := hmR Rr hbl
 replace HNr := hmN HNr hbl
 replace Rt := hmR Rt hbl
 replace HNt := hmN HNt hbl
 replace HW := hmW HW hbl; clear hbl
 obtain ⟨CV0, CV1, CV2, CV3, CV4, CV5⟩ := CV.out.cs6
 go_wp2_with fail
 refine (kText_num ⟨true, 3, 1⟩ Ar At cr ct _ Rr.out Rt.out HCr.out HCt.out (small_top (by decide)) (small_top (by decide)) ⟨by decide, by decide, by decide⟩).mono ?_
 rintro e w4 ⟨rfl, hbl⟩
 replace Rx := hmR Rx hbl
 replace HNx := hmN HNx hbl
 replace Ry := hmR Ry hbl
 replace HNy := hmN HNy hbl
 replace Rz := hmR Rz hbl
 replace HNz := hmN HNz hbl
 replace Ru := hmR Ru hbl
 replace HNu := hmN HNu hbl
 replace Rr := hmR Rr hbl
 replace HNr := hmN HNr hbl
 replace Rt := hmR Rt hbl
 replace HNt := hmN HNt hbl
 replace CV := hmB CV hbl
 replace HW := hmW HW hbl; clear hbl
 clear CV0 CV1 CV2 CV3 CV4 CV5
 obtain ⟨CV0, CV1, CV2, CV3, CV4, CV5⟩ := CV.out.cs6
 rw [show qText true 3 1 = ⟨#[45, 51]⟩ by decide +kernel]
 go_wp2
 go_ret
 exact ⟨rfl, HW.out⟩
structure LawI (w : World) (C0 C1 D0 D1 : Array Value) (A B A' B' : Option Addr) (xs ys xs' ys' : List Nat) (s t : Bool) (W : World) : Prop where
 old : Below w.heap.size w W
 r1 : RdL W A xs
 r2 : RdL W B ys
 r3 : RdL W A' xs'
 r4 : RdL W B' ys'
 cx : Blk W w.heap.size 27 (bif s then C1 else C0)
 cy : Blk W (w.heap.size + 1) 27 (bif t then D1 else D0)
section
variable {w W : World} {C0 C1 D0 D1 : Array Value} {A B A' B' : Option Addr} {xs ys xs' ys' : List Nat} {s t : Bool}
theorem LawI.below {W' : World} (h : LawI w C0 C1 D0 D1 A B A' B' xs ys xs' ys' s t W) (hb : Below W.heap.size W W') : LawI w C0 C1 D0 D1 A B A' B' xs ys xs' ys' s t W' :=
 ⟨bel_trans h.old hb, h.r1.below hb, h.r2.below hb, h.r3.below hb, h.r4.below hb, h.cx.below hb h.cx.lt, h.cy.below hb h.cy.lt⟩
theorem LawI.keep {s' t' : Bool} (h : LawI w C0 C1 D0 D1 A B A' B' xs ys xs' ys' s t W) (hs : s' = s) (ht : t' = t) : LawI w C0 C1 D0 D1 A B A' B' xs ys xs' ys' s' t' W := by rw [hs, ht]; exact h
theorem LawI.putx {a b c d e f x y z u v k : Value} (h : LawI w C0 #[x, y, z, u, v, k] D0 D1 A B A' B' xs ys xs' ys' s t W) (hB : Blk W w.heap.size 27 #[a, b, c, d, e, f]) (hn : noU32 #[a, b, c, d, e, f] = true := by rfl) :
 LawI w C0 #[x, y, z, u, v, k] D0 D1 A B A' B' xs ys xs' ys' true t ((((((W.setCell ⟨w.heap.size, 0, none⟩ x).setCell ⟨w.heap.size, 1, none⟩ y).setCell ⟨w.heap.size, 2, none⟩ z).setCell ⟨w.heap.size, 3, none⟩ u).setCell ⟨w.heap.size, 4, none⟩ v).setCell ⟨w.heap.size, 5, none⟩ k) :=
 ⟨bel_set6 (g := w.heap.size) h.old (Nat.le_refl _) x y z u v k, RdL.set6 hB hn h.r1 x y z u v k, RdL.set6 hB hn h.r2 x y z u v k, RdL.set6 hB hn h.r3 x y z u v k, RdL.set6 hB hn h.r4 x y z u v k, hB.put6 x y z u v k,
  (((((h.cy.far (p := ⟨w.heap.size, 0, none⟩) (by simp) x).far (p := ⟨w.heap.size, 1, none⟩) (by simp) y).far (p := ⟨w.heap.size, 2, none⟩) (by simp) z).far (p := ⟨w.heap.size, 3, none⟩) (by simp) u).far (p := ⟨w.heap.size, 4, none⟩) (by simp) v).far (p := ⟨w.heap.size, 5, none⟩) (by simp) k⟩
theorem LawI.puty {a b c d e f x y z u v k : Value} (h : LawI w C0 C1 D0 #[x, y, z, u, v, k] A B A' B' xs ys xs' ys' s t W) (hB : Blk W (w.heap.size + 1) 27 #[a, b, c, d, e, f]) (hn : noU32 #[a, b, c, d, e, f] = true := by rfl) :
 LawI w C0 C1 D0 #[x, y, z, u, v, k] A B A' B' xs ys xs' ys' s true ((((((W.setCell ⟨w.heap.size + 1, 0, none⟩ x).setCell ⟨w.heap.size + 1, 1, none⟩ y).setCell ⟨w.heap.size + 1, 2, none⟩ z).setCell ⟨w.heap.size + 1, 3, none⟩ u).setCell ⟨w.heap.size + 1, 4, none⟩ v).setCell ⟨w.heap.size + 1, 5, none⟩ k) :=
 ⟨bel_set6 (g := w.heap.size + 1) h.old (by omega) x y z u v k, RdL.set6 hB hn h.r1 x y z u v k, RdL.set6 hB hn h.r2 x y z u v k, RdL.set6 hB hn h.r3 x y z u v k, RdL.set6 hB hn h.r4 x y z u v k,
  (((((h.cx.far (p := ⟨w.heap.size + 1, 0, none⟩) (by simp) x).far (p := ⟨w.heap.size + 1, 1, none⟩) (by simp) y).far (p := ⟨w.heap.size + 1, 2, none⟩) (by simp) z).far (p := ⟨w.heap.size + 1, 3, none⟩) (by simp) u).far (p := ⟨w.heap.size + 1, 4, none⟩) (by simp) v).far (p := ⟨w.heap.size + 1, 5, none⟩) (by simp) k, hB.put6 x y z u v k⟩
end
end
end Go.Proofs.YtmbbdjpnecjleaaGreat
namespace Go.Proofs.YtmbbdjpnecjleaaGreat
section
set_option maxRecDepth 100000
set_option maxHeartbeats 1000000
open Go.RowKit

structure VD where
 k : Int
 b : Bool
 s : ByteArray
 g : Bool
 xs : List Nat
 ys : List Nat
structure XD where
 k : Int
 b : Bool
 s : ByteArray
 f : Bool
 n : ByteArray
 d : ByteArray
def VD.right (a : VD) : Bool := rightV a.k a.b a.s a.g a.xs a.ys
def VD.lim (a : VD) : Prop := Lim a.xs ∧ Lim a.ys ∧ a.xs.length ≤ 18 ∧ a.ys.length ≤ 18
def VD.rd (a : VD) (W : World) (A B : Option Addr) (c d : Nat) : Prop := RdL W A a.xs ∧ RdL W B a.ys ∧ a.xs.length ≤ c ∧ a.ys.length ≤ d
def VD.at (a : VD) (A B : Option Addr) (c d : Nat) : Value := .agg #[.int .i64 a.k, .bool a.b, .string a.s, .bool a.g, .slice A a.xs.length c, .slice B a.ys.length d]
def XD.at (x : XD) : Value := .agg #[.int .i64 x.k, .bool x.b, .string x.s, .bool x.f, .string x.n, .string x.d, .bool false, .int .i64 0]
inductive OfR : VD → XD → Prop
 | num (q : Q) (h : Fit q) : OfR ⟨3, false, ⟨#[]⟩, q.s, limbs q.n, limbs q.d⟩ ⟨3, false, ⟨#[]⟩, q.s, dec q.n, dec q.d⟩
 | one (b : Bool) : OfR ⟨1, b, ⟨#[]⟩, false, [], []⟩ ⟨1, b, ⟨#[]⟩, false, ⟨#[]⟩, ⟨#[]⟩⟩
 | two (s : ByteArray) (h : s.size ≤ 200) : OfR ⟨2, false, s, false, [], []⟩ ⟨2, false, s, false, ⟨#[]⟩, ⟨#[]⟩⟩
theorem none_is {g : Bool} {xs ys : List Nat} (h : noneB g xs.length ys.length = true) : g = false ∧ xs = [] ∧ ys = [] := by
 unfold noneB at h
 simp only [Bool.and_eq_true, decide_eq_true_eq, Bool.not_eq_true'] at h
 exact ⟨h.1, List.eq_nil_of_length_eq_zero h.2.1, List.eq_nil_of_length_eq_zero h.2.2⟩
theorem empty_is {s : ByteArray} (h : emptyB s = true) : s = ⟨#[]⟩ := of_decide_eq_true h
theorem of_right {a : VD} (hl : a.lim) (h : a.right = true) : ∃ x, OfR a x := by
 obtain ⟨k, b, s, g, xs, ys⟩ := a
 unfold VD.right rightV at h
 simp only at h
 split at h
 · subst k
   rw [Bool.and_eq_true] at h
   obtain ⟨rfl, rfl, rfl⟩ := none_is h.2
   obtain rfl := empty_is h.1
   exact ⟨_, .one b⟩
 · split at h
   · subst k
     simp only [Bool.and_eq_true, decide_eq_true_eq, Bool.not_eq_true'] at h
     obtain ⟨rfl, h2, h3⟩ := h
     obtain ⟨rfl, rfl, rfl⟩ := none_is h2
     exact ⟨_, .two s h3⟩
   · split at h
     · subst k
       simp only [Bool.and_eq_true, Bool.not_eq_true'] at h
       obtain ⟨rfl, h2, h3⟩ := h
       obtain rfl := empty_is h2
       obtain ⟨q, rfl, rfl, rfl, h4, h5, h6⟩ := rightB_num hl.1 hl.2.1 h3
       exact ⟨_, .num q ⟨h4, h5, h6⟩⟩
     · cases h
theorem OfR.one_is {a : VD} {x : XD} (h : OfR a x) (hk : a.k = 1) : ∃ b, a = ⟨1, b, ⟨#[]⟩, false, [], []⟩ ∧ x = ⟨1, b, ⟨#[]⟩, false, ⟨#[]⟩, ⟨#[]⟩⟩ := by
 cases h with
 | num q h => cases hk
 | one b => exact ⟨b, rfl, rfl⟩
 | two s h => cases hk
theorem OfR.two_is {a : VD} {x : XD} (h : OfR a x) (hk : a.k = 2) : ∃ s, s.size ≤ 200 ∧ a = ⟨2, false, s, false, [], []⟩ ∧ x = ⟨2, false, s, false, ⟨#[]⟩, ⟨#[]⟩⟩ := by
 cases h with
 | num q h => cases hk
 | one b => cases hk
 | two s h => exact ⟨s, h, rfl, rfl⟩
theorem OfR.num_is {a : VD} {x : XD} (h : OfR a x) (hk : a.k = 3) : ∃ q, Fit q ∧ a = ⟨3, false, ⟨#[]⟩, q.s, limbs q.n, limbs q.d⟩ ∧ x = ⟨3, false, ⟨#[]⟩, q.s, dec q.n, dec q.d⟩ := by
 cases h with
 | num q h => exact ⟨q, h, rfl, rfl⟩
 | one b => cases hk
 | two s h => cases hk
theorem OfR.kind {a : VD} {x : XD} (h : OfR a x) : x.k = a.k := by cases h <;> rfl
def KBinP (op : ByteArray) (a b : VD) (t : Int) (k : Int) (bb : Bool) (s : ByteArray) (q : Q) (e : Int) : Prop :=
 ∀ A B A' B' c d c' d' W, a.rd W A B c d → b.rd W A' B' c' d' → Calls Tryz.prog 6 #[.string op, a.at A B c d, b.at A' B' c' d', .int .i64 t] W (RetV k bb s q e W)
inductive VOK : Int → Bool → ByteArray → Q → Int → Bool → ByteArray → ByteArray → Prop
 | err (e : Int) (h : e ≠ 0) : VOK 0 false ⟨#[]⟩ noQ e false ⟨#[]⟩ ⟨#[]⟩
 | one (b : Bool) : VOK 1 b ⟨#[]⟩ noQ 0 false ⟨#[]⟩ ⟨#[]⟩
 | two (s : ByteArray) (h : s.size ≤ 200) : VOK 2 false s noQ 0 false ⟨#[]⟩ ⟨#[]⟩
 | num (q : Q) (h : Fit q) : VOK 3 false ⟨#[]⟩ q 0 q.s (dec q.n) (dec q.d)
theorem VOK.is {k : Int} {b : Bool} {s : ByteArray} {q : Q} {e : Int} {fs : Bool} {n d : ByteArray} (h : VOK k b s q e fs n d) (W : World) (A B : Option Addr) (c c' : Nat) (r1 : RdL W A (limbs q.n)) (r2 : RdL W B (limbs q.d)) (k1 : (limbs q.n).length ≤ c) (k2 : (limbs q.d).length ≤ c') :
 Calls Tryz.prog 10 #[.agg #[.int .i64 k, .bool b, .string s, .bool q.s, .slice A (limbs q.n).length c, .slice B (limbs q.d).length c'], .int .i64 e, .agg #[.int .i64 k, .bool b, .string s, .bool fs, .string n, .string d, .bool false, .int .i64 e]] W (RetBB true W) := by
 cases h with
 | err _ h => exact is_err e A B c c' W h
 | one _ => exact is_1 b ⟨#[]⟩ A B c c' W rfl
 | two _ h => exact is_2 false s A B c c' W (by unfold rightV; rw [if_neg (by decide), if_pos rfl]; simp [noneB, h])
 | num _ h => exact is_num q A B c c' W r1 r2 k1 k2 h.1 h.2.1 h.2.2
theorem fits_fit {q v : Q} {t r : Int} (h : FitsR q t v r) (hq : Fit q) (hr : r = 0) : Fit v := by
 have fl : ∀ sz, FlFit q sz v → Fit v := by
  rintro sz ⟨p, u, t, cc, ex, hf, hC, ho, h1, h2, rfl⟩
  refine ⟨h1, h2, valQ_right fun e => ?_⟩
  rw [e]
  simp
 subst hr
 rcases h with ⟨_, _, h⟩ | ⟨_, _, _, _, h⟩ | ⟨_, _, _, _, rfl, _⟩ | ⟨_, ⟨_, _, h⟩ | ⟨h, _⟩⟩ | ⟨_, ⟨_, _, h⟩ | ⟨h, _⟩⟩ | ⟨_, _, _, _, rfl, _⟩
 · cases h
 · cases h
 · exact hq
 · cases h
 · exact fl _ h
 · cases h
 · exact fl _ h
 · exact hq
theorem fits_bad {q v : Q} {t r : Int} (h : FitsR q t v r) (hr : r ≠ 0) : v = noQ := by
 rcases h with ⟨_, h, _⟩ | ⟨_, _, _, h, _⟩ | ⟨_, _, _, _, _, h⟩ | ⟨_, ⟨_, h, _⟩ | ⟨_, h⟩⟩ | ⟨_, ⟨_, h, _⟩ | ⟨_, h⟩⟩ | ⟨_, _, _, _, _, h⟩
 · exact h
 · exact h
 · exact absurd h hr
 · exact h
 · exact absurd h hr
 · exact h
 · exact absurd h hr
 · exact absurd h hr
theorem byte_eq {s t : ByteArray} (h : (s.toList == t.toList) = true) : t = s := by
 have h1 : s.toList = t.toList := by simpa using h
 rw [ByteArray.toList_eq, ByteArray.toList_eq] at h1
 exact (ByteArray.ext (Array.ext' h1)).symm
theorem same_no {k x : ByteArray} (h : (x.toList == k.toList) = false) : Instr.sameNow .string (.string k) (.string x) = some false := by
 have h1 : ¬ k.data = x.data := by
  intro e
  obtain rfl : k = x := ByteArray.ext e
  simp at h
 have h2 : (k == x) = false := by
  show (k.data == x.data) = false
  simpa using h1
 simp [Instr.sameNow, h2]
theorem look_no8 {op : ByteArray} (h : inB ops8 op = false) (g1 g2 g3 g4 g5 g6 : Nat) : lookL .string (.string op) (opsTab g1 g2 g3 g4 g5 g6) = some none := by
 unfold inB ops8 at h
 simp only [List.any_cons, List.any_nil, Bool.or_false, Bool.or_eq_false_iff] at h
 obtain ⟨h1, h2, h3, h4, h5, h6, h7, h8⟩ := h
 unfold opsTab
 simp only [lookL, same_no h1, same_no h2, same_no h3, same_no h4, same_no h5, same_no h6, same_no h7, same_no h8]
end
end Go.Proofs.YtmbbdjpnecjleaaGreat
namespace Go.Proofs.YtmbbdjpnecjleaaGreat
section
set_option maxRecDepth 100000
set_option maxHeartbeats 1000000
open Go.RowKit

def numV (a : Q) : VD := ⟨3, false, ⟨#[]⟩, a.s, limbs a.n, limbs a.d⟩
section
variable {a b : VD} {x y : XD} {t : Int}
theorem bin_bad (op : ByteArray) (la : a.lim) (lb : b.lim) (h : ¬ (a.right = true ∧ b.right = true ∧ 0 ≤ t ∧ t ≤ 18)) : KBinP op a b t 0 false ⟨#[]⟩ noQ 1 := by
 intro A B A' B' c d c' d' W hA hB
 cases ra : a.right
 · exact kBin_bada op a.k b.k a.b b.b a.g b.g a.s b.s A B A' B' c d c' d' a.xs a.ys b.xs b.ys t W hA.1 hA.2.1 hB.1 hB.2.1 la.1 la.2.1 lb.1 lb.2.1 la.2.2.1 la.2.2.2 lb.2.2.1 lb.2.2.2 hA.2.2.1 hA.2.2.2 hB.2.2.1 hB.2.2.2 ra
 · cases rb : b.right
   · exact kBin_badb op a.k b.k a.b b.b a.g b.g a.s b.s A B A' B' c d c' d' a.xs a.ys b.xs b.ys t W hA.1 hA.2.1 hB.1 hB.2.1 la.1 la.2.1 lb.1 lb.2.1 la.2.2.1 la.2.2.2 lb.2.2.1 lb.2.2.2 hA.2.2.1 hA.2.2.2 hB.2.2.1 hB.2.2.2 ra rb
   · exact kBin_badt op a.k b.k a.b b.b a.g b.g a.s b.s A B A' B' c d c' d' a.xs a.ys b.xs b.ys t W hA.1 hA.2.1 hB.1 hB.2.1 la.1 la.2.1 lb.1 lb.2.1 la.2.2.1 la.2.2.2 lb.2.2.1 lb.2.2.2 hA.2.2.1 hA.2.2.2 hB.2.2.1 hB.2.2.2 ra rb (by
      unfold basB
      rw [Bool.and_eq_false_iff, decide_eq_false_iff_not, decide_eq_false_iff_not]
      by_cases h0 : 0 ≤ t
      · exact .inr fun h1 => h ⟨ra, rb, h0, h1⟩
      · exact .inl h0)
end
end
end Go.Proofs.YtmbbdjpnecjleaaGreat
