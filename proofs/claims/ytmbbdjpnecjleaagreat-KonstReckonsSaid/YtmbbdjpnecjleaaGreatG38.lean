/-
 Parts: KInv K26.
-/
import Derived.Test.YtmbbdjpnecjleaaGreatG11
import Derived.Test.YtmbbdjpnecjleaaGreatG37
namespace Go.Proofs.YtmbbdjpnecjleaaGreat
section
set_option maxRecDepth 100000
set_option maxHeartbeats 1000000
open Go.RowKit

section
variable {P : Program} {Q : Exit → Act → World → Prop}
structure IFr (l : List Oper) (S : Nat → Bool) (a0 a : Act) : Prop where
 defers : a.defers = a0.defers
 size : a.tmps.size = a0.tmps.size
 keep : ∀ k, (∀ i o, S i = true → l[i]? = some o → o.dst ≠ some k) → a.tmps[k]? = a0.tmps[k]?
def IKn (l : List Oper) (S : Nat → Bool) (T : Nat → Value → Prop) (a : Act) : Prop := ∀ j o k, S j = true → l[j]? = some o → o.dst = some k → ∃ v, a.tmps[k]? = some v ∧ T j v
def IClo (l : List Oper) (S : Nat → Bool) : Prop := ∀ j o, l[j]? = some o → S j = true → ∀ e ∈ o.after, Region.binds .any e = true → S e.on = true
def doneB (listed : Array Bool) : Nat → Bool := fun i => listed.getD i false
def StepI (P : Program) (Q : Exit → Act → World → Prop) (l : List Oper) (T : Nat → Value → Prop) (I : (Nat → Bool) → World → Prop) (a0 : Act) (i : Nat) (o : Oper) : Prop :=
 ∀ (S : Nat → Bool) (a : Act) (w : World) (K : Act → World → Prop), S i = false → IClo l S → (∀ e ∈ o.after, Region.binds .any e = true → S e.on = true) → IFr l S a0 a → I S w → IKn l S T a →
  (∀ v w', (∀ k, o.dst = some k → T i v) → I (fun j => S j || j == i) w' → K (a.put o.dst v) w') → o.wp P a w K Q
structure IInv (l : List Oper) (T : Nat → Value → Prop) (I : (Nat → Bool) → World → Prop) (a0 : Act) (listed : Array Bool) (a : Act) (w : World) : Prop where
 head : HeadInv .any l.toArray l.length listed
 fr : IFr l (doneB listed) a0 a
 inv : I (doneB listed) w
 known : IKn l (doneB listed) T a
theorem inv_main {l : List Oper} {a0 : Act} (T : Nat → Value → Prop) (I : (Nat → Bool) → World → Prop) (hB : (headB l l.length a0.tmps.size && l.all fun o => o.guard.isNone) = true)
 (step : ∀ i o, l[i]? = some o → StepI P Q l T I a0 i o)
 (finish : ∀ S a w, (∀ i, i < l.length → S i = true) → IFr l S a0 a → I S w → IKn l S T a → wpList P l.toArray Q [] a w) :
 ∀ (f : Nat) (listed : Array Bool) (a : Act) (w : World), f = cnt l.length listed → IInv l T I a0 listed a w → wpAny P .any l.toArray Q f listed a w := by
 rw [Bool.and_eq_true] at hB
 intro f
 induction f with
 | zero =>
  intro listed a w hf inv
  have hc : cnt l.length listed = 0 := by omega
  refine ⟨?_, finish _ a w (fun i hi => ?_) inv.fr inv.inv inv.known⟩
  · refine List.eq_nil_iff_forall_not_mem.2 fun i hi => ?_
    obtain ⟨h0, o, ho, _⟩ := mem_ready.1 hi
    have hlt : i < l.toArray.size := (Array.getElem?_eq_some_iff.1 ho).1
    have := cnt_zero hc (i := i) (by simpa using hlt)
    rw [h0] at this
    cases this
  · have := cnt_zero hc hi
    have hs : i < listed.size := by rw [inv.head.size]; simpa using hi
    unfold doneB
    simpa [hs] using this
 | succ f ih =>
  intro listed a w hf inv
  have hc : cnt l.length listed ≠ 0 := by omega
  have hne : Region.ready .any l.toArray listed ≠ [] := by
   obtain ⟨j, hj, hj2⟩ := cnt_some hc
   have : ∀ d j, j = d → j < l.length → listed.getD j true = false → ∃ i, i ∈ Region.ready .any l.toArray listed := by
    intro d
    induction d using Nat.strongRecOn with
    | _ d ihd =>
     intro j hd hj hun
     obtain ⟨o, ho, _, ha⟩ := headB_at hB.1 hj
     by_cases hex : ∃ e ∈ o.after, Region.binds .any e = true ∧ listed.getD e.on false = false
     · obtain ⟨e, he, hb, hl⟩ := hex
       have hlt := ha e he hb
       have hs : e.on < listed.size := by rw [inv.head.size]; simp; omega
       exact ihd e.on (by omega) e.on rfl (by omega) (getD_in hs hl)
     · refine ⟨j, mem_ready.2 ⟨hun, o, by simpa using ho, fun e he hb => ?_⟩⟩
       cases hl : listed.getD e.on false with
       | true => rfl
       | false => exact absurd ⟨e, he, hb, hl⟩ hex
   obtain ⟨i, hi⟩ := this j j rfl hj hj2
   exact fun h => by rw [h] at hi; cases hi
  refine ⟨fun h => absurd h hne, fun i hi => ?_⟩
  obtain ⟨hun, o, ho, hall⟩ := mem_ready.1 hi
  have ho' : l[i]? = some o := by simpa using ho
  have hin : i < l.length := (List.getElem?_eq_some_iff.1 ho').1
  obtain ⟨o2, ho2, hd, haft⟩ := headB_at hB.1 hin
  obtain rfl : o2 = o := Option.some.inj (ho2.symm.trans ho')
  have hsz : i < listed.size := by rw [inv.head.size]; simpa using hin
  have hset : doneB (listed.setIfInBounds i true) = fun j => doneB listed j || j == i := by
   funext j
   unfold doneB
   by_cases hij : i = j
   · subst hij
     simp [hsz]
   · rw [getD_set_ne false hij]
     simp [show ¬ j = i from fun e => hij e.symm]
  refine wpOp_step ho fun K hK => ?_
  have hg := List.all_eq_true.1 hB.2 o2 (List.mem_iff_getElem?.2 ⟨i, ho'⟩)
  rw [if_pos (by cases hgd : o2.guard with | none => simp [Region.wanted, hgd] | some x => rw [hgd] at hg; cases hg)]
  refine step i o2 ho' (doneB listed) a w K (getD_both hun) (fun j oj hj hl e he hb => inv.head.closed j oj (by simpa using hj) hl e he hb) hall inv.fr inv.inv inv.known fun v w' hT hI => hK _ _ ?_
  refine ih _ _ _ (by have := cnt_set l.length hin hun; omega) ⟨inv.head.set hi hin, ?_, by rw [hset]; exact hI, fun j o3 k hj hoj hk => ?_⟩
  · rw [hset]
    refine ⟨?_, ?_, fun k hk => ?_⟩
    · rw [← inv.fr.defers]; cases o2.dst <;> rfl
    · rw [← inv.fr.size]; cases o2.dst <;> simp [Act.put]
    · rw [← inv.fr.keep k fun j oj hj hl => hk j oj (by simp [hj]) hl]
      have hne := hk i o2 (by simp) ho'
      cases hdst : o2.dst with
      | none => rfl
      | some m =>
       have hmk : m ≠ k := fun e => hne (by rw [hdst, e])
       simp [Act.put, hmk]
  · rw [hset] at hj
    by_cases hij : j = i
    · subst hij
      obtain rfl : o2 = o3 := Option.some.inj (ho'.symm.trans hoj)
      have hkN := (hd k hk).1
      rw [← inv.fr.size] at hkN
      exact ⟨v, by simp [Act.put, hk, hkN], hT k hk⟩
    · have hj' : doneB listed j = true := by simpa [hij] using hj
      obtain ⟨u, hu, hTu⟩ := inv.known j o3 k hj' hoj hk
      refine ⟨u, ?_, hTu⟩
      rw [← hu]
      cases hdst : o2.dst with
      | none => rfl
      | some m =>
       have hmk : m ≠ k := fun e => by
        obtain ⟨o4, ho4, hd3, _⟩ := headB_at hB.1 (List.getElem?_eq_some_iff.1 hoj).1
        obtain rfl : o4 = o3 := Option.some.inj (ho4.symm.trans hoj)
        exact (hd3 k hk).2 i o2 hin hij ho' (by rw [hdst, e])
       simp [Act.put, hmk]
def StepsI (P : Program) (Q : Exit → Act → World → Prop) (l : List Oper) (T : Nat → Value → Prop) (I : (Nat → Bool) → World → Prop) (a0 : Act) : Nat → List Oper → Prop
 | _, [] => True
 | i, o :: rest => StepI P Q l T I a0 i o ∧ StepsI P Q l T I a0 (i + 1) rest
variable {l : List Oper} {T : Nat → Value → Prop} {I : (Nat → Bool) → World → Prop} {a0 : Act}
theorem stepsI_nil {i : Nat} : StepsI P Q l T I a0 i [] := trivial
theorem stepsI_cons {i : Nat} {o : Oper} {r : List Oper} (h : StepI P Q l T I a0 i o) (hr : StepsI P Q l T I a0 (i + 1) r) : StepsI P Q l T I a0 i (o :: r) := ⟨h, hr⟩
theorem stepsI_at : ∀ (r : List Oper) (i : Nat), StepsI P Q l T I a0 i r → ∀ j o, r[j]? = some o → StepI P Q l T I a0 (i + j) o
 | [], _, _, _, _, h => by simp at h
 | o :: r, i, ⟨h1, h2⟩, j, o', ho => by
  cases j with
  | zero => simp at ho; subst ho; exact h1
  | succ j =>
   have := stepsI_at r (i + 1) h2 j o' (by simpa using ho)
   rwa [show i + 1 + j = i + (j + 1) by omega] at this
theorem wp_region_inv {id : Nat} {w0 : World} (T : Nat → Value → Prop) (I : (Nat → Bool) → World → Prop) (hm : P.follows .mixedOrders = true) (hB : (headB l l.length a0.tmps.size && l.all fun o => o.guard.isNone) = true)
 (h0 : I (fun _ => false) (w0.drewN 1)) (steps : StepsI P Q l T I a0 0 l)
 (finish : ∀ S a w, (∀ i, i < l.length → S i = true) → IFr l S a0 a → I S w → IKn l S T a → wpList P l.toArray Q [] a w) : (Code.region id l.toArray true).wp P Q a0 w0 := by
 refine wp_region_any hm ?_
 have hd : doneB (Array.replicate l.toArray.size false) = fun _ => false := by
  funext j
  exact getD_replicate_false _ _
 refine inv_main (P := P) (Q := Q) T I hB (fun i o ho => by have := stepsI_at l 0 steps i o ho; rwa [Nat.zero_add] at this) finish _ _ _ _ ?_ ⟨⟨by simp, fun j oj _ hl => ?_, fun t _ ht => ?_⟩, ?_, ?_, ?_⟩
 · have := cnt_new l.length 0
   simpa using this.symm
 · rw [getD_replicate_false] at hl; cases hl
 · exact getD_in (by simpa using ht) (getD_replicate_false _ _)
 · rw [hd]; exact ⟨rfl, rfl, fun _ _ => rfl⟩
 · rw [hd]; exact h0
 · rw [hd]; intro j o k h; cases h
theorem iaft {S : Nat → Bool} {o : Oper} (h : ∀ e ∈ o.after, Region.binds .any e = true → S e.on = true) (m : Nat) {g : Ground} {j : Nat} (h1 : o.after[m]? = some ⟨j, g⟩) (h2 : Region.binds .any ⟨j, g⟩ = true) : S j = true :=
 h ⟨j, g⟩ (Array.mem_of_getElem? h1) h2
theorem iclo {S : Nat → Bool} (h : IClo l S) (i m : Nat) {g : Ground} {j : Nat} (h1 : (l[i]?).bind (fun o => o.after[m]?) = some ⟨j, g⟩) (h2 : Region.binds .any ⟨j, g⟩ = true) (hj : S j = false) : S i = false := by
 obtain ⟨o, ho, hm⟩ := Option.bind_eq_some_iff.1 h1
 cases hi : S i
 · rfl
 · rw [h i o ho hi ⟨j, g⟩ (Array.mem_of_getElem? hm) h2] at hj
   cases hj
theorem ikn {S : Nat → Bool} {a : Act} (h : IKn l S T a) (j : Nat) {k : Nat} (hj : S j = true) (h3 : dstAt l j = some k) : ∃ v, a.tmps[k]? = some v ∧ T j v := by
 obtain ⟨o', ho', hk⟩ := Option.bind_eq_some_iff.1 h3
 exact h j o' k hj ho' hk
theorem IFr.base {S : Nat → Bool} {a : Act} (h : IFr l S a0 a) {k : Nat} {v : Value} (hb : (l.all fun o => o.dst != some k) = true) (hv : a0.tmps[k]? = some v) : a.tmps[k]? = some v := by
 rw [h.keep k, hv]
 intro i o _ ho
 simpa using List.all_eq_true.1 hb o (List.mem_iff_getElem?.2 ⟨i, ho⟩)
theorem IFr.base1 {S : Nat → Bool} {a : Act} (h : IFr l S a0 a) (x : Nat) {k : Nat} {v : Value} (hx : S x = false) (hb : ((List.range l.length).all fun i => i == x || (match l[i]? with | some o => o.dst != some k | none => true)) = true) (hv : a0.tmps[k]? = some v) : a.tmps[k]? = some v := by
 rw [h.keep k, hv]
 intro i o hi ho
 have h1 := List.all_eq_true.1 hb i (List.mem_range.2 (List.getElem?_eq_some_iff.1 ho).1)
 rw [ho] at h1
 by_cases hix : i = x
 · rw [hix, hx] at hi; cases hi
 · simpa [hix] using h1
def TAt (vs : List (Option Value)) (i : Nat) (v : Value) : Prop := match vs[i]? with | some (some x) => v = x | _ => True
end
end
end Go.Proofs.YtmbbdjpnecjleaaGreat
namespace Go.Proofs.YtmbbdjpnecjleaaGreat
section
set_option maxRecDepth 100000
set_option maxHeartbeats 1000000
open Go.RowKit

theorem alive_bin (W : World) (A B A' B' : Option Addr) (c d c' d' : Nat) (h1 : RdL W A (limbs 7)) (h2 : RdL W B (limbs 1)) (h3 : RdL W A' (limbs 2)) (h4 : RdL W B' (limbs 1)) (k1 : (limbs 7).length ≤ c) (k2 : (limbs 1).length ≤ d) (k3 : (limbs 2).length ≤ c') (k4 : (limbs 1).length ≤ d') :
 Calls Tryz.prog 6 #[.string ⟨#[47]⟩, .agg #[.int .i64 3, .bool false, .string ⟨#[]⟩, .bool true, .slice A (limbs 7).length c, .slice B (limbs 1).length d], .agg #[.int .i64 3, .bool false, .string ⟨#[]⟩, .bool false, .slice A' (limbs 2).length c', .slice B' (limbs 1).length d'], .int .i64 2] W (RetV 3 false ⟨#[]⟩ ⟨true, 3, 1⟩ 0 W) := by
 have F7 : Fit ⟨true, 7, 1⟩ := ⟨(small_top (by decide)), (small_top (by decide)), ⟨by decide, by decide, by decide⟩⟩
 have F2 : Fit ⟨false, 2, 1⟩ := ⟨(small_top (by decide)), (small_top (by decide)), ⟨by decide, by decide, by decide⟩⟩
 have F3 : Fit ⟨true, 3, 1⟩ := ⟨(small_top (by decide)), (small_top (by decide)), ⟨by decide, by decide, by decide⟩⟩
 obtain ⟨q, e, f, k, hA, hQ, -, hX⟩ := quo_ex ⟨true, 7, 1⟩ ⟨false, 2, 1⟩ 2 F7 F2 (by decide)
 obtain ⟨rfl, hf⟩ := hX rfl rfl rfl
 obtain ⟨hq, rfl, -⟩ := hA.fine rfl
 obtain rfl : q = ⟨true, 3, 1⟩ := by rw [hq, hf]; rfl
 exact kBin_any ⟨#[47]⟩ 57 cpN 2 ⟨true, 7, 1⟩ ⟨false, 2, 1⟩ A B A' B' c d c' d' W h1 h2 h3 h4 k1 k2 k3 k4 F7 F2 (fun vs w => by kernel_rfl) (by decide) (by decide) (fun _ _ _ _ _ _ => rfl) (does_quo ⟨true, 7, 1⟩ ⟨false, 2, 1⟩ 2 hQ) rfl rfl (fun _ => F3) (fun _ => ⟨.inr (.inr (.inl ⟨rfl, rfl, rfl, by decide +kernel, rfl, rfl⟩)), rfl⟩) (fun h => absurd rfl h)
theorem aliveV (w : World) : Calls Tryz.prog 8 #[] w (RetBB true w) := by
 have HBI := Lib.hid (fun W A B A' B' c d c' d' => alive_bin W A B A' B' c d c' d')
 go_enter Tryz.func8, Tryz.ntmps8
 go_wp2_with fail
 have HW := Lib.hid (bel_refl w)
 refine (val_7 _).mono ?_
 rintro e w1 ⟨vx, vy, rfl, hnx, hny, hbl⟩
 replace HW := hmW HW hbl; clear hbl
 have HNx := Lib.hid hnx; clear hnx
 obtain ⟨Ax, cx, rfl, hcx, hrx⟩ := HNx.out.row
 have Rx := Lib.hid hrx; have HCx := Lib.hid hcx; clear hrx hcx
 have HNy := Lib.hid hny; clear hny
 obtain ⟨Ay, cy, rfl, hcy, hry⟩ := HNy.out.row
 have Ry := Lib.hid hry; have HCy := Lib.hid hcy; clear hry hcy
 go_wp2_with fail
 refine (val_2 _).mono ?_
 rintro e w2 ⟨vz, vu, rfl, hnz, hnu, hbl⟩
 replace Rx := hmR Rx hbl
 replace HNx := hmN HNx hbl
 replace Ry := hmR Ry hbl
 replace HNy := hmN HNy hbl
 replace HW := hmW HW hbl; clear hbl
 have HNz := Lib.hid hnz; clear hnz
 obtain ⟨Az, cz, rfl, hcz, hrz⟩ := HNz.out.row
 have Rz := Lib.hid hrz; have HCz := Lib.hid hcz; clear hrz hcz
 have HNu := Lib.hid hnu; clear hnu
 obtain ⟨Au, cu, rfl, hcu, hru⟩ := HNu.out.row
 have Ru := Lib.hid hru; have HCu := Lib.hid hcu; clear hru hcu
 go_wp2_with fail
 refine (HBI.out _ Ax Ay Az Au cx cy cz cu Rx.out Ry.out Rz.out Ru.out HCx.out HCy.out HCz.out HCu.out).mono ?_
 rintro e w3 ⟨vr, vt, rfl, hnr, hnt, hbl⟩
 replace Rx := hmR Rx hbl
 replace HNx := hmN HNx hbl
 replace Ry := hmR Ry hbl
 replace HNy := hmN HNy hbl
 replace Rz := hmR Rz hbl
 replace HNz := hmN HNz hbl
 replace Ru := hmR Ru hbl
 replace HNu := hmN HNu hbl
 replace HW := hmW HW hbl; clear hbl
 have HNr := Lib.hid hnr; clear hnr
 obtain ⟨Ar, cr, rfl, hcr, hrr⟩ := HNr.out.row
 have Rr := Lib.hid hrr; have HCr := Lib.hid hcr; clear hrr hcr
 have HNt := Lib.hid hnt; clear hnt
 obtain ⟨At, ct, rfl, hct, hrt⟩ := HNt.out.row
 have Rt := Lib.hid hrt; have HCt := Lib.hid hct; clear hrt hct
 go_upto_region 2 with fail
 obtain ⟨wv, hwv⟩ : ∃ wv, wv = w3.alloc (.cells #[.int .i64 3, .bool false, .string ⟨#[]⟩, .bool true, .slice Ar (limbs 3).length cr, .slice At (limbs 1).length ct] 27) := ⟨_, rfl⟩
 rw [← hwv]
 obtain ⟨hbl, CV⟩ := sal1 hwv
 clear hwv
 replace Rx := hmR Rx hbl
 replace HNx := hmN HNx hbl
 replace Ry := hmR Ry hbl
 replace HNy := hmN HNy hbl
 replace Rz := hmR Rz hbl
 replace HNz := hmN HNz hbl
 replace Ru := hmR Ru hbl
 replace HNu := hmN HNu hbl
 replace Rr := hmR Rr hbl
 replace HNr := hmN HNr hbl
 replace Rt := hmR Rt hbl
 replace HNt := hmN HNt hbl
 replace HW := hmW HW hbl; clear hbl
 obtain ⟨CV0, CV1, CV2, CV3, CV4, CV5⟩ := CV.out.cs6
 go_wp2_with fail
 refine (kText_num ⟨true, 3, 1⟩ Ar At cr ct _ Rr.out Rt.out HCr.out HCt.out (small_top (by decide)) (small_top (by decide)) ⟨by decide, by decide, by decide⟩).mono ?_
 rintro e w4 ⟨rfl, hbl⟩
 replace Rx := hmR Rx hbl
 replace HNx := hmN HNx hbl
 replace Ry := hmR Ry hbl
 replace HNy := hmN HNy hbl
 replace Rz := hmR Rz hbl
 replace HNz := hmN HNz hbl
 replace Ru := hmR Ru hbl
 replace HNu := hmN HNu hbl
 replace Rr := hmR Rr hbl
 replace HNr := hmN HNr hbl
 replace Rt := hmR Rt hbl
 replace HNt := hmN HNt hbl
 replace CV := hmB CV hbl
 replace HW := hmW HW hbl; clear hbl
 clear CV0 CV1 CV2 CV3 CV4 CV5
 obtain ⟨CV0, CV1, CV2, CV3, CV4, CV5⟩ := CV.out.cs6
 rw [show qText true 3 1 = ⟨#[45, 51]⟩ by decide +kernel]
 go_wp2
 go_ret
 exact ⟨rfl, HW.out⟩
structure LawI (w : World) (C0 C1 D0 D1 : Array Value) (A B A' B' : Option Addr) (xs ys xs' ys' : List Nat) (s t : Bool) (W : World) : Prop where
 old : Below w.heap.size w W
 r1 : RdL W A xs
 r2 : RdL W B ys
 r3 : RdL W A' xs'
 r4 : RdL W B' ys'
 cx : Blk W w.heap.size 27 (bif s then C1 else C0)
 cy : Blk W (w.heap.size + 1) 27 (bif t then D1 else D0)
section
variable {w W : World} {C0 C1 D0 D1 : Array Value} {A B A' B' : Option Addr} {xs ys xs' ys' : List Nat} {s t : Bool}
theorem LawI.below {W' : World} (h : LawI w C0 C1 D0 D1 A B A' B' xs ys xs' ys' s t W) (hb : Below W.heap.size W W') : LawI w C0 C1 D0 D1 A B A' B' xs ys xs' ys' s t W' :=
 ⟨bel_trans h.old hb, h.r1.below hb, h.r2.below hb, h.r3.below hb, h.r4.below hb, h.cx.below hb h.cx.lt, h.cy.below hb h.cy.lt⟩
theorem LawI.keep {s' t' : Bool} (h : LawI w C0 C1 D0 D1 A B A' B' xs ys xs' ys' s t W) (hs : s' = s) (ht : t' = t) : LawI w C0 C1 D0 D1 A B A' B' xs ys xs' ys' s' t' W := by rw [hs, ht]; exact h
theorem LawI.putx {a b c d e f x y z u v k : Value} (h : LawI w C0 #[x, y, z, u, v, k] D0 D1 A B A' B' xs ys xs' ys' s t W) (hB : Blk W w.heap.size 27 #[a, b, c, d, e, f]) (hn : noU32 #[a, b, c, d, e, f] = true := by rfl) :
 LawI w C0 #[x, y, z, u, v, k] D0 D1 A B A' B' xs ys xs' ys' true t ((((((W.setCell ⟨w.heap.size, 0, none⟩ x).setCell ⟨w.heap.size, 1, none⟩ y).setCell ⟨w.heap.size, 2, none⟩ z).setCell ⟨w.heap.size, 3, none⟩ u).setCell ⟨w.heap.size, 4, none⟩ v).setCell ⟨w.heap.size, 5, none⟩ k) :=
 ⟨bel_set6 (g := w.heap.size) h.old (Nat.le_refl _) x y z u v k, RdL.set6 hB hn h.r1 x y z u v k, RdL.set6 hB hn h.r2 x y z u v k, RdL.set6 hB hn h.r3 x y z u v k, RdL.set6 hB hn h.r4 x y z u v k, hB.put6 x y z u v k,
  (((((h.cy.far (p := ⟨w.heap.size, 0, none⟩) (by simp) x).far (p := ⟨w.heap.size, 1, none⟩) (by simp) y).far (p := ⟨w.heap.size, 2, none⟩) (by simp) z).far (p := ⟨w.heap.size, 3, none⟩) (by simp) u).far (p := ⟨w.heap.size, 4, none⟩) (by simp) v).far (p := ⟨w.heap.size, 5, none⟩) (by simp) k⟩
theorem LawI.puty {a b c d e f x y z u v k : Value} (h : LawI w C0 C1 D0 #[x, y, z, u, v, k] A B A' B' xs ys xs' ys' s t W) (hB : Blk W (w.heap.size + 1) 27 #[a, b, c, d, e, f]) (hn : noU32 #[a, b, c, d, e, f] = true := by rfl) :
 LawI w C0 C1 D0 #[x, y, z, u, v, k] A B A' B' xs ys xs' ys' s true ((((((W.setCell ⟨w.heap.size + 1, 0, none⟩ x).setCell ⟨w.heap.size + 1, 1, none⟩ y).setCell ⟨w.heap.size + 1, 2, none⟩ z).setCell ⟨w.heap.size + 1, 3, none⟩ u).setCell ⟨w.heap.size + 1, 4, none⟩ v).setCell ⟨w.heap.size + 1, 5, none⟩ k) :=
 ⟨bel_set6 (g := w.heap.size + 1) h.old (by omega) x y z u v k, RdL.set6 hB hn h.r1 x y z u v k, RdL.set6 hB hn h.r2 x y z u v k, RdL.set6 hB hn h.r3 x y z u v k, RdL.set6 hB hn h.r4 x y z u v k,
  (((((h.cx.far (p := ⟨w.heap.size + 1, 0, none⟩) (by simp) x).far (p := ⟨w.heap.size + 1, 1, none⟩) (by simp) y).far (p := ⟨w.heap.size + 1, 2, none⟩) (by simp) z).far (p := ⟨w.heap.size + 1, 3, none⟩) (by simp) u).far (p := ⟨w.heap.size + 1, 4, none⟩) (by simp) v).far (p := ⟨w.heap.size + 1, 5, none⟩) (by simp) k, hB.put6 x y z u v k⟩
end
set_option maxHeartbeats 8000000 in
theorem law_all {k0 e0 kx ky : Int} {b0 fs bx by_ fx fy : Bool} {s0 n0 d0 sx nx dx sy ny dy : ByteArray} {q : Q} (op : ByteArray) (ka kb : Int) (ba bb ga gb : Bool) (sa sb s1 s2 op1 : ByteArray) (A B A' B' : Option Addr) (c d c' d' : Nat) (x0 y0 x0' y0' xs ys xs' ys' : List Nat) (t : Int) (w : World) (h1 : RdL w A x0) (h2 : RdL w B y0) (h3 : RdL w A' x0') (h4 : RdL w B' y0') (m1 : Lim x0) (m2 : Lim y0) (m3 : Lim x0') (m4 : Lim y0') (k1 : x0.length ≤ c) (k2 : y0.length ≤ d) (k3 : x0'.length ≤ c') (k4 : y0'.length ≤ d') (e1 : few x0 = xs) (e2 : few y0 = ys) (e3 : few x0' = xs') (e4 : few y0' = ys') (z1 : sa.extract 0 (min sa.size 203) = s1) (z2 : sb.extract 0 (min sb.size 203) = s2) (z3 : op.extract 0 (min op.size 3) = op1) (hP : ∀ W, RdL W A xs → RdL W B ys → RdL W A' xs' → RdL W B' ys' → Calls Tryz.prog 6 #[.string op1, .agg #[.int .i64 ka, .bool ba, .string s1, .bool ga, .slice A xs.length c, .slice B ys.length d], .agg #[.int .i64 kb, .bool bb, .string s2, .bool gb, .slice A' xs'.length c', .slice B' ys'.length d'], .int .i64 t] W (RetV k0 b0 s0 q e0 W)) (hcase : (¬ (rightV ka ba s1 ga xs ys = true ∧ rightV kb bb s2 gb xs' ys' = true ∧ 0 ≤ t ∧ t ≤ 18) ∧ ∀ W Ax Ay cx cy, Calls Tryz.prog 9 #[.agg #[.int .i64 k0, .bool b0, .string s0, .bool q.s, .slice Ax (limbs q.n).length cx, .slice Ay (limbs q.d).length cy], .int .i64 e0] W (RetBB true W)) ∨ (rightV ka ba s1 ga xs ys = true ∧ rightV kb bb s2 gb xs' ys' = true ∧ 0 ≤ t ∧ t ≤ 18 ∧ (∀ W, RdL W A xs → RdL W B ys → Calls Tryz.prog 12 #[.agg #[.int .i64 ka, .bool ba, .string s1, .bool ga, .slice A xs.length c, .slice B ys.length d]] W (RetRV kx bx sx fx nx dx 0 W)) ∧ (∀ W, RdL W A' xs' → RdL W B' ys' → Calls Tryz.prog 12 #[.agg #[.int .i64 kb, .bool bb, .string s2, .bool gb, .slice A' xs'.length c', .slice B' ys'.length d']] W (RetRV ky by_ sy fy ny dy 0 W)) ∧ (∀ W, Calls Tryz.prog 11 #[.string op1, .agg #[.int .i64 kx, .bool bx, .string sx, .bool fx, .string nx, .string dx, .bool false, .int .i64 0], .agg #[.int .i64 ky, .bool by_, .string sy, .bool fy, .string ny, .string dy, .bool false, .int .i64 0], .int .i64 t] W (RetRV k0 b0 s0 fs n0 d0 e0 W)) ∧ (∀ W Ax Ay cx cy, RdL W Ax (limbs q.n) → RdL W Ay (limbs q.d) → (limbs q.n).length ≤ cx → (limbs q.d).length ≤ cy → Calls Tryz.prog 10 #[.agg #[.int .i64 k0, .bool b0, .string s0, .bool q.s, .slice Ax (limbs q.n).length cx, .slice Ay (limbs q.d).length cy], .int .i64 e0, .agg #[.int .i64 k0, .bool b0, .string s0, .bool fs, .string n0, .string d0, .bool false, .int .i64 e0]] W (RetBB true W)))) :
 Calls Tryz.prog 3 #[.string op, .agg #[.int .i64 ka, .bool ba, .string sa, .bool ga, .slice A x0.length c, .slice B y0.length d], .agg #[.int .i64 kb, .bool bb, .string sb, .bool gb, .slice A' x0'.length c', .slice B' y0'.length d'], .int .i64 t] w (RetBB true w) := by
 have R1 := Lib.hid (show RdL w A xs by rw [← e1]; exact h1.take 18); clear h1
 have R2 := Lib.hid (show RdL w B ys by rw [← e2]; exact h2.take 18); clear h2
 have R3 := Lib.hid (show RdL w A' xs' by rw [← e3]; exact h3.take 18); clear h3
 have R4 := Lib.hid (show RdL w B' ys' by rw [← e4]; exact h4.take 18); clear h4
 have L18 := Lib.hid (show xs.length ≤ 18 ∧ ys.length ≤ 18 ∧ xs'.length ≤ 18 ∧ ys'.length ≤ 18 by rw [← e1, ← e2, ← e3, ← e4]; exact ⟨few_le _, few_le _, few_le _, few_le _⟩)
 have M4 := Lib.hid (show Lim xs ∧ Lim ys ∧ Lim xs' ∧ Lim ys' by rw [← e1, ← e2, ← e3, ← e4]; exact ⟨few_lim m1, few_lim m2, few_lim m3, few_lim m4⟩); clear m1 m2 m3 m4
 have F := Lib.hid (And.intro (And.intro k1 (And.intro k2 (And.intro e1 (And.intro e2 z1)))) (And.intro k3 (And.intro k4 (And.intro e3 (And.intro e4 z2))))); clear k1 k2 k3 k4 e1 e2 e3 e4 z1 z2
 have HP := Lib.hid hP; clear hP
 have HCASE := Lib.hid hcase; clear hcase
 obtain ⟨j, s9, hj, hs, hsz, hj1, hj2⟩ := cut_str15 op 3
 obtain rfl : s9 = op1 := by rw [← hs, hj, z3]
 clear z3
 have hmin3 := min_int15 3 op.size 3 rfl
 rw [← hj] at hmin3
 have hj' : (j : Int) ≤ (op.size : Int) := by omega
 have HO := Lib.hid hs; clear hs hj hsz hj1 hj2
 obtain ⟨wa, hwa⟩ : ∃ wa, wa = (w.alloc (.cells #[.int .i64 ka, .bool ba, .string sa, .bool ga, .slice A x0.length c, .slice B y0.length d] 27)).alloc (.cells #[.int .i64 kb, .bool bb, .string sb, .bool gb, .slice A' x0'.length c', .slice B' y0'.length d'] 27) := ⟨_, rfl⟩
 obtain ⟨hbl, CX, CY⟩ := kal2 hwa
 replace R1 := hmR R1 hbl
 replace R2 := hmR R2 hbl
 replace R3 := hmR R3 hbl
 replace R4 := hmR R4 hbl
 have HW := Lib.hid hbl; clear hbl
 replace CX := Lib.hid CX
 replace CY := Lib.hid CY
 go_enter Tryz.func3, Tryz.ntmps3
 go_upto_region 1 with fail
 rw [← hwa]
 clear hwa
 obtain ⟨CX0, CX1, CX2, CX3, CX4, CX5⟩ := CX.out.cs6
 obtain ⟨CY0, CY1, CY2, CY3, CY4, CY5⟩ := CY.out.cs6
 refine wp_region_inv (TAt [some (.agg #[.int .i64 ka, .bool ba, .string sa, .bool ga, .slice A x0.length c, .slice B y0.length d]), some (.agg #[.int .i64 ka, .bool ba, .string s1, .bool ga, .slice A xs.length c, .slice B ys.length d]), some (.agg #[.int .i64 kb, .bool bb, .string sb, .bool gb, .slice A' x0'.length c', .slice B' y0'.length d']), some (.agg #[.int .i64 kb, .bool bb, .string s2, .bool gb, .slice A' xs'.length c', .slice B' ys'.length d']), some (.string op), some (.string op), some (.int .i64 (op.size : Int)), some (.int .i64 (j : Int)), some (.string s9), none, none, some (.string s9)]) (fun S W => LawI w #[.int .i64 ka, .bool ba, .string sa, .bool ga, .slice A x0.length c, .slice B y0.length d] #[.int .i64 ka, .bool ba, .string s1, .bool ga, .slice A xs.length c, .slice B ys.length d] #[.int .i64 kb, .bool bb, .string sb, .bool gb, .slice A' x0'.length c', .slice B' y0'.length d'] #[.int .i64 kb, .bool bb, .string s2, .bool gb, .slice A' xs'.length c', .slice B' ys'.length d'] A B A' B' xs ys xs' ys' (S 9) (S 10) W) (by kernel_rfl) (by kernel_rfl) ?ini (stepsI_cons ?_ (stepsI_cons ?_ (stepsI_cons ?_ (stepsI_cons ?_ (stepsI_cons ?_ (stepsI_cons ?_ (stepsI_cons ?_ (stepsI_cons ?_ (stepsI_cons ?_ (stepsI_cons ?_ (stepsI_cons ?_ (stepsI_cons ?_ (stepsI_nil))))))))))))) ?fin
 case ini => exact LawI.below ⟨HW.out, R1.out, R2.out, R3.out, R4.out, CX.out, CY.out⟩ (bel_drewN (bel_refl _) 1)
 · intro S a1 w9 K9 hun hcl haf hF hI hK hC
   replace hun : S 0 = false := hun
   have b5 := hF.base (k := 5) (by kernel_rfl) rfl
   have s9_ : S 9 = false := iclo hcl 9 0 (j := 1) rfl rfl (iclo hcl 1 0 (j := 0) rfl rfl hun)
   have cx9 : Blk w9 w.heap.size 27 #[.int .i64 ka, .bool ba, .string sa, .bool ga, .slice A x0.length c, .slice B y0.length d] := by have h := hI.cx; rw [s9_] at h; exact h
   obtain ⟨c0, c1, c2, c3, c4, c5⟩ := cx9.cs6
   clear cx9
   have HI := Lib.hid hI
   clear hF hcl haf hK hI
   go_simp
   exact hC _ _ (fun _ _ => rfl) (HI.out.keep (by simp) (by simp))
 · intro S a1 w9 K9 hun hcl haf hF hI hK hC
   replace hun : S 1 = false := hun
   obtain ⟨v11, e11, z11⟩ := ikn hK 0 (k := 11) (iaft haf 0 (g := .data) (j := 0) rfl rfl) rfl
   have z11 : v11 = .agg #[.int .i64 ka, .bool ba, .string sa, .bool ga, .slice A x0.length c, .slice B y0.length d] := z11
   subst z11
   have HI := Lib.hid hI
   clear hF hcl haf hK hI
   go_simp
   refine (fewV_is ka ba ga sa s1 A B c d x0 y0 xs ys _ F.out.1.1 F.out.1.2.1 F.out.1.2.2.1 F.out.1.2.2.2.1 F.out.1.2.2.2.2).mono ?_
   rintro e w7 ⟨rfl, hbl⟩
   exact hC _ _ (fun _ _ => rfl) ((HI.out.below hbl).keep (by simp) (by simp))
 · intro S a1 w9 K9 hun hcl haf hF hI hK hC
   replace hun : S 2 = false := hun
   have b6 := hF.base (k := 6) (by kernel_rfl) rfl
   have s10_ : S 10 = false := iclo hcl 10 0 (j := 3) rfl rfl (iclo hcl 3 0 (j := 2) rfl rfl hun)
   have cy9 : Blk w9 (w.heap.size + 1) 27 #[.int .i64 kb, .bool bb, .string sb, .bool gb, .slice A' x0'.length c', .slice B' y0'.length d'] := by have h := hI.cy; rw [s10_] at h; exact h
   obtain ⟨c0, c1, c2, c3, c4, c5⟩ := cy9.cs6
   clear cy9
   have HI := Lib.hid hI
   clear hF hcl haf hK hI
   go_simp
   exact hC _ _ (fun _ _ => rfl) (HI.out.keep (by simp) (by simp))
 · intro S a1 w9 K9 hun hcl haf hF hI hK hC
   replace hun : S 3 = false := hun
   obtain ⟨v13, e13, z13⟩ := ikn hK 2 (k := 13) (iaft haf 0 (g := .data) (j := 2) rfl rfl) rfl
   have z13 : v13 = .agg #[.int .i64 kb, .bool bb, .string sb, .bool gb, .slice A' x0'.length c', .slice B' y0'.length d'] := z13
   subst z13
   have HI := Lib.hid hI
   clear hF hcl haf hK hI
   go_simp
   refine (fewV_is kb bb gb sb s2 A' B' c' d' x0' y0' xs' ys' _ F.out.2.1 F.out.2.2.1 F.out.2.2.2.1 F.out.2.2.2.2.1 F.out.2.2.2.2.2).mono ?_
   rintro e w7 ⟨rfl, hbl⟩
   exact hC _ _ (fun _ _ => rfl) ((HI.out.below hbl).keep (by simp) (by simp))
 · intro S a1 w9 K9 hun hcl haf hF hI hK hC
   replace hun : S 4 = false := hun
   have s11_ : S 11 = false := iclo hcl 11 0 (j := 8) rfl rfl (iclo hcl 8 0 (j := 4) rfl rfl hun)
   have b0 := hF.base1 11 (k := 0) (v := .string op) s11_ (by kernel_rfl) rfl
   have HI := Lib.hid hI
   clear hF hcl haf hK hI
   go_simp
   exact hC _ _ (fun _ _ => rfl) (HI.out.keep (by simp) (by simp))
 · intro S a1 w9 K9 hun hcl haf hF hI hK hC
   replace hun : S 5 = false := hun
   have s11_ : S 11 = false := iclo hcl 11 0 (j := 8) rfl rfl (iclo hcl 8 1 (j := 7) rfl rfl (iclo hcl 7 0 (j := 6) rfl rfl (iclo hcl 6 0 (j := 5) rfl rfl hun)))
   have b0 := hF.base1 11 (k := 0) (v := .string op) s11_ (by kernel_rfl) rfl
   have HI := Lib.hid hI
   clear hF hcl haf hK hI
   go_simp
   exact hC _ _ (fun _ _ => rfl) (HI.out.keep (by simp) (by simp))
 · intro S a1 w9 K9 hun hcl haf hF hI hK hC
   replace hun : S 6 = false := hun
   obtain ⟨v16, e16, z16⟩ := ikn hK 5 (k := 16) (iaft haf 0 (g := .data) (j := 5) rfl rfl) rfl
   have z16 : v16 = .string op := z16
   subst z16
   have HI := Lib.hid hI
   clear hF hcl haf hK hI
   go_simp
   exact hC _ _ (fun _ _ => rfl) (HI.out.keep (by simp) (by simp))
 · intro S a1 w9 K9 hun hcl haf hF hI hK hC
   replace hun : S 7 = false := hun
   obtain ⟨v17, e17, z17⟩ := ikn hK 6 (k := 17) (iaft haf 0 (g := .data) (j := 6) rfl rfl) rfl
   have z17 : v17 = .int .i64 (op.size : Int) := z17
   subst z17
   have HI := Lib.hid hI
   clear hF hcl haf hK hI
   go_simp
   exact hC _ _ (fun _ _ => rfl) (HI.out.keep (by simp) (by simp))
 · intro S a1 w9 K9 hun hcl haf hF hI hK hC
   replace hun : S 8 = false := hun
   obtain ⟨v15, e15, z15⟩ := ikn hK 4 (k := 15) (iaft haf 0 (g := .data) (j := 4) rfl rfl) rfl
   have z15 : v15 = .string op := z15
   subst z15
   obtain ⟨v18, e18, z18⟩ := ikn hK 7 (k := 18) (iaft haf 1 (g := .data) (j := 7) rfl rfl) rfl
   have z18 : v18 = .int .i64 (j : Int) := z18
   subst z18
   have HI := Lib.hid hI
   clear hF hcl haf hK hI
   go_simp
   exact hC _ _ (fun _ _ => congrArg Value.string HO.out) (HI.out.keep (by simp) (by simp))
 · intro S a1 w9 K9 hun hcl haf hF hI hK hC
   replace hun : S 9 = false := hun
   have b5 := hF.base (k := 5) (by kernel_rfl) rfl
   obtain ⟨v12, e12, z12⟩ := ikn hK 1 (k := 12) (iaft haf 0 (g := .data) (j := 1) rfl rfl) rfl
   have z12 : v12 = .agg #[.int .i64 ka, .bool ba, .string s1, .bool ga, .slice A xs.length c, .slice B ys.length d] := z12
   subst z12
   have cx9 : Blk w9 w.heap.size 27 #[.int .i64 ka, .bool ba, .string sa, .bool ga, .slice A x0.length c, .slice B y0.length d] := by have h := hI.cx; rw [hun] at h; exact h
   obtain ⟨c0, c1, c2, c3, c4, c5⟩ := cx9.cs6
   obtain ⟨f0, f1, f2, f3, f4, f5⟩ := cx9.fz6
   have HI := Lib.hid hI
   clear hF hcl haf hK hI
   go_simp
   exact hC undef _ (fun _ h => nomatch h) ((HI.out.putx cx9).keep (by simp [hun]) (by simp))
 · intro S a1 w9 K9 hun hcl haf hF hI hK hC
   replace hun : S 10 = false := hun
   have b6 := hF.base (k := 6) (by kernel_rfl) rfl
   obtain ⟨v14, e14, z14⟩ := ikn hK 3 (k := 14) (iaft haf 0 (g := .data) (j := 3) rfl rfl) rfl
   have z14 : v14 = .agg #[.int .i64 kb, .bool bb, .string s2, .bool gb, .slice A' xs'.length c', .slice B' ys'.length d'] := z14
   subst z14
   have cy9 : Blk w9 (w.heap.size + 1) 27 #[.int .i64 kb, .bool bb, .string sb, .bool gb, .slice A' x0'.length c', .slice B' y0'.length d'] := by have h := hI.cy; rw [hun] at h; exact h
   obtain ⟨c0, c1, c2, c3, c4, c5⟩ := cy9.cs6
   obtain ⟨f0, f1, f2, f3, f4, f5⟩ := cy9.fz6
   have HI := Lib.hid hI
   clear hF hcl haf hK hI
   go_simp
   exact hC undef _ (fun _ h => nomatch h) ((HI.out.puty cy9).keep (by simp) (by simp [hun]))
 · intro S a1 w9 K9 hun hcl haf hF hI hK hC
   replace hun : S 11 = false := hun
   obtain ⟨v19, e19, z19⟩ := ikn hK 8 (k := 19) (iaft haf 0 (g := .data) (j := 8) rfl rfl) rfl
   have z19 : v19 = .string s9 := z19
   subst z19
   have HI := Lib.hid hI
   clear hF hcl haf hK hI
   go_simp
   exact hC _ _ (fun _ _ => rfl) (HI.out.keep (by simp) (by simp))
 case fin =>
  intro S a0 w9 hS hF hI hK
  obtain ⟨v0, e0, z0⟩ := ikn hK 11 (k := 0) (hS 11 (by decide)) rfl
  have z0 : v0 = .string s9 := z0
  subst z0
  have b3 := hF.base (k := 3) (by kernel_rfl) rfl
  have b5 := hF.base (k := 5) (by kernel_rfl) rfl
  have b6 := hF.base (k := 6) (by kernel_rfl) rfl
  have hsz := hF.size
  have hdf := hF.defers
  clear hF hK
  have hI := hI
  rw [hS 9 (by decide), hS 10 (by decide)] at hI
  clear hS
  obtain ⟨⟨l0⟩, df⟩ := a0
  have hs0 : l0.length = 63 := hsz
  clear hsz
  replace hdf : df = _ := hdf
  subst hdf
  obtain ⟨u, rfl⟩ := lits_63 hs0
  clear hs0
  generalize hAr : (Array.mk [u 0, u 1, u 2, u 3, u 4, u 5, u 6, u 7, u 8, u 9, u 10, u 11, u 12, u 13, u 14, u 15, u 16, u 17, u 18, u 19, u 20, u 21, u 22, u 23, u 24, u 25, u 26, u 27, u 28, u 29, u 30, u 31, u 32, u 33, u 34, u 35, u 36, u 37, u 38, u 39, u 40, u 41, u 42, u 43, u 44, u 45, u 46, u 47, u 48, u 49, u 50, u 51, u 52, u 53, u 54, u 55, u 56, u 57, u 58, u 59, u 60, u 61, u 62] : Array Value) = ar
  obtain rfl : ar = #[u 0, u 1, u 2, u 3, u 4, u 5, u 6, u 7, u 8, u 9, u 10, u 11, u 12, u 13, u 14, u 15, u 16, u 17, u 18, u 19, u 20, u 21, u 22, u 23, u 24, u 25, u 26, u 27, u 28, u 29, u 30, u 31, u 32, u 33, u 34, u 35, u 36, u 37, u 38, u 39, u 40, u 41, u 42, u 43, u 44, u 45, u 46, u 47, u 48, u 49, u 50, u 51, u 52, u 53, u 54, u 55, u 56, u 57, u 58, u 59, u 60, u 61, u 62] := hAr.symm
  have q3 : u 3 = _ := Option.some.inj b3
  clear b3
  have q5 : u 5 = _ := Option.some.inj b5
  clear b5
  have q6 : u 6 = _ := Option.some.inj b6
  clear b6
  have q0 : u 0 = _ := Option.some.inj e0
  clear e0
  rw [q0, q3, q5, q6]
  clear q0 q3 q5 q6
  refine wpList_nil ?_
  have HW := Lib.hid hI.old
  have R1 := Lib.hid hI.r1
  have R2 := Lib.hid hI.r2
  have R3 := Lib.hid hI.r3
  have R4 := Lib.hid hI.r4
  have CX := Lib.hid (show Blk w9 w.heap.size 27 #[.int .i64 ka, .bool ba, .string s1, .bool ga, .slice A xs.length c, .slice B ys.length d] from hI.cx)
  have CY := Lib.hid (show Blk w9 (w.heap.size + 1) 27 #[.int .i64 kb, .bool bb, .string s2, .bool gb, .slice A' xs'.length c', .slice B' ys'.length d'] from hI.cy)
  clear hI
  obtain ⟨CX0, CX1, CX2, CX3, CX4, CX5⟩ := CX.out.cs6
  obtain ⟨CY0, CY1, CY2, CY3, CY4, CY5⟩ := CY.out.cs6
  go_wp2_with fail
  refine (HP.out _ R1.out R2.out R3.out R4.out).mono ?_
  rintro e w21 ⟨vx, vy, rfl, hnx, hny, hbl⟩
  replace R1 := hmR R1 hbl
  replace R2 := hmR R2 hbl
  replace R3 := hmR R3 hbl
  replace R4 := hmR R4 hbl
  replace CX := hmB CX hbl
  replace CY := hmB CY hbl
  replace HW := hmW HW hbl; clear hbl
  clear CX0 CX1 CX2 CX3 CX4 CX5 CY0 CY1 CY2 CY3 CY4 CY5
  obtain ⟨CX0, CX1, CX2, CX3, CX4, CX5⟩ := CX.out.cs6
  obtain ⟨CY0, CY1, CY2, CY3, CY4, CY5⟩ := CY.out.cs6
  have HNx := Lib.hid hnx; clear hnx
  obtain ⟨Ax, cx, rfl, hcx, hrx⟩ := HNx.out.row
  have Rx := Lib.hid hrx; have HCx := Lib.hid hcx; clear hrx hcx
  have HNy := Lib.hid hny; clear hny
  obtain ⟨Ay, cy, rfl, hcy, hry⟩ := HNy.out.row
  have Ry := Lib.hid hry; have HCy := Lib.hid hcy; clear hry hcy
  go_upto_region 3 with fail
  obtain ⟨wv, hwv⟩ : ∃ wv, wv = w21.alloc (.cells #[.int .i64 k0, .bool b0, .string s0, .bool q.s, .slice Ax (limbs q.n).length cx, .slice Ay (limbs q.d).length cy] 27) := ⟨_, rfl⟩
  rw [← hwv]
  obtain ⟨hbl, CV⟩ := sal1 hwv
  clear hwv
  replace R1 := hmR R1 hbl
  replace R2 := hmR R2 hbl
  replace R3 := hmR R3 hbl
  replace R4 := hmR R4 hbl
  replace Rx := hmR Rx hbl
  replace Ry := hmR Ry hbl
  replace CX := hmB CX hbl
  replace CY := hmB CY hbl
  replace HW := hmW HW hbl; clear hbl
  clear CX0 CX1 CX2 CX3 CX4 CX5 CY0 CY1 CY2 CY3 CY4 CY5
  obtain ⟨CX0, CX1, CX2, CX3, CX4, CX5⟩ := CX.out.cs6
  obtain ⟨CY0, CY1, CY2, CY3, CY4, CY5⟩ := CY.out.cs6
  obtain ⟨CV0, CV1, CV2, CV3, CV4, CV5⟩ := CV.out.cs6
  rcases HCASE.out with ⟨hbad, hrf⟩ | ⟨hr1, hr2, h0, h18, hOa, hOb, hRB, hI⟩
  all_goals clear HCASE
  · obtain ⟨u1, hu1⟩ : ∃ u, rightV ka ba s1 ga xs ys = u := ⟨_, rfl⟩
    obtain ⟨u2, hu2⟩ : ∃ u, rightV kb bb s2 gb xs' ys' = u := ⟨_, rfl⟩
    rw [hu1, hu2] at hbad
    have HU1 := Lib.hid hu1; clear hu1
    have HU2 := Lib.hid hu2; clear hu2
    have HBD := Lib.hid hbad; clear hbad
    have HRF := Lib.hid hrf; clear hrf
    go_wp2_with fail
    refine (rRight_any ka ba s1 ga A B c d xs ys _ R1.out R2.out M4.out.1 M4.out.2.1 L18.out.1 L18.out.2.1).mono ?_
    rintro e w22 ⟨rfl, hbl⟩
    replace R1 := hmR R1 hbl
    replace R2 := hmR R2 hbl
    replace R3 := hmR R3 hbl
    replace R4 := hmR R4 hbl
    replace Rx := hmR Rx hbl
    replace Ry := hmR Ry hbl
    replace CX := hmB CX hbl
    replace CY := hmB CY hbl
    replace CV := hmB CV hbl
    replace HW := hmW HW hbl; clear hbl
    clear CX0 CX1 CX2 CX3 CX4 CX5 CY0 CY1 CY2 CY3 CY4 CY5 CV0 CV1 CV2 CV3 CV4 CV5
    obtain ⟨CX0, CX1, CX2, CX3, CX4, CX5⟩ := CX.out.cs6
    obtain ⟨CY0, CY1, CY2, CY3, CY4, CY5⟩ := CY.out.cs6
    obtain ⟨CV0, CV1, CV2, CV3, CV4, CV5⟩ := CV.out.cs6
    rw [HU1.out]
    cases u1
    · go_wp2_with fail
      refine (aliveV _).mono ?_
      rintro e w23 ⟨rfl, hbl⟩
      replace R1 := hmR R1 hbl
      replace R2 := hmR R2 hbl
      replace R3 := hmR R3 hbl
      replace R4 := hmR R4 hbl
      replace Rx := hmR Rx hbl
      replace Ry := hmR Ry hbl
      replace CX := hmB CX hbl
      replace CY := hmB CY hbl
      replace CV := hmB CV hbl
      replace HW := hmW HW hbl; clear hbl
      clear CX0 CX1 CX2 CX3 CX4 CX5 CY0 CY1 CY2 CY3 CY4 CY5 CV0 CV1 CV2 CV3 CV4 CV5
      obtain ⟨CX0, CX1, CX2, CX3, CX4, CX5⟩ := CX.out.cs6
      obtain ⟨CY0, CY1, CY2, CY3, CY4, CY5⟩ := CY.out.cs6
      obtain ⟨CV0, CV1, CV2, CV3, CV4, CV5⟩ := CV.out.cs6
      go_wp2_with fail
      refine (HRF.out _ Ax Ay cx cy).mono ?_
      rintro e w24 ⟨rfl, hbl⟩
      replace R1 := hmR R1 hbl
      replace R2 := hmR R2 hbl
      replace R3 := hmR R3 hbl
      replace R4 := hmR R4 hbl
      replace Rx := hmR Rx hbl
      replace Ry := hmR Ry hbl
      replace CX := hmB CX hbl
      replace CY := hmB CY hbl
      replace CV := hmB CV hbl
      replace HW := hmW HW hbl; clear hbl
      clear CX0 CX1 CX2 CX3 CX4 CX5 CY0 CY1 CY2 CY3 CY4 CY5 CV0 CV1 CV2 CV3 CV4 CV5
      obtain ⟨CX0, CX1, CX2, CX3, CX4, CX5⟩ := CX.out.cs6
      obtain ⟨CY0, CY1, CY2, CY3, CY4, CY5⟩ := CY.out.cs6
      obtain ⟨CV0, CV1, CV2, CV3, CV4, CV5⟩ := CV.out.cs6
      go_wp2
      go_ret
      exact ⟨rfl, HW.out⟩
    · go_wp2_with fail
      refine (rRight_any kb bb s2 gb A' B' c' d' xs' ys' _ R3.out R4.out M4.out.2.2.1 M4.out.2.2.2 L18.out.2.2.1 L18.out.2.2.2).mono ?_
      rintro e w23 ⟨rfl, hbl⟩
      replace R1 := hmR R1 hbl
      replace R2 := hmR R2 hbl
      replace R3 := hmR R3 hbl
      replace R4 := hmR R4 hbl
      replace Rx := hmR Rx hbl
      replace Ry := hmR Ry hbl
      replace CX := hmB CX hbl
      replace CY := hmB CY hbl
      replace CV := hmB CV hbl
      replace HW := hmW HW hbl; clear hbl
      clear CX0 CX1 CX2 CX3 CX4 CX5 CY0 CY1 CY2 CY3 CY4 CY5 CV0 CV1 CV2 CV3 CV4 CV5
      obtain ⟨CX0, CX1, CX2, CX3, CX4, CX5⟩ := CX.out.cs6
      obtain ⟨CY0, CY1, CY2, CY3, CY4, CY5⟩ := CY.out.cs6
      obtain ⟨CV0, CV1, CV2, CV3, CV4, CV5⟩ := CV.out.cs6
      rw [HU2.out]
      cases u2
      · go_wp2_with fail
        refine (aliveV _).mono ?_
        rintro e w24 ⟨rfl, hbl⟩
        replace R1 := hmR R1 hbl
        replace R2 := hmR R2 hbl
        replace R3 := hmR R3 hbl
        replace R4 := hmR R4 hbl
        replace Rx := hmR Rx hbl
        replace Ry := hmR Ry hbl
        replace CX := hmB CX hbl
        replace CY := hmB CY hbl
        replace CV := hmB CV hbl
        replace HW := hmW HW hbl; clear hbl
        clear CX0 CX1 CX2 CX3 CX4 CX5 CY0 CY1 CY2 CY3 CY4 CY5 CV0 CV1 CV2 CV3 CV4 CV5
        obtain ⟨CX0, CX1, CX2, CX3, CX4, CX5⟩ := CX.out.cs6
        obtain ⟨CY0, CY1, CY2, CY3, CY4, CY5⟩ := CY.out.cs6
        obtain ⟨CV0, CV1, CV2, CV3, CV4, CV5⟩ := CV.out.cs6
        go_wp2_with fail
        refine (HRF.out _ Ax Ay cx cy).mono ?_
        rintro e w25 ⟨rfl, hbl⟩
        replace R1 := hmR R1 hbl
        replace R2 := hmR R2 hbl
        replace R3 := hmR R3 hbl
        replace R4 := hmR R4 hbl
        replace Rx := hmR Rx hbl
        replace Ry := hmR Ry hbl
        replace CX := hmB CX hbl
        replace CY := hmB CY hbl
        replace CV := hmB CV hbl
        replace HW := hmW HW hbl; clear hbl
        clear CX0 CX1 CX2 CX3 CX4 CX5 CY0 CY1 CY2 CY3 CY4 CY5 CV0 CV1 CV2 CV3 CV4 CV5
        obtain ⟨CX0, CX1, CX2, CX3, CX4, CX5⟩ := CX.out.cs6
        obtain ⟨CY0, CY1, CY2, CY3, CY4, CY5⟩ := CY.out.cs6
        obtain ⟨CV0, CV1, CV2, CV3, CV4, CV5⟩ := CV.out.cs6
        go_wp2
        go_ret
        exact ⟨rfl, HW.out⟩
      · by_cases t0 : t < 0
        · go_wp2_with fail
          refine (aliveV _).mono ?_
          rintro e w24 ⟨rfl, hbl⟩
          replace R1 := hmR R1 hbl
          replace R2 := hmR R2 hbl
          replace R3 := hmR R3 hbl
          replace R4 := hmR R4 hbl
          replace Rx := hmR Rx hbl
          replace Ry := hmR Ry hbl
          replace CX := hmB CX hbl
          replace CY := hmB CY hbl
          replace CV := hmB CV hbl
          replace HW := hmW HW hbl; clear hbl
          clear CX0 CX1 CX2 CX3 CX4 CX5 CY0 CY1 CY2 CY3 CY4 CY5 CV0 CV1 CV2 CV3 CV4 CV5
          obtain ⟨CX0, CX1, CX2, CX3, CX4, CX5⟩ := CX.out.cs6
          obtain ⟨CY0, CY1, CY2, CY3, CY4, CY5⟩ := CY.out.cs6
          obtain ⟨CV0, CV1, CV2, CV3, CV4, CV5⟩ := CV.out.cs6
          go_wp2_with fail
          refine (HRF.out _ Ax Ay cx cy).mono ?_
          rintro e w25 ⟨rfl, hbl⟩
          replace R1 := hmR R1 hbl
          replace R2 := hmR R2 hbl
          replace R3 := hmR R3 hbl
          replace R4 := hmR R4 hbl
          replace Rx := hmR Rx hbl
          replace Ry := hmR Ry hbl
          replace CX := hmB CX hbl
          replace CY := hmB CY hbl
          replace CV := hmB CV hbl
          replace HW := hmW HW hbl; clear hbl
          clear CX0 CX1 CX2 CX3 CX4 CX5 CY0 CY1 CY2 CY3 CY4 CY5 CV0 CV1 CV2 CV3 CV4 CV5
          obtain ⟨CX0, CX1, CX2, CX3, CX4, CX5⟩ := CX.out.cs6
          obtain ⟨CY0, CY1, CY2, CY3, CY4, CY5⟩ := CY.out.cs6
          obtain ⟨CV0, CV1, CV2, CV3, CV4, CV5⟩ := CV.out.cs6
          go_wp2
          go_ret
          exact ⟨rfl, HW.out⟩
        · have t1 : (18 : Int) < t := by have h := HBD.out; simp at h; omega
          go_wp2_with fail
          refine (aliveV _).mono ?_
          rintro e w24 ⟨rfl, hbl⟩
          replace R1 := hmR R1 hbl
          replace R2 := hmR R2 hbl
          replace R3 := hmR R3 hbl
          replace R4 := hmR R4 hbl
          replace Rx := hmR Rx hbl
          replace Ry := hmR Ry hbl
          replace CX := hmB CX hbl
          replace CY := hmB CY hbl
          replace CV := hmB CV hbl
          replace HW := hmW HW hbl; clear hbl
          clear CX0 CX1 CX2 CX3 CX4 CX5 CY0 CY1 CY2 CY3 CY4 CY5 CV0 CV1 CV2 CV3 CV4 CV5
          obtain ⟨CX0, CX1, CX2, CX3, CX4, CX5⟩ := CX.out.cs6
          obtain ⟨CY0, CY1, CY2, CY3, CY4, CY5⟩ := CY.out.cs6
          obtain ⟨CV0, CV1, CV2, CV3, CV4, CV5⟩ := CV.out.cs6
          go_wp2_with fail
          refine (HRF.out _ Ax Ay cx cy).mono ?_
          rintro e w25 ⟨rfl, hbl⟩
          replace R1 := hmR R1 hbl
          replace R2 := hmR R2 hbl
          replace R3 := hmR R3 hbl
          replace R4 := hmR R4 hbl
          replace Rx := hmR Rx hbl
          replace Ry := hmR Ry hbl
          replace CX := hmB CX hbl
          replace CY := hmB CY hbl
          replace CV := hmB CV hbl
          replace HW := hmW HW hbl; clear hbl
          clear CX0 CX1 CX2 CX3 CX4 CX5 CY0 CY1 CY2 CY3 CY4 CY5 CV0 CV1 CV2 CV3 CV4 CV5
          obtain ⟨CX0, CX1, CX2, CX3, CX4, CX5⟩ := CX.out.cs6
          obtain ⟨CY0, CY1, CY2, CY3, CY4, CY5⟩ := CY.out.cs6
          obtain ⟨CV0, CV1, CV2, CV3, CV4, CV5⟩ := CV.out.cs6
          go_wp2
          go_ret
          exact ⟨rfl, HW.out⟩
  · have HU1 := Lib.hid hr1; clear hr1
    have HU2 := Lib.hid hr2; clear hr2
    have HRB := Lib.hid hRB; clear hRB
    have HOA := Lib.hid hOa; clear hOa
    have HOB := Lib.hid hOb; clear hOb
    have HI := Lib.hid hI; clear hI
    have t0 : ¬ t < 0 := by omega
    have t1 : ¬ (18 : Int) < t := by omega
    clear h0 h18
    go_wp2_with fail
    refine (rRight_any ka ba s1 ga A B c d xs ys _ R1.out R2.out M4.out.1 M4.out.2.1 L18.out.1 L18.out.2.1).mono ?_
    rintro e w22 ⟨rfl, hbl⟩
    replace R1 := hmR R1 hbl
    replace R2 := hmR R2 hbl
    replace R3 := hmR R3 hbl
    replace R4 := hmR R4 hbl
    replace Rx := hmR Rx hbl
    replace Ry := hmR Ry hbl
    replace CX := hmB CX hbl
    replace CY := hmB CY hbl
    replace CV := hmB CV hbl
    replace HW := hmW HW hbl; clear hbl
    clear CX0 CX1 CX2 CX3 CX4 CX5 CY0 CY1 CY2 CY3 CY4 CY5 CV0 CV1 CV2 CV3 CV4 CV5
    obtain ⟨CX0, CX1, CX2, CX3, CX4, CX5⟩ := CX.out.cs6
    obtain ⟨CY0, CY1, CY2, CY3, CY4, CY5⟩ := CY.out.cs6
    obtain ⟨CV0, CV1, CV2, CV3, CV4, CV5⟩ := CV.out.cs6
    rw [HU1.out]
    go_wp2_with fail
    refine (rRight_any kb bb s2 gb A' B' c' d' xs' ys' _ R3.out R4.out M4.out.2.2.1 M4.out.2.2.2 L18.out.2.2.1 L18.out.2.2.2).mono ?_
    rintro e w23 ⟨rfl, hbl⟩
    replace R1 := hmR R1 hbl
    replace R2 := hmR R2 hbl
    replace R3 := hmR R3 hbl
    replace R4 := hmR R4 hbl
    replace Rx := hmR Rx hbl
    replace Ry := hmR Ry hbl
    replace CX := hmB CX hbl
    replace CY := hmB CY hbl
    replace CV := hmB CV hbl
    replace HW := hmW HW hbl; clear hbl
    clear CX0 CX1 CX2 CX3 CX4 CX5 CY0 CY1 CY2 CY3 CY4 CY5 CV0 CV1 CV2 CV3 CV4 CV5
    obtain ⟨CX0, CX1, CX2, CX3, CX4, CX5⟩ := CX.out.cs6
    obtain ⟨CY0, CY1, CY2, CY3, CY4, CY5⟩ := CY.out.cs6
    obtain ⟨CV0, CV1, CV2, CV3, CV4, CV5⟩ := CV.out.cs6
    rw [HU2.out]
    go_upto_region 5 with fail
    refine wp_region_typedG 13 (TOf [VIs (.bool true),
     VIs (.bool true),
     VIs (.agg #[.int .i64 k0, .bool b0, .string s0, .bool q.s, .slice Ax (limbs q.n).length cx, .slice Ay (limbs q.d).length cy]),
     VIs (.int .i64 e0),
     VIs (.string s9),
     VIs (.agg #[.int .i64 ka, .bool ba, .string s1, .bool ga, .slice A xs.length c, .slice B ys.length d]),
     VIs (.agg #[.int .i64 kx, .bool bx, .string sx, .bool fx, .string nx, .string dx, .bool false, .int .i64 0]),
     VIs (.agg #[.int .i64 kb, .bool bb, .string s2, .bool gb, .slice A' xs'.length c', .slice B' ys'.length d']),
     VIs (.agg #[.int .i64 ky, .bool by_, .string sy, .bool fy, .string ny, .string dy, .bool false, .int .i64 0]),
     VIs (.int .i64 t),
     VIs (.agg #[.int .i64 k0, .bool b0, .string s0, .bool fs, .string n0, .string d0, .bool false, .int .i64 e0]),
     VIs (.bool true),
     VIs (.bool true)]) (by kernel_rfl) (by kernel_rfl) (by kernel_rfl) (LiftAll.at_ (.cons (VIs.lift _) (.cons (VIs.lift _) (.cons (VIs.lift _) (.cons (VIs.lift _) (.cons (VIs.lift _) (.cons (VIs.lift _) (.cons (VIs.lift _) (.cons (VIs.lift _) (.cons (VIs.lift _) (.cons (VIs.lift _) (.cons (VIs.lift _) (.cons (VIs.lift _) (.cons (VIs.lift _) .nil)))))))))))))) (stepsG_all (stepsG_cons ?_ (stepsG_cons ?_ (stepsG_cons ?_ (stepsG_cons ?_ (stepsG_cons ?_ (stepsG_cons ?_ (stepsG_cons ?_ (stepsG_cons ?_ (stepsG_cons ?_ (stepsG_cons ?_ (stepsG_cons ?_ (stepsG_cons ?_ (stepsG_cons ?_ stepsG_zero)))))))))))))) ?fin
    · refine stepG_plain rfl ?_
      intro a0 w9 K9 hF hB hK hC
      have HB9 := Lib.hid hB
      clear hF hB hK
      go_simp
      refine (aliveV _).mono ?_
      rintro e w7 ⟨rfl, hbl⟩
      exact hC _ _ hbl fun _ _ => rfl
    · refine stepG_plain rfl ?_
      intro a0 w9 K9 hF hB hK hC
      have e50 := depV hK 0 rfl rfl rfl rfl
      clear hF hB hK
      go_simp
      exact hC _ _ (bR _) fun _ _ => rfl
    · intro a0 w9 K9 hF hB hK hC
      obtain ⟨vg, eg, zg⟩ := dep hK 0 (g := .guard) (j := 1) (k := 51) rfl rfl rfl
      have zg : vg = .bool true := zg
      subst zg
      refine guard_in (j := 1) (k := 51) (want := true) rfl rfl eg rfl ?_
      have b9 := hF.base (k := 9) (by kernel_rfl) rfl
      have x90 := (CV.out.below hB CV.out.lt).c0
      have x91 := (CV.out.below hB CV.out.lt).c1
      have x92 := (CV.out.below hB CV.out.lt).c2
      have x93 := (CV.out.below hB CV.out.lt).c3
      have x94 := (CV.out.below hB CV.out.lt).c4
      have x95 := (CV.out.below hB CV.out.lt).c5
      clear hF hB hK
      go_simp
      exact hC _ _ (bR _) fun _ _ => rfl
    · intro a0 w9 K9 hF hB hK hC
      obtain ⟨vg, eg, zg⟩ := dep hK 0 (g := .guard) (j := 1) (k := 51) rfl rfl rfl
      have zg : vg = .bool true := zg
      subst zg
      refine guard_in (j := 1) (k := 51) (want := true) rfl rfl eg rfl ?_
      have b10 := hF.base (k := 10) (by kernel_rfl) rfl
      clear hF hB hK
      go_simp
      exact hC _ _ (bR _) fun _ _ => rfl
    · intro a0 w9 K9 hF hB hK hC
      obtain ⟨vg, eg, zg⟩ := dep hK 0 (g := .guard) (j := 1) (k := 51) rfl rfl rfl
      have zg : vg = .bool true := zg
      subst zg
      refine guard_in (j := 1) (k := 51) (want := true) rfl rfl eg rfl ?_
      have b0 := hF.base (k := 0) (by kernel_rfl) rfl
      clear hF hB hK
      go_simp
      exact hC _ _ (bR _) fun _ _ => rfl
    · intro a0 w9 K9 hF hB hK hC
      obtain ⟨vg, eg, zg⟩ := dep hK 0 (g := .guard) (j := 1) (k := 51) rfl rfl rfl
      have zg : vg = .bool true := zg
      subst zg
      refine guard_in (j := 1) (k := 51) (want := true) rfl rfl eg rfl ?_
      have b5 := hF.base (k := 5) (by kernel_rfl) rfl
      have x90 := (CX.out.below hB CX.out.lt).c0
      have x91 := (CX.out.below hB CX.out.lt).c1
      have x92 := (CX.out.below hB CX.out.lt).c2
      have x93 := (CX.out.below hB CX.out.lt).c3
      have x94 := (CX.out.below hB CX.out.lt).c4
      have x95 := (CX.out.below hB CX.out.lt).c5
      clear hF hB hK
      go_simp
      exact hC _ _ (bR _) fun _ _ => rfl
    · intro a0 w9 K9 hF hB hK hC
      obtain ⟨vg, eg, zg⟩ := dep hK 2 (g := .guard) (j := 1) (k := 51) rfl rfl rfl
      have zg : vg = .bool true := zg
      subst zg
      refine guard_in (j := 1) (k := 51) (want := true) rfl rfl eg rfl ?_
      have e55 := depV hK 0 rfl rfl rfl rfl
      have HB9 := Lib.hid hB
      clear hF hB hK
      go_simp
      refine (HOA.out _ (R1.out.below HB9.out) (R2.out.below HB9.out)).mono ?_
      rintro e w7 ⟨rfl, hbl⟩
      exact hC _ _ hbl fun _ _ => rfl
    · intro a0 w9 K9 hF hB hK hC
      obtain ⟨vg, eg, zg⟩ := dep hK 0 (g := .guard) (j := 1) (k := 51) rfl rfl rfl
      have zg : vg = .bool true := zg
      subst zg
      refine guard_in (j := 1) (k := 51) (want := true) rfl rfl eg rfl ?_
      have b6 := hF.base (k := 6) (by kernel_rfl) rfl
      have x90 := (CY.out.below hB CY.out.lt).c0
      have x91 := (CY.out.below hB CY.out.lt).c1
      have x92 := (CY.out.below hB CY.out.lt).c2
      have x93 := (CY.out.below hB CY.out.lt).c3
      have x94 := (CY.out.below hB CY.out.lt).c4
      have x95 := (CY.out.below hB CY.out.lt).c5
      clear hF hB hK
      go_simp
      exact hC _ _ (bR _) fun _ _ => rfl
    · intro a0 w9 K9 hF hB hK hC
      obtain ⟨vg, eg, zg⟩ := dep hK 2 (g := .guard) (j := 1) (k := 51) rfl rfl rfl
      have zg : vg = .bool true := zg
      subst zg
      refine guard_in (j := 1) (k := 51) (want := true) rfl rfl eg rfl ?_
      have e57 := depV hK 0 rfl rfl rfl rfl
      have HB9 := Lib.hid hB
      clear hF hB hK
      go_simp
      refine (HOB.out _ (R3.out.below HB9.out) (R4.out.below HB9.out)).mono ?_
      rintro e w7 ⟨rfl, hbl⟩
      exact hC _ _ hbl fun _ _ => rfl
    · intro a0 w9 K9 hF hB hK hC
      obtain ⟨vg, eg, zg⟩ := dep hK 0 (g := .guard) (j := 1) (k := 51) rfl rfl rfl
      have zg : vg = .bool true := zg
      subst zg
      refine guard_in (j := 1) (k := 51) (want := true) rfl rfl eg rfl ?_
      have b3 := hF.base (k := 3) (by kernel_rfl) rfl
      clear hF hB hK
      go_simp
      exact hC _ _ (bR _) fun _ _ => rfl
    · intro a0 w9 K9 hF hB hK hC
      obtain ⟨vg, eg, zg⟩ := dep hK 5 (g := .guard) (j := 1) (k := 51) rfl rfl rfl
      have zg : vg = .bool true := zg
      subst zg
      refine guard_in (j := 1) (k := 51) (want := true) rfl rfl eg rfl ?_
      have e54 := depV hK 0 rfl rfl rfl rfl
      have e56 := depV hK 1 rfl rfl rfl rfl
      have e58 := depV hK 2 rfl rfl rfl rfl
      have e59 := depV hK 3 rfl rfl rfl rfl
      have HB9 := Lib.hid hB
      clear hF hB hK
      go_simp
      refine (HRB.out _).mono ?_
      rintro e w7 ⟨rfl, hbl⟩
      exact hC _ _ hbl fun _ _ => rfl
    · intro a0 w9 K9 hF hB hK hC
      obtain ⟨vg, eg, zg⟩ := dep hK 4 (g := .guard) (j := 1) (k := 51) rfl rfl rfl
      have zg : vg = .bool true := zg
      subst zg
      refine guard_in (j := 1) (k := 51) (want := true) rfl rfl eg rfl ?_
      have e52 := depV hK 0 rfl rfl rfl rfl
      have e53 := depV hK 1 rfl rfl rfl rfl
      have e60 := depV hK 2 rfl rfl rfl rfl
      have HB9 := Lib.hid hB
      clear hF hB hK
      go_simp
      refine (HI.out _ Ax Ay cx cy (Rx.out.below HB9.out) (Ry.out.below HB9.out) HCx.out HCy.out).mono ?_
      rintro e w7 ⟨rfl, hbl⟩
      exact hC _ _ hbl fun _ _ => rfl
    · refine stepG_plain rfl ?_
      intro a0 w9 K9 hF hB hK hC
      have e51 := depV hK 0 rfl rfl rfl rfl
      have e61 := depV hK 1 rfl rfl rfl rfl
      have HB9 := Lib.hid hB
      clear hF hB hK
      go_simp
      exact hC _ _ (bR _) fun _ _ => rfl
    case fin =>
     intro a0 w9 hF hB hK
     have b0 := hF.base (k := 0) (by kernel_rfl) rfl
     have b3 := hF.base (k := 3) (by kernel_rfl) rfl
     have b5 := hF.base (k := 5) (by kernel_rfl) rfl
     have b6 := hF.base (k := 6) (by kernel_rfl) rfl
     have b9 := hF.base (k := 9) (by kernel_rfl) rfl
     have b10 := hF.base (k := 10) (by kernel_rfl) rfl
     have hsz := hF.size
     have hdf := hF.defers
     clear hF
     obtain ⟨v62, e62, z62⟩ := known hK 12 (k := 62) (by decide) rfl
     have z62 : v62 = .bool true := z62
     subst z62
     clear hK
     obtain ⟨⟨l0⟩, df⟩ := a0
     have hs0 : l0.length = 63 := hsz
     clear hsz
     replace hdf : df = _ := hdf
     subst hdf
     obtain ⟨u, rfl⟩ := lits_63 hs0
     clear hs0
     generalize hAr : (Array.mk [u 0, u 1, u 2, u 3, u 4, u 5, u 6, u 7, u 8, u 9, u 10, u 11, u 12, u 13, u 14, u 15, u 16, u 17, u 18, u 19, u 20, u 21, u 22, u 23, u 24, u 25, u 26, u 27, u 28, u 29, u 30, u 31, u 32, u 33, u 34, u 35, u 36, u 37, u 38, u 39, u 40, u 41, u 42, u 43, u 44, u 45, u 46, u 47, u 48, u 49, u 50, u 51, u 52, u 53, u 54, u 55, u 56, u 57, u 58, u 59, u 60, u 61, u 62] : Array Value) = ar
     obtain rfl : ar = #[u 0, u 1, u 2, u 3, u 4, u 5, u 6, u 7, u 8, u 9, u 10, u 11, u 12, u 13, u 14, u 15, u 16, u 17, u 18, u 19, u 20, u 21, u 22, u 23, u 24, u 25, u 26, u 27, u 28, u 29, u 30, u 31, u 32, u 33, u 34, u 35, u 36, u 37, u 38, u 39, u 40, u 41, u 42, u 43, u 44, u 45, u 46, u 47, u 48, u 49, u 50, u 51, u 52, u 53, u 54, u 55, u 56, u 57, u 58, u 59, u 60, u 61, u 62] := hAr.symm
     have q0 : u 0 = _ := Option.some.inj b0
     clear b0
     have q3 : u 3 = _ := Option.some.inj b3
     clear b3
     have q5 : u 5 = _ := Option.some.inj b5
     clear b5
     have q6 : u 6 = _ := Option.some.inj b6
     clear b6
     have q9 : u 9 = _ := Option.some.inj b9
     clear b9
     have q10 : u 10 = _ := Option.some.inj b10
     clear b10
     have q62 : u 62 = _ := Option.some.inj e62
     clear e62
     rw [q0, q3, q5, q6, q9, q10, q62]
     clear q0 q3 q5 q6 q9 q10 q62
     have hbl := hB; clear hB
     replace R1 := hmR R1 hbl
     replace R2 := hmR R2 hbl
     replace R3 := hmR R3 hbl
     replace R4 := hmR R4 hbl
     replace Rx := hmR Rx hbl
     replace Ry := hmR Ry hbl
     replace CX := hmB CX hbl
     replace CY := hmB CY hbl
     replace CV := hmB CV hbl
     replace HW := hmW HW hbl; clear hbl
     clear CX0 CX1 CX2 CX3 CX4 CX5 CY0 CY1 CY2 CY3 CY4 CY5 CV0 CV1 CV2 CV3 CV4 CV5
     obtain ⟨CX0, CX1, CX2, CX3, CX4, CX5⟩ := CX.out.cs6
     obtain ⟨CY0, CY1, CY2, CY3, CY4, CY5⟩ := CY.out.cs6
     obtain ⟨CV0, CV1, CV2, CV3, CV4, CV5⟩ := CV.out.cs6
     simp only [List.drop_succ_cons, List.drop_zero]
     go_wp2
     go_ret
     exact ⟨rfl, HW.out⟩
end
end Go.Proofs.YtmbbdjpnecjleaaGreat
