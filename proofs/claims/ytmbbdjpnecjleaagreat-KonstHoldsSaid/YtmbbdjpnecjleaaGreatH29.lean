/-
 Parts: KInv KInv2.
-/
import Derived.Test.YtmbbdjpnecjleaaGreatH11
namespace Go.Proofs.YtmbbdjpnecjleaaGreat
section
set_option maxRecDepth 100000
set_option maxHeartbeats 1000000
open Go.RowKit

section
variable {P : Program} {Q : Exit → Act → World → Prop}
structure IFr (l : List Oper) (S : Nat → Bool) (a0 a : Act) : Prop where
 defers : a.defers = a0.defers
 size : a.tmps.size = a0.tmps.size
 keep : ∀ k, (∀ i o, S i = true → l[i]? = some o → o.dst ≠ some k) → a.tmps[k]? = a0.tmps[k]?
def IKn (l : List Oper) (S : Nat → Bool) (T : Nat → Value → Prop) (a : Act) : Prop := ∀ j o k, S j = true → l[j]? = some o → o.dst = some k → ∃ v, a.tmps[k]? = some v ∧ T j v
def IClo (l : List Oper) (S : Nat → Bool) : Prop := ∀ j o, l[j]? = some o → S j = true → ∀ e ∈ o.after, Region.binds .any e = true → S e.on = true
def doneB (listed : Array Bool) : Nat → Bool := fun i => listed.getD i false
def StepI (P : Program) (Q : Exit → Act → World → Prop) (l : List Oper) (T : Nat → Value → Prop) (I : (Nat → Bool) → World → Prop) (a0 : Act) (i : Nat) (o : Oper) : Prop :=
 ∀ (S : Nat → Bool) (a : Act) (w : World) (K : Act → World → Prop), S i = false → IClo l S → (∀ e ∈ o.after, Region.binds .any e = true → S e.on = true) → IFr l S a0 a → I S w → IKn l S T a →
  (∀ v w', (∀ k, o.dst = some k → T i v) → I (fun j => S j || j == i) w' → K (a.put o.dst v) w') → o.wp P a w K Q
structure IInv (l : List Oper) (T : Nat → Value → Prop) (I : (Nat → Bool) → World → Prop) (a0 : Act) (listed : Array Bool) (a : Act) (w : World) : Prop where
 head : HeadInv .any l.toArray l.length listed
 fr : IFr l (doneB listed) a0 a
 inv : I (doneB listed) w
 known : IKn l (doneB listed) T a
theorem inv_main {l : List Oper} {a0 : Act} (T : Nat → Value → Prop) (I : (Nat → Bool) → World → Prop) (hB : (headB l l.length a0.tmps.size && l.all fun o => o.guard.isNone) = true)
 (step : ∀ i o, l[i]? = some o → StepI P Q l T I a0 i o)
 (finish : ∀ S a w, (∀ i, i < l.length → S i = true) → IFr l S a0 a → I S w → IKn l S T a → wpList P l.toArray Q [] a w) :
 ∀ (f : Nat) (listed : Array Bool) (a : Act) (w : World), f = cnt l.length listed → IInv l T I a0 listed a w → wpAny P .any l.toArray Q f listed a w := by
 rw [Bool.and_eq_true] at hB
 intro f
 induction f with
 | zero =>
  intro listed a w hf inv
  have hc : cnt l.length listed = 0 := by omega
  refine ⟨?_, finish _ a w (fun i hi => ?_) inv.fr inv.inv inv.known⟩
  · refine List.eq_nil_iff_forall_not_mem.2 fun i hi => ?_
    obtain ⟨h0, o, ho, _⟩ := mem_ready.1 hi
    have hlt : i < l.toArray.size := (Array.getElem?_eq_some_iff.1 ho).1
    have := cnt_zero hc (i := i) (by simpa using hlt)
    rw [h0] at this
    cases this
  · have := cnt_zero hc hi
    have hs : i < listed.size := by rw [inv.head.size]; simpa using hi
    unfold doneB
    simpa [hs] using this
 | succ f ih =>
  intro listed a w hf inv
  have hc : cnt l.length listed ≠ 0 := by omega
  have hne : Region.ready .any l.toArray listed ≠ [] := by
   obtain ⟨j, hj, hj2⟩ := cnt_some hc
   have : ∀ d j, j = d → j < l.length → listed.getD j true = false → ∃ i, i ∈ Region.ready .any l.toArray listed := by
    intro d
    induction d using Nat.strongRecOn with
    | _ d ihd =>
     intro j hd hj hun
     obtain ⟨o, ho, _, ha⟩ := headB_at hB.1 hj
     by_cases hex : ∃ e ∈ o.after, Region.binds .any e = true ∧ listed.getD e.on false = false
     · obtain ⟨e, he, hb, hl⟩ := hex
       have hlt := ha e he hb
       have hs : e.on < listed.size := by rw [inv.head.size]; simp; omega
       exact ihd e.on (by omega) e.on rfl (by omega) (getD_in hs hl)
     · refine ⟨j, mem_ready.2 ⟨hun, o, by simpa using ho, fun e he hb => ?_⟩⟩
       cases hl : listed.getD e.on false with
       | true => rfl
       | false => exact absurd ⟨e, he, hb, hl⟩ hex
   obtain ⟨i, hi⟩ := this j j rfl hj hj2
   exact fun h => by rw [h] at hi; cases hi
  refine ⟨fun h => absurd h hne, fun i hi => ?_⟩
  obtain ⟨hun, o, ho, hall⟩ := mem_ready.1 hi
  have ho' : l[i]? = some o := by simpa using ho
  have hin : i < l.length := (List.getElem?_eq_some_iff.1 ho').1
  obtain ⟨o2, ho2, hd, haft⟩ := headB_at hB.1 hin
  obtain rfl : o2 = o := Option.some.inj (ho2.symm.trans ho')
  have hsz : i < listed.size := by rw [inv.head.size]; simpa using hin
  have hset : doneB (listed.setIfInBounds i true) = fun j => doneB listed j || j == i := by
   funext j
   unfold doneB
   by_cases hij : i = j
   · subst hij
     simp [hsz]
   · rw [getD_set_ne false hij]
     simp [show ¬ j = i from fun e => hij e.symm]
  refine wpOp_step ho fun K hK => ?_
  have hg := List.all_eq_true.1 hB.2 o2 (List.mem_iff_getElem?.2 ⟨i, ho'⟩)
  rw [if_pos (by cases hgd : o2.guard with | none => simp [Region.wanted, hgd] | some x => rw [hgd] at hg; cases hg)]
  refine step i o2 ho' (doneB listed) a w K (getD_both hun) (fun j oj hj hl e he hb => inv.head.closed j oj (by simpa using hj) hl e he hb) hall inv.fr inv.inv inv.known fun v w' hT hI => hK _ _ ?_
  refine ih _ _ _ (by have := cnt_set l.length hin hun; omega) ⟨inv.head.set hi hin, ?_, by rw [hset]; exact hI, fun j o3 k hj hoj hk => ?_⟩
  · rw [hset]
    refine ⟨?_, ?_, fun k hk => ?_⟩
    · rw [← inv.fr.defers]; cases o2.dst <;> rfl
    · rw [← inv.fr.size]; cases o2.dst <;> simp [Act.put]
    · rw [← inv.fr.keep k fun j oj hj hl => hk j oj (by simp [hj]) hl]
      have hne := hk i o2 (by simp) ho'
      cases hdst : o2.dst with
      | none => rfl
      | some m =>
       have hmk : m ≠ k := fun e => hne (by rw [hdst, e])
       simp [Act.put, hmk]
  · rw [hset] at hj
    by_cases hij : j = i
    · subst hij
      obtain rfl : o2 = o3 := Option.some.inj (ho'.symm.trans hoj)
      have hkN := (hd k hk).1
      rw [← inv.fr.size] at hkN
      exact ⟨v, by simp [Act.put, hk, hkN], hT k hk⟩
    · have hj' : doneB listed j = true := by simpa [hij] using hj
      obtain ⟨u, hu, hTu⟩ := inv.known j o3 k hj' hoj hk
      refine ⟨u, ?_, hTu⟩
      rw [← hu]
      cases hdst : o2.dst with
      | none => rfl
      | some m =>
       have hmk : m ≠ k := fun e => by
        obtain ⟨o4, ho4, hd3, _⟩ := headB_at hB.1 (List.getElem?_eq_some_iff.1 hoj).1
        obtain rfl : o4 = o3 := Option.some.inj (ho4.symm.trans hoj)
        exact (hd3 k hk).2 i o2 hin hij ho' (by rw [hdst, e])
       simp [Act.put, hmk]
def StepsI (P : Program) (Q : Exit → Act → World → Prop) (l : List Oper) (T : Nat → Value → Prop) (I : (Nat → Bool) → World → Prop) (a0 : Act) : Nat → List Oper → Prop
 | _, [] => True
 | i, o :: rest => StepI P Q l T I a0 i o ∧ StepsI P Q l T I a0 (i + 1) rest
variable {l : List Oper} {T : Nat → Value → Prop} {I : (Nat → Bool) → World → Prop} {a0 : Act}
theorem stepsI_nil {i : Nat} : StepsI P Q l T I a0 i [] := trivial
theorem stepsI_cons {i : Nat} {o : Oper} {r : List Oper} (h : StepI P Q l T I a0 i o) (hr : StepsI P Q l T I a0 (i + 1) r) : StepsI P Q l T I a0 i (o :: r) := ⟨h, hr⟩
theorem stepsI_at : ∀ (r : List Oper) (i : Nat), StepsI P Q l T I a0 i r → ∀ j o, r[j]? = some o → StepI P Q l T I a0 (i + j) o
 | [], _, _, _, _, h => by simp at h
 | o :: r, i, ⟨h1, h2⟩, j, o', ho => by
  cases j with
  | zero => simp at ho; subst ho; exact h1
  | succ j =>
   have := stepsI_at r (i + 1) h2 j o' (by simpa using ho)
   rwa [show i + 1 + j = i + (j + 1) by omega] at this
theorem wp_region_inv {id : Nat} {w0 : World} (T : Nat → Value → Prop) (I : (Nat → Bool) → World → Prop) (hm : P.follows .mixedOrders = true) (hB : (headB l l.length a0.tmps.size && l.all fun o => o.guard.isNone) = true)
 (h0 : I (fun _ => false) (w0.drewN 1)) (steps : StepsI P Q l T I a0 0 l)
 (finish : ∀ S a w, (∀ i, i < l.length → S i = true) → IFr l S a0 a → I S w → IKn l S T a → wpList P l.toArray Q [] a w) : (Code.region id l.toArray true).wp P Q a0 w0 := by
 refine wp_region_any hm ?_
 have hd : doneB (Array.replicate l.toArray.size false) = fun _ => false := by
  funext j
  exact getD_replicate_false _ _
 refine inv_main (P := P) (Q := Q) T I hB (fun i o ho => by have := stepsI_at l 0 steps i o ho; rwa [Nat.zero_add] at this) finish _ _ _ _ ?_ ⟨⟨by simp, fun j oj _ hl => ?_, fun t _ ht => ?_⟩, ?_, ?_, ?_⟩
 · have := cnt_new l.length 0
   simpa using this.symm
 · rw [getD_replicate_false] at hl; cases hl
 · exact getD_in (by simpa using ht) (getD_replicate_false _ _)
 · rw [hd]; exact ⟨rfl, rfl, fun _ _ => rfl⟩
 · rw [hd]; exact h0
 · rw [hd]; intro j o k h; cases h
theorem iaft {S : Nat → Bool} {o : Oper} (h : ∀ e ∈ o.after, Region.binds .any e = true → S e.on = true) (m : Nat) {g : Ground} {j : Nat} (h1 : o.after[m]? = some ⟨j, g⟩) (h2 : Region.binds .any ⟨j, g⟩ = true) : S j = true :=
 h ⟨j, g⟩ (Array.mem_of_getElem? h1) h2
theorem iclo {S : Nat → Bool} (h : IClo l S) (i m : Nat) {g : Ground} {j : Nat} (h1 : (l[i]?).bind (fun o => o.after[m]?) = some ⟨j, g⟩) (h2 : Region.binds .any ⟨j, g⟩ = true) (hj : S j = false) : S i = false := by
 obtain ⟨o, ho, hm⟩ := Option.bind_eq_some_iff.1 h1
 cases hi : S i
 · rfl
 · rw [h i o ho hi ⟨j, g⟩ (Array.mem_of_getElem? hm) h2] at hj
   cases hj
theorem ikn {S : Nat → Bool} {a : Act} (h : IKn l S T a) (j : Nat) {k : Nat} (hj : S j = true) (h3 : dstAt l j = some k) : ∃ v, a.tmps[k]? = some v ∧ T j v := by
 obtain ⟨o', ho', hk⟩ := Option.bind_eq_some_iff.1 h3
 exact h j o' k hj ho' hk
theorem IFr.base {S : Nat → Bool} {a : Act} (h : IFr l S a0 a) {k : Nat} {v : Value} (hb : (l.all fun o => o.dst != some k) = true) (hv : a0.tmps[k]? = some v) : a.tmps[k]? = some v := by
 rw [h.keep k, hv]
 intro i o _ ho
 simpa using List.all_eq_true.1 hb o (List.mem_iff_getElem?.2 ⟨i, ho⟩)
theorem IFr.base1 {S : Nat → Bool} {a : Act} (h : IFr l S a0 a) (x : Nat) {k : Nat} {v : Value} (hx : S x = false) (hb : ((List.range l.length).all fun i => i == x || (match l[i]? with | some o => o.dst != some k | none => true)) = true) (hv : a0.tmps[k]? = some v) : a.tmps[k]? = some v := by
 rw [h.keep k, hv]
 intro i o hi ho
 have h1 := List.all_eq_true.1 hb i (List.mem_range.2 (List.getElem?_eq_some_iff.1 ho).1)
 rw [ho] at h1
 by_cases hix : i = x
 · rw [hix, hx] at hi; cases hi
 · simpa [hix] using h1
def TAt (vs : List (Option Value)) (i : Nat) (v : Value) : Prop := match vs[i]? with | some (some x) => v = x | _ => True
end
end
end Go.Proofs.YtmbbdjpnecjleaaGreat
namespace Go.Proofs.YtmbbdjpnecjleaaGreat
section
set_option maxRecDepth 100000
set_option maxHeartbeats 1000000
open Go.RowKit

section
variable {P : Program} {Q : Exit → Act → World → Prop}
def insS (S : Nat → Bool) (i : Nat) : Nat → Bool := fun j => S j || j == i
def IKn2 (l : List Oper) (S : Nat → Bool) (T : (Nat → Bool) → Nat → World → Value → Prop) (a : Act) (w : World) : Prop := ∀ j o k, S j = true → l[j]? = some o → o.dst = some k → ∃ v, a.tmps[k]? = some v ∧ T S j w v
def StepI2 (P : Program) (Q : Exit → Act → World → Prop) (l : List Oper) (T : (Nat → Bool) → Nat → World → Value → Prop) (I : (Nat → Bool) → World → Prop) (a0 : Act) (i : Nat) (o : Oper) : Prop :=
 ∀ (S : Nat → Bool) (a : Act) (w : World) (K : Act → World → Prop), S i = false → IClo l S → (∀ e ∈ o.after, Region.binds .any e = true → S e.on = true) → IFr l S a0 a → I S w → IKn2 l S T a w →
  (∀ v w', (∀ k, o.dst = some k → T (insS S i) i w' v) → (∀ j oj k u, S j = true → l[j]? = some oj → oj.dst = some k → a.tmps[k]? = some u → T S j w u → T (insS S i) j w' u) → I (insS S i) w' → K (a.put o.dst v) w') → o.wp P a w K Q
structure IInv2 (l : List Oper) (T : (Nat → Bool) → Nat → World → Value → Prop) (I : (Nat → Bool) → World → Prop) (a0 : Act) (listed : Array Bool) (a : Act) (w : World) : Prop where
 head : HeadInv .any l.toArray l.length listed
 fr : IFr l (doneB listed) a0 a
 inv : I (doneB listed) w
 known : IKn2 l (doneB listed) T a w
theorem inv_main2 {l : List Oper} {a0 : Act} (T : (Nat → Bool) → Nat → World → Value → Prop) (I : (Nat → Bool) → World → Prop) (hB : (headB l l.length a0.tmps.size && l.all fun o => o.guard.isNone) = true)
 (step : ∀ i o, l[i]? = some o → StepI2 P Q l T I a0 i o)
 (finish : ∀ S a w, (∀ i, i < l.length → S i = true) → IFr l S a0 a → I S w → IKn2 l S T a w → wpList P l.toArray Q [] a w) :
 ∀ (f : Nat) (listed : Array Bool) (a : Act) (w : World), f = cnt l.length listed → IInv2 l T I a0 listed a w → wpAny P .any l.toArray Q f listed a w := by
 rw [Bool.and_eq_true] at hB
 intro f
 induction f with
 | zero =>
  intro listed a w hf inv
  have hc : cnt l.length listed = 0 := by omega
  refine ⟨?_, finish _ a w (fun i hi => ?_) inv.fr inv.inv inv.known⟩
  · refine List.eq_nil_iff_forall_not_mem.2 fun i hi => ?_
    obtain ⟨h0, o, ho, _⟩ := mem_ready.1 hi
    have hlt : i < l.toArray.size := (Array.getElem?_eq_some_iff.1 ho).1
    have := cnt_zero hc (i := i) (by simpa using hlt)
    rw [h0] at this
    cases this
  · have := cnt_zero hc hi
    have hs : i < listed.size := by rw [inv.head.size]; simpa using hi
    unfold doneB
    simpa [hs] using this
 | succ f ih =>
  intro listed a w hf inv
  have hc : cnt l.length listed ≠ 0 := by omega
  have hne : Region.ready .any l.toArray listed ≠ [] := by
   obtain ⟨j, hj, hj2⟩ := cnt_some hc
   have : ∀ d j, j = d → j < l.length → listed.getD j true = false → ∃ i, i ∈ Region.ready .any l.toArray listed := by
    intro d
    induction d using Nat.strongRecOn with
    | _ d ihd =>
     intro j hd hj hun
     obtain ⟨o, ho, _, ha⟩ := headB_at hB.1 hj
     by_cases hex : ∃ e ∈ o.after, Region.binds .any e = true ∧ listed.getD e.on false = false
     · obtain ⟨e, he, hb, hl⟩ := hex
       have hlt := ha e he hb
       have hs : e.on < listed.size := by rw [inv.head.size]; simp; omega
       exact ihd e.on (by omega) e.on rfl (by omega) (getD_in hs hl)
     · refine ⟨j, mem_ready.2 ⟨hun, o, by simpa using ho, fun e he hb => ?_⟩⟩
       cases hl : listed.getD e.on false with
       | true => rfl
       | false => exact absurd ⟨e, he, hb, hl⟩ hex
   obtain ⟨i, hi⟩ := this j j rfl hj hj2
   exact fun h => by rw [h] at hi; cases hi
  refine ⟨fun h => absurd h hne, fun i hi => ?_⟩
  obtain ⟨hun, o, ho, hall⟩ := mem_ready.1 hi
  have ho' : l[i]? = some o := by simpa using ho
  have hin : i < l.length := (List.getElem?_eq_some_iff.1 ho').1
  obtain ⟨o2, ho2, hd, haft⟩ := headB_at hB.1 hin
  obtain rfl : o2 = o := Option.some.inj (ho2.symm.trans ho')
  have hsz : i < listed.size := by rw [inv.head.size]; simpa using hin
  have hset : doneB (listed.setIfInBounds i true) = insS (doneB listed) i := by
   funext j
   unfold doneB insS
   by_cases hij : i = j
   · subst hij
     simp [hsz]
   · rw [getD_set_ne false hij]
     simp [show ¬ j = i from fun e => hij e.symm]
  refine wpOp_step ho fun K hK => ?_
  have hg := List.all_eq_true.1 hB.2 o2 (List.mem_iff_getElem?.2 ⟨i, ho'⟩)
  rw [if_pos (by cases hgd : o2.guard with | none => simp [Region.wanted, hgd] | some x => rw [hgd] at hg; cases hg)]
  refine step i o2 ho' (doneB listed) a w K (getD_both hun) (fun j oj hj hl e he hb => inv.head.closed j oj (by simpa using hj) hl e he hb) hall inv.fr inv.inv inv.known fun v w' hT hLf hI => hK _ _ ?_
  refine ih _ _ _ (by have := cnt_set l.length hin hun; omega) ⟨inv.head.set hi hin, ?_, by rw [hset]; exact hI, fun j o3 k hj hoj hk => ?_⟩
  · rw [hset]
    refine ⟨?_, ?_, fun k hk => ?_⟩
    · rw [← inv.fr.defers]; cases o2.dst <;> rfl
    · rw [← inv.fr.size]; cases o2.dst <;> simp [Act.put]
    · rw [← inv.fr.keep k fun j oj hj hl => hk j oj (by simp [insS, hj]) hl]
      have hne := hk i o2 (by simp [insS]) ho'
      cases hdst : o2.dst with
      | none => rfl
      | some m =>
       have hmk : m ≠ k := fun e => hne (by rw [hdst, e])
       simp [Act.put, hmk]
  · rw [hset] at hj ⊢
    by_cases hij : j = i
    · subst hij
      obtain rfl : o2 = o3 := Option.some.inj (ho'.symm.trans hoj)
      have hkN := (hd k hk).1
      rw [← inv.fr.size] at hkN
      exact ⟨v, by simp [Act.put, hk, hkN], hT k hk⟩
    · have hj' : doneB listed j = true := by simpa [insS, hij] using hj
      obtain ⟨u, hu, hTu⟩ := inv.known j o3 k hj' hoj hk
      refine ⟨u, ?_, hLf j o3 k u hj' hoj hk hu hTu⟩
      rw [← hu]
      cases hdst : o2.dst with
      | none => rfl
      | some m =>
       have hmk : m ≠ k := fun e => by
        obtain ⟨o4, ho4, hd3, _⟩ := headB_at hB.1 (List.getElem?_eq_some_iff.1 hoj).1
        obtain rfl : o4 = o3 := Option.some.inj (ho4.symm.trans hoj)
        exact (hd3 k hk).2 i o2 hin hij ho' (by rw [hdst, e])
       simp [Act.put, hmk]
def StepsI2 (P : Program) (Q : Exit → Act → World → Prop) (l : List Oper) (T : (Nat → Bool) → Nat → World → Value → Prop) (I : (Nat → Bool) → World → Prop) (a0 : Act) : Nat → List Oper → Prop
 | _, [] => True
 | i, o :: rest => StepI2 P Q l T I a0 i o ∧ StepsI2 P Q l T I a0 (i + 1) rest
variable {l : List Oper} {T : (Nat → Bool) → Nat → World → Value → Prop} {I : (Nat → Bool) → World → Prop} {a0 : Act}
theorem stepsI_nil2 {i : Nat} : StepsI2 P Q l T I a0 i [] := trivial
theorem stepsI_cons2 {i : Nat} {o : Oper} {r : List Oper} (h : StepI2 P Q l T I a0 i o) (hr : StepsI2 P Q l T I a0 (i + 1) r) : StepsI2 P Q l T I a0 i (o :: r) := ⟨h, hr⟩
theorem stepsI_at2 : ∀ (r : List Oper) (i : Nat), StepsI2 P Q l T I a0 i r → ∀ j o, r[j]? = some o → StepI2 P Q l T I a0 (i + j) o
 | [], _, _, _, _, h => by simp at h
 | o :: r, i, ⟨h1, h2⟩, j, o', ho => by
  cases j with
  | zero => simp at ho; subst ho; exact h1
  | succ j =>
   have := stepsI_at2 r (i + 1) h2 j o' (by simpa using ho)
   rwa [show i + 1 + j = i + (j + 1) by omega] at this
theorem wp_region_inv2 {id : Nat} {w0 : World} (T : (Nat → Bool) → Nat → World → Value → Prop) (I : (Nat → Bool) → World → Prop) (hm : P.follows .mixedOrders = true) (hB : (headB l l.length a0.tmps.size && l.all fun o => o.guard.isNone) = true)
 (h0 : I (fun _ => false) (w0.drewN 1)) (steps : StepsI2 P Q l T I a0 0 l)
 (finish : ∀ S a w, (∀ i, i < l.length → S i = true) → IFr l S a0 a → I S w → IKn2 l S T a w → wpList P l.toArray Q [] a w) : (Code.region id l.toArray true).wp P Q a0 w0 := by
 refine wp_region_any hm ?_
 have hd : doneB (Array.replicate l.toArray.size false) = fun _ => false := by
  funext j
  exact getD_replicate_false _ _
 refine inv_main2 (P := P) (Q := Q) T I hB (fun i o ho => by have := stepsI_at2 l 0 steps i o ho; rwa [Nat.zero_add] at this) finish _ _ _ _ ?_ ⟨⟨by simp, fun j oj _ hl => ?_, fun t _ ht => ?_⟩, ?_, ?_, ?_⟩
 · have := cnt_new l.length 0
   simpa using this.symm
 · rw [getD_replicate_false] at hl; cases hl
 · exact getD_in (by simpa using ht) (getD_replicate_false _ _)
 · rw [hd]; exact ⟨rfl, rfl, fun _ _ => rfl⟩
 · rw [hd]; exact h0
 · rw [hd]; intro j o k h; cases h
theorem ikn2 {S : Nat → Bool} {a : Act} {w : World} (h : IKn2 l S T a w) (j : Nat) {k : Nat} (hj : S j = true) (h3 : dstAt l j = some k) : ∃ v, a.tmps[k]? = some v ∧ T S j w v := by
 obtain ⟨o', ho', hk⟩ := Option.bind_eq_some_iff.1 h3
 exact h j o' k hj ho' hk
end
end
end Go.Proofs.YtmbbdjpnecjleaaGreat
