/-
  The law of typed regions, where what two operations yield must not be the same.
-/
import Derived.Test.YtmbbdjpnecjleaaQC
namespace Go.Proofs.Ytmbbdjpnecjleaa
open Go.RowKit

section
variable {P : Program} {Q : Exit → Act → World → Prop}
/-- What two operations have yielded is not the same. -/
def TAp (l : List Oper) (i j : Nat) (a : Act) : Prop := ∀ oi oj ki kj ui uj, l[i]? = some oi → oi.dst = some ki → l[j]? = some oj → oj.dst = some kj → a.tmps[ki]? = some ui → a.tmps[kj]? = some uj → ui ≠ uj
structure TInvR (l : List Oper) (n : Nat) (T : Nat → World → Value → Prop) (D : Nat → Nat → Prop) (a0 : Act) (w0 : World) (listed : Array Bool) (a : Act) (w : World) : Prop where
  head : HeadInv .any l.toArray n listed
  fr : TFr l n a0 a
  old : Below w0.heap.size w0 w
  known : ∀ i, i < n → listed.getD i false = true → TKn l T i a w
  apart : ∀ i j, i < n → j < n → D i j → listed.getD i false = true → listed.getD j false = true → TAp l i j a

theorem typed_mainR {l : List Oper} {a0 : Act} {w0 : World} (n : Nat) (T : Nat → World → Value → Prop) (D : Nat → Nat → Prop) (hD : ∀ i j, D i j → D j i ∧ i ≠ j)
    (hB : headB l n a0.tmps.size = true) (hC : tailB l n = true)
    (lift : ∀ i w w' v, T i w v → Below w.heap.size w w' → T i w' v)
    (step : ∀ i o, i < n → l[i]? = some o → ∀ (a : Act) (w : World) (K : Act → World → Prop), TFr l n a0 a → Below w0.heap.size w0 w →
      (∀ e ∈ o.after, Region.binds .any e = true → TKn l T e.on a w) →
      (∀ v w', Below w.heap.size w w' → (∀ k, o.dst = some k → T i w' v) → (∀ j, D i j → ∀ oj kj uj, l[j]? = some oj → oj.dst = some kj → a.tmps[kj]? = some uj → T j w uj → v ≠ uj) → K (a.put o.dst v) w') → if Region.wanted o (yielded l.toArray a.tmps) = true then o.wp P a w K Q else K (a.put o.dst undef) w)
    (finish : ∀ a w, TFr l n a0 a → Below w0.heap.size w0 w → (∀ i, i < n → TKn l T i a w) → (∀ i j, i < n → j < n → D i j → TAp l i j a) → wpList P l.toArray Q (l.drop n) a w) :
    ∀ (f : Nat) (listed : Array Bool) (a : Act) (w : World), f = cnt n listed + (l.length - n) → TInvR l n T D a0 w0 listed a w → wpAny P .any l.toArray Q f listed a w := by
  have hnl : n ≤ l.length := by unfold headB at hB; rw [Bool.and_eq_true] at hB; simpa using hB.1
  intro f
  induction f with
  | zero =>
    intro listed a w hf inv
    have hc : cnt n listed = 0 := by omega
    have hn : n = l.length := by omega
    have h := finish a w inv.fr inv.old (fun i hi => inv.known i hi (by
      have := cnt_zero hc hi
      have hs : i < listed.size := by rw [inv.head.size]; simpa [← hn] using hi
      simpa [hs] using this)) (fun i j hi hj hd => inv.apart i j hi hj hd (by
        have := cnt_zero hc hi
        have hs : i < listed.size := by rw [inv.head.size]; simpa [← hn] using hi
        simpa [hs] using this) (by
        have := cnt_zero hc hj
        have hs : j < listed.size := by rw [inv.head.size]; simpa [← hn] using hj
        simpa [hs] using this))
    rw [hn, List.drop_length] at h
    refine ⟨?_, h⟩
    refine List.eq_nil_iff_forall_not_mem.2 fun i hi => ?_
    obtain ⟨h0, o, ho, _⟩ := mem_ready.1 hi
    have hlt : i < l.toArray.size := (Array.getElem?_eq_some_iff.1 ho).1
    have := cnt_zero hc (i := i) (by rw [hn]; simpa using hlt)
    rw [h0] at this
    cases this
  | succ f ih =>
    intro listed a w hf inv
    by_cases hc : cnt n listed = 0
    · have hl : ∀ i, i < n → listed.getD i false = true := fun i hi => by
        have := cnt_zero hc hi
        have hs : i < listed.size := by rw [inv.head.size]; simp; omega
        simpa [hs] using this
      have h := finish a w inv.fr inv.old (fun i hi => inv.known i hi (hl i hi)) (fun i j hi hj hd => inv.apart i j hi hj hd (hl i hi) (hl j hj))
      have hcan : listed = Array.replicate n true ++ Array.replicate (l.length - n) false := by
        apply Array.ext (by rw [inv.head.size]; simp; omega)
        intro i h1 h2
        by_cases hi : i < n
        · have := hl i hi
          rw [Array.getElem_append_left (by simpa using hi)]
          simpa [h1] using this
        · have := inv.head.tail i (by omega) (by rw [← inv.head.size]; exact h1)
          rw [Array.getElem_append_right (by simpa using hi)]
          simpa [h1] using this
      have hlen : n ≠ l.length := by omega
      unfold tailB at hC
      simp only [Bool.or_eq_true, Bool.and_eq_true, decide_eq_true_eq] at hC
      have hC' := hC.resolve_left hlen
      have hf' : f + 1 = (l.drop n).length := by rw [List.length_drop]; omega
      rw [hf']
      refine wpAny_of_seq (l.drop n) n listed a w (fun j => by simp [List.getElem?_drop]) ?_ h
      rw [hcan, List.length_drop]
      exact hC'.2
    · have hrn : ∀ i ∈ Region.ready .any l.toArray listed, i < n := by
        intro i hi
        rcases Nat.lt_or_ge i n with h | h
        · exact h
        · obtain ⟨_, o, ho, _⟩ := mem_ready.1 hi
          have hlt : i < l.toArray.size := (Array.getElem?_eq_some_iff.1 ho).1
          have hlt' : i < l.length := by simpa using hlt
          unfold tailB at hC
          simp only [Bool.or_eq_true, Bool.and_eq_true, decide_eq_true_eq] at hC
          have hC' := hC.resolve_left (by omega)
          obtain ⟨j, hj, hj2⟩ := cnt_some hc
          exact absurd hi (tail_waits hC'.1.1.1 hC'.1.1.2 (by simpa using hC'.1.2) inv.head (n - j) j rfl hj hj2 i h)
      have hne : Region.ready .any l.toArray listed ≠ [] := by
        obtain ⟨j, hj, hj2⟩ := cnt_some hc
        have : ∀ d j, j = d → j < n → listed.getD j true = false → ∃ i, i ∈ Region.ready .any l.toArray listed := by
          intro d
          induction d using Nat.strongRecOn with
          | _ d ihd =>
            intro j hd hj hun
            obtain ⟨o, ho, _, ha⟩ := headB_at hB hj
            by_cases hex : ∃ e ∈ o.after, Region.binds .any e = true ∧ listed.getD e.on false = false
            · obtain ⟨e, he, hb, hl⟩ := hex
              have hlt := ha e he hb
              have hs : e.on < listed.size := by rw [inv.head.size]; simp; omega
              exact ihd e.on (by omega) e.on rfl (by omega) (getD_in hs hl)
            · refine ⟨j, mem_ready.2 ⟨hun, o, by simpa using ho, fun e he hb => ?_⟩⟩
              cases hl : listed.getD e.on false with
              | true => rfl
              | false => exact absurd ⟨e, he, hb, hl⟩ hex
        obtain ⟨i, hi⟩ := this j j rfl hj hj2
        exact fun h => by rw [h] at hi; cases hi
      refine ⟨fun h => absurd h hne, fun i hi => ?_⟩
      have hin := hrn i hi
      obtain ⟨hun, o, ho, hall⟩ := mem_ready.1 hi
      have ho' : l[i]? = some o := by simpa using ho
      obtain ⟨o2, ho2, hd, haft⟩ := headB_at hB hin
      obtain rfl : o2 = o := Option.some.inj (ho2.symm.trans ho')
      refine wpOp_step ho fun K hK => ?_
      refine step i o2 hin ho' a w K inv.fr inv.old (fun e he hb => inv.known e.on (by have := haft e he hb; omega) (hall e he hb)) fun v w' hbel hT hap => hK _ _ ?_
      refine ih _ _ _ (by have := cnt_set n hin hun; omega) ⟨inv.head.set hi hin, ?_, inv.old.trans (hbel.mono inv.old.size), fun j hj hlj o k hoj hk => ?_, fun p q hp hq hpq hlp hlq op oq kp kq up uq hop hkp hoq hkq hup huq => ?_⟩
      · refine ⟨?_, ?_, fun k hk => ?_⟩
        · rw [← inv.fr.defers]; cases o2.dst <;> rfl
        · rw [← inv.fr.size]; cases o2.dst <;> simp [Act.put]
        · rw [← inv.fr.keep k hk]
          have hne := hk i o2 hin ho'
          cases hdst : o2.dst with
          | none => rfl
          | some m =>
            have hmk : m ≠ k := fun e => hne (by rw [hdst, e])
            simp [Act.put, hmk]
      · by_cases hij : i = j
        · subst hij
          obtain rfl : o2 = o := Option.some.inj (ho'.symm.trans hoj)
          have hkN := (hd k hk).1
          rw [← inv.fr.size] at hkN
          exact ⟨v, by simp [Act.put, hk, hkN], hT k hk⟩
        · rw [getD_set_ne false hij] at hlj
          obtain ⟨u, hu, hTu⟩ := inv.known j hj hlj o k hoj hk
          refine ⟨u, ?_, lift j w w' u hTu hbel⟩
          rw [← hu]
          cases hdst : o2.dst with
          | none => rfl
          | some m =>
            have hmk : m ≠ k := fun e => by
              obtain ⟨o3, ho3, hd3, _⟩ := headB_at hB hj
              obtain rfl : o3 = o := Option.some.inj (ho3.symm.trans hoj)
              exact (hd3 k hk).2 i o2 hin (Ne.symm hij) ho' (by rw [hdst, e])
            simp [Act.put, hmk]
      · have hne := (hD p q hpq).2
        obtain ⟨_, _, hdp, _⟩ := headB_at hB hp
        have keep : ∀ x ox kx, x < n → x ≠ i → l[x]? = some ox → ox.dst = some kx → (a.put o2.dst v).tmps[kx]? = a.tmps[kx]? := fun x ox kx hx hxi hox hkx => by
          cases hdst : o2.dst with
          | none => rfl
          | some m =>
            have hmk : m ≠ kx := fun e => by
              obtain ⟨o3, ho3, hd3, _⟩ := headB_at hB hx
              obtain rfl : o3 = ox := Option.some.inj (ho3.symm.trans hox)
              exact (hd3 kx hkx).2 i o2 hin hxi ho' (by rw [hdst, e])
            simp [Act.put, hmk]
        have new : ∀ k, o2.dst = some k → (a.put o2.dst v).tmps[k]? = some v := fun k hk => by
          have hkN := (hd k hk).1
          rw [← inv.fr.size] at hkN
          simp [Act.put, hk, hkN]
        by_cases hpi : p = i
        · subst hpi
          obtain rfl : o2 = op := Option.some.inj (ho'.symm.trans hop)
          rw [new kp hkp] at hup
          rw [keep q oq kq hq (Ne.symm hne) hoq hkq] at huq
          rw [getD_set_ne false hne] at hlq
          obtain ⟨u, hu, hTu⟩ := inv.known q hq hlq oq kq hoq hkq
          obtain rfl : u = uq := Option.some.inj (hu.symm.trans huq)
          obtain rfl : v = up := Option.some.inj hup
          exact hap q hpq oq kq u hoq hkq hu hTu
        · rw [keep p op kp hp hpi hop hkp] at hup
          rw [getD_set_ne false (Ne.symm hpi)] at hlp
          by_cases hqi : q = i
          · subst hqi
            obtain rfl : o2 = oq := Option.some.inj (ho'.symm.trans hoq)
            rw [new kq hkq] at huq
            obtain ⟨u, hu, hTu⟩ := inv.known p hp hlp op kp hop hkp
            obtain rfl : u = up := Option.some.inj (hu.symm.trans hup)
            obtain rfl : v = uq := Option.some.inj huq
            exact (hap p (hD p q hpq).1 op kp u hop hkp hu hTu).symm
          · rw [keep q oq kq hq hqi hoq hkq] at huq
            rw [getD_set_ne false (Ne.symm hqi)] at hlq
            exact inv.apart p q hp hq hpq hlp hlq op oq kp kq up uq hop hkp hoq hkq hup huq

/-- The law. -/
theorem wp_region_typedR {id : Nat} {l : List Oper} {a0 : Act} {w0 : World} (n : Nat) (T : Nat → World → Value → Prop) (D : Nat → Nat → Prop) (hD : ∀ i j, D i j → D j i ∧ i ≠ j) (hm : P.follows .mixedOrders = true)
    (hB : headB l n a0.tmps.size = true) (hC : tailB l n = true)
    (lift : ∀ i w w' v, T i w v → Below w.heap.size w w' → T i w' v)
    (step : ∀ i o, i < n → l[i]? = some o → ∀ (a : Act) (w : World) (K : Act → World → Prop), TFr l n a0 a → Below w0.heap.size w0 w →
      (∀ e ∈ o.after, Region.binds .any e = true → TKn l T e.on a w) →
      (∀ v w', Below w.heap.size w w' → (∀ k, o.dst = some k → T i w' v) → (∀ j, D i j → ∀ oj kj uj, l[j]? = some oj → oj.dst = some kj → a.tmps[kj]? = some uj → T j w uj → v ≠ uj) → K (a.put o.dst v) w') → if Region.wanted o (yielded l.toArray a.tmps) = true then o.wp P a w K Q else K (a.put o.dst undef) w)
    (finish : ∀ a w, TFr l n a0 a → Below w0.heap.size w0 w → (∀ i, i < n → TKn l T i a w) → (∀ i j, i < n → j < n → D i j → TAp l i j a) → wpList P l.toArray Q (l.drop n) a w) :
    (Code.region id l.toArray true).wp P Q a0 w0 := by
  have hnl : n ≤ l.length := by unfold headB at hB; rw [Bool.and_eq_true] at hB; simpa using hB.1
  refine wp_region_any hm ?_
  refine typed_mainR (P := P) (Q := Q) n T D hD hB hC lift step finish _ _ _ _ ?_ ⟨⟨by simp, fun j oj _ hl => ?_, fun t _ ht => ?_⟩, ⟨rfl, rfl, fun _ _ => rfl⟩, ?_, fun i _ hl => ?_, fun i _ _ _ _ hl _ => ?_⟩
  · have := cnt_new n (l.length - n)
    rw [show n + (l.length - n) = l.length by omega] at this
    simp only [List.size_toArray]
    omega
  · rw [getD_replicate_false] at hl; cases hl
  · exact getD_in (by simpa using ht) (getD_replicate_false _ _)
  · exact bel_drewN (bel_refl w0) 1
  · rw [getD_replicate_false] at hl; cases hl
  · rw [getD_replicate_false] at hl; cases hl

def StepR (P : Program) (Q : Exit → Act → World → Prop) (l : List Oper) (n : Nat) (T : Nat → World → Value → Prop) (D : Nat → Nat → Prop) (a0 : Act) (w0 : World) (i : Nat) (o : Oper) : Prop :=
  ∀ (a : Act) (w : World) (K : Act → World → Prop), TFr l n a0 a → Below w0.heap.size w0 w → (∀ e ∈ o.after, Region.binds .any e = true → TKn l T e.on a w) →
    (∀ v w', Below w.heap.size w w' → (∀ k, o.dst = some k → T i w' v) → (∀ j, D i j → ∀ oj kj uj, l[j]? = some oj → oj.dst = some kj → a.tmps[kj]? = some uj → T j w uj → v ≠ uj) → K (a.put o.dst v) w') → if Region.wanted o (yielded l.toArray a.tmps) = true then o.wp P a w K Q else K (a.put o.dst undef) w
def StepsR (P : Program) (Q : Exit → Act → World → Prop) (l : List Oper) (n : Nat) (T : Nat → World → Value → Prop) (D : Nat → Nat → Prop) (a0 : Act) (w0 : World) : Nat → Nat → List Oper → Prop
  | 0, _, _ => True
  | _ + 1, _, [] => True
  | m + 1, i, o :: rest => StepR P Q l n T D a0 w0 i o ∧ StepsR P Q l n T D a0 w0 m (i + 1) rest
variable {l : List Oper} {n : Nat} {T : Nat → World → Value → Prop} {D : Nat → Nat → Prop} {a0 : Act} {w0 : World}
/-- An operation that need not be apart from any. -/
theorem stepR_plain {i : Nat} {o : Oper} (hg : o.guard = none) (hn : ∀ j, ¬ D i j) (h : Step1 P Q l n T a0 w0 i o) : StepR P Q l n T D a0 w0 i o := fun a w K h1 h2 h3 h4 => by
  rw [if_pos (by simp [Region.wanted, hg])]
  exact h a w K h1 h2 h3 fun v w' hb hT => h4 v w' hb hT fun j hj => absurd hj (hn j)
theorem stepR_apart {i : Nat} {o : Oper} (hg : o.guard = none) (h : ∀ (a : Act) (w : World) (K : Act → World → Prop), TFr l n a0 a → Below w0.heap.size w0 w → (∀ e ∈ o.after, Region.binds .any e = true → TKn l T e.on a w) →
    (∀ v w', Below w.heap.size w w' → (∀ k, o.dst = some k → T i w' v) → (∀ j, D i j → ∀ oj kj uj, l[j]? = some oj → oj.dst = some kj → a.tmps[kj]? = some uj → T j w uj → v ≠ uj) → K (a.put o.dst v) w') → o.wp P a w K Q) : StepR P Q l n T D a0 w0 i o := fun a w K h1 h2 h3 h4 => by
  rw [if_pos (by simp [Region.wanted, hg])]
  exact h a w K h1 h2 h3 h4
theorem stepsR_zero {i : Nat} {r : List Oper} : StepsR P Q l n T D a0 w0 0 i r := trivial
theorem stepsR_cons {m i : Nat} {o : Oper} {r : List Oper} (h : StepR P Q l n T D a0 w0 i o) (hr : StepsR P Q l n T D a0 w0 m (i + 1) r) : StepsR P Q l n T D a0 w0 (m + 1) i (o :: r) := ⟨h, hr⟩
theorem stepsR_at : ∀ (m i : Nat) (r : List Oper), StepsR P Q l n T D a0 w0 m i r → ∀ j o, j < m → r[j]? = some o → StepR P Q l n T D a0 w0 (i + j) o
  | 0, _, _, _, _, _, h, _ => absurd h (by omega)
  | _ + 1, _, [], _, _, _, _, h => by simp at h
  | m + 1, i, o :: r, ⟨h1, h2⟩, j, o', hj, ho => by
    cases j with
    | zero => simp at ho; subst ho; exact h1
    | succ j =>
      have := stepsR_at m (i + 1) r h2 j o' (by omega) (by simpa using ho)
      rwa [show i + 1 + j = i + (j + 1) by omega] at this
theorem stepsR_all (h : StepsR P Q l n T D a0 w0 n 0 l) : ∀ i o, i < n → l[i]? = some o → StepR P Q l n T D a0 w0 i o := fun i o hi ho => by
  have := stepsR_at n 0 l h i o hi ho
  rwa [Nat.zero_add] at this
end
end Go.Proofs.Ytmbbdjpnecjleaa
