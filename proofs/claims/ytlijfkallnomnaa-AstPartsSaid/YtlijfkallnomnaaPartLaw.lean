/-
  Parts of trees. No program in sight.
-/
import Derived.Test.YtlijfkallnomnaaCutSpec
import Derived.Test.YtlijfkallnomnaaTree
namespace Go.Proofs.Ytlijfkallnomnaa

theorem pt_self {L : List Nd} (h : KidsIn L) {i : Nat} (hi : i < L.length) : (i : Int) ∈ pt L i := by rw [pt_eq h hi]; simp
theorem pt_kid {L : List Nd} (h : KidsIn L) {i : Nat} (hi : i < L.length) {q x : Int} (hq : q ∈ kidsOf L i) (hx : x ∈ pt L q.toNat) : x ∈ pt L i := by
  rw [pt_eq h hi]
  exact List.mem_cons_of_mem _ (List.mem_flatMap.2 ⟨q, hq, hx⟩)
theorem pt_cases {L : List Nd} (h : KidsIn L) {i : Nat} (hi : i < L.length) {x : Int} (hx : x ∈ pt L i) : x = i ∨ ∃ q, q ∈ kidsOf L i ∧ x ∈ pt L q.toNat := by
  rw [pt_eq h hi] at hx
  rcases List.mem_cons.1 hx with hx | hx
  · exact .inl hx
  · exact .inr (List.mem_flatMap.1 hx)
theorem pt_range {L : List Nd} (h : KidsIn L) : ∀ i, i < L.length → ∀ x, x ∈ pt L i → 0 ≤ x ∧ x ≤ i := by
  intro i
  induction i using Nat.strongRecOn with
  | _ i ih =>
    intro hi x hx
    rcases pt_cases h hi hx with rfl | ⟨q, hq, hx⟩
    · omega
    · have hq' := h i hi q hq
      have := ih q.toNat (by omega) (by omega) x hx
      omega
theorem pt_closed {L : List Nd} (h : KidsIn L) : ∀ i, i < L.length → ∀ x : Int, x ∈ pt L i → ∀ q, q ∈ kidsOf L x.toNat → q ∈ pt L i := by
  intro i
  induction i using Nat.strongRecOn with
  | _ i ih =>
    intro hi x hx q hq
    rcases pt_cases h hi hx with rfl | ⟨r, hr, hx⟩
    · rw [Int.toNat_natCast] at hq
      have hq' := h i hi q hq
      have := pt_self h (i := q.toNat) (by omega)
      rw [Int.toNat_of_nonneg hq'.1] at this
      exact pt_kid h hi hq this
    · have hr' := h i hi r hr
      exact pt_kid h hi hr (ih r.toNat (by omega) (by omega) x hx q hq)
theorem pt_trans {L : List Nd} (h : KidsIn L) : ∀ i, i < L.length → ∀ a : Nat, (a : Int) ∈ pt L i → ∀ x, x ∈ pt L a → x ∈ pt L i := by
  intro i
  induction i using Nat.strongRecOn with
  | _ i ih =>
    intro hi a ha x hx
    rcases pt_cases h hi ha with e | ⟨r, hr, ha⟩
    · have : a = i := by omega
      rw [← this]; exact hx
    · have hr' := h i hi r hr
      exact pt_kid h hi hr (ih r.toNat (by omega) (by omega) a ha x hx)
/-- Who is in a part, and not its head, has its parent there. -/
theorem pt_parent {L : List Nd} (h : KidsIn L) : ∀ i, i < L.length → ∀ x, x ∈ pt L i → x ≠ i → ∃ p : Nat, (p : Int) ∈ pt L i ∧ p < L.length ∧ x ∈ kidsOf L p := by
  intro i
  induction i using Nat.strongRecOn with
  | _ i ih =>
    intro hi x hx hne
    rcases pt_cases h hi hx with e | ⟨r, hr, hx⟩
    · exact absurd e hne
    · have hr' := h i hi r hr
      by_cases hxr : x = r
      · exact ⟨i, pt_self h hi, hi, by rw [hxr]; exact hr⟩
      · obtain ⟨p, hp, hpl, hk⟩ := ih r.toNat (by omega) (by omega) x hx (by omega)
        exact ⟨p, pt_kid h hi hr hp, hpl, hk⟩

theorem kidsOf_mem {L : List Nd} {p : Nat} (hp : p < L.length) : kidsOf L p = L[p].kids := by
  unfold kidsOf
  rw [List.getD_eq_getElem?_getD, List.getElem?_eq_getElem hp]
  rfl
theorem one_parent {L : List Nd} (h : TreeP L) {p p' : Nat} (hp : p < L.length) (hp' : p' < L.length) {x : Int} (hx : x ∈ kidsOf L p) (hx' : x ∈ kidsOf L p') : p = p' := by
  have hpw := (List.pairwise_flatMap.1 h.once).2
  rw [List.pairwise_iff_getElem] at hpw
  rw [kidsOf_mem hp] at hx
  rw [kidsOf_mem hp'] at hx'
  rcases Nat.lt_trichotomy p p' with hlt | he | hlt
  · exact absurd rfl (hpw p p' hp hp' hlt x hx x hx')
  · exact he
  · exact absurd rfl (hpw p' p hp' hp hlt x hx' x hx)
theorem kids_nodup {L : List Nd} (h : TreeP L) {p : Nat} (hp : p < L.length) : (kidsOf L p).Nodup := by
  rw [kidsOf_mem hp]
  exact (List.pairwise_flatMap.1 h.once).1 _ (List.getElem_mem hp)
/-- Two parts that meet lie one in the other. -/
theorem pt_meet {L : List Nd} (h : TreeP L) (a b : Nat) (ha : a < L.length) (hb : b < L.length) : ∀ (n x : Nat), L.length - x ≤ n → (x : Int) ∈ pt L a → (x : Int) ∈ pt L b → (a : Int) ∈ pt L b ∨ (b : Int) ∈ pt L a := by
  intro n
  induction n with
  | zero =>
    intro x hn hxa
    have := pt_range h.kids a ha x hxa
    omega
  | succ n ih =>
    intro x hn hxa hxb
    by_cases e : x = a
    · subst e; exact .inl hxb
    · by_cases e' : x = b
      · subst e'; exact .inr hxa
      · obtain ⟨p, hp, hpl, hk⟩ := pt_parent h.kids a ha x hxa (by omega)
        obtain ⟨p', hp', hpl', hk'⟩ := pt_parent h.kids b hb x hxb (by omega)
        have := one_parent h hpl hpl' hk hk'
        subst this
        have hxp := h.kids p hpl x hk
        exact ih p (by omega) hp hp'
theorem pt_nodup {L : List Nd} (h : TreeP L) : ∀ i, i < L.length → (pt L i).Nodup := by
  intro i
  induction i using Nat.strongRecOn with
  | _ i ih =>
    intro hi
    rw [pt_eq h.kids hi]
    refine List.nodup_cons.2 ⟨fun hm => ?_, ?_⟩
    · obtain ⟨q, hq, hx⟩ := List.mem_flatMap.1 hm
      have hq' := h.kids i hi q hq
      have := pt_range h.kids q.toNat (by omega) _ hx
      omega
    · refine List.pairwise_flatMap.2 ⟨fun q hq => ?_, ?_⟩
      · have hq' := h.kids i hi q hq
        exact ih q.toNat (by omega) (by omega)
      · refine List.Pairwise.imp_of_mem (fun {a b} ha hb hne x hx y hy e => ?_) (kids_nodup h hi)
        subst e
        have ha' := h.kids i hi a ha
        have hb' := h.kids i hi b hb
        have hxr := pt_range h.kids a.toNat (by omega) x hx
        have key : ∀ a b : Int, a ∈ kidsOf L i → b ∈ kidsOf L i → a ≠ b → ¬ (a.toNat : Int) ∈ pt L b.toNat := fun a b ha hb hne hm => by
          have ha' := h.kids i hi a ha
          have hb' := h.kids i hi b hb
          obtain ⟨p, hp, hpl, hk⟩ := pt_parent h.kids b.toNat (by omega) _ hm (by omega)
          rw [Int.toNat_of_nonneg ha'.1] at hk
          have := one_parent h hpl hi hk ha
          have hpr := pt_range h.kids b.toNat (by omega) _ hp
          omega
        have hx' : ((x.toNat : Nat) : Int) = x := by omega
        rcases pt_meet h a.toNat b.toNat (by omega) (by omega) _ x.toNat (Nat.le_refl _) (by rw [hx']; exact hx) (by rw [hx']; exact hy) with hm | hm
        · exact key a b ha hb hne hm
        · exact key b a hb ha (fun e => hne e.symm) hm
theorem pt_len {L : List Nd} (h : TreeP L) (i : Nat) (hi : i < L.length) : (pt L i).length ≤ i + 1 := by
  have h1 := ahead_mem (pt_nodup h i hi) (fun p hp => (pt_range h.kids i hi p hp).1) (i + 1)
  have h2 : ahead (pt L i) ((i + 1 : Nat) : Int) = ((pt L i).length : Nat) := by
    unfold ahead
    rw [List.filter_eq_self.2 (fun p hp => by have := pt_range h.kids i hi p hp; simp; omega)]
  have h3 := mem_len (pt L i) (i + 1)
  omega
theorem parts_fit {L : List Nd} (h : TreeP L) : PartsFit L := fun i hi => by have := pt_len h i hi; omega
end Go.Proofs.Ytlijfkallnomnaa
