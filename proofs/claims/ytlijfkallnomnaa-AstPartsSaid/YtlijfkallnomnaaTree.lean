/-
  Which lists of nodes are trees: in plain words. No program in sight.
-/
import Derived.Test.YtlijfkallnomnaaRight
import Derived.Test.YtlijfkallnomnaaRefDeep
namespace Go.Proofs.Ytlijfkallnomnaa

/-- All kids of all nodes, in a row. -/
def allKids (L : List Nd) : List Int := L.flatMap (·.kids)

structure TreeP (L : List Nd) : Prop where
  len : 1 ≤ L.length ∧ L.length ≤ 2000
  head : ∀ nd, nd ∈ L → headBad nd = false
  kids : KidsIn L
  once : (allKids L).Nodup
  all : ∀ j : Nat, j + 1 < L.length → (j : Int) ∈ allKids L

theorem getD_set_bool (u : List Bool) (i j : Nat) (h : i < u.length) : (u.set i true).getD j false = (u.getD j false || decide (j = i)) := by
  simp only [List.getD_eq_getElem?_getD, List.getElem?_set]
  by_cases hij : i = j
  · subst hij; simp [h]
  · have : ¬ j = i := fun e => hij e.symm
    simp [hij, this]

theorem stepKids_iff (i : Nat) : ∀ (ks : List Int) (u u' : List Bool), i ≤ u.length → (stepKids i ks u = some u' ↔
    (∀ k, k ∈ ks → 0 ≤ k ∧ k < i ∧ u.getD k.toNat false = false) ∧ ks.Nodup ∧ u'.length = u.length ∧ ∀ j : Nat, u'.getD j false = (u.getD j false || decide ((j : Int) ∈ ks))) := by
  intro ks
  induction ks with
  | nil =>
    intro u u' hu
    simp only [stepKids, Option.some.injEq, List.not_mem_nil, false_implies, implies_true, List.nodup_nil, true_and, decide_false, Bool.or_false]
    constructor
    · rintro rfl; exact ⟨rfl, fun _ => rfl⟩
    · rintro ⟨hl, h⟩
      apply List.ext_getElem hl.symm
      intro j h1 h2
      have := h j
      rw [List.getD_eq_getElem?_getD, List.getD_eq_getElem?_getD, List.getElem?_eq_getElem h1, List.getElem?_eq_getElem h2] at this
      exact this.symm
  | cons k ks ih =>
    intro u u' hu
    simp only [stepKids]
    cases hb : kidBad i u k
    · obtain ⟨k0, k1, k2⟩ := kidBad_false hb
      simp only [Bool.false_eq_true, if_false]
      rw [ih _ _ (by rw [List.length_set]; exact hu)]
      have hset : ∀ j, (u.set k.toNat true).getD j false = (u.getD j false || decide (j = k.toNat)) := fun j => getD_set_bool u k.toNat j (by omega)
      constructor
      · rintro ⟨h1, h2, h3, h4⟩
        refine ⟨?_, ?_, by rw [h3, List.length_set], fun j => ?_⟩
        · intro x hx
          rcases List.mem_cons.1 hx with rfl | hx
          · exact ⟨k0, k1, k2⟩
          · have := h1 x hx
            rw [hset] at this
            simp only [Bool.or_eq_false_iff] at this
            exact ⟨this.1, this.2.1, this.2.2.1⟩
        · refine List.nodup_cons.2 ⟨fun hk => ?_, h2⟩
          have := (h1 k hk).2.2
          rw [hset] at this
          simp at this
        · rw [h4, hset]
          have : decide (j = k.toNat) = decide ((j : Int) = k) := by
            by_cases e : j = k.toNat
            · simp [e]; omega
            · simp [e]; omega
          rw [this]
          simp only [List.mem_cons, Bool.decide_or, Bool.or_assoc]
      · rintro ⟨h1, h2, h3, h4⟩
        obtain ⟨hn, h2⟩ := List.nodup_cons.1 h2
        refine ⟨?_, h2, by rw [h3, List.length_set], fun j => ?_⟩
        · intro x hx
          have := h1 x (by simp [hx])
          refine ⟨this.1, this.2.1, ?_⟩
          rw [hset, this.2.2]
          have : x ≠ k := fun e => hn (e ▸ hx)
          simp only [Bool.false_or, decide_eq_false_iff_not]
          omega
        · rw [h4, hset]
          have : decide (j = k.toNat) = decide ((j : Int) = k) := by
            by_cases e : j = k.toNat
            · simp [e]; omega
            · simp [e]; omega
          rw [this]
          simp only [List.mem_cons, Bool.decide_or, Bool.or_assoc]
    · simp only [if_true, reduceCtorEq, false_iff]
      rintro ⟨h1, _⟩
      have := h1 k (by simp)
      rcases kidBad_true hb with h | h | h
      · omega
      · omega
      · rw [h.2.2] at this; simp at this

theorem runTree_iff : ∀ (L : List Nd) (i : Nat) (u u' : List Bool), i + L.length ≤ u.length → (runTree L i u = some u' ↔
    (∀ nd, nd ∈ L → headBad nd = false) ∧ (∀ m, m < L.length → ∀ k, k ∈ (L.getD m default).kids → 0 ≤ k ∧ k < (i + m : Nat) ∧ u.getD k.toNat false = false) ∧ (allKids L).Nodup ∧ u'.length = u.length ∧
      ∀ j : Nat, u'.getD j false = (u.getD j false || decide ((j : Int) ∈ allKids L))) := by
  intro L
  induction L with
  | nil =>
    intro i u u' hu
    simp only [runTree, Option.some.injEq, allKids, List.flatMap_nil, List.not_mem_nil, false_implies, implies_true, List.nodup_nil, true_and, decide_false, Bool.or_false, List.length_nil, Nat.not_lt_zero]
    constructor
    · rintro rfl; exact ⟨rfl, fun _ => rfl⟩
    · rintro ⟨hl, h⟩
      apply List.ext_getElem hl.symm
      intro j h1 h2
      have := h j
      rw [List.getD_eq_getElem?_getD, List.getD_eq_getElem?_getD, List.getElem?_eq_getElem h1, List.getElem?_eq_getElem h2] at this
      exact this.symm
  | cons nd r ih =>
    intro i u u' hu
    simp only [List.length_cons] at hu
    simp only [runTree, Option.bind_eq_some_iff, stepNode]
    cases hh : headBad nd
    · simp only [Bool.false_eq_true, if_false]
      constructor
      · rintro ⟨v, hv, hr⟩
        obtain ⟨a1, a2, a3, a4⟩ := (stepKids_iff i nd.kids u v (by omega)).1 hv
        obtain ⟨b1, b2, b3, b4, b5⟩ := (ih (i + 1) v u' (by omega)).1 hr
        refine ⟨?_, ?_, ?_, by omega, fun j => ?_⟩
        · intro x hx
          rcases List.mem_cons.1 hx with rfl | hx
          · exact hh
          · exact b1 x hx
        · intro m hm k hk
          match m with
          | 0 => exact a1 k hk
          | m + 1 =>
            have := b2 m (by simpa using hm) k hk
            rw [a4] at this
            simp only [Bool.or_eq_false_iff] at this
            exact ⟨this.1, by omega, this.2.2.1⟩
        · simp only [allKids, List.flatMap_cons]
          refine List.nodup_append.2 ⟨a2, b3, ?_⟩
          intro x hx y hy e
          subst e
          simp only [List.mem_flatMap] at hy
          obtain ⟨nd', hm', hk'⟩ := hy
          obtain ⟨m, hm, rfl⟩ := List.getElem_of_mem hm'
          have := b2 m hm x (by rw [List.getD_eq_getElem?_getD, List.getElem?_eq_getElem hm]; exact hk')
          rw [a4] at this
          have h0 := (a1 x hx).1
          simp only [Bool.or_eq_false_iff, decide_eq_false_iff_not] at this
          exact this.2.2.2 (by rw [Int.toNat_of_nonneg h0]; exact hx)
        · rw [b5, a4, Bool.or_assoc, ← Bool.decide_or]
          congr 1
          exact decide_eq_decide.2 (by simp only [allKids, List.flatMap_cons, List.mem_append])
      · rintro ⟨c1, c2, c3, c4, c5⟩
        simp only [allKids, List.flatMap_cons] at c3
        obtain ⟨n1, n2, n3⟩ := List.nodup_append.1 c3
        have hk : ∀ k, k ∈ nd.kids → 0 ≤ k ∧ k < i ∧ u.getD k.toNat false = false := fun k hk => by
          have := c2 0 (by simp) k hk
          exact ⟨this.1, by omega, this.2.2⟩
        -- the marks behind this node
        have hex : ∃ v, stepKids i nd.kids u = some v := by
          refine ⟨_, (stepKids_iff i nd.kids u ((List.range u.length).map fun j => u.getD j false || decide ((j : Int) ∈ nd.kids)) (by omega)).2 ⟨hk, n1, by simp, fun j => ?_⟩⟩
          by_cases hj : j < u.length
          · simp [hj]
          · have : u.getD j false = false := by simp [show u.length ≤ j from by omega]
            rw [this, Bool.false_or]
            have hnot : ¬ (j : Int) ∈ nd.kids := fun hm => by
              have := (hk j hm).2.1
              omega
            simp [hnot, show u.length ≤ j from by omega]
        obtain ⟨v, hv⟩ := hex
        obtain ⟨a1, a2, a3, a4⟩ := (stepKids_iff i nd.kids u v (by omega)).1 hv
        refine ⟨v, hv, (ih (i + 1) v u' (by omega)).2 ⟨fun x hx => c1 x (by simp [hx]), ?_, n2, by omega, fun j => ?_⟩⟩
        · intro m hm k hk'
          have := c2 (m + 1) (by simpa using hm) k hk'
          refine ⟨this.1, by omega, ?_⟩
          rw [a4, this.2.2, Bool.false_or, decide_eq_false_iff_not]
          rw [Int.toNat_of_nonneg this.1]
          intro hmem
          refine n3 k hmem k ?_ rfl
          refine List.mem_flatMap.2 ⟨r.getD m default, ?_, hk'⟩
          rw [List.getD_eq_getElem?_getD, List.getElem?_eq_getElem hm]
          exact List.getElem_mem hm
        · rw [c5, a4, Bool.or_assoc, ← Bool.decide_or]
          congr 1
          exact decide_eq_decide.2 (by simp only [allKids, List.flatMap_cons, List.mem_append])
    · simp only [if_true, reduceCtorEq, false_and, exists_false, false_iff]
      rintro ⟨h1, _⟩
      have := h1 nd (by simp)
      rw [hh] at this
      cases this

theorem getD_replicate_false (n j : Nat) : (List.replicate n false).getD j false = false := by
  simp only [List.getD_eq_getElem?_getD, List.getElem?_replicate]
  split <;> rfl

theorem hasB_false_iff (u : List Bool) : (!hasB false u) = true ↔ ∀ j, j < u.length → u.getD j false = true := by
  unfold hasB
  simp only [Bool.not_eq_true', List.contains_eq_mem, decide_eq_false_iff_not]
  constructor
  · intro h j hj
    rw [List.getD_eq_getElem?_getD, List.getElem?_eq_getElem hj]
    show u[j] = true
    cases hu : u[j]
    · exact absurd (hu ▸ List.getElem_mem hj) h
    · rfl
  · intro h hm
    obtain ⟨j, hj, he⟩ := List.getElem_of_mem hm
    have := h j hj
    rw [List.getD_eq_getElem?_getD, List.getElem?_eq_getElem hj] at this
    simp [he] at this

theorem isTree_iff (L : List Nd) : isTree L = true ↔ TreeP L := by
  unfold isTree
  by_cases hl : L.length < 1 ∨ 2000 < L.length
  · rw [if_pos hl]
    constructor
    · intro h; cases h
    · intro h; have := h.len; omega
  · rw [if_neg hl]
    have hiff := fun u' => runTree_iff L 0 (List.replicate L.length false) u' (by simp)
    constructor
    · intro h
      cases hr : runTree L 0 (List.replicate L.length false) with
      | none => rw [hr] at h; cases h
      | some u =>
        rw [hr] at h
        obtain ⟨h1, h2, h3, h4, h5⟩ := (hiff u).1 hr
        have hu : u.length = L.length := by rw [h4]; simp
        refine ⟨by omega, h1, fun i hi k hk => ?_, h3, fun j hj => ?_⟩
        · have := h2 i hi k hk
          exact ⟨this.1, by omega⟩
        · have := (hasB_false_iff _).1 h j (by rw [List.length_take]; omega)
          rw [List.getD_eq_getElem?_getD, List.getElem?_take, if_pos (by omega), ← List.getD_eq_getElem?_getD, h5, getD_replicate_false] at this
          simpa using this
    · intro h
      have : runTree L 0 (List.replicate L.length false) = some ((List.range L.length).map fun j : Nat => decide ((j : Int) ∈ allKids L)) := by
        refine (hiff _).2 ⟨h.head, fun m hm k hk => ?_, h.once, by simp, fun j => ?_⟩
        · have := h.kids m hm k hk
          exact ⟨this.1, by omega, getD_replicate_false _ _⟩
        · rw [getD_replicate_false, Bool.false_or]
          by_cases hj : j < L.length
          · simp [hj]
          · have hnot : ¬ (j : Int) ∈ allKids L := fun hm => by
              obtain ⟨nd, hnd, hk⟩ := List.mem_flatMap.1 hm
              obtain ⟨m, hm', rfl⟩ := List.getElem_of_mem hnd
              have := (h.kids m hm' j (by rw [List.getD_eq_getElem?_getD, List.getElem?_eq_getElem hm']; exact hk)).2
              omega
            simp [hnot, show L.length ≤ j from by omega]
      rw [this]
      show (!hasB false _) = true
      rw [hasB_false_iff]
      intro j hj
      rw [List.length_take, List.length_map, List.length_range] at hj
      rw [List.getD_eq_getElem?_getD, List.getElem?_take, if_pos (by omega)]
      simp [show j < L.length from by omega]
      exact h.all j (by omega)
end Go.Proofs.Ytlijfkallnomnaa
