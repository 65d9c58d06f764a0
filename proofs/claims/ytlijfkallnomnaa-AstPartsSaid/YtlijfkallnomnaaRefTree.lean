/-
  The reference's trees are the program's. No program in sight.
-/
import Derived.Test.YtlijfkallnomnaaTree
import Derived.Test.YtlijfkallnomnaaRefRight
namespace Go.Proofs.Ytlijfkallnomnaa

theorem kidsOk_table (k : Nat) (hk : k < 33) (n : Nat) :
    kidsOk (k : Int) (n : Int) = !(decide ((n : Int) < least (k : Int)) || (decide (0 ≤ most (k : Int)) && decide (most (k : Int) < (n : Int)))) := by
  match k, hk with
  | 0, _ =>
    show ((n : Int) == 0) = !(decide ((n : Int) < 0) || (decide ((0 : Int) ≤ (0)) && decide ((0 : Int) < (n : Int))))
    rw [Bool.eq_iff_iff]; simp; try omega
  | 1, _ =>
    show ((n : Int) == 0) = !(decide ((n : Int) < 0) || (decide ((0 : Int) ≤ (0)) && decide ((0 : Int) < (n : Int))))
    rw [Bool.eq_iff_iff]; simp; try omega
  | 2, _ =>
    show ((n : Int) == 0) = !(decide ((n : Int) < 0) || (decide ((0 : Int) ≤ (0)) && decide ((0 : Int) < (n : Int))))
    rw [Bool.eq_iff_iff]; simp; try omega
  | 3, _ =>
    show ((n : Int) == 0) = !(decide ((n : Int) < 0) || (decide ((0 : Int) ≤ (0)) && decide ((0 : Int) < (n : Int))))
    rw [Bool.eq_iff_iff]; simp; try omega
  | 4, _ =>
    show ((n : Int) == 0) = !(decide ((n : Int) < 0) || (decide ((0 : Int) ≤ (0)) && decide ((0 : Int) < (n : Int))))
    rw [Bool.eq_iff_iff]; simp; try omega
  | 5, _ =>
    show ((n : Int) == 0) = !(decide ((n : Int) < 0) || (decide ((0 : Int) ≤ (0)) && decide ((0 : Int) < (n : Int))))
    rw [Bool.eq_iff_iff]; simp; try omega
  | 6, _ =>
    show ((n : Int) == 1) = !(decide ((n : Int) < 1) || (decide ((0 : Int) ≤ (1)) && decide ((1 : Int) < (n : Int))))
    rw [Bool.eq_iff_iff]; simp; try omega
  | 7, _ =>
    show decide ((1 : Int) ≤ (n : Int)) = !(decide ((n : Int) < 1) || (decide ((0 : Int) ≤ (-1)) && decide ((-1 : Int) < (n : Int))))
    rw [Bool.eq_iff_iff]; simp; try omega
  | 8, _ =>
    show decide ((2 : Int) ≤ (n : Int)) = !(decide ((n : Int) < 2) || (decide ((0 : Int) ≤ (-1)) && decide ((-1 : Int) < (n : Int))))
    rw [Bool.eq_iff_iff]; simp; try omega
  | 9, _ =>
    show ((n : Int) == 1) = !(decide ((n : Int) < 1) || (decide ((0 : Int) ≤ (1)) && decide ((1 : Int) < (n : Int))))
    rw [Bool.eq_iff_iff]; simp; try omega
  | 10, _ =>
    show ((n : Int) == 2) = !(decide ((n : Int) < 2) || (decide ((0 : Int) ≤ (2)) && decide ((2 : Int) < (n : Int))))
    rw [Bool.eq_iff_iff]; simp; try omega
  | 11, _ =>
    show ((n : Int) == 1) = !(decide ((n : Int) < 1) || (decide ((0 : Int) ≤ (1)) && decide ((1 : Int) < (n : Int))))
    rw [Bool.eq_iff_iff]; simp; try omega
  | 12, _ =>
    show ((n : Int) == 1) = !(decide ((n : Int) < 1) || (decide ((0 : Int) ≤ (1)) && decide ((1 : Int) < (n : Int))))
    rw [Bool.eq_iff_iff]; simp; try omega
  | 13, _ =>
    show ((n : Int) == 2) = !(decide ((n : Int) < 2) || (decide ((0 : Int) ≤ (2)) && decide ((2 : Int) < (n : Int))))
    rw [Bool.eq_iff_iff]; simp; try omega
  | 14, _ =>
    show ((n : Int) == 2) = !(decide ((n : Int) < 2) || (decide ((0 : Int) ≤ (2)) && decide ((2 : Int) < (n : Int))))
    rw [Bool.eq_iff_iff]; simp; try omega
  | 15, _ =>
    show decide ((1 : Int) ≤ (n : Int)) = !(decide ((n : Int) < 1) || (decide ((0 : Int) ≤ (-1)) && decide ((-1 : Int) < (n : Int))))
    rw [Bool.eq_iff_iff]; simp; try omega
  | 16, _ =>
    show true = !(decide ((n : Int) < 0) || (decide ((0 : Int) ≤ (-1)) && decide ((-1 : Int) < (n : Int))))
    rw [Bool.eq_iff_iff]; simp; try omega
  | 17, _ =>
    show true = !(decide ((n : Int) < 0) || (decide ((0 : Int) ≤ (-1)) && decide ((-1 : Int) < (n : Int))))
    rw [Bool.eq_iff_iff]; simp; try omega
  | 18, _ =>
    show ((n : Int) == 1) = !(decide ((n : Int) < 1) || (decide ((0 : Int) ≤ (1)) && decide ((1 : Int) < (n : Int))))
    rw [Bool.eq_iff_iff]; simp; try omega
  | 19, _ =>
    show ((n : Int) == 1) = !(decide ((n : Int) < 1) || (decide ((0 : Int) ≤ (1)) && decide ((1 : Int) < (n : Int))))
    rw [Bool.eq_iff_iff]; simp; try omega
  | 20, _ =>
    show ((n : Int) == 1) = !(decide ((n : Int) < 1) || (decide ((0 : Int) ≤ (1)) && decide ((1 : Int) < (n : Int))))
    rw [Bool.eq_iff_iff]; simp; try omega
  | 21, _ =>
    show decide ((1 : Int) ≤ (n : Int)) = !(decide ((n : Int) < 1) || (decide ((0 : Int) ≤ (-1)) && decide ((-1 : Int) < (n : Int))))
    rw [Bool.eq_iff_iff]; simp; try omega
  | 22, _ =>
    show ((n : Int) == 1) = !(decide ((n : Int) < 1) || (decide ((0 : Int) ≤ (1)) && decide ((1 : Int) < (n : Int))))
    rw [Bool.eq_iff_iff]; simp; try omega
  | 23, _ =>
    show ((n : Int) == 2) = !(decide ((n : Int) < 2) || (decide ((0 : Int) ≤ (2)) && decide ((2 : Int) < (n : Int))))
    rw [Bool.eq_iff_iff]; simp; try omega
  | 24, _ =>
    show ((n : Int) == 2) = !(decide ((n : Int) < 2) || (decide ((0 : Int) ≤ (2)) && decide ((2 : Int) < (n : Int))))
    rw [Bool.eq_iff_iff]; simp; try omega
  | 25, _ =>
    show ((n : Int) == 2) = !(decide ((n : Int) < 2) || (decide ((0 : Int) ≤ (2)) && decide ((2 : Int) < (n : Int))))
    rw [Bool.eq_iff_iff]; simp; try omega
  | 26, _ =>
    show true = !(decide ((n : Int) < 0) || (decide ((0 : Int) ≤ (-1)) && decide ((-1 : Int) < (n : Int))))
    rw [Bool.eq_iff_iff]; simp; try omega
  | 27, _ =>
    show ((n : Int) == 1) = !(decide ((n : Int) < 1) || (decide ((0 : Int) ≤ (1)) && decide ((1 : Int) < (n : Int))))
    rw [Bool.eq_iff_iff]; simp; try omega
  | 28, _ =>
    show ((n : Int) == 4) = !(decide ((n : Int) < 4) || (decide ((0 : Int) ≤ (4)) && decide ((4 : Int) < (n : Int))))
    rw [Bool.eq_iff_iff]; simp; try omega
  | 29, _ =>
    show ((n : Int) == 1) = !(decide ((n : Int) < 1) || (decide ((0 : Int) ≤ (1)) && decide ((1 : Int) < (n : Int))))
    rw [Bool.eq_iff_iff]; simp; try omega
  | 30, _ =>
    show ((n : Int) == 1) = !(decide ((n : Int) < 1) || (decide ((0 : Int) ≤ (1)) && decide ((1 : Int) < (n : Int))))
    rw [Bool.eq_iff_iff]; simp; try omega
  | 31, _ =>
    show ((n : Int) == 0) = !(decide ((n : Int) < 0) || (decide ((0 : Int) ≤ (0)) && decide ((0 : Int) < (n : Int))))
    rw [Bool.eq_iff_iff]; simp; try omega
  | 32, _ =>
    show true = !(decide ((n : Int) < 0) || (decide ((0 : Int) ≤ (-1)) && decide ((-1 : Int) < (n : Int))))
    rw [Bool.eq_iff_iff]; simp; try omega
  | k + 33, h => exact absurd h (by omega)

theorem headBad_same (nd : Nd) : refHeadBad nd = headBad nd := by
  unfold refHeadBad headBad
  by_cases h : 0 ≤ nd.kind ∧ nd.kind ≤ 32
  · obtain ⟨k, hk⟩ := Int.eq_ofNat_of_zero_le h.1
    have ht := kidsOk_table k (by omega) nd.kids.length
    rw [← hk] at ht
    rw [ht, Bool.not_not, Bool.or_assoc (decide (nd.kind < 0) || decide (32 < nd.kind) || decide (nd.at_ < 0) || decide (4000 < nd.at_))]
  · by_cases h1 : nd.kind < 0
    · simp [h1]
    · have h2 : 32 < nd.kind := by omega
      simp [h2]

theorem getD_set_int (c : List Int) (i j : Nat) (x : Int) (h : i < c.length) : (c.set i x).getD j 0 = if j = i then x else c.getD j 0 := by
  simp only [List.getD_eq_getElem?_getD, List.getElem?_set]
  by_cases hij : i = j
  · subst hij; simp [h]
  · have : ¬ j = i := fun e => hij e.symm
    simp [hij, this]

theorem refKids_iff (i : Nat) : ∀ (ks c c' : List Int), i ≤ c.length → (refKids i ks c = some c' ↔
    (∀ k, k ∈ ks → 0 ≤ k ∧ k < i) ∧ c'.length = c.length ∧ ∀ j : Nat, c'.getD j 0 = c.getD j 0 + (ks.count (j : Int) : Nat)) := by
  intro ks
  induction ks with
  | nil =>
    intro c c' hc
    simp only [refKids, Option.some.injEq, List.not_mem_nil, false_implies, implies_true, true_and, List.count_nil, Int.natCast_zero, Int.add_zero]
    constructor
    · rintro rfl; exact ⟨rfl, fun _ => rfl⟩
    · rintro ⟨hl, h⟩
      apply List.ext_getElem hl.symm
      intro j h1 h2
      have := h j
      rw [List.getD_eq_getElem?_getD, List.getD_eq_getElem?_getD, List.getElem?_eq_getElem h1, List.getElem?_eq_getElem h2] at this
      exact this.symm
  | cons k ks ih =>
    intro c c' hc
    simp only [refKids]
    by_cases hb : k < 0 ∨ (i : Int) ≤ k
    · rw [if_pos (by simpa using hb)]
      simp only [reduceCtorEq, false_iff]
      rintro ⟨h, _⟩
      have := h k (by simp)
      omega
    · rw [if_neg (by simpa using hb), ih _ _ (by rw [List.length_set]; exact hc)]
      have hset : ∀ j : Nat, (c.set k.toNat (c.getD k.toNat 0 + 1)).getD j 0 + (ks.count (j : Int) : Nat) = c.getD j 0 + ((k :: ks).count (j : Int) : Nat) := fun j => by
        rw [getD_set_int c k.toNat j _ (by omega), List.count_cons]
        by_cases e : j = k.toNat
        · have e' : (k == (j : Int)) = true := by simp; omega
          rw [if_pos e, if_pos e', e]
          omega
        · have e' : ¬ (k == (j : Int)) = true := by simp; omega
          rw [if_neg e, if_neg e']
          omega
      constructor
      · rintro ⟨h1, h2, h3⟩
        refine ⟨fun x hx => ?_, by rw [h2, List.length_set], fun j => by rw [h3, hset]⟩
        rcases List.mem_cons.1 hx with rfl | hx
        · omega
        · exact h1 x hx
      · rintro ⟨h1, h2, h3⟩
        exact ⟨fun x hx => h1 x (by simp [hx]), by rw [h2, List.length_set], fun j => by rw [h3, hset]⟩

theorem refRun_iff : ∀ (L : List Nd) (i : Nat) (c c' : List Int), i + L.length ≤ c.length → (refRun L i c = some c' ↔
    (∀ nd, nd ∈ L → headBad nd = false) ∧ (∀ m, m < L.length → ∀ k, k ∈ (L.getD m default).kids → 0 ≤ k ∧ k < (i + m : Nat)) ∧ c'.length = c.length ∧
      ∀ j : Nat, c'.getD j 0 = c.getD j 0 + ((allKids L).count (j : Int) : Nat)) := by
  intro L
  induction L with
  | nil =>
    intro i c c' hc
    simp only [refRun, Option.some.injEq, allKids, List.flatMap_nil, List.not_mem_nil, false_implies, implies_true, true_and, List.length_nil, Nat.not_lt_zero, List.count_nil, Int.natCast_zero, Int.add_zero]
    constructor
    · rintro rfl; exact ⟨rfl, fun _ => rfl⟩
    · rintro ⟨hl, h⟩
      apply List.ext_getElem hl.symm
      intro j h1 h2
      have := h j
      rw [List.getD_eq_getElem?_getD, List.getD_eq_getElem?_getD, List.getElem?_eq_getElem h1, List.getElem?_eq_getElem h2] at this
      exact this.symm
  | cons nd r ih =>
    intro i c c' hc
    simp only [List.length_cons] at hc
    simp only [refRun, Option.bind_eq_some_iff, refNode, headBad_same]
    have hcnt : ∀ j : Nat, (allKids (nd :: r)).count (j : Int) = nd.kids.count (j : Int) + (allKids r).count (j : Int) := fun j => by
      simp only [allKids, List.flatMap_cons, List.count_append]
    cases hh : headBad nd
    · simp only [Bool.false_eq_true, if_false]
      constructor
      · rintro ⟨v, hv, hr⟩
        obtain ⟨a1, a2, a3⟩ := (refKids_iff i nd.kids c v (by omega)).1 hv
        obtain ⟨b1, b2, b3, b4⟩ := (ih (i + 1) v c' (by omega)).1 hr
        refine ⟨?_, ?_, by omega, fun j => ?_⟩
        · intro x hx
          rcases List.mem_cons.1 hx with rfl | hx
          · exact hh
          · exact b1 x hx
        · intro m hm k hk
          match m with
          | 0 => exact a1 k hk
          | m + 1 =>
            have := b2 m (by simpa using hm) k hk
            exact ⟨this.1, by omega⟩
        · rw [b4, a3, hcnt]
          omega
      · rintro ⟨c1, c2, c3, c4⟩
        have hk : ∀ k, k ∈ nd.kids → 0 ≤ k ∧ k < i := fun k hk => by
          have := c2 0 (by simp) k hk
          exact ⟨this.1, by omega⟩
        have hex : ∃ v, refKids i nd.kids c = some v := by
          refine ⟨_, (refKids_iff i nd.kids c ((List.range c.length).map fun j : Nat => c.getD j 0 + (nd.kids.count (j : Int) : Nat)) (by omega)).2 ⟨hk, by simp, fun j => ?_⟩⟩
          by_cases hj : j < c.length
          · simp [hj]
          · have hnot : nd.kids.count (j : Int) = 0 := List.count_eq_zero.2 fun hm => by
              have := (hk j hm).2
              omega
            simp [hnot, show c.length ≤ j from by omega]
        obtain ⟨v, hv⟩ := hex
        obtain ⟨a1, a2, a3⟩ := (refKids_iff i nd.kids c v (by omega)).1 hv
        refine ⟨v, hv, (ih (i + 1) v c' (by omega)).2 ⟨fun x hx => c1 x (by simp [hx]), ?_, by omega, fun j => ?_⟩⟩
        · intro m hm k hk'
          have := c2 (m + 1) (by simpa using hm) k hk'
          exact ⟨this.1, by omega⟩
        · rw [c4, a3, hcnt]
          omega
    · simp only [if_true, reduceCtorEq, false_and, exists_false, false_iff]
      rintro ⟨h1, _⟩
      have := h1 nd (by simp)
      rw [hh] at this
      cases this

theorem cntBad_iff (n : Nat) : ∀ (c : List Int) (k : Nat), cntBad n k c = false ↔ ∀ j, j < c.length → k + j + 1 < n → c.getD j 0 = 1 := by
  intro c
  induction c with
  | nil => intro k; simp [cntBad]
  | cons x r ih =>
    intro k
    simp only [cntBad, Bool.or_eq_false_iff, Bool.and_eq_false_iff, decide_eq_false_iff_not, ih]
    constructor
    · rintro ⟨h1, h2⟩ j hj hn
      match j with
      | 0 =>
        rcases h1 with h1 | h1
        · omega
        · simpa using h1
      | j + 1 => exact h2 j (by simpa using hj) (by omega)
    · intro h
      refine ⟨?_, fun j hj hn => h (j + 1) (by simpa using hj) (by omega)⟩
      by_cases hk : k + 1 < n
      · right
        have := h 0 (by simp) (by omega)
        simpa using this
      · exact .inl hk

theorem refIsTree_iff (L : List Nd) : refIsTree L = true ↔ TreeP L := by
  unfold refIsTree
  by_cases hl : L.length < 1 ∨ 2000 < L.length
  · rw [if_pos hl]
    constructor
    · intro h; cases h
    · intro h; have := h.len; omega
  · rw [if_neg hl]
    have hiff := fun c' => refRun_iff L 0 (List.replicate L.length 0) c' (by simp)
    have hrep : ∀ j : Nat, (List.replicate L.length (0 : Int)).getD j 0 = 0 := fun j => by
      simp only [List.getD_eq_getElem?_getD, List.getElem?_replicate]
      split <;> rfl
    constructor
    · intro h
      cases hr : refRun L 0 (List.replicate L.length 0) with
      | none => rw [hr] at h; cases h
      | some c =>
        rw [hr] at h
        obtain ⟨h1, h2, h3, h4⟩ := (hiff c).1 hr
        have hc : c.length = L.length := by rw [h3]; simp
        have hb : cntBad L.length 0 c = false := by simpa [refEnd] using h
        have hone : ∀ j : Nat, j + 1 < L.length → (allKids L).count (j : Int) = 1 := fun j hj => by
          have := (cntBad_iff L.length c 0).1 hb j (by omega) (by omega)
          rw [h4, hrep] at this
          omega
        have hin : KidsIn L := fun i hi k hk => by
          have := h2 i hi k hk
          exact ⟨this.1, by omega⟩
        refine ⟨by omega, h1, hin, List.nodup_iff_count.2 fun a => ?_, fun j hj => ?_⟩
        · by_cases ha : a ∈ allKids L
          · obtain ⟨nd, hnd, hk⟩ := List.mem_flatMap.1 ha
            obtain ⟨m, hm', rfl⟩ := List.getElem_of_mem hnd
            have := hin m hm' a (by rw [List.getD_eq_getElem?_getD, List.getElem?_eq_getElem hm']; exact hk)
            have h1 := hone a.toNat (by omega)
            rw [Int.toNat_of_nonneg this.1] at h1
            omega
          · rw [List.count_eq_zero.2 ha]; omega
        · have := hone j hj
          exact List.count_pos_iff.1 (by omega)
    · intro h
      have hr : refRun L 0 (List.replicate L.length 0) = some ((List.range L.length).map fun j : Nat => (((allKids L).count (j : Int) : Nat) : Int)) := by
        refine (hiff _).2 ⟨h.head, fun m hm k hk => ?_, by simp, fun j => ?_⟩
        · have := h.kids m hm k hk
          exact ⟨this.1, by omega⟩
        · rw [hrep]
          by_cases hj : j < L.length
          · simp [hj]
          · have hnot : (allKids L).count (j : Int) = 0 := List.count_eq_zero.2 fun hm => by
              obtain ⟨nd, hnd, hk⟩ := List.mem_flatMap.1 hm
              obtain ⟨m, hm', rfl⟩ := List.getElem_of_mem hnd
              have := (h.kids m hm' j (by rw [List.getD_eq_getElem?_getD, List.getElem?_eq_getElem hm']; exact hk)).2
              omega
            simp [hnot, show L.length ≤ j from by omega]
      rw [hr]
      show (!cntBad _ _ _) = true
      rw [Bool.not_eq_true', cntBad_iff]
      intro j hj hn
      rw [List.length_map, List.length_range] at hj
      have h1 : 0 < (allKids L).count (j : Int) := List.count_pos_iff.2 (h.all j (by omega))
      have h2 := List.nodup_iff_count.1 h.once (j : Int)
      have h3 : (allKids L).count (j : Int) = 1 := by omega
      simp [hj, h3]

theorem trees_same (L : List Nd) : refIsTree L = isTree L := by
  rw [Bool.eq_iff_iff, refIsTree_iff, isTree_iff]
end Go.Proofs.Ytlijfkallnomnaa
