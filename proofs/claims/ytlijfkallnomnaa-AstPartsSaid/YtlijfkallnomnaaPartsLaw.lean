/-
  A part of a tree is a tree, and as deep as its head was; the part of the root is all. No program in sight.
-/
import Derived.Test.YtlijfkallnomnaaPartLaw
namespace Go.Proofs.Ytlijfkallnomnaa

theorem mem_split {P : List Int} {j : Nat} (hj : hasI j P = true) : ∀ {k : Nat}, j < k → ∃ r, mem P k = mem P j ++ j :: r := by
  intro k
  induction k with
  | zero => intro h; omega
  | succ k ih =>
    intro h
    rw [mem_succ]
    by_cases e : j = k
    · subst e; exact ⟨[], by rw [if_pos hj]⟩
    · obtain ⟨r, hr⟩ := ih (by omega)
      exact ⟨r ++ if hasI k P then [k] else [], by rw [hr]; simp⟩
theorem mem_get {P : List Int} {j k : Nat} (hj : hasI j P = true) (h : j < k) : (mem P j).length < (mem P k).length ∧ (mem P k).getD (mem P j).length 0 = j := by
  obtain ⟨r, hr⟩ := mem_split hj h
  rw [hr]
  simp [List.getD_eq_getElem?_getD]
theorem mem_inv {P : List Int} {k t : Nat} (h : t < (mem P k).length) : ∃ j, j < k ∧ hasI j P = true ∧ (mem P j).length = t := by
  have hm := List.getElem_mem h
  have hm' := hm
  unfold mem at hm'
  obtain ⟨h1, h2⟩ := List.mem_filter.1 hm'
  have h1 := List.mem_range.1 h1
  have hg := mem_get h2 h1
  refine ⟨_, h1, h2, ?_⟩
  have hnd : (mem P k).Nodup := List.Nodup.sublist (List.filter_sublist) List.nodup_range
  have h3 : (mem P k)[(mem P ((mem P k)[t])).length]'hg.1 = (mem P k)[t] := by
    have := hg.2
    rw [List.getD_eq_getElem?_getD, List.getElem?_eq_getElem hg.1] at this
    exact this
  exact (List.getElem_inj hnd).1 h3
theorem mem_mono {P : List Int} {j k : Nat} (h : j ≤ k) : (mem P j).length ≤ (mem P k).length := by
  induction k with
  | zero => have : j = 0 := by omega
            subst this; exact Nat.le_refl _
  | succ k ih =>
    by_cases e : j = k + 1
    · subst e; exact Nat.le_refl _
    · have := ih (by omega)
      rw [mem_succ, List.length_append]
      omega

section
variable {L : List Nd} (h : TreeP L) {i : Nat} (hi : i < L.length)
include h hi

theorem pt_ahead {j : Nat} : ahead (pt L i) j = ((mem (pt L i) j).length : Nat) := ahead_mem (pt_nodup h i hi) (fun p hp => (pt_range h.kids i hi p hp).1) j

theorem cutD_len : (cutD L i).length = (pt L i).length := by
  have h1 := pt_ahead h hi (j := i + 1)
  have h2 : ahead (pt L i) ((i + 1 : Nat) : Int) = ((pt L i).length : Nat) := by
    unfold ahead
    rw [List.filter_eq_self.2 (fun p hp => by have := pt_range h.kids i hi p hp; simp; omega)]
  unfold cutD cutUpto
  rw [List.length_map]
  omega
omit h hi in
theorem cutD_mem_len : (mem (pt L i) (i + 1)).length = (cutD L i).length := by unfold cutD cutUpto; rw [List.length_map]

theorem has_self : hasI i (pt L i) = true := (hasI_iff _ _).2 (pt_self h.kids hi)
/-- The node that j became. -/
theorem cutD_get {j : Nat} (hj : (j : Int) ∈ pt L i) : (mem (pt L i) j).length < (cutD L i).length ∧ (cutD L i).getD (mem (pt L i) j).length default = cutNd (pt L i) (L.getD j default) := by
  have hr := pt_range h.kids i hi j hj
  have hg := mem_get ((hasI_iff j _).2 hj) (k := i + 1) (by omega)
  rw [← cutD_mem_len]
  refine ⟨hg.1, ?_⟩
  have h2 := hg.2
  rw [List.getD_eq_getElem?_getD, List.getElem?_eq_getElem hg.1] at h2
  unfold cutD cutUpto
  rw [List.getD_eq_getElem?_getD, List.getElem?_map, List.getElem?_eq_getElem hg.1]
  simp only [Option.map_some, Option.getD_some] at h2 ⊢
  rw [h2]
omit h hi in
theorem cutD_inv {t : Nat} (ht : t < (cutD L i).length) : ∃ j : Nat, j ≤ i ∧ (j : Int) ∈ pt L i ∧ (mem (pt L i) j).length = t := by
  rw [← cutD_mem_len] at ht
  obtain ⟨j, h1, h2, h3⟩ := mem_inv ht
  exact ⟨j, by omega, (hasI_iff _ _).1 h2, h3⟩
theorem cut_kid {j : Nat} (hj : (j : Int) ∈ pt L i) {q : Int} (hq : q ∈ kidsOf L j) :
    ∃ q' : Nat, q = q' ∧ q' < j ∧ (q' : Int) ∈ pt L i ∧ ahead (pt L i) q = ((mem (pt L i) q').length : Nat) ∧ (mem (pt L i) q').length < (mem (pt L i) j).length := by
  have hr := pt_range h.kids i hi j hj
  have hk := h.kids j (by omega) q hq
  obtain ⟨q', rfl⟩ := Int.eq_ofNat_of_zero_le hk.1
  have hm := pt_closed h.kids i hi j hj _ (by rw [Int.toNat_natCast]; exact hq)
  exact ⟨q', rfl, by omega, hm, pt_ahead h hi, (mem_get ((hasI_iff q' _).2 hm) (by omega)).1⟩
theorem cutD_kids {j : Nat} (hj : (j : Int) ∈ pt L i) : kidsOf (cutD L i) (mem (pt L i) j).length = (kidsOf L j).map (ahead (pt L i)) := by
  unfold kidsOf
  rw [(cutD_get h hi hj).2]
  rfl
theorem cutD_in : KidsIn (cutD L i) := by
  intro t ht k hk
  obtain ⟨j, hji, hj, rfl⟩ := cutD_inv ht
  have hk' : k ∈ kidsOf (cutD L i) (mem (pt L i) j).length := hk
  rw [cutD_kids h hi hj] at hk'
  obtain ⟨q, hq, rfl⟩ := List.mem_map.1 hk'
  obtain ⟨q', rfl, hlt, hm, ha, hl⟩ := cut_kid h hi hj hq
  omega
theorem cutD_last : (mem (pt L i) i).length = (cutD L i).length - 1 ∧ 1 ≤ (cutD L i).length := by
  rw [← cutD_mem_len, mem_succ, if_pos (has_self h hi)]
  simp
theorem cutD_kind : ((cutD L i).getD ((cutD L i).length - 1) default).kind = (L.getD i default).kind := by
  rw [← (cutD_last h hi).1, (cutD_get h hi (pt_self h.kids hi)).2]
  rfl
theorem cutD_dep' : ∀ j : Nat, (j : Int) ∈ pt L i → dep (cutD L i) (mem (pt L i) j).length = dep L j := by
  intro j
  induction j using Nat.strongRecOn with
  | _ j ih =>
    intro hj
    have hr := pt_range h.kids i hi j hj
    rw [dep_eq (cutD_in h hi) (cutD_get h hi hj).1, dep_eq h.kids (by omega), cutD_kids h hi hj, List.foldl_map]
    congr 1
    refine foldl_max_congr _ (fun q hq => ?_) 0
    obtain ⟨q', rfl, hlt, hm, ha, hl⟩ := cut_kid h hi hj hq
    rw [ha, Int.toNat_natCast, Int.toNat_natCast]
    exact ih q' hlt hm
theorem cutD_dep : dep (cutD L i) ((cutD L i).length - 1) = dep L i := by
  rw [← (cutD_last h hi).1]
  exact cutD_dep' h hi i (pt_self h.kids hi)
omit h hi in
theorem cutD_all_kids : allKids (cutD L i) = ((mem (pt L i) (i + 1)).flatMap (kidsOf L ·)).map (ahead (pt L i)) := by
  unfold allKids cutD cutUpto
  rw [List.flatMap_map, List.map_flatMap]
  rfl
omit h hi in
theorem mem_in {j k : Nat} (hj : j ∈ mem (pt L i) k) : (j : Int) ∈ pt L i ∧ j < k := by
  unfold mem at hj
  obtain ⟨h1, h2⟩ := List.mem_filter.1 hj
  exact ⟨(hasI_iff _ _).1 h2, List.mem_range.1 h1⟩
theorem cutD_tree : TreeP (cutD L i) := by
  have hl := cutD_len h hi
  have hp := pt_len h i hi
  have hl2 := h.len
  refine ⟨⟨(cutD_last h hi).2, by omega⟩, fun nd hnd => ?_, cutD_in h hi, ?_, fun t ht => ?_⟩
  · unfold cutD cutUpto at hnd
    obtain ⟨j, hj, rfl⟩ := List.mem_map.1 hnd
    obtain ⟨hj, hlt⟩ := mem_in hj
    have := h.head (L.getD j default) (getD_mem (by omega))
    unfold headBad at this ⊢
    simpa [cutNd] using this
  · rw [cutD_all_kids]
    have hinj : ∀ x, x ∈ (mem (pt L i) (i + 1)).flatMap (kidsOf L ·) → ∃ q : Nat, x = q ∧ (q : Int) ∈ pt L i ∧ ahead (pt L i) x = ((mem (pt L i) q).length : Nat) := fun x hx => by
      obtain ⟨j, hj, hx⟩ := List.mem_flatMap.1 hx
      obtain ⟨q', rfl, _, hm, ha, _⟩ := cut_kid h hi (mem_in hj).1 hx
      exact ⟨q', rfl, hm, ha⟩
    have hnd : ((mem (pt L i) (i + 1)).flatMap (kidsOf L ·)).Nodup := by
      refine List.pairwise_flatMap.2 ⟨fun j hj => ?_, ?_⟩
      · exact kids_nodup h (by have := (mem_in hj).2; omega)
      · have hnm : (mem (pt L i) (i + 1)).Nodup := List.Nodup.sublist (List.filter_sublist) List.nodup_range
        refine List.Pairwise.imp_of_mem (fun {a b} ha hb hne x hx y hy e => ?_) hnm
        subst e
        exact hne (one_parent h (by have := (mem_in ha).2; omega) (by have := (mem_in hb).2; omega) hx hy)
    refine List.Pairwise.map _ (fun a b hab => hab) (List.Pairwise.imp_of_mem (fun {a b} ha hb hne e => ?_) hnd)
    obtain ⟨q, rfl, hq, ea⟩ := hinj a ha
    obtain ⟨r, rfl, hr, eb⟩ := hinj b hb
    rw [ea, eb] at e
    rcases Nat.lt_trichotomy q r with hlt | he | hlt
    · have := (mem_get ((hasI_iff q _).2 hq) hlt).1; omega
    · exact hne (by rw [he])
    · have := (mem_get ((hasI_iff r _).2 hr) hlt).1; omega
  · obtain ⟨j, hji, hj, he⟩ := cutD_inv (L := L) (i := i) (t := t) (by omega)
    have hne : j ≠ i := fun e => by subst e; have := (cutD_last h hi).1; omega
    obtain ⟨p, hp, hpl, hk⟩ := pt_parent h.kids i hi j hj (by omega)
    have hpr := pt_range h.kids i hi p hp
    rw [cutD_all_kids, ← he, ← pt_ahead h hi]
    refine List.mem_map_of_mem (List.mem_flatMap.2 ⟨p, ?_, hk⟩)
    unfold mem
    exact List.mem_filter.2 ⟨List.mem_range.2 (by omega), (hasI_iff _ _).2 hp⟩
end

/-- The part of the root is all. -/
theorem pt_root {L : List Nd} (h : TreeP L) : ∀ (n j : Nat), L.length - j ≤ n → j < L.length → (j : Int) ∈ pt L (L.length - 1) := by
  have hl := h.len.1
  intro n
  induction n with
  | zero => intro j h1 h2; omega
  | succ n ih =>
    intro j h1 h2
    by_cases e : j + 1 = L.length
    · have : j = L.length - 1 := by omega
      rw [this]
      exact pt_self h.kids (by omega)
    · have hm := h.all j (by omega)
      obtain ⟨nd, hnd, hk⟩ := List.mem_flatMap.1 hm
      obtain ⟨p, hp, rfl⟩ := List.getElem_of_mem hnd
      rw [← kidsOf_mem hp] at hk
      have hpk := h.kids p hp _ hk
      have hpp := ih p (by omega) hp
      exact pt_closed h.kids _ (by omega) p hpp _ (by rw [Int.toNat_natCast]; exact hk)
theorem mem_root {L : List Nd} (h : TreeP L) {k : Nat} (hk : k ≤ L.length) : mem (pt L (L.length - 1)) k = List.range k := by
  unfold mem
  exact List.filter_eq_self.2 (fun j hj => (hasI_iff _ _).2 (pt_root h _ j (Nat.le_refl _) (by have := List.mem_range.1 hj; omega)))
theorem cutD_root {L : List Nd} (h : TreeP L) : cutD L (L.length - 1) = L.map Nd.dat := by
  have hl := h.len.1
  unfold cutD cutUpto
  rw [mem_root h (by omega)]
  refine List.ext_getElem (by simp; omega) (fun j h1 h2 => ?_)
  have hj : j < L.length := by simpa using h2
  rw [List.getElem_map, List.getElem_map, List.getElem_range, List.getD_eq_getElem?_getD, List.getElem?_eq_getElem hj]
  unfold cutNd Nd.dat
  simp only [Option.getD_some]
  congr 1
  have hkj : L[j].kids = kidsOf L j := (kidsOf_mem hj).symm
  rw [hkj]
  refine (List.map_congr_left (fun q hq => ?_)).trans (List.map_id _)
  have hq' := h.kids j hj q hq
  obtain ⟨q', rfl⟩ := Int.eq_ofNat_of_zero_le hq'.1
  rw [pt_ahead h (by omega), mem_root h (by omega)]
  simp
theorem pt_root_len {L : List Nd} (h : TreeP L) : (pt L (L.length - 1)).length = L.length := by
  have hl := h.len.1
  rw [← cutD_len h (by omega), cutD_root h, List.length_map]

theorem foldl_max_mem (f : Int → Int) (l : List Int) (m : Int) {k : Int} (hk : k ∈ l) : f k ≤ l.foldl (fun m k => max m (f k)) m := by
  induction l generalizing m with
  | nil => cases hk
  | cons x r ih =>
    simp only [List.foldl_cons]
    rcases List.mem_cons.1 hk with rfl | hk
    · have := foldl_max_ge f r (max m (f k)); omega
    · exact ih _ hk
theorem dep_kid {L : List Nd} (h : KidsIn L) {i : Nat} (hi : i < L.length) {k : Int} (hk : k ∈ kidsOf L i) : dep L k.toNat < dep L i := by
  rw [dep_eq h hi]
  have := foldl_max_mem (fun k => dep L k.toNat) (kidsOf L i) 0 hk
  omega
theorem dep_most {L : List Nd} (h : KidsIn L) {i : Nat} (hi : i < L.length) : dep L i = mostOf L (kidsOf L i) (kidsOf L i).length + 1 := by
  rw [dep_eq h hi]
  unfold mostOf
  rw [List.take_of_length_le (Nat.le_refl _)]
  omega
theorem ptUpto_all {L : List Nd} (h : KidsIn L) {i : Nat} (hi : i < L.length) : ptUpto L i (kidsOf L i) (kidsOf L i).length = pt L i := by
  rw [pt_eq h hi]
  unfold ptUpto
  rw [List.take_of_length_le (Nat.le_refl _)]

/-- What hangs on the data alone. -/
theorem kidsOf_dat (L : List Nd) (i : Nat) : kidsOf (L.map Nd.dat) i = kidsOf L i := by
  unfold kidsOf
  rw [List.getD_eq_getElem?_getD, List.getD_eq_getElem?_getD, List.getElem?_map]
  cases L[i]? <;> rfl
theorem dp_dat (L : List Nd) (n : Nat) : ∀ i, dp (L.map Nd.dat) n i = dp L n i := by
  induction n with
  | zero => intro i; rfl
  | succ n ih =>
    intro i
    simp only [dp, kidsOf_dat, ih]
theorem dep_dat (L : List Nd) (i : Nat) : dep (L.map Nd.dat) i = dep L i := dp_dat L _ i
theorem runTree_dat : ∀ (L : List Nd) (i : Nat) (u : List Bool), runTree (L.map Nd.dat) i u = runTree L i u := by
  intro L
  induction L with
  | nil => intro i u; rfl
  | cons x r ih =>
    intro i u
    show (stepNode i x.dat u).bind (runTree (r.map Nd.dat) (i + 1)) = (stepNode i x u).bind (runTree r (i + 1))
    have e : runTree (r.map Nd.dat) (i + 1) = runTree r (i + 1) := funext fun u => ih (i + 1) u
    rw [e]
    rfl
theorem isTree_dat (L : List Nd) : isTree (L.map Nd.dat) = isTree L := by
  unfold isTree
  rw [runTree_dat, List.length_map]
/-- Of nodes that are as the part of i: they are a tree, as deep as i was, and so many. -/
theorem part_tree {L M : List Nd} (h : TreeP L) {i : Nat} (hi : i < L.length) (hM : M.map Nd.dat = cutD L i) :
    isTree M = true ∧ TreeP M ∧ dep M (M.length - 1) = dep L i ∧ M.length = (pt L i).length ∧ (M.getD (M.length - 1) default).kind = (L.getD i default).kind := by
  have h1 : isTree M = true := by
    rw [← isTree_dat, hM]
    exact (isTree_iff _).2 (cutD_tree h hi)
  have hlen : M.length = (cutD L i).length := by rw [← hM, List.length_map]
  refine ⟨h1, (isTree_iff _).1 h1, ?_, by rw [hlen, cutD_len h hi], ?_⟩
  · rw [← dep_dat, hM, hlen, cutD_dep h hi]
  · have := cutD_kind h hi
    rw [← hlen, ← hM, List.getD_eq_getElem?_getD, List.getElem?_map] at this
    rw [← this, List.getD_eq_getElem?_getD]
    cases M[M.length - 1]? <;> rfl
end Go.Proofs.Ytlijfkallnomnaa
