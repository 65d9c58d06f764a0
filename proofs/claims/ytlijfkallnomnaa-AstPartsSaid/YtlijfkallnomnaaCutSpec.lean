/-
  A part of a tree, as a tree. No program in sight.
-/
import Derived.Test.YtlijfkallnomnaaPart
namespace Go.Proofs.Ytlijfkallnomnaa

/-- A node without where its kids lie. -/
def Nd.dat (nd : Nd) : Nd := ⟨nd.kind, nd.text, none, 0, nd.kids, nd.at_⟩

/-- How many of P lie ahead of q. -/
def ahead (P : List Int) (q : Int) : Int := ((P.filter fun p => decide (p < q)).length : Nat)
def cutNd (P : List Int) (nd : Nd) : Nd := ⟨nd.kind, nd.text, none, 0, nd.kids.map (ahead P), nd.at_⟩
/-- Those of P below k, in order. -/
def mem (P : List Int) (k : Nat) : List Nat := (List.range k).filter fun j => hasI j P
def cutUpto (L : List Nd) (P : List Int) (k : Nat) : List Nd := (mem P k).map fun j => cutNd P (L.getD j default)
def cutD (L : List Nd) (i : Nat) : List Nd := cutUpto L (pt L i) (i + 1)

theorem mem_succ (P : List Int) (k : Nat) : mem P (k + 1) = mem P k ++ if hasI k P then [k] else [] := by
  unfold mem
  rw [List.range_succ, List.filter_append]
  cases h : hasI k P <;> simp [h]
theorem cutUpto_yes (L : List Nd) {P : List Int} {k : Nat} (h : hasI k P = true) : cutUpto L P (k + 1) = cutUpto L P k ++ [cutNd P (L.getD k default)] := by
  unfold cutUpto
  rw [mem_succ, if_pos h, List.map_append]
  rfl
theorem cutUpto_no (L : List Nd) {P : List Int} {k : Nat} (h : hasI k P = false) : cutUpto L P (k + 1) = cutUpto L P k := by
  unfold cutUpto
  rw [mem_succ, if_neg (by simp [h]), List.append_nil]
theorem mem_len (P : List Int) (k : Nat) : (mem P k).length ≤ k := by
  unfold mem
  exact Nat.le_trans (List.length_filter_le _ _) (by simp)
theorem hasI_iff (n : Int) (xs : List Int) : hasI n xs = true ↔ n ∈ xs := by unfold hasI; simp

theorem ahead_bounds (P : List Int) (q : Int) : 0 ≤ ahead P q ∧ ahead P q ≤ P.length := by
  unfold ahead
  have := List.length_filter_le (fun p => decide (p < q)) P
  omega
/-- Those ahead of q, counted. -/
theorem ahead_mem {P : List Int} (hn : P.Nodup) (h0 : ∀ p, p ∈ P → 0 ≤ p) (q : Nat) : ahead P q = ((mem P q).length : Nat) := by
  induction q with
  | zero =>
    unfold ahead
    rw [List.filter_eq_nil_iff.2 (fun p hp => by have := h0 p hp; simp; omega)]
    rfl
  | succ q ih =>
    have hs : ahead P ((q + 1 : Nat) : Int) = ahead P (q : Int) + (P.count (q : Int) : Nat) := by
      unfold ahead
      clear ih hn h0
      induction P with
      | nil => rfl
      | cons x r ih =>
        simp only [List.filter_cons, List.count_cons]
        by_cases h1 : x < (q : Int)
        · have h2 : x < ((q + 1 : Nat) : Int) := by omega
          have h3 : ¬ (x == (q : Int)) = true := by simp; omega
          simp only [h1, h2, decide_true, if_true, List.length_cons]
          rw [if_neg h3]
          omega
        · by_cases h2 : x = (q : Int)
          · have h3 : x < ((q + 1 : Nat) : Int) := by omega
            have h4 : (x == (q : Int)) = true := by simpa using h2
            simp only [h1, h3, decide_true, decide_false, if_true, Bool.false_eq_true, if_false, List.length_cons]
            rw [if_pos h4]
            omega
          · have h3 : ¬ x < ((q + 1 : Nat) : Int) := by omega
            have h4 : ¬ (x == (q : Int)) = true := by simpa using h2
            simp only [h1, h3, decide_false, Bool.false_eq_true, if_false]
            rw [if_neg h4]
            exact ih
    rw [hs, ih, mem_succ]
    cases h : hasI q P
    · have : ¬ (q : Int) ∈ P := fun hm => by rw [(hasI_iff _ _).2 hm] at h; cases h
      rw [List.count_eq_zero.2 this]
      simp
    · have hm := (hasI_iff _ _).1 h
      have h1 := List.nodup_iff_count.1 hn (q : Int)
      have h2 := List.count_pos_iff.2 hm
      have h3 : P.count (q : Int) = 1 := by omega
      rw [h3]
      simp

theorem cutUpto_len (L : List Nd) (P : List Int) (k : Nat) : (cutUpto L P k).length ≤ k := by
  unfold cutUpto; rw [List.length_map]; exact mem_len P k

/-- So many of the first m lie ahead of q. -/
def aheadUpto (P : List Int) (q : Int) (m : Nat) : Int := (((P.take m).filter fun p => decide (p < q)).length : Nat)
theorem aheadUpto_all (P : List Int) (q : Int) {m : Nat} (h : ¬ m < P.length) : aheadUpto P q m = ahead P q := by
  unfold aheadUpto ahead; rw [List.take_of_length_le (by omega)]
theorem aheadUpto_succ (P : List Int) (q : Int) {m : Nat} (h : m < P.length) : aheadUpto P q (m + 1) = aheadUpto P q m + if P.getD m 0 < q then 1 else 0 := by
  unfold aheadUpto
  rw [List.take_succ_eq_append_getElem h, List.filter_append, List.length_append, List.getD_eq_getElem?_getD, List.getElem?_eq_getElem h]
  by_cases hq : P[m] < q <;> simp [hq]
theorem aheadUpto_bounds (P : List Int) (q : Int) (m : Nat) : 0 ≤ aheadUpto P q m ∧ aheadUpto P q m ≤ P.length := by
  unfold aheadUpto
  have h1 := List.length_filter_le (fun p => decide (p < q)) (P.take m)
  have h2 := List.length_take_le m P
  rw [List.length_take] at h1
  omega
/-- The new kids so far. -/
def newKids (P : List Int) (ks : List Int) (m : Nat) : List Int := (ks.take m).map (ahead P)
theorem newKids_succ (P : List Int) {ks : List Int} {j : Nat} (h : j < ks.length) : newKids P ks (j + 1) = newKids P ks j ++ [ahead P (ks.getD j 0)] := by
  unfold newKids
  rw [List.take_succ_eq_append_getElem h, List.map_append, List.getD_eq_getElem?_getD, List.getElem?_eq_getElem h]
  rfl
theorem newKids_len (P : List Int) {ks : List Int} {j : Nat} (h : j ≤ ks.length) : (newKids P ks j).length = j := by
  unfold newKids; rw [List.length_map, List.length_take]; omega
theorem newKids_all (P : List Int) (ks : List Int) : newKids P ks ks.length = ks.map (ahead P) := by
  unfold newKids; rw [List.take_of_length_le (Nat.le_refl _)]
end Go.Proofs.Ytlijfkallnomnaa
