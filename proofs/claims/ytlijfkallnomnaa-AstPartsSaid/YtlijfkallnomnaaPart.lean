/-
  slices.Clone; the reference's Part.
-/
import Derived.Test.YtlijfkallnomnaaNodeOwn
import Derived.Test.YtlijfkallnomnaaRefDeep
namespace Go.Proofs.Ytlijfkallnomnaa
open Go.RowKit

/-- A literal is owned. -/
theorem own_lit (w : World) (base : Nat) (e : TypeId) (size n : Nat) (cs : List Value) (hb : base ≤ w.heap.size) (hn : cs.length = n * size) (hm : n ≤ maxLen) :
    (w.alloc (.cells cs.toArray e)).ownsRow base e size (.slice (some ⟨w.heap.size, 0, none⟩) n n) n cs :=
  ⟨hn, .inr ⟨w.heap.size, n, cs.toArray, rfl, hb, heap_alloc_new w _, Nat.le_refl _, hm, by simpa using hn, by simp [← hn]⟩⟩

/-- A call that hands back integers in a row of its own. -/
def RetOwnI (xs : List Int) (w : World) (e : Ending) (w' : World) : Prop :=
  ∃ A cap, e = .returned (.slice A xs.length cap) ∧ xs.length ≤ cap ∧ w'.ownsRow w.heap.size 3 1 (.slice A xs.length cap) xs.length (ints .i64 xs) ∧ Below w.heap.size w w'

set_option maxHeartbeats 400000 in
theorem clone_any (A : Option Addr) (cap : Nat) (xs : List Int) (w : World) (hl : xs.length ≤ 17592186044416) (h : RdI w A .i64 xs) :
    Calls Try.prog 24 #[.slice A xs.length cap] w (RetOwnI xs w) := by
  have H := Lib.hid h; clear h
  have he := fun W B n c => Lib.run_eql_slice_nil (P := Try.prog) W 35 3 B n c 0 0 (by kernel_rfl)
  cases A with
  | none =>
    have h0 : xs = [] := by
      rcases Nat.eq_zero_or_pos xs.length with h0 | h0
      · exact List.eq_nil_of_length_eq_zero h0
      · obtain ⟨_, _, e, _⟩ := H.out h0; cases e
    subst h0
    go_enter Try.func24, Try.ntmps24
    go_wp2
    go_ret
    exact ⟨none, 0, rfl, Nat.le_refl _, own_nil _ _ _ _, bel_refl _⟩
  | some a =>
    go_enter Try.func24, Try.ntmps24
    go_wp2_with (at_builtin; refine wpList_app _ rfl _ _ 35 rfl w.heap.size 3 (.int .i64 0) 1 8 (by kernel_rfl) info_int rfl (by decide) _ 0 [] rfl _ xs.length cap (ints .i64 xs) rfl ?c0 (ints_one _ _) ?own ?rd ?c1 ?c2 ?c3 ?_)
    case c0 => rw [ints_len, Nat.mul_one]
    case own => exact own_empty _ _ _ _ (Nat.le_refl _)
    case rd => exact RdI.src (RdI.below H.out (bel_alloc (bel_refl _) _))
    case c1 => unfold maxLen; omega
    case c2 => omega
    case c3 => simp
    intro v' w2 hown hgr hbel
    obtain ⟨A', cap', rfl, hc, _, _⟩ := own_rdI hown (by omega)
    have HO := Lib.hid hown; clear hown
    have HB := Lib.hid hbel; clear hbel
    clear hgr
    go_wp2
    go_ret
    refine ⟨A', cap', rfl, hc, ?_, (bel_alloc (bel_refl _) _).trans HB.out⟩
    simpa using HO.out

/-- The part of node i: itself, and its kids' parts, in the order in which they are met; with so much fuel. -/
def pt' (L : List Nd) : Nat → Nat → List Int
  | 0, _ => []
  | n + 1, i => (i : Int) :: (kidsOf L i).flatMap fun k => pt' L n k.toNat
def pt (L : List Nd) (i : Nat) : List Int := pt' L (i + 1) i

theorem flatMap_congr_mem {f g : Int → List Int} (l : List Int) (h : ∀ k, k ∈ l → f k = g k) : l.flatMap f = l.flatMap g := by
  induction l with
  | nil => rfl
  | cons x r ih => simp only [List.flatMap_cons]; rw [h x (by simp), ih (fun k hk => h k (by simp [hk]))]
theorem pt'_fuel {L : List Nd} (h : KidsIn L) : ∀ n i, i < L.length → i < n → pt' L n i = pt L i := by
  intro n
  induction n using Nat.strongRecOn with
  | _ n ih =>
    intro i hi hn
    match n, hn with
    | n + 1, hn =>
      unfold pt
      simp only [pt']
      congr 1
      refine flatMap_congr_mem _ (fun k hk => ?_)
      have hk' := h i hi k hk
      rw [ih n (by omega) k.toNat (by omega) (by omega)]
      by_cases hin : i = n
      · subst hin
        exact (ih i (by omega) k.toNat (by omega) (by omega)).symm
      · exact (ih i (by omega) k.toNat (by omega) (by omega)).symm
theorem pt_eq {L : List Nd} (h : KidsIn L) {i : Nat} (hi : i < L.length) : pt L i = (i : Int) :: (kidsOf L i).flatMap fun k => pt L k.toNat := by
  conv => lhs; unfold pt
  simp only [pt']
  congr 1
  refine flatMap_congr_mem _ (fun k hk => ?_)
  have hk' := h i hi k hk
  exact pt'_fuel h i k.toNat (by omega) (by omega)

/-- So far as kid m. -/
def ptUpto (L : List Nd) (i : Nat) (ks : List Int) (m : Nat) : List Int := (i : Int) :: (ks.take m).flatMap fun k => pt L k.toNat
theorem ptUpto_succ (L : List Nd) (i : Nat) (ks : List Int) (m : Nat) (h : m < ks.length) : ptUpto L i ks (m + 1) = ptUpto L i ks m ++ pt L (ks.getD m 0).toNat := by
  unfold ptUpto
  rw [List.take_succ_eq_append_getElem h, List.flatMap_append, List.getD_eq_getElem?_getD, List.getElem?_eq_getElem h]
  simp
theorem ptUpto_len (L : List Nd) (i : Nat) (ks : List Int) (m : Nat) : (ptUpto L i ks m).length ≤ (ptUpto L i ks ks.length).length := by
  have h : ks.flatMap (fun k => pt L k.toNat) = (ks.take m).flatMap (fun k => pt L k.toNat) ++ (ks.drop m).flatMap (fun k => pt L k.toNat) := by
    rw [← List.flatMap_append, List.take_append_drop]
  unfold ptUpto
  rw [List.take_of_length_le (Nat.le_refl _), h]
  simp only [List.length_cons, List.length_append]
  omega

/-- No part is greater than so much. -/
def PartsFit (L : List Nd) : Prop := ∀ i, i < L.length → (pt L i).length ≤ L.length

set_option maxHeartbeats 1000000 in
theorem part_any (A : Option Addr) (cap : Nat) (L : List Nd) (hin : KidsIn L) (hfit : PartsFit L) (hl : L.length ≤ 2000) : ∀ i : Nat, i < L.length → ∀ w : World, NdsR w A L →
    Calls Try.prog 25 #[.slice A L.length cap, .int .i64 i] w (RetOwnI (pt L i) w) := by
  intro i
  induction i using Nat.strongRecOn with
  | _ i ih =>
    intro hi w h
    have IH := Lib.hid ih; clear ih
    have H := Lib.hid h; clear h
    obtain ⟨b, off, kd, tx, ka, kc, ks, pl, hA, hnd, hb, c0, c1, c2, c3, hkids, hkl, hkc⟩ := H.out.node (Below.refl _ _) hi
    subst hA
    have HN : Hid (ks = kidsOf L i) := by show ks = _; unfold kidsOf; rw [← hnd]
    clear hnd c0 c1 c3
    have HK := Lib.hid hkids; clear hkids
    have HI := Lib.hid hin; clear hin
    have HF := Lib.hid hfit; clear hfit
    have hpt : Hid (pt L i = ptUpto L i ks ks.length) := by
      show pt L i = _
      rw [pt_eq HI.out hi, ptUpto, List.take_of_length_le (Nat.le_refl _), HN.out]
    go_enter Try.func25, Try.ntmps25
    go_wp2
    go_loopw [5, 16] (fun v j wr => ∃ m : Nat, m ≤ ks.length ∧ j = .int .i64 m ∧ Below w.heap.size w wr ∧ wr.ownsRow w.heap.size 3 1 v (ptUpto L i ks m).length (ints .i64 (ptUpto L i ks m))) (fun _ j _ => ks.length - (intOf j).toNat)
    case atStart => 
      exact ⟨0, Nat.zero_le _, rfl, bel_alloc (bel_refl _) _, own_lit _ _ _ 1 1 [.int .i64 i] (Nat.le_refl _) rfl (by unfold maxLen; omega)⟩
    case round =>
      obtain ⟨m, hm, rfl, hb', ho⟩ := hrel
      have HB := Lib.hid hb'; clear hb'
      have HO := Lib.hid ho; clear ho
      have hlm : (ptUpto L i ks m).length ≤ L.length := Nat.le_trans (ptUpto_len L i ks m) (by rw [← hpt.out]; exact HF.out i hi)
      by_cases hlt : m < ks.length
      · obtain ⟨b', off', rfl, hb', hcell⟩ := (HK.out.below HB.out).at_ hlt
        have HS := Lib.hid (ptUpto_succ L i ks m hlt)
        have hlm' : (ptUpto L i ks (m + 1)).length ≤ L.length := Nat.le_trans (ptUpto_len L i ks (m + 1)) (by rw [← hpt.out]; exact HF.out i hi)
        obtain ⟨q, hq⟩ : ∃ q : Int, q = ks.getD m 0 := ⟨_, rfl⟩
        rw [← hq] at hcell HS
        have hq' : 0 ≤ q ∧ q < i := by
          have hmem : q ∈ ks := by rw [hq, List.getD_eq_getElem?_getD, List.getElem?_eq_getElem hlt]; exact List.getElem_mem hlt
          rw [HN.out] at hmem
          exact HI.out i hi q hmem
        clear hq
        obtain ⟨q0, q1⟩ := hq'
        obtain ⟨q, rfl⟩ := Int.eq_ofNat_of_zero_le q0
        rw [Int.toNat_natCast] at HS
        have hlq : (pt L q).length ≤ L.length := HF.out q (by omega)
        have HL := Lib.hid (congrArg List.length HS.out)
        go_wp2_with fail
        refine (IH.out q (by omega) (by omega) _ (H.out.below HB.out)).mono ?_
        rintro e w1 ⟨A1, c1, rfl, hc1, ho1, hb1⟩
        have HO1 := Lib.hid ho1; clear ho1
        have HB1 := Lib.hid hb1; clear hb1
        go_wp2_with (at_builtin; refine wpList_app _ rfl _ _ 35 rfl w.heap.size 3 (.int .i64 0) 1 8 (by kernel_rfl) info_int rfl (by decide) _ (ptUpto L i ks m).length (ints .i64 (ptUpto L i ks m)) rfl _ (pt L q).length c1 (ints .i64 (pt L q)) rfl ?c0 (ints_one _ _) ?own ?rd ?c1 ?c2 ?c3 ?_)
        case c0 => rw [ints_len, Nat.mul_one]
        case own => exact own_below HO.out HB1.out
        case rd =>
          obtain ⟨A2, c2, e2, _, _, hr2⟩ := own_rdI HO1.out rfl
          injection e2 with e21 e22 e23
          subst e21
          exact hr2.src
        case c1 => unfold maxLen; omega
        case c2 => omega
        case c3 => exact (bel_trans HB.out HB1.out).size
        intro v' w2 hown hgr hbel
        have R : Hid (Below w.heap.size w w2 ∧ w2.ownsRow w.heap.size 3 1 v' (ptUpto L i ks (m + 1)).length (ints .i64 (ptUpto L i ks (m + 1)))) := by
          refine ⟨(bel_trans HB.out HB1.out).trans hbel, ?_⟩
          rw [ints_app] at hown
          rw [HS.out, List.length_append]
          exact hown
        clear hown hgr hbel
        go_wp2
        go_roundw
        case rel => exact ⟨m + 1, by omega, by go_num, R.out.1, R.out.2⟩
        case measure => simp [intOf]; omega
      · have hmk : m = ks.length := by omega
        obtain ⟨A', cap', hv, hc, _, _⟩ := own_rdI HO.out rfl
        subst hv
        have HM := Lib.hid hmk; clear hmk
        go_wp2
        go_ret
        refine ⟨A', cap', ?_, ?_, ?_, HB.out⟩
        · rw [hpt.out, ← HM.out]; rfl
        · rw [hpt.out, ← HM.out]; exact hc
        · rw [hpt.out, ← HM.out]; exact HO.out
end Go.Proofs.Ytlijfkallnomnaa
