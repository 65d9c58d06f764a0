/-
  ast.Right of any list; ast.Deep.
-/
import Derived.Test.YtlijfkallnomnaaRight
import Derived.Test.YtlijfkallnomnaaRefDeep
import Derived.Test.YtlijfkallnomnaaNodeOwn
namespace Go.Proofs.Ytlijfkallnomnaa
open Go.RowKit

set_option maxRecDepth 100000 in
set_option maxHeartbeats 400000 in
theorem right_any (A : Option Addr) (cap : Nat) (L : List Nd) (w : World) (h : NdsR w A L) :
    Calls Try.prog 8 #[.slice A L.length cap] w (RetBB (isTree L) w) := by
  have hl := h.len
  by_cases h1 : 1 ≤ L.length
  · by_cases h2 : L.length ≤ 2000
    · exact right_loop A cap L w h h1 h2
    · have HE : Hid (isTree L = false) := by show isTree L = false; unfold isTree; rw [if_pos (by omega)]
      have g1 : ¬ ((L.length : Int) < 1) := by omega
      have g2 : (2000 : Int) < L.length := by omega
      clear h
      go_enter Try.func8, Try.ntmps8
      go_wp2
      go_ret
      exact ⟨ret_bool HE.out.symm, bel_refl _⟩
  · have HE : Hid (isTree L = false) := by show isTree L = false; unfold isTree; rw [if_pos (by omega)]
    have g1 : (L.length : Int) < 1 := by omega
    clear h
    go_enter Try.func8, Try.ntmps8
    go_wp2
    go_ret
    exact ⟨ret_bool HE.out.symm, bel_refl _⟩
theorem right_anyN (A : Option Addr) (len cap : Nat) (L : List Nd) (w : World) (hn : len = L.length) (h : NdsR w A L) :
    Calls Try.prog 8 #[.slice A len cap] w (RetBB (isTree L) w) := by subst hn; exact right_any A cap L w h

/-- The depths of the nodes before k; 0 behind. -/
def depRow (L : List Nd) (k : Nat) : List Int := (List.range L.length).map fun j => if j < k then dep L j else 0
theorem depRow_len (L : List Nd) (k : Nat) : (depRow L k).length = L.length := by simp [depRow]
theorem depRow_get (L : List Nd) (k j : Nat) (h : j < L.length) : (depRow L k).getD j 0 = if j < k then dep L j else 0 := by
  simp [depRow, h]
theorem depRow_zero (L : List Nd) : depRow L 0 = List.replicate L.length 0 := by
  apply List.ext_getElem?
  intro i
  simp [depRow]
  by_cases h : i < L.length <;> simp [h]
theorem depRow_set (L : List Nd) (k : Nat) (h : k < L.length) : (depRow L k).set k (dep L k) = depRow L (k + 1) := by
  apply List.ext_getElem?
  intro i
  simp only [depRow, List.getElem?_set, List.getElem?_map, List.length_map, List.length_range]
  by_cases hi : i < L.length
  · rw [List.getElem?_range hi]
    by_cases hk : k = i
    · subst hk; simp [h]
    · simp [hk]
      by_cases h1 : i < k
      · simp [h1, show i < k + 1 from by omega]
      · simp [h1, show ¬ i < k + 1 from by omega]
  · rw [List.getElem?_eq_none (by simpa using hi)]
    simp
    omega

structure DeepRel (w w1 wr : World) (L : List Nd) (k : Nat) (c : List Int) : Prop where
  old : Below w.heap.size w wr
  row : Blk wr w1.heap.size 3 (arr (Value.int .i64) c)
  far : w.heap.size ≤ w1.heap.size

def RetIE (i c : Int) (w : World) (e : Ending) (w' : World) : Prop := e = .returned (.tuple #[.int .i64 i, .int .i64 c]) ∧ Below w.heap.size w w'

theorem run_max_int (P : Program) (ts : Array TypeId) (t : TypeId) (x y : Int) (W : World) : (Builtin.max_ ts t #[.int .i64 x, .int .i64 y]).run P W = .ok (.int .i64 (max x y)) W := by
  rw [run_max_int2]
  congr 2
  omega

set_option maxRecDepth 100000 in
set_option maxHeartbeats 1000000 in
theorem deep_tree (A : Option Addr) (cap : Nat) (L : List Nd) (w : World) (h : NdsR w A L) (ht : isTree L = true) (hin : KidsIn L) (hl1 : 1 ≤ L.length) (hl2 : L.length ≤ 2000) :
    Calls Try.prog 12 #[.slice A L.length cap] w (RetIE (dep L (L.length - 1)) 0 w) := by
  have hl := h.len
  have H := Lib.hid h; clear h
  have HT := Lib.hid ht; clear ht
  have HI := Lib.hid hin; clear hin
  have hmk := fun W => run_mk (P := Try.prog) (Value.int .i64) 0 35 3 8 (by kernel_rfl) info_int rfl L.length (by omega) (by omega) W
  have hmax := run_max_int Try.prog
  go_enter Try.func12, Try.ntmps12
  go_wp2_with (go_at_call 8; (with_reducible refine (right_any _ _ L _ ?_).mono ?_); exact H.out; rintro e w1 ⟨rfl, hb1⟩; rw [HT.out])
  have HB1 := Lib.hid hb1; clear hb1
  go_loopw [17] (fun i wr => ∃ k : Nat, k ≤ L.length ∧ i = .int .i64 k ∧ DeepRel w w1 wr L k (depRow L k)) (fun i _ => L.length - (intOf i).toNat)
  case atStart =>
    refine ⟨0, Nat.zero_le _, rfl, bel_alloc HB1.out _, ?_, HB1.out.size⟩
    rw [depRow_zero]
    exact Blk.new _ _ _
  case round =>
    obtain ⟨k, hk, rfl, hrel⟩ := hrel
    have HR := Lib.hid hrel; clear hrel
    by_cases hlt : k < L.length
    · obtain ⟨b, off, kd, tx, ka, kc, ks, pl, rfl, hnd, hb, c0, c1, c2, c3, hkids, hkl, hkc⟩ := H.out.node HR.out.old hlt
      have HN : Hid (ks = kidsOf L k) := by show ks = _; unfold kidsOf; rw [← hnd]
      clear hnd
      have HK := Lib.hid hkids; clear hkids
      have hg : w1.heap.size < wr.heap.size := HR.out.row.lt
      have HS : Hid (DeepRel w w1 (wr.alloc (.cells #[.int .i64 kd, .string tx, .slice ka ks.length kc, .int .i64 pl] 37)) L k ((depRow L k).set k (mostOf L ks 0))) := by
        refine ⟨bel_alloc HR.out.old _, ?_, HR.out.far⟩
        have : (depRow L k).set k (mostOf L ks 0) = depRow L k := by
          apply List.ext_getElem?
          intro i
          rw [List.getElem?_set]
          by_cases hi : k = i
          · subst hi
            have := depRow_get L k k hlt
            rw [if_neg (by omega), List.getD_eq_getElem?_getD] at this
            have hlen : k < (depRow L k).length := by rw [depRow_len]; exact hlt
            rw [List.getElem?_eq_getElem hlen] at this ⊢
            simp at this
            simp [hlen, this, mostOf]
          · simp [hi]
        rw [this]
        exact HR.out.row.alloc _
      go_wp2
      go_loopw [25] (fun j wj => ∃ m : Nat, m ≤ ks.length ∧ j = .int .i64 m ∧ DeepRel w w1 wj L k ((depRow L k).set k (mostOf L ks m))) (fun j _ => ks.length - (intOf j).toNat)
      case atStart => exact ⟨0, Nat.zero_le _, rfl, HS.out⟩
      case round =>
        obtain ⟨m, hm, rfl, hrel⟩ := hrel
        have HJ := Lib.hid hrel; clear hrel
        clear c0 c1 c2 c3 HS hb hg
        have hg : w1.heap.size < wr.heap.size := HJ.out.row.lt
        have hkk : k < ((depRow L k).set k (mostOf L ks m)).length := by rw [List.length_set, depRow_len]; exact hlt
        have hck : wr.cell? ⟨w1.heap.size, k, none⟩ = some (.int .i64 (mostOf L ks m)) := by
          rw [HJ.out.row.at_ 0 hkk, List.getD_eq_getElem?_getD, List.getElem?_set_self (by rw [depRow_len]; exact hlt)]; rfl
        have hfz := HJ.out.row.frozen k
        have mb : 0 ≤ mostOf L ks m ∧ mostOf L ks m ≤ k := by rw [HN.out]; exact mostOf_bounds HI.out hlt m
        obtain ⟨mb0, mb1⟩ := mb
        clear hkk
        by_cases hmt : m < ks.length
        · obtain ⟨b', off', rfl, hb', hcell⟩ := (HK.out.below HJ.out.old).at_ hmt
          obtain ⟨q, hq⟩ : ∃ q : Int, q = ks.getD m 0 := ⟨_, rfl⟩
          rw [← hq] at hcell
          have hq' : 0 ≤ q ∧ q < k := by
            have hmem : q ∈ ks := by rw [hq, List.getD_eq_getElem?_getD, List.getElem?_eq_getElem hmt]; exact List.getElem_mem hmt
            rw [HN.out] at hmem
            exact HI.out k hlt q hmem
          have HQ := Lib.hid hq; clear hq
          obtain ⟨q0, q1⟩ := hq'
          have hcq : wr.cell? ⟨w1.heap.size, q.toNat, none⟩ = some (.int .i64 (dep L q.toNat)) := by
            have hql : q.toNat < ((depRow L k).set k (mostOf L ks m)).length := by rw [List.length_set, depRow_len]; omega
            rw [HJ.out.row.at_ 0 hql, List.getD_eq_getElem?_getD, List.getElem?_set_ne (by omega), ← List.getD_eq_getElem?_getD, depRow_get L k _ (by omega), if_pos (by omega)]
          go_wp2
          go_region
          go_wp2
          go_roundw
          case rel =>
            refine ⟨m + 1, by omega, by go_num, ?_⟩
            have hs := HJ.out.row.set_ k (max (mostOf L ks m) (dep L q.toNat))
            have e : ((depRow L k).set k (mostOf L ks m)).set k (max (mostOf L ks m) (dep L q.toNat)) = (depRow L k).set k (mostOf L ks (m + 1)) := by rw [List.set_set, mostOf_succ L ks m hmt, ← HQ.out]
            rw [e] at hs
            exact ⟨(HJ.out.old.setCell HJ.out.far _).drew, hs.drew, HJ.out.far⟩
          case measure => simp [intOf]; omega
        · have hd : Hid (dep L k = mostOf L ks m + 1) := by
            show dep L k = _
            rw [dep_eq HI.out hlt, ← HN.out, mostOf, List.take_of_length_le (by omega)]
            omega
          go_wp2
          go_roundw
          case rel =>
            refine ⟨k + 1, by omega, by go_num, ?_⟩
            have hs := HJ.out.row.set_ k (mostOf L ks m + 1)
            have e : ((depRow L k).set k (mostOf L ks m)).set k (mostOf L ks m + 1) = depRow L (k + 1) := by rw [List.set_set, ← hd.out, depRow_set L k hlt]
            rw [e] at hs
            exact ⟨HJ.out.old.setCell HJ.out.far _, hs, HJ.out.far⟩
          case measure => simp [intOf]; omega
    · have hck : wr.cell? ⟨w1.heap.size, L.length - 1, none⟩ = some (.int .i64 (dep L (L.length - 1))) := by
        rw [HR.out.row.at_ 0 (by rw [depRow_len]; omega), depRow_get L k _ (by omega), if_pos (by omega)]
      have htn : ((L.length : Int) - 1).toNat = L.length - 1 := by omega
      have h0 : (0 : Int) ≤ (L.length : Int) - 1 := by omega
      go_wp2
      go_ret2
      exact ⟨rfl, HR.out.old⟩
end Go.Proofs.Ytlijfkallnomnaa
