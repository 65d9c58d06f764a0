/-
  The law's 'few': at most 120 nodes, texts of at most 40 bytes, at most 60 kids.
-/
import Derived.Test.YtlijfkallnomnaaNodeOwn
namespace Go.Proofs.Ytlijfkallnomnaa
open Go.RowKit

def fewNd (nd : Nd) : Nd := ⟨nd.kind, nd.text.extract 0 (min nd.text.size 40), nd.ka, nd.kc, nd.kids.take 60, nd.at_⟩
def fewL (L : List Nd) : List Nd := (L.take 120).map fewNd

theorem fewL_len (L : List Nd) : (fewL L).length = min L.length 120 := by simp [fewL]; omega
theorem fewL_get {L : List Nd} {k : Nat} (h : k < L.length) (h' : k < 120) : (fewL L)[k]? = some (fewNd (L.getD k default)) := by
  simp [fewL, h, h']
theorem fewL_take {L : List Nd} {k : Nat} (h : k < L.length) (h' : k < 120) : ((fewL L).take (k + 1)).flatMap Nd.cells = ((fewL L).take k).flatMap Nd.cells ++ (fewNd (L.getD k default)).cells := by
  have hk : k < (fewL L).length := by rw [fewL_len]; omega
  have := fewL_get h h'
  rw [List.getElem?_eq_getElem hk] at this
  rw [List.take_succ_eq_append_getElem hk, List.flatMap_append, Option.some.inj this]
  simp
theorem fewNd_kids {w w' : World} {A : Option Addr} {L : List Nd} (h : NdsRb maxLen w A L) (hb : Below w.heap.size w w') : ∀ nd, nd ∈ fewL L → RdI w' nd.ka .i64 nd.kids ∧ nd.kids.length ≤ nd.kc ∧ nd.kids.length ≤ 140737488355328 := by
  intro nd hnd
  simp only [fewL, List.mem_map] at hnd
  obtain ⟨x, hx, rfl⟩ := hnd
  obtain ⟨h1, h2, h3⟩ := h.kids x (List.mem_of_mem_take hx)
  exact ⟨(h1.below hb).take 60, by simp [fewNd]; omega, by simp [fewNd]; omega⟩

structure FewRel (w wr : World) (L : List Nd) (v : Value) (k : Nat) : Prop where
  old : Below w.heap.size w wr
  own : wr.ownsRow w.heap.size 37 4 v k (((fewL L).take k).flatMap Nd.cells)

set_option maxRecDepth 100000 in
set_option maxHeartbeats 1000000 in
theorem few_any (A : Option Addr) (cap : Nat) (L : List Nd) (w : World) (h : NdsRb maxLen w A L) (hcap : L.length ≤ cap) :
    Calls Try.prog 6 #[.slice A L.length cap] w (RetNds (fewL L) w) := by
  have hl := h.len
  unfold maxLen at hl
  have H := Lib.hid h; clear h
  obtain ⟨i0, hi, hz0, hz1, hz2⟩ := info_parts info_node
  obtain ⟨n, hn⟩ : ∃ n, n = min L.length 120 := ⟨_, rfl⟩
  have hmin : ∀ W, (Builtin.min_ #[3, 3] 3 #[.int .i64 (L.length : Int), .int .i64 120]).run Try.prog W = .ok (.int .i64 (n : Int)) W := fun W => by
    rw [run_min_int2, hn]
    congr 2
    omega
  have hcut := fun W => run_cut_to (P := Try.prog) 22 37 i0 (by kernel_rfl) hi A L.length cap n (by omega) W
  have hn1 : n ≤ L.length := by omega
  have hn2 : n ≤ 120 := by omega
  have HN := Lib.hid hn; clear hn
  go_enter Try.func6, Try.ntmps6
  go_wp2
  go_loopw [3, 12] (fun v i wr => ∃ k : Nat, k ≤ n ∧ i = .int .i64 k ∧ FewRel w wr L v k) (fun _ i _ => n - (intOf i).toNat)
  case atStart => exact ⟨0, Nat.zero_le _, rfl, bel_refl _, by simpa using own_nil _ _ _ _⟩
  case round =>
    obtain ⟨k, hk, rfl, hrel⟩ := hrel
    have HR := Lib.hid hrel; clear hrel
    by_cases hlt : k < n
    · obtain ⟨b, off, kd, tx, ka, kc, ks, pl, rfl, hnd, hb, c0, c1, c2, c3, hkids, hkl, hkc⟩ := H.out.node HR.out.old (Nat.lt_of_lt_of_le hlt hn1)
      have HN := Lib.hid hnd; clear hnd
      have HK := Lib.hid hkids; clear hkids
      obtain ⟨tn, htn⟩ : ∃ tn, tn = min tx.size 40 := ⟨_, rfl⟩
      have hmin1 : ∀ W, (Builtin.min_ #[3, 3] 3 #[.int .i64 (tx.size : Int), .int .i64 40]).run Try.prog W = .ok (.int .i64 (tn : Int)) W := fun W => by
        rw [run_min_int2, htn]
        congr 2
        omega
      obtain ⟨kn, hkn⟩ : ∃ kn, kn = min ks.length 60 := ⟨_, rfl⟩
      have hmin2 : ∀ W, (Builtin.min_ #[3, 3] 3 #[.int .i64 (ks.length : Int), .int .i64 60]).run Try.prog W = .ok (.int .i64 (kn : Int)) W := fun W => by
        rw [run_min_int2, hkn]
        congr 2
        omega
      obtain ⟨i1, hi1, _, _, _⟩ := info_parts info_int
      have hcut2 := fun W => run_cut_to (P := Try.prog) 35 3 i1 (by kernel_rfl) hi1 ka ks.length kc kn (by omega) W
      have ht1 : tn ≤ tx.size := by omega
      have hk1 : kn ≤ ks.length := by omega
      have HT := Lib.hid htn; clear htn
      have HKN := Lib.hid hkn; clear hkn
      clear hi1
      go_wp2
      go_region
      go_wp2_with (at_builtin; refine wpList_app _ rfl _ _ 22 rfl w.heap.size 37 (.agg #[.int .i64 0, .string ByteArray.empty, .slice none 0 0, .int .i64 0]) 4 56 (by kernel_rfl) info_node rfl (by decide) _ k (((fewL L).take k).flatMap Nd.cells) rfl _ 1 1 [.int .i64 kd, .string (tx.extract 0 tn), .slice ka kn kc, .int .i64 pl] rfl rfl (nd_one _ _ _ _ _ _) ?own ?rd ?c1 ?c2 ?c3 ?_)
      case own => exact own_below HR.out.own ((bel_alloc (bel_alloc (bel_refl _) _) _).drew)
      case rd => exact Rd.newAt (wr.alloc _) _ _ _ _ (by simp) (by simp)
      case c1 => unfold maxLen; omega
      case c2 => omega
      case c3 => have := HR.out.old.size; simp; omega
      intro v' w2 hown hgr hbel
      have R : Hid (FewRel w w2 L v' (k + 1)) := by
        refine ⟨((bel_alloc (bel_alloc HR.out.old _) _).drew).trans hbel, ?_⟩
        rw [fewL_take (by omega) (by omega), ← HN.out]
        have hkk : (List.take 60 ks).length = kn := by rw [HKN.out]; simp; omega
        have he : (fewNd ⟨kd, tx, ka, kc, ks, pl⟩).cells = [.int .i64 kd, .string (tx.extract 0 tn), .slice ka kn kc, .int .i64 pl] := by
          simp only [fewNd, Nd.cells, hkk, ← HT.out]
        rw [he]
        exact hown
      clear hown hgr hbel
      go_wp2
      go_roundw
      case rel => exact ⟨k + 1, by omega, by go_num, R.out⟩
      case measure => simp [intOf]; omega
    · have hk : k = n := by omega
      have HK := Lib.hid hk; clear hk
      go_wp2
      have ho := HR.out.own
      have hnl : n = (fewL L).length := by rw [fewL_len, HN.out]
      have hkl : k = (fewL L).length := by rw [HK.out, hnl]
      rw [List.take_of_length_le (by omega)] at ho
      obtain ⟨A', cap', hv, hc, hn⟩ := own_nds ho hkl (by rw [fewL_len]; omega) (fewNd_kids H.out HR.out.old)
      go_ret
      exact ⟨A', cap', congrArg Ending.returned hv, hc, hn, HR.out.old⟩
end Go.Proofs.Ytlijfkallnomnaa
