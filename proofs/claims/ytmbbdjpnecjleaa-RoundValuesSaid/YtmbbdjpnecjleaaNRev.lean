/-
  slices.Clone of limbs, slices.Reverse of bytes.
-/
import Derived.Test.YtmbbdjpnecjleaaNShift2
import Derived.Laws.EntriesVeiled
namespace Go.Proofs.Ytmbbdjpnecjleaa
set_option maxRecDepth 100000
open Go.RowKit

/-- Numbers that read are a source for append. -/
theorem RdL.src {w : World} {A : Option Addr} {xs : List Nat} (h : RdL w A xs) : Rd w A (xs.length * 1) (fun k => (nums .u32 xs).getD k undef) := by
  rw [Nat.mul_one]
  exact Rd.congr h fun k hk => (nums_get .u32 xs hk).symm
theorem nums_one (K : IntKind) (xs : List Nat) : ∀ u ∈ nums K xs, u.oneCell' = true := by
  intro u hu
  obtain ⟨x, _, rfl⟩ := List.mem_map.1 hu
  rfl

def RetOwnL (xs : List Nat) (w : World) (e : Ending) (w' : World) : Prop :=
  ∃ A cap, e = .returned (.slice A xs.length cap) ∧ xs.length ≤ cap ∧ w'.ownsRow w.heap.size 80 1 (.slice A xs.length cap) xs.length (nums .u32 xs) ∧ Below w.heap.size w w'

set_option maxHeartbeats 400000 in
theorem clone_any (A : Option Addr) (cap : Nat) (xs : List Nat) (w : World) (hl : xs.length ≤ 1000) (h : RdL w A xs) :
    Calls Try.prog 88 #[.slice A xs.length cap] w (RetOwnL xs w) := by
  have H := Lib.hid h; clear h
  have he := fun W B n c => Lib.run_eql_slice_nil (P := Try.prog) W 23 80 B n c 0 0 (by kernel_rfl)
  cases A with
  | none =>
    have h0 : xs = [] := by
      rcases Nat.eq_zero_or_pos xs.length with h0 | h0
      · exact List.eq_nil_of_length_eq_zero h0
      · obtain ⟨_, _, e, _⟩ := H.out h0; cases e
    subst h0
    go_enter Try.func88, Try.ntmps88
    go_wp2
    go_ret
    exact ⟨none, 0, rfl, Nat.le_refl _, own_nil _ _ _ _, bel_refl _⟩
  | some a =>
    go_enter Try.func88, Try.ntmps88
    go_wp2_with (at_builtin; refine wpList_app _ rfl _ _ 23 rfl w.heap.size 80 (.int .u32 0) 1 4 (by kernel_rfl) info_u32 rfl (by decide) _ 0 [] rfl _ xs.length cap (nums .u32 xs) rfl ?c0 (nums_one _ _) ?own ?rd ?c1 ?c2 ?c3 ?_)
    case c0 => rw [nums_len, Nat.mul_one]
    case own => exact own_empty _ _ _ _ (Nat.le_refl _)
    case rd => exact RdL.src (RdL.below H.out (bel_alloc (bel_refl _) _))
    case c1 => unfold maxLen; omega
    case c2 => omega
    case c3 => simp
    intro v' w2 hown hgr hbel
    obtain ⟨A', cap', rfl, hc, _, _⟩ := own_rdL hown (by omega)
    have HO := Lib.hid hown; clear hown
    have HB := Lib.hid hbel; clear hbel
    clear hgr
    go_wp2
    go_ret
    refine ⟨A', cap', rfl, hc, ?_, (bel_alloc (bel_refl _) _).trans HB.out⟩
    simpa using HO.out

/-- k swaps from both ends. -/
structure RevRel (base : Nat) (w wr : World) (g n cap : Nat) (ds : List Nat) (k : Nat) (u : List Nat) : Prop where
  le : 2 * k ≤ n
  old : Below base w wr
  own : wr.ownsRow base 5 1 (.slice (some ⟨g, 0, none⟩) n cap) n (nums .u8 u)
  len : u.length = n
  get : ∀ j, j < n → u.getD j 0 = if j < k ∨ n - k ≤ j then ds.getD (n - 1 - j) 0 else ds.getD j 0

theorem RevRel.done {base : Nat} {w wr : World} {g n cap : Nat} {ds : List Nat} {k : Nat} {u : List Nat} (h : RevRel base w wr g n cap ds k u) (hd : ds.length = n) (hk : n ≤ 2 * k + 1) : u = ds.reverse := by
  apply List.ext_getElem?
  intro j
  by_cases hj : j < n
  · have hg := h.get j hj
    have hju : j < u.length := by rw [h.len]; exact hj
    have hjr : j < ds.reverse.length := by rw [List.length_reverse, hd]; exact hj
    have hjd : n - 1 - j < ds.length := by omega
    rw [List.getElem?_eq_getElem hju, List.getElem?_eq_getElem hjr, List.getElem_reverse]
    congr 1
    have e1 : u.getD j 0 = u[j] := by rw [List.getD_eq_getElem?_getD, List.getElem?_eq_getElem hju]; rfl
    have e2 : ds.getD (n - 1 - j) 0 = ds[ds.length - 1 - j] := by
      rw [List.getD_eq_getElem?_getD, List.getElem?_eq_getElem hjd]
      simp [hd]
    rw [← e1, hg, ← e2]
    by_cases hc : j < k ∨ n - k ≤ j
    · rw [if_pos hc]
    · rw [if_neg hc]
      congr 1
      omega
  · rw [List.getElem?_eq_none (by rw [h.len]; omega), List.getElem?_eq_none (by rw [List.length_reverse, hd]; omega)]

theorem getD_set_at {u : List Nat} {j : Nat} (v : Nat) (h : j < u.length) : (u.set j v).getD j 0 = v := by
  rw [List.getD_eq_getElem?_getD, List.getElem?_set_self h]
  rfl
theorem RevRel.step {base : Nat} {w wr w' : World} {g n cap : Nat} {ds : List Nat} {k : Nat} {u : List Nat} (h : RevRel base w wr g n cap ds k u) (hk : 2 * k + 1 < n) (hold : Below base w w')
    (hown : w'.ownsRow base 5 1 (.slice (some ⟨g, 0, none⟩) n cap) n (nums .u8 ((u.set k (u.getD (n - 1 - k) 0)).set (n - 1 - k) (u.getD k 0)))) :
    RevRel base w w' g n cap ds (k + 1) ((u.set k (u.getD (n - 1 - k) 0)).set (n - 1 - k) (u.getD k 0)) := by
  have hl := h.len
  refine ⟨by omega, hold, hown, by simp [hl], fun j hj => ?_⟩
  by_cases h1 : j = n - 1 - k
  · subst h1
    rw [getD_set_at _ (by rw [List.length_set]; omega), if_pos (by omega), h.get k (by omega), if_neg (by omega)]
    congr 1
    omega
  · rw [getD_set_far _ (fun e => h1 e.symm)]
    by_cases h2 : j = k
    · subst h2
      rw [getD_set_at _ (by omega), if_pos (by omega), h.get _ (by omega), if_neg (by omega)]
    · rw [getD_set_far _ (fun e => h2 e.symm), h.get j hj]
      by_cases h3 : j < k ∨ n - k ≤ j
      · rw [if_pos h3, if_pos (by omega)]
      · rw [if_neg h3, if_neg (by omega)]

def RetRev (base g n cap : Nat) (ds : List Nat) (w : World) (e : Ending) (w' : World) : Prop :=
  e = .returned (.tuple #[]) ∧ w'.ownsRow base 5 1 (.slice (some ⟨g, 0, none⟩) n cap) n (nums .u8 ds.reverse) ∧ Below base w w'

set_option maxRecDepth 100000 in
set_option maxHeartbeats 1000000 in
theorem reverse_any (base g n cap : Nat) (ds : List Nat) (w : World) (hn : n ≤ 1000000) (hd : ds.length = n)
    (h : w.ownsRow base 5 1 (.slice (some ⟨g, 0, none⟩) n cap) n (nums .u8 ds)) :
    Calls Try.prog 90 #[.slice (some ⟨g, 0, none⟩) n cap] w (RetRev base g n cap ds w) := by
  have H := Lib.hid h; clear h
  have HD := Lib.hid hd; clear hd
  go_enter Try.func90, Try.ntmps90
  go_wp2
  go_loopw [2, 3] (fun i j wr => ∃ (k : Nat) (u : List Nat), i = .int .i64 (k : Int) ∧ j = .int .i64 ((n : Int) - 1 - k) ∧ RevRel base w wr g n cap ds k u) (fun i _ _ => n - 2 * (intOf i).toNat)
  case atStart =>
    refine ⟨0, ds, rfl, by simp, by omega, Below.refl _ _, H.out, HD.out, fun j hj => ?_⟩
    rw [if_neg (by omega)]
  case round =>
    obtain ⟨k, u, rfl, rfl, hrel⟩ := hrel
    have HR := Lib.hid hrel; clear hrel
    have hle := HR.out.le
    by_cases hlt : 2 * k + 1 < n
    · obtain ⟨j, hj⟩ : ∃ j, j = n - 1 - k := ⟨_, rfl⟩
      have hjz : (n : Int) - 1 - k = (j : Int) := by omega
      rw [hjz]
      obtain ⟨c1, f1, b1, b2⟩ := own_at HR.out.own (k := k) (by omega)
      obtain ⟨c2, f2, _, _⟩ := own_at HR.out.own (k := j) (by omega)
      rw [nums_get _ _ (by rw [HR.out.len]; omega)] at c1 c2
      obtain ⟨x, hx⟩ : ∃ x, x = u.getD k 0 := ⟨_, rfl⟩
      obtain ⟨y, hy⟩ : ∃ y, y = u.getD j 0 := ⟨_, rfl⟩
      rw [← hx] at c1
      rw [← hy] at c2
      have g1 : (k : Int) < (j : Int) := by omega
      have g2 : (j : Int) < (n : Int) := by omega
      have g3 : (k : Int) < (n : Int) := by omega
      have hkj : k ≠ j := by omega
      have HS := Lib.hid (And.intro hj (And.intro hx hy)); clear hj hx hy
      go_wp2
      go_region
      go_wp2
      go_roundw
      case rel =>
        obtain ⟨hj, hx, hy⟩ := HS.out
        subst hx hy
        subst hj
        refine ⟨k + 1, _, by go_num, by go_num, HR.out.step hlt ((HR.out.old.setCell b1 _).setCell b1 _).drew ?_⟩
        have h1 := own_put (own_put HR.out.own k (.int .u8 (u.getD (n - 1 - k) 0 : Nat))) (n - 1 - k) (.int .u8 (u.getD k 0 : Nat))
        rw [nums_set, nums_set] at h1
        exact own_below h1 (Below.refl _ _).drew
      case measure => simp [intOf]; omega
    · have hdone := HR.out.done HD.out (by omega)
      go_wp2
      go_end0
      refine ⟨rfl, ?_, HR.out.old⟩
      rw [← hdone]
      exact HR.out.own
end Go.Proofs.Ytmbbdjpnecjleaa
