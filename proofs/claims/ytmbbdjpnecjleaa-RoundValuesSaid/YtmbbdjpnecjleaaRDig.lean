/-
  Texts of digits: what they are worth; the reference's at, trim, reversed.
-/
import Derived.Test.YtmbbdjpnecjleaaNParse
namespace Go.Proofs.Ytmbbdjpnecjleaa
set_option maxRecDepth 100000
open Go.RowKit

theorem bytesOf_get (cs : List Nat) (hc : ∀ c ∈ cs, c < 256) {j : Nat} (hj : j < (bytesOf cs).size) : ((bytesOf cs)[j]'hj).toNat = cs.getD j 0 := by
  have hj2 : j < cs.length := by rwa [bytesOf_size] at hj
  show ((cs.map UInt8.ofNat).toArray[j]'(by simpa using hj2)).toNat = _
  rw [List.getD_eq_getElem?_getD, List.getElem?_eq_getElem hj2]
  simp
  exact hc _ (List.getElem_mem hj2)
theorem chrs_len (ds : List Nat) : (chrs ds).length = ds.length := by simp [chrs]
theorem chrs_lt {ds : List Nat} (h : ∀ d ∈ ds, d < 10) : ∀ c ∈ chrs ds, c < 256 := by
  intro c hc
  obtain ⟨d, hd, rfl⟩ := List.mem_map.1 hc
  have := h d hd
  omega
theorem chrs_get (ds : List Nat) {j : Nat} (h : j < ds.length) : (chrs ds).getD j 0 = 48 + ds.getD j 0 := by
  simp [chrs, h]
theorem dec_size (n : Nat) : (dec n).size = (decL n).length := by unfold dec; rw [bytesOf_size, chrs_len]

/-- The number of digits, the highest first. -/
def bval (ds : List Nat) : Nat := val 10 ds.reverse
theorem bval_decL (n : Nat) : bval (decL n) = n := by
  unfold bval
  by_cases h : n = 0
  · subst h; rfl
  · rw [decL_pos h, List.reverse_reverse, val_digs (by decide)]
theorem bval_zero_cons (ds : List Nat) : bval (0 :: ds) = bval ds := by
  unfold bval
  rw [List.reverse_cons, val_snoc]
  simp
theorem bval_snoc (ds : List Nat) (d : Nat) : bval (ds ++ [d]) = d + 10 * bval ds := by
  unfold bval
  rw [List.reverse_append]
  rfl
theorem decL_bval {ds : List Nat} (hd : ∀ d ∈ ds, d < 10) (h0 : 0 < ds.length) (h : ds.length = 1 ∨ ds.getD 0 0 ≠ 0) : decL (bval ds) = ds := by
  by_cases hz : bval ds = 0
  · have h1 : ds.length = 1 ∧ ds.getD 0 0 = 0 := by
      match ds, h0 with
      | d :: r, _ =>
        unfold bval at hz
        rw [List.reverse_cons, val_snoc] at hz
        have hd0 : d = 0 := by
          rcases Nat.mul_eq_zero.1 (show 10 ^ r.reverse.length * d = 0 by omega) with h | h
          · exact absurd h (Nat.ne_of_gt (Nat.pow_pos (by decide)))
          · exact h
        subst hd0
        rcases h with h | h
        · exact ⟨h, rfl⟩
        · simp at h
    match ds, h1 with
    | [d], ⟨_, h2⟩ =>
      have : d = 0 := by simpa using h2
      subst this
      rfl
  · rw [decL_pos hz]
    unfold bval
    rw [digs_val (by decide) ds.reverse (fun x hx => hd x (List.mem_reverse.1 hx))]
    · exact List.reverse_reverse ds
    · intro hne
      rw [List.getLast_reverse]
      match ds, h0 with
      | d :: r, _ =>
        rcases h with h | h
        · have hr : r = [] := List.eq_nil_of_length_eq_zero (by simpa using h)
          subst hr
          intro e
          have : d = 0 := by simpa using e
          subst this
          exact hz rfl
        · simpa using h

/-- A text. -/
def RetS (s : ByteArray) (w : World) (e : Ending) (w' : World) : Prop := e = .returned (.string s) ∧ Below w.heap.size w w'
def RetSD (s : ByteArray) (w : World) (e : Ending) (w' : World) : Prop := e = .returned (.string s) ∧ ∃ n, w' = w.drewN n

theorem bytesOf_drop (cs : List Nat) : (bytesOf cs).extract 1 (bytesOf cs).size = bytesOf (cs.drop 1) := by
  apply ByteArray.ext
  rw [ByteArray.data_extract]
  apply Array.ext'
  rw [Array.toList_extract]
  have : (bytesOf cs).size = cs.length := bytesOf_size cs
  rw [this]
  simp [bytesOf, List.extract]
  rw [List.take_of_length_le (by simp)]

theorem trim_val {ds : List Nat} : ∀ k, k ≤ ds.length → (∀ j, j < k → ds.getD j 0 = 0) → bval (ds.drop k) = bval ds
  | 0, _, _ => rfl
  | k + 1, hk, h => by
    have ih := trim_val k (by omega) (fun j hj => h j (by omega))
    rw [← ih, List.drop_eq_getElem_cons (by omega : k < ds.length)]
    have e : ds[k] = 0 := by
      have := h k (by omega)
      rwa [List.getD_eq_getElem?_getD, List.getElem?_eq_getElem (by omega)] at this
    rw [e, bval_zero_cons]

set_option maxRecDepth 100000 in
set_option maxHeartbeats 1000000 in
theorem refTrim_any (ds : List Nat) (w : World) (hd : ∀ d ∈ ds, d < 10) (h0 : 0 < ds.length) :
    Calls Try.prog 73 #[.string (bytesOf (chrs ds))] w (RetSD (dec (bval ds)) w) := by
  have HD := Lib.hid hd; clear hd
  go_enter Try.func73, Try.ntmps73
  go_wp2
  go_loopw [0] (fun v wr => ∃ k : Nat, k < ds.length ∧ v = .string (bytesOf (chrs (ds.drop k))) ∧ (∀ j, j < k → ds.getD j 0 = 0) ∧ ∃ n, wr = w.drewN n) (fun v _ => match v with | .string s => s.size | _ => 0)
  case atStart => exact ⟨0, h0, rfl, fun j hj => absurd hj (Nat.not_lt_zero _), 0, rfl⟩
  case round =>
    obtain ⟨k, hk, rfl, hz, n, rfl⟩ := hrel
    have HZ := Lib.hid hz; clear hz
    have hlen : (bytesOf (chrs (ds.drop k))).size = ds.length - k := by rw [bytesOf_size, chrs_len, List.length_drop]
    obtain ⟨s, hs⟩ : ∃ s, s = bytesOf (chrs (ds.drop k)) := ⟨_, rfl⟩
    have hv : Hid (s = dec (bval ds) ∨ ¬ (ds.length - k = 1 ∨ ds.getD k 0 ≠ 0)) := by
      by_cases he : ds.length - k = 1 ∨ ds.getD k 0 ≠ 0
      · left
        rw [hs]
        have e1 := trim_val k (Nat.le_of_lt hk) HZ.out
        have e2 := decL_bval (ds := ds.drop k) (fun d hd => HD.out d (List.mem_of_mem_drop hd)) (by rw [List.length_drop]; omega) (by rw [List.length_drop]; simpa using he)
        unfold dec
        rw [← e1, e2]
      · exact .inr he
    have hb : ∀ h : 0 < s.size, (s[0]'h).toNat = 48 + ds.getD k 0 := fun h => by
      subst hs
      rw [bytesOf_get _ (chrs_lt (fun d hd => HD.out d (List.mem_of_mem_drop hd)))]
      rw [chrs_get _ (by rw [List.length_drop]; omega)]
      simp
    have hdrop := bytesOf_drop (chrs (ds.drop k))
    have hdd : (chrs (ds.drop k)).drop 1 = chrs (ds.drop (k + 1)) := by simp [chrs, List.map_drop]
    rw [hdd] at hdrop
    rw [← hs] at hlen hdrop ⊢
    have HS := Lib.hid (And.intro hs hdrop); clear hs hdrop hdd
    have hpos : 0 < s.size := by omega
    have hb0 := hb hpos
    clear hb
    have hpos' : (0 : Int) < (s.size : Int) := by omega
    obtain ⟨d, hde⟩ : ∃ d, d = ds.getD k 0 := ⟨_, rfl⟩
    rw [← hde] at hb0 hv
    have HDE := Lib.hid hde; clear hde
    by_cases h1 : ds.length - k = 1
    · have g1 : ¬ (1 : Int) < (s.size : Int) := by omega
      have HV := Lib.hid (show s = dec (bval ds) by rcases hv.out with h | h; exact h; exact absurd (.inl h1) h)
      clear hv
      go_wp2
      go_ret
      exact ⟨by rw [← HV.out]; rfl, n, rfl⟩
    · have g1 : (1 : Int) < (s.size : Int) := by omega
      by_cases h2 : d = 0
      · have g2 : (s[0]'hpos).toNat = 48 := by rw [hb0, h2]
        clear hb0 hv
        go_wp2
        go_roundw
        case rel =>
          have hx := HS.out.2
          rw [hlen] at hx
          refine ⟨k + 1, by omega, by rw [hx], fun j hj => ?_, n, rfl⟩
          by_cases hjk : j = k
          · rw [hjk, ← HDE.out, h2]
          · exact HZ.out j (by omega)
        case measure =>
          dsimp only
          rw [ByteArray.size_extract]
          omega
      · have HV := Lib.hid (show s = dec (bval ds) by rcases hv.out with h | h; exact h; exact absurd (.inr h2) h)
        clear hv
        have g2 : (((s[0]'hpos).toNat : Int) == 48) = false := by rw [hb0]; exact beq_eq_false_iff_ne.2 (by omega)
        clear hb0
        go_wp2
        go_ret
        exact ⟨by rw [← HV.out]; rfl, n, rfl⟩

set_option maxHeartbeats 400000 in
theorem refAt_any (n i : Nat) (w : World) (hl : (decL n).length ≤ 100000) :
    Calls Try.prog 86 #[.string (dec n), .int .i64 i] w (RetI ((n / 10 ^ i % 10 : Nat) : Int) w) := by
  have hsz := dec_size n
  by_cases hi : i < (decL n).length
  · obtain ⟨s, hs⟩ : ∃ s, s = dec n := ⟨_, rfl⟩
    obtain ⟨j, hj⟩ : ∃ j, j = (decL n).length - 1 - i := ⟨_, rfl⟩
    rw [← hs] at hsz ⊢
    have hjs : j < s.size := by omega
    obtain ⟨d, hd⟩ : ∃ d, d = n / 10 ^ i % 10 := ⟨_, rfl⟩
    have hb : (s[j]'hjs).toNat = 48 + d := by
      subst hs
      exact (bytesOf_get (chrs (decL n)) (chrs_lt (decL_lt n)) hjs).trans (by rw [chrs_get _ (by omega), hj, decL_get n i hi, hd])
    have hd10 : d < 10 := by omega
    rw [← hd]
    obtain ⟨L, hL⟩ : ∃ L, L = (decL n).length := ⟨_, rfl⟩
    rw [← hL] at hsz hi hj hl
    have g1 : ¬ (L : Int) ≤ (i : Int) := by omega
    have g2 : (L : Int) - 1 - (i : Int) = (j : Int) := by omega
    have g3 : (j : Int) < (s.size : Int) := by omega
    have g4 : IntKind.i64.wrap ((L : Int) - 1 - (i : Int)) = (j : Int) := by rw [IntKind.wrap_i64]; omega
    have g5 : IntKind.u8.wrap (((s[j]'hjs).toNat : Int) - 48) = (d : Int) := by rw [hb, IntKind.wrap_u8']; omega
    have HS := Lib.hid (And.intro hs (And.intro hd (And.intro hL (And.intro hb hj)))); clear hs hd hL hb hj
    go_enter Try.func86, Try.ntmps86
    go_wp2
    go_ret
    exact ⟨rfl, rfl⟩
  · have e : n / 10 ^ i = 0 := decL_out n i (by omega)
    rw [e]
    have g1 : ((dec n).size : Int) ≤ (i : Int) := by omega
    go_enter Try.func86, Try.ntmps86
    go_wp2
    go_ret
    exact ⟨rfl, rfl⟩

/-- Bytes that the call has laid so far. -/
structure OutB (w wr : World) (v : Value) (cs : List Nat) : Prop where
  old : Below w.heap.size w wr
  own : wr.ownsRow w.heap.size 5 1 v cs.length (nums .u8 cs)
theorem OutB.more {w wr w' : World} {v v' : Value} {cs : List Nat} {x : Nat} (h : OutB w wr v cs) (hb : Below w.heap.size wr w') (ho : w'.ownsRow w.heap.size 5 1 v' (cs.length + 1) (nums .u8 cs ++ [.int .u8 (x : Int)])) : OutB w w' v' (cs ++ [x]) := by
  refine ⟨h.old.trans hb, ?_⟩
  rw [nums_app] at ho
  rw [List.length_append]
  exact ho
theorem OutB.read {w wr : World} {v : Value} {cs : List Nat} (h : OutB w wr v cs) : ∃ A cap, v = .slice A cs.length cap ∧ Rd wr A cs.length (fun k => .int .u8 (cs.getD k 0 : Nat)) := by
  obtain ⟨A, cap, hv, _, _, hr⟩ := own_read h.own (by rw [nums_len]; omega)
  refine ⟨A, cap, hv, Rd.congr (by rw [Nat.mul_one] at hr; exact hr) fun k hk => nums_get .u8 cs hk⟩

set_option maxRecDepth 100000 in
set_option maxHeartbeats 1000000 in
theorem reversed_any (A : Option Addr) (cap : Nat) (cs : List Nat) (w : World) (hr : Rd w A cs.length (fun k => .int .u8 (cs.getD k 0 : Nat))) (h0 : 0 < cs.length) (hl : cs.length ≤ 100000) :
    Calls Try.prog 87 #[.slice A cs.length cap] w (RetS (bytesOf cs.reverse) w) := by
  have H := Lib.hid hr; clear hr
  go_enter Try.func87, Try.ntmps87
  go_wp2
  go_loopw [3, 4] (fun v i wr => ∃ k : Nat, i = .int .i64 ((k : Int) - 1) ∧ k ≤ cs.length ∧ OutB w wr v (cs.drop k).reverse) (fun _ i _ => (intOf i + 1).toNat)
  case atStart => exact ⟨cs.length, by go_num, Nat.le_refl _, bel_alloc (bel_refl _) _, by rw [List.drop_length]; exact own_empty _ _ _ _ (Nat.le_refl _)⟩
  case round =>
    obtain ⟨k, rfl, hk, hrel⟩ := hrel
    have HA := Lib.hid hrel; clear hrel
    by_cases hk0 : k = 0
    · subst hk0
      have ho := HA.out.own
      rw [List.drop_zero] at ho
      obtain ⟨A9, c9, hv, hr9⟩ := HA.out.read
      rw [List.drop_zero] at hr9 hv
      subst hv
      have hconv : (convert 100 9 (.slice A9 cs.reverse.length c9)).run Try.prog wr = .ok (.string (bytesOf cs.reverse)) wr :=
        run_str wr 100 9 5 A9 c9 cs.reverse (by rw [List.length_reverse]; exact h0) Try.underlying100 Try.underlying5 Try.underlying9 hr9
      rw [List.length_reverse] at hconv ⊢
      have HO := Lib.hid HA.out.old
      clear ho hr9
      go_wp2
      go_ret
      exact ⟨rfl, HO.out⟩
    · obtain ⟨j, rfl⟩ : ∃ j, k = j + 1 := ⟨k - 1, by omega⟩
      have hj : ((j + 1 : Nat) : Int) - 1 = (j : Int) := by omega
      rw [hj]
      have hjl : j < cs.length := by omega
      have hjl' : (j : Int) < (cs.length : Int) := by omega
      obtain ⟨g, off, rfl, hg, hc⟩ := Rd.below H.out HA.out.old (by omega)
      have hcell : wr.cell? ⟨g, off + j, none⟩ = some (.int .u8 ((cs.getD j 0 : Nat) : Int)) := hc j hjl
      clear hc
      obtain ⟨x, hx⟩ : ∃ x, x = cs.getD j 0 := ⟨_, rfl⟩
      rw [← hx] at hcell
      have hsucc : Hid ((cs.drop j).reverse = (cs.drop (j + 1)).reverse ++ [x]) := by
        show _ = _
        rw [List.drop_eq_getElem_cons hjl, List.reverse_cons, hx, List.getD_eq_getElem?_getD, List.getElem?_eq_getElem hjl]
        rfl
      have HX := Lib.hid hx; clear hx
      obtain ⟨out, hout⟩ : ∃ out, out = (cs.drop (j + 1)).reverse := ⟨_, rfl⟩
      have hol : out.length ≤ 100000 := by rw [hout, List.length_reverse, List.length_drop]; omega
      rw [← hout] at HA hsucc
      have HOU := Lib.hid hout; clear hout
      go_wp2_with (at_builtin; refine wpList_push _ rfl _ _ 100 rfl w.heap.size 5 (.int .u8 0) 1 (by kernel_rfl) info_u8 rfl _ out.length (nums .u8 out) rfl (.int .u8 (x : Int)) rfl rfl ?_ ?_ ?_ ?_ ?_; exact HA.out.own; (unfold maxLen; omega); omega; exact HA.out.old.size; intro v' w2 hown hbel; have HO := Lib.hid (And.intro hown hbel); clear hown hbel)
      go_roundw
      case rel => exact ⟨j, by go_num, by omega, by rw [hsucc.out]; exact HA.out.more HO.out.2 HO.out.1⟩
      case measure => simp [intOf]
end Go.Proofs.Ytmbbdjpnecjleaa
