/-
  Text, walked.
-/
import Derived.Test.YtmbbdjpnecjleaaDec
namespace Go.Proofs.Ytmbbdjpnecjleaa
set_option maxRecDepth 100000
open Go.RowKit

/-- A block whose first cells are these limbs. -/
def Row (w : World) (g : Nat) (xs : List Nat) : Prop := ∃ cs, Blk w g 80 cs ∧ ∀ j, j < xs.length → cs[j]? = some (limbV (xs.getD j 0))
theorem Row.below {w w' : World} {g B : Nat} {xs : List Nat} (h : Row w g xs) (hb : Below B w w') (hg : g < B) : Row w' g xs := by
  obtain ⟨cs, h1, h2⟩ := h
  exact ⟨cs, h1.below hb hg, h2⟩
theorem Row.at_ {w : World} {g : Nat} {xs : List Nat} (h : Row w g xs) {j : Nat} (hj : j < xs.length) : w.cell? ⟨g, j, none⟩ = some (limbV (xs.getD j 0)) := by
  obtain ⟨cs, h1, h2⟩ := h
  rw [h1.cell, h2 j hj]
theorem Row.frozen {w : World} {g : Nat} {xs : List Nat} (h : Row w g xs) (j : Nat) : w.frozen? ⟨g, j, none⟩ = false := by
  obtain ⟨cs, h1, _⟩ := h
  exact h1.frozen j
theorem Row.lt {w : World} {g : Nat} {xs : List Nat} (h : Row w g xs) : g < w.heap.size := by
  obtain ⟨cs, h1, _⟩ := h
  exact h1.lt
theorem Row.set_ {w : World} {g : Nat} {xs : List Nat} (h : Row w g xs) (j v : Nat) : Row (w.setCell ⟨g, j, none⟩ (limbV v)) g (xs.set j v) := by
  obtain ⟨cs, h1, h2⟩ := h
  refine ⟨_, h1.put j (limbV v), fun k hk => ?_⟩
  rw [List.length_set] at hk
  rw [Array.getElem?_setIfInBounds]
  by_cases e : j = k
  · subst e
    have hlt : j < cs.size := (Array.getElem?_eq_some_iff.1 (h2 j hk)).1
    rw [if_pos rfl, if_pos hlt, getD_set_at v hk]
  · rw [if_neg e, getD_set_far v e, h2 k hk]
theorem Row.take {w : World} {g : Nat} {xs : List Nat} (h : Row w g xs) (m : Nat) : Row w g (xs.take m) := by
  obtain ⟨cs, h1, h2⟩ := h
  refine ⟨cs, h1, fun j hj => ?_⟩
  rw [List.length_take] at hj
  rw [h2 j (by omega)]
  have : j < m := by omega
  simp [this]
theorem Row.rd {w : World} {g : Nat} {xs : List Nat} (h : Row w g xs) : RdL w (some ⟨g, 0, none⟩) xs := fun _ =>
  ⟨g, 0, rfl, h.lt, fun k hk => by rw [Nat.zero_add, h.at_ hk]; rfl⟩
theorem Row.own {w : World} {base g cap : Nat} {xs : List Nat} (h : w.ownsRow base 80 1 (.slice (some ⟨g, 0, none⟩) xs.length cap) xs.length (nums .u32 xs)) : Row w g xs := by
  rcases h.2 with ⟨h0, _⟩ | ⟨g', cap', cur, hv, hb, hh, _⟩
  · cases h0
  · injection hv with hA
    injection hA with hA
    injection hA with hA
    subst hA
    refine ⟨cur, hh, fun j hj => ?_⟩
    have := (own_at h hj).1
    rw [cell_of_row w g j cur _ (0, 0) hh, nums_get _ _ hj] at this
    exact this
/-- A store elsewhere. -/
theorem own_far {w : World} {base n size : Nat} {e : TypeId} {v : Value} {xs : List Value} (h : w.ownsRow base e size v n xs) {p : Addr} (hp : p.block < base) (u : Value) : (w.setCell p u).ownsRow base e size v n xs := by
  refine ⟨h.1, ?_⟩
  rcases h.2 with h0 | ⟨g, cap, cur, hv, hb, hh, hr⟩
  · exact .inl h0
  · exact .inr ⟨g, cap, cur, hv, hb, by rw [Below.heap_setCell w p u g (by omega)]; exact hh, hr⟩

/-- The rest to be written, and the text so far. -/
structure TextRel (w W2 wr : World) (n : Nat) (a out : Value) (k : Nat) (ds : List Nat) : Prop where
  old : Below w.heap.size w wr
  sz : W2.heap.size ≤ wr.heap.size
  num : ∃ A cap, a = .slice A (limbs k).length cap ∧ (limbs k).length ≤ cap ∧ (k ≠ 0 → ∃ g, A = some ⟨g, 0, none⟩ ∧ w.heap.size ≤ g ∧ g < W2.heap.size ∧ Row wr g (limbs k))
  own : wr.ownsRow W2.heap.size 5 1 out ds.length (nums .u8 (chrs ds))
  small : k < Top
  rest : digs 10 n = ds ++ digs 10 k

/-- One division: the limbs from k on are done. -/
structure QuoRel (w W2 wr : World) (g : Nat) (xs : List Nat) (out : Value) (ds : List Nat) (k r : Nat) (u : List Nat) : Prop where
  old : Below w.heap.size w wr
  sz : W2.heap.size ≤ wr.heap.size
  row : Row wr g u
  own : wr.ownsRow W2.heap.size 5 1 out ds.length (nums .u8 (chrs ds))
  le : k ≤ xs.length
  len : u.length = xs.length
  lim : Lim u
  low : ∀ j, j < k → u.getD j 0 = xs.getD j 0
  quo : lval (u.drop k) = lval (xs.drop k) / 10
  left : r = lval (xs.drop k) % 10

theorem drop_set {u : List Nat} {j v : Nat} (h : j < u.length) : (u.set j v).drop j = v :: u.drop (j + 1) := by
  rw [List.drop_eq_getElem_cons (by rw [List.length_set]; exact h), List.getElem_set_self]
  congr 1
  apply List.ext_getElem?
  intro i
  rw [List.getElem?_drop, List.getElem?_drop, List.getElem?_set_ne (by omega)]
theorem QuoRel.step {w W2 wr w' : World} {g : Nat} {xs : List Nat} {out : Value} {ds : List Nat} {j r x : Nat} {u : List Nat} (h : QuoRel w W2 wr g xs out ds (j + 1) r u) (hx : x = xs.getD j 0) (hx1 : x < 4294967296)
    (hold : Below w.heap.size w w') (hsz : W2.heap.size ≤ w'.heap.size) (hrow : Row w' g (u.set j ((r * 4294967296 + x) / 10))) (hown : w'.ownsRow W2.heap.size 5 1 out ds.length (nums .u8 (chrs ds))) :
    QuoRel w W2 w' g xs out ds j ((r * 4294967296 + x) % 10) (u.set j ((r * 4294967296 + x) / 10)) := by
  have hle := h.le
  have hl := h.len
  have hr : r < 10 := by rw [h.left]; exact Nat.mod_lt _ (by decide)
  have hd : lval (xs.drop j) = x + 4294967296 * lval (xs.drop (j + 1)) := by rw [lval_drop, ← hx, B32_eq]
  refine ⟨hold, hsz, hrow, hown, by omega, by rw [List.length_set]; exact hl, h.lim.set _ (by rw [B32_eq]; omega), fun i hi => ?_, ?_, ?_⟩
  · rw [getD_set_far _ (by omega)]; exact h.low i (by omega)
  · rw [drop_set (by omega)]
    show (r * 4294967296 + x) / 10 + B32 * lval (u.drop (j + 1)) = _
    rw [h.quo, hd, B32_eq]
    have hL := h.left
    omega
  · rw [hd]
    have hL := h.left
    omega

theorem or_shl (r x : Nat) (hr : r < 10) (hx : x < 4294967296) : bits BinOp.or IntKind.u64 ((r : Int) * 4294967296 % 18446744073709551616) (x : Int) = ((r * 4294967296 + x : Nat) : Int) := by
  have h1 : ((r : Int) * 4294967296 % 18446744073709551616) = ((r * 4294967296 : Nat) : Int) := by omega
  rw [h1, u64_or_nat _ _ (by omega) (by omega)]
  have h := Nat.two_pow_add_eq_or_of_lt (i := 32) (b := x) (by omega) r
  rw [show 2 ^ 32 * r = r * 4294967296 by omega] at h
  rw [← h]
theorem dec_pos {n : Nat} (h : n ≠ 0) : dec n = bytesOf ((chrs (digs 10 n)).reverse) := by
  unfold dec
  rw [decL_pos h]
  unfold chrs
  rw [List.map_reverse]
theorem digs10_len {n : Nat} (h : n < Top) : (digs 10 n).length ≤ 512 := by
  rw [← E512_eq]
  refine (digs_len_le (by decide)).2 ?_
  have h1 : Top ≤ 10 ^ E512 := by rw [top_pow]; exact Nat.pow_le_pow_left (by decide) _
  exact Nat.lt_of_lt_of_le h h1

/-- A text and an error. -/
def RetSE (s : ByteArray) (c : Int) (w : World) (e : Ending) (w' : World) : Prop := e = .returned (.tuple #[.string s, .int .i64 c]) ∧ Below w.heap.size w w'

set_option maxRecDepth 100000 in
set_option maxHeartbeats 1000000 in
theorem text_right (A : Option Addr) (cap n : Nat) (w : World) (h : RdL w A (limbs n)) (hn : n < Top) :
    Calls Try.prog 58 #[.slice A (limbs n).length cap] w (RetSE (dec n) 0 w) := by
  have hl := limbs_len16 hn
  have H := Lib.hid h; clear h
  have HN := Lib.hid hn; clear hn
  go_enter Try.func58, Try.ntmps58
  go_wp2_with fail
  refine (right_any A cap (limbs n) _ H.out (by omega)).mono ?_
  rintro e w1 ⟨rfl, m1, rfl⟩
  rw [rightL_limbs HN.out]
  go_wp2_with fail
  refine (clone_any A cap (limbs n) _ (by omega) (H.out.drewN m1)).mono ?_
  rintro e w2 ⟨A2, c2, rfl, hc2, ho2, hb2⟩
  have HB2 := Lib.hid (bel_trans (bel_drewN (bel_refl w) m1) hb2); clear hb2
  have HT : Hid (TextRel w w2 w2 n (.slice A2 (limbs n).length c2) (.slice none 0 0) n []) := by
    refine ⟨HB2.out, Nat.le_refl _, ⟨A2, c2, rfl, hc2, fun h0 => ?_⟩, own_nil _ _ _ _, HN.out, rfl⟩
    obtain ⟨g, cc, hv, hg1, hg2, _⟩ := own_form ho2 (digs_len_pos B32_two h0)
    injection hv with hA
    subst hA
    exact ⟨g, rfl, hg1, hg2, Row.own ho2⟩
  clear ho2 hc2
  go_wp2
  go_loopw [0, 4] (fun a out wr => ∃ (k : Nat) (ds : List Nat), TextRel w w2 wr n a out k ds) (fun _ out _ => 600 - (match out with | .slice _ m _ => m | _ => 0))
  case atStart => exact ⟨n, [], HT.out⟩
  case round =>
    obtain ⟨k, ds, hrel⟩ := hrel
    have HA := Lib.hid hrel; clear hrel
    obtain ⟨A3, c3, rfl, hc3, hrow3⟩ := HA.out.num
    have hl3 := limbs_len16 HA.out.small
    obtain ⟨A4, c4, rfl, hc4, hm4, hr4⟩ := own_read HA.out.own (by rw [nums_len, chrs, List.length_map]; omega)
    have R4 := Lib.hid hr4; clear hr4 hc4 hm4
    have hdl : ds.length ≤ 512 := by
      have h1 := digs10_len HN.out
      rw [HA.out.rest, List.length_append] at h1
      omega
    by_cases hk : k = 0
    · have e0 : (limbs k).length = 0 := by rw [hk]; rfl
      rw [e0]
      have hds : digs 10 n = ds := by rw [HA.out.rest, hk, digs_zero, List.append_nil]
      have HDS := Lib.hid hds; clear hds
      clear hrow3 hc3 e0
      by_cases hd : ds.length = 0
      · have g0 : ((ds.length : Int) == 0) = true := by rw [hd]; rfl
        go_wp2
        go_ret2
        have hn0 : n = 0 := by
          rw [← digs_nil (b := 10) (by decide), HDS.out]
          exact List.length_eq_zero_iff.1 hd
        rw [hn0]
        exact ⟨rfl, HA.out.old⟩
      · have g0 : ((ds.length : Int) == 0) = false := beq_eq_false_iff_ne.2 (by omega)
        obtain ⟨g4, cc, hv, hg1, hg2, _⟩ := own_form HA.out.own (by omega)
        injection hv with hA4 _ hcc
        subst hA4
        subst hcc
        go_wp2_with fail
        refine (reverse_any w2.heap.size g4 ds.length c4 (chrs ds) wr (by omega) (by simp [chrs]) HA.out.own).mono ?_
        rintro e w5 ⟨rfl, ho5, hb5⟩
        have hb5' : Hid (Below w.heap.size w w5) := HA.out.old.trans (hb5.mono HB2.out.size)
        have hconv : (convert 100 9 (.slice (some ⟨g4, 0, none⟩) ds.length c4)).run Try.prog w5 = .ok (.string (dec n)) w5 := by
          obtain ⟨A6, c6, hv6, _, _, hr6⟩ := own_read ho5 (by rw [nums_len, List.length_reverse, chrs, List.length_map]; omega)
          injection hv6 with hA6 _ hc6
          subst hA6
          subst hc6
          have hn0 : n ≠ 0 := fun e => hd (by rw [← HDS.out, e]; rfl)
          have hlen : (chrs ds).reverse.length = ds.length := by simp [chrs]
          have hs := run_str (P := Try.prog) w5 100 9 5 (some ⟨g4, 0, none⟩) c4 (chrs ds).reverse (by omega) Try.underlying100 Try.underlying5 Try.underlying9
            (Rd.congr (by rw [Nat.mul_one] at hr6; rw [hlen]; exact hr6) (fun j hj => nums_get .u8 _ hj))
          rw [hlen] at hs
          rw [hs, dec_pos hn0, HDS.out]
        clear ho5 hb5
        go_wp2
        go_ret2
        exact ⟨rfl, hb5'.out⟩
    · obtain ⟨g, rfl, hg0, hg1, hrow⟩ := hrow3 hk
      have HG := Lib.hid hrow; clear hrow hrow3
      have hpos : 0 < (limbs k).length := digs_len_pos B32_two hk
      have g0 : (0 : Int) < ((limbs k).length : Int) := by omega
      have HQ : Hid (QuoRel w w2 wr g (limbs k) (.slice A4 ds.length c4) ds (limbs k).length 0 (limbs k)) :=
        ⟨HA.out.old, HA.out.sz, HG.out, HA.out.own, Nat.le_refl _, rfl, limbs_lim k, fun _ _ => rfl, by rw [List.drop_length]; rfl, by rw [List.drop_length]; rfl⟩
      have hsz := HA.out.sz
      go_wp2
      go_loopw [5, 6] (fun r i wr1 => ∃ (j r0 : Nat) (u : List Nat), i = .int .i64 ((j : Int) - 1) ∧ r = .int .u64 (r0 : Int) ∧ QuoRel w w2 wr1 g (limbs k) (.slice A4 ds.length c4) ds j r0 u) (fun _ i _ => (intOf i + 1).toNat)
      case atStart => exact ⟨(limbs k).length, 0, limbs k, by go_num, rfl, HQ.out⟩
      case round =>
        obtain ⟨j, r0, u, rfl, rfl, hin⟩ := hrel
        have HJ := Lib.hid hin; clear hin
        have hjl := HJ.out.le
        have hul := HJ.out.len
        by_cases hj0 : j = 0
        · subst hj0
          have hr0 : r0 = k % 10 := by have := HJ.out.left; rwa [List.drop_zero, lval_limbs] at this
          have hu0 : lval u = k / 10 := by have := HJ.out.quo; rwa [List.drop_zero, List.drop_zero, lval_limbs] at this
          have hr1 : r0 < 10 := by omega
          obtain ⟨ch, hch⟩ : ∃ ch, ch = 48 + r0 := ⟨_, rfl⟩
          have s1 : IntKind.u64.wrap (48 + (r0 : Int)) = (ch : Int) := by rw [IntKind.wrap_u64]; omega
          have s2 : IntKind.u8.wrap (ch : Int) = (ch : Int) := by rw [IntKind.wrap_u8']; omega
          have HR0 := Lib.hid (And.intro hr0 (And.intro hu0 hch)); clear hr0 hu0 hch hr1
          have hcl : (chrs ds).length = ds.length := by simp [chrs]
          go_wp2_with (at_builtin; refine wpList_push _ rfl _ _ 100 rfl w2.heap.size 5 (.int .u8 0) 1 (by kernel_rfl) info_u8 rfl _ ds.length (nums .u8 (chrs ds)) rfl (.int .u8 (ch : Int)) rfl rfl ?_ ?_ ?_ ?_ ?_; exact HJ.out.own; (unfold maxLen; omega); omega; (have := HJ.out.sz; omega); intro v' w5 hown hbel; have HO := Lib.hid (And.intro hown hbel); clear hown hbel)
          have H5 : Hid (Below w.heap.size w w5) := HJ.out.old.trans (HO.out.2.mono HB2.out.size)
          have G5 : Hid (Row w5 g u) := HJ.out.row.below HO.out.2 hg1
          have htr := trim_any (some ⟨g, 0, none⟩) c3 u w5 G5.out.rd HJ.out.lim (by omega) (by omega)
          rw [hul] at htr
          refine htr.mono ?_
          rintro e w6 ⟨rfl, ⟨m6, hm6⟩, n6, rfl⟩
          rw [HR0.out.2.1] at hm6 ⊢
          obtain ⟨A5, c5, hv5, _, _, _⟩ := own_read HO.out.1 (by rw [List.length_append, nums_len, hcl]; simp)
          subst hv5
          have HM := Lib.hid hm6; clear hm6 htr
          go_wp2
          go_roundw
          case rel =>
            refine ⟨k / 10, ds ++ [k % 10], bel_drewN H5.out _, ?_, ⟨some ⟨g, 0, none⟩, c3, rfl, ?_, fun _ => ⟨g, rfl, hg0, hg1, ?_⟩⟩, ?_, ?_, ?_⟩
            · have h1 := HJ.out.sz
              have h2 := HO.out.2.size
              show w2.heap.size ≤ w5.heap.size
              omega
            · have := limbs_le_len (Nat.div_le_self k 10); omega
            · rw [HM.out]; exact G5.out.take m6
            · have h1 := HO.out.1
              rw [nums_app, HR0.out.2.2, HR0.out.1] at h1
              have e1 : chrs (ds ++ [k % 10]) = chrs ds ++ [48 + k % 10] := by simp [chrs]
              rw [e1, List.length_append]
              exact h1
            · exact Nat.lt_of_le_of_lt (Nat.div_le_self _ _) HA.out.small
            · rw [HA.out.rest, digs_pos (by decide) hk, List.append_assoc]
              rfl
          case measure => dsimp only; omega
        · obtain ⟨i, rfl⟩ : ∃ i, j = i + 1 := ⟨j - 1, by omega⟩
          have hi : ((i + 1 : Nat) : Int) - 1 = (i : Int) := by omega
          rw [hi]
          have hil : i < (limbs k).length := by omega
          have hil' : (i : Int) < ((limbs k).length : Int) := by omega
          have hcell := HJ.out.row.at_ (j := i) (by omega)
          obtain ⟨x, hx⟩ : ∃ x, x = (limbs k).getD i 0 := ⟨_, rfl⟩
          have hx1 := (limbs_lim k).get i
          rw [HJ.out.low i (by omega), ← hx, limbV_eq] at hcell
          rw [← hx] at hx1
          have Ex := Lib.hid hx; clear hx
          have hfz := HJ.out.row.frozen i
          have hr0 : r0 < 10 := by rw [HJ.out.left]; exact Nat.mod_lt _ (by decide)
          obtain ⟨t, ht⟩ : ∃ t, t = r0 * 4294967296 + x := ⟨_, rfl⟩
          have s1 : bits BinOp.or IntKind.u64 (IntKind.u64.wrap ((r0 : Int) * 4294967296)) (x : Int) = (t : Int) := by
            rw [IntKind.wrap_u64, or_shl r0 x hr0 hx1, ht]
          have sx : IntKind.u64.wrap (x : Int) = (x : Int) := by rw [IntKind.wrap_u64]; omega
          obtain ⟨q, hq⟩ : ∃ q, q = t / 10 := ⟨_, rfl⟩
          obtain ⟨r1, hr1⟩ : ∃ r1, r1 = t % 10 := ⟨_, rfl⟩
          have s2 : (t : Int) / 10 = (q : Int) := by omega
          have s3 : (t : Int) % 10 = (r1 : Int) := by omega
          have s2' : (t : Int).tdiv 10 = (q : Int) := by rw [Int.tdiv_eq_ediv_of_nonneg (by omega)]; exact s2
          have s3' : (t : Int).tmod 10 = (r1 : Int) := by rw [Int.tmod_eq_emod_of_nonneg (by omega)]; exact s3
          have s4 : IntKind.u64.wrap (q : Int) = (q : Int) := by rw [IntKind.wrap_u64]; omega
          have s5 : (q : Int) % 4294967296 = (q : Int) := by omega
          have HS := Lib.hid (And.intro ht (And.intro hq (And.intro hr1 (And.intro hx1 hr0)))); clear ht hq hr1 hx1 hr0
          go_wp2
          go_roundw
          case rel =>
            obtain ⟨ht, hq, hr1, hx1, hr0⟩ := HS.out
            subst hq hr1
            subst ht
            exact ⟨i, _, _, by go_num, rfl, HJ.out.step Ex.out hx1 (HJ.out.old.setCell hg0 _) (by have := HJ.out.sz; simpa using this) (HJ.out.row.set_ _ _) (own_far HJ.out.own hg1 _)⟩
          case measure => simp [intOf]
end Go.Proofs.Ytmbbdjpnecjleaa
