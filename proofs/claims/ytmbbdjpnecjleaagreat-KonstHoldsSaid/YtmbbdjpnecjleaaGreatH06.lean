/-
 Parts: NText NParse RDig RAdd.
-/
import Derived.Test.YtmbbdjpnecjleaaGreatH05
import Derived.Deep.RegionHeld3
import Derived.Lib.ConvBytes
namespace Go.Proofs.YtmbbdjpnecjleaaGreat
section
set_option maxRecDepth 100000
set_option maxHeartbeats 1000000
open Go.RowKit

def Row (w : World) (g : Nat) (xs : List Nat) : Prop := ∃ cs, Blk w g 62 cs ∧ ∀ j, j < xs.length → cs[j]? = some (limbV (xs.getD j 0))
theorem Row.below {w w' : World} {g B : Nat} {xs : List Nat} (h : Row w g xs) (hb : Below B w w') (hg : g < B) : Row w' g xs := by
 obtain ⟨cs, h1, h2⟩ := h
 exact ⟨cs, h1.below hb hg, h2⟩
theorem Row.at_ {w : World} {g : Nat} {xs : List Nat} (h : Row w g xs) {j : Nat} (hj : j < xs.length) : w.cell? ⟨g, j, none⟩ = some (limbV (xs.getD j 0)) := by
 obtain ⟨cs, h1, h2⟩ := h
 rw [h1.cell, h2 j hj]
theorem Row.frozen {w : World} {g : Nat} {xs : List Nat} (h : Row w g xs) (j : Nat) : w.frozen? ⟨g, j, none⟩ = false := by
 obtain ⟨cs, h1, _⟩ := h
 exact h1.frozen j
theorem Row.lt {w : World} {g : Nat} {xs : List Nat} (h : Row w g xs) : g < w.heap.size := by
 obtain ⟨cs, h1, _⟩ := h
 exact h1.lt
theorem Row.set_ {w : World} {g : Nat} {xs : List Nat} (h : Row w g xs) (j v : Nat) : Row (w.setCell ⟨g, j, none⟩ (limbV v)) g (xs.set j v) := by
 obtain ⟨cs, h1, h2⟩ := h
 refine ⟨_, h1.put j (limbV v), fun k hk => ?_⟩
 rw [List.length_set] at hk
 rw [Array.getElem?_setIfInBounds]
 by_cases e : j = k
 · subst e
   have hlt : j < cs.size := (Array.getElem?_eq_some_iff.1 (h2 j hk)).1
   rw [if_pos rfl, if_pos hlt, getD_set_at v hk]
 · rw [if_neg e, getD_set_far v e, h2 k hk]
theorem Row.take {w : World} {g : Nat} {xs : List Nat} (h : Row w g xs) (m : Nat) : Row w g (xs.take m) := by
 obtain ⟨cs, h1, h2⟩ := h
 refine ⟨cs, h1, fun j hj => ?_⟩
 rw [List.length_take] at hj
 rw [h2 j (by omega)]
 have : j < m := by omega
 simp [this]
theorem Row.rd {w : World} {g : Nat} {xs : List Nat} (h : Row w g xs) : RdL w (some ⟨g, 0, none⟩) xs := fun _ =>
 ⟨g, 0, rfl, h.lt, fun k hk => by rw [Nat.zero_add, h.at_ hk]; rfl⟩
theorem Row.own {w : World} {base g cap : Nat} {xs : List Nat} (h : w.ownsRow base 62 1 (.slice (some ⟨g, 0, none⟩) xs.length cap) xs.length (nums .u32 xs)) : Row w g xs := by
 rcases h.2 with ⟨h0, _⟩ | ⟨g', cap', cur, hv, hb, hh, _⟩
 · cases h0
 · injection hv with hA
   injection hA with hA
   injection hA with hA
   subst hA
   refine ⟨cur, hh, fun j hj => ?_⟩
   have := (own_at h hj).1
   rw [cell_of_row w g j cur _ (0, 0) hh, nums_get _ _ hj] at this
   exact this
theorem own_far {w : World} {base n size : Nat} {e : TypeId} {v : Value} {xs : List Value} (h : w.ownsRow base e size v n xs) {p : Addr} (hp : p.block < base) (u : Value) : (w.setCell p u).ownsRow base e size v n xs := by
 refine ⟨h.1, ?_⟩
 rcases h.2 with h0 | ⟨g, cap, cur, hv, hb, hh, hr⟩
 · exact .inl h0
 · exact .inr ⟨g, cap, cur, hv, hb, by rw [Below.heap_setCell w p u g (by omega)]; exact hh, hr⟩

structure TextRel (w W2 wr : World) (n : Nat) (a out : Value) (k : Nat) (ds : List Nat) : Prop where
 old : Below w.heap.size w wr
 sz : W2.heap.size ≤ wr.heap.size
 num : ∃ A cap, a = .slice A (limbs k).length cap ∧ (limbs k).length ≤ cap ∧ (k ≠ 0 → ∃ g, A = some ⟨g, 0, none⟩ ∧ w.heap.size ≤ g ∧ g < W2.heap.size ∧ Row wr g (limbs k))
 own : wr.ownsRow W2.heap.size 5 1 out ds.length (nums .u8 (chrs ds))
 small : k < Top
 rest : digs 10 n = ds ++ digs 10 k

structure QuoRel (w W2 wr : World) (g : Nat) (xs : List Nat) (out : Value) (ds : List Nat) (k r : Nat) (u : List Nat) : Prop where
 old : Below w.heap.size w wr
 sz : W2.heap.size ≤ wr.heap.size
 row : Row wr g u
 own : wr.ownsRow W2.heap.size 5 1 out ds.length (nums .u8 (chrs ds))
 le : k ≤ xs.length
 len : u.length = xs.length
 lim : Lim u
 low : ∀ j, j < k → u.getD j 0 = xs.getD j 0
 quo : lval (u.drop k) = lval (xs.drop k) / 10
 left : r = lval (xs.drop k) % 10

theorem drop_set {u : List Nat} {j v : Nat} (h : j < u.length) : (u.set j v).drop j = v :: u.drop (j + 1) := by
 rw [List.drop_eq_getElem_cons (by rw [List.length_set]; exact h), List.getElem_set_self]
 congr 1
 apply List.ext_getElem?
 intro i
 rw [List.getElem?_drop, List.getElem?_drop, List.getElem?_set_ne (by omega)]
theorem QuoRel.step {w W2 wr w' : World} {g : Nat} {xs : List Nat} {out : Value} {ds : List Nat} {j r x : Nat} {u : List Nat} (h : QuoRel w W2 wr g xs out ds (j + 1) r u) (hx : x = xs.getD j 0) (hx1 : x < 4294967296)
 (hold : Below w.heap.size w w') (hsz : W2.heap.size ≤ w'.heap.size) (hrow : Row w' g (u.set j ((r * 4294967296 + x) / 10))) (hown : w'.ownsRow W2.heap.size 5 1 out ds.length (nums .u8 (chrs ds))) :
 QuoRel w W2 w' g xs out ds j ((r * 4294967296 + x) % 10) (u.set j ((r * 4294967296 + x) / 10)) := by
 have hle := h.le
 have hl := h.len
 have hr : r < 10 := by rw [h.left]; exact Nat.mod_lt _ (by decide)
 have hd : lval (xs.drop j) = x + 4294967296 * lval (xs.drop (j + 1)) := by rw [lval_drop, ← hx, B32_eq]
 refine ⟨hold, hsz, hrow, hown, by omega, by rw [List.length_set]; exact hl, h.lim.set _ (by rw [B32_eq]; omega), fun i hi => ?_, ?_, ?_⟩
 · rw [getD_set_far _ (by omega)]; exact h.low i (by omega)
 · rw [drop_set (by omega)]
   show (r * 4294967296 + x) / 10 + B32 * lval (u.drop (j + 1)) = _
   rw [h.quo, hd, B32_eq]
   have hL := h.left
   omega
 · rw [hd]
   have hL := h.left
   omega

theorem or_shl (r x : Nat) (hr : r < 10) (hx : x < 4294967296) : bits BinOp.or IntKind.u64 ((r : Int) * 4294967296 % 18446744073709551616) (x : Int) = ((r * 4294967296 + x : Nat) : Int) := by
 have h1 : ((r : Int) * 4294967296 % 18446744073709551616) = ((r * 4294967296 : Nat) : Int) := by omega
 rw [h1, u64_or_nat _ _ (by omega) (by omega)]
 have h := Nat.two_pow_add_eq_or_of_lt (i := 32) (b := x) (by omega) r
 rw [show 2 ^ 32 * r = r * 4294967296 by omega] at h
 rw [← h]
theorem dec_pos {n : Nat} (h : n ≠ 0) : dec n = bytesOf ((chrs (digs 10 n)).reverse) := by
 unfold dec
 rw [decL_pos h]
 unfold chrs
 rw [List.map_reverse]
theorem digs10_len {n : Nat} (h : n < Top) : (digs 10 n).length ≤ 512 := by
 rw [← E512_eq]
 refine (digs_len_le (by decide)).2 ?_
 have h1 : Top ≤ 10 ^ E512 := by rw [top_pow]; exact Nat.pow_le_pow_left (by decide) _
 exact Nat.lt_of_lt_of_le h h1

def RetSE (s : ByteArray) (c : Int) (w : World) (e : Ending) (w' : World) : Prop := e = .returned (.tuple #[.string s, .int .i64 c]) ∧ Below w.heap.size w w'

theorem text_right (A : Option Addr) (cap n : Nat) (w : World) (h : RdL w A (limbs n)) (hn : n < Top) :
 Calls Tryz.prog 111 #[.slice A (limbs n).length cap] w (RetSE (dec n) 0 w) := by
 have hl := limbs_len16 hn
 have H := Lib.hid h; clear h
 have HN := Lib.hid hn; clear hn
 go_enter Tryz.func111, Tryz.ntmps111
 go_wp2_with fail
 refine (right_any A cap (limbs n) _ H.out (by omega)).mono ?_
 rintro e w1 ⟨rfl, m1, rfl⟩
 rw [rightL_limbs HN.out]
 go_wp2_with fail
 refine (clone_any A cap (limbs n) _ (by omega) (H.out.drewN m1)).mono ?_
 rintro e w2 ⟨A2, c2, rfl, hc2, ho2, hb2⟩
 have HB2 := Lib.hid (bel_trans (bel_drewN (bel_refl w) m1) hb2); clear hb2
 have HT : Hid (TextRel w w2 w2 n (.slice A2 (limbs n).length c2) (.slice none 0 0) n []) := by
  refine ⟨HB2.out, Nat.le_refl _, ⟨A2, c2, rfl, hc2, fun h0 => ?_⟩, own_nil _ _ _ _, HN.out, rfl⟩
  obtain ⟨g, cc, hv, hg1, hg2, _⟩ := own_form ho2 (digs_len_pos B32_two h0)
  injection hv with hA
  subst hA
  exact ⟨g, rfl, hg1, hg2, Row.own ho2⟩
 clear ho2 hc2
 go_wp2
 go_loopw [0, 4] (fun a out wr => ∃ (k : Nat) (ds : List Nat), TextRel w w2 wr n a out k ds) (fun _ out _ => 600 - (match out with | .slice _ m _ => m | _ => 0))
 case atStart => exact ⟨n, [], HT.out⟩
 case round =>
  obtain ⟨k, ds, hrel⟩ := hrel
  have HA := Lib.hid hrel; clear hrel
  obtain ⟨A3, c3, rfl, hc3, hrow3⟩ := HA.out.num
  have hl3 := limbs_len16 HA.out.small
  obtain ⟨A4, c4, rfl, hc4, hm4, hr4⟩ := own_read HA.out.own (by rw [nums_len, chrs, List.length_map]; omega)
  have R4 := Lib.hid hr4; clear hr4 hc4 hm4
  have hdl : ds.length ≤ 512 := by
   have h1 := digs10_len HN.out
   rw [HA.out.rest, List.length_append] at h1
   omega
  by_cases hk : k = 0
  · have e0 : (limbs k).length = 0 := by rw [hk]; rfl
    rw [e0]
    have hds : digs 10 n = ds := by rw [HA.out.rest, hk, digs_zero, List.append_nil]
    have HDS := Lib.hid hds; clear hds
    clear hrow3 hc3 e0
    by_cases hd : ds.length = 0
    · have g0 : ((ds.length : Int) == 0) = true := by rw [hd]; rfl
      go_wp2
      go_ret2
      have hn0 : n = 0 := by
       rw [← digs_nil (b := 10) (by decide), HDS.out]
       exact List.length_eq_zero_iff.1 hd
      rw [hn0]
      exact ⟨rfl, HA.out.old⟩
    · have g0 : ((ds.length : Int) == 0) = false := beq_eq_false_iff_ne.2 (by omega)
      obtain ⟨g4, cc, hv, hg1, hg2, _⟩ := own_form HA.out.own (by omega)
      injection hv with hA4 _ hcc
      subst hA4
      subst hcc
      go_wp2_with fail
      refine (reverse_any w2.heap.size g4 ds.length c4 (chrs ds) wr (by omega) (by simp [chrs]) HA.out.own).mono ?_
      rintro e w5 ⟨rfl, ho5, hb5⟩
      have hb5' : Hid (Below w.heap.size w w5) := HA.out.old.trans (hb5.mono HB2.out.size)
      have hconv : (convert 104 9 (.slice (some ⟨g4, 0, none⟩) ds.length c4)).run Tryz.prog w5 = .ok (.string (dec n)) w5 := by
       obtain ⟨A6, c6, hv6, _, _, hr6⟩ := own_read ho5 (by rw [nums_len, List.length_reverse, chrs, List.length_map]; omega)
       injection hv6 with hA6 _ hc6
       subst hA6
       subst hc6
       have hn0 : n ≠ 0 := fun e => hd (by rw [← HDS.out, e]; rfl)
       have hlen : (chrs ds).reverse.length = ds.length := by simp [chrs]
       have hs := run_str (P := Tryz.prog) w5 104 9 5 (some ⟨g4, 0, none⟩) c4 (chrs ds).reverse (by omega) Tryz.underlying104 Tryz.underlying5 Tryz.underlying9
        (Rd.congr (by rw [Nat.mul_one] at hr6; rw [hlen]; exact hr6) (fun j hj => nums_get .u8 _ hj))
       rw [hlen] at hs
       rw [hs, dec_pos hn0, HDS.out]
      clear ho5 hb5
      go_wp2
      go_ret2
      exact ⟨rfl, hb5'.out⟩
  · obtain ⟨g, rfl, hg0, hg1, hrow⟩ := hrow3 hk
    have HG := Lib.hid hrow; clear hrow hrow3
    have hpos : 0 < (limbs k).length := digs_len_pos B32_two hk
    have g0 : (0 : Int) < ((limbs k).length : Int) := by omega
    have HQ : Hid (QuoRel w w2 wr g (limbs k) (.slice A4 ds.length c4) ds (limbs k).length 0 (limbs k)) :=
     ⟨HA.out.old, HA.out.sz, HG.out, HA.out.own, Nat.le_refl _, rfl, limbs_lim k, fun _ _ => rfl, by rw [List.drop_length]; rfl, by rw [List.drop_length]; rfl⟩
    have hsz := HA.out.sz
    go_wp2
    go_loopw [5, 6] (fun r i wr1 => ∃ (j r0 : Nat) (u : List Nat), i = .int .i64 ((j : Int) - 1) ∧ r = .int .u64 (r0 : Int) ∧ QuoRel w w2 wr1 g (limbs k) (.slice A4 ds.length c4) ds j r0 u) (fun _ i _ => (intOf i + 1).toNat)
    case atStart => exact ⟨(limbs k).length, 0, limbs k, by go_num, rfl, HQ.out⟩
    case round =>
     obtain ⟨j, r0, u, rfl, rfl, hin⟩ := hrel
     have HJ := Lib.hid hin; clear hin
     have hjl := HJ.out.le
     have hul := HJ.out.len
     by_cases hj0 : j = 0
     · subst hj0
       have hr0 : r0 = k % 10 := by have := HJ.out.left; rwa [List.drop_zero, lval_limbs] at this
       have hu0 : lval u = k / 10 := by have := HJ.out.quo; rwa [List.drop_zero, List.drop_zero, lval_limbs] at this
       have hr1 : r0 < 10 := by omega
       obtain ⟨ch, hch⟩ : ∃ ch, ch = 48 + r0 := ⟨_, rfl⟩
       have s1 : IntKind.u64.wrap (48 + (r0 : Int)) = (ch : Int) := by rw [IntKind.wrap_u64]; omega
       have s2 : IntKind.u8.wrap (ch : Int) = (ch : Int) := by rw [IntKind.wrap_u8']; omega
       have HR0 := Lib.hid (And.intro hr0 (And.intro hu0 hch)); clear hr0 hu0 hch hr1
       have hcl : (chrs ds).length = ds.length := by simp [chrs]
       go_wp2_with (at_builtin; refine wpList_push _ rfl _ _ 104 rfl w2.heap.size 5 (.int .u8 0) 1 (by kernel_rfl) info_u8 rfl _ ds.length (nums .u8 (chrs ds)) rfl (.int .u8 (ch : Int)) rfl rfl ?_ ?_ ?_ ?_ ?_; exact HJ.out.own; (unfold maxLen; omega); omega; (have := HJ.out.sz; omega); intro v' w5 hown hbel; have HO := Lib.hid (And.intro hown hbel); clear hown hbel)
       have H5 : Hid (Below w.heap.size w w5) := HJ.out.old.trans (HO.out.2.mono HB2.out.size)
       have G5 : Hid (Row w5 g u) := HJ.out.row.below HO.out.2 hg1
       have htr := trim_any (some ⟨g, 0, none⟩) c3 u w5 G5.out.rd HJ.out.lim (by omega) (by omega)
       rw [hul] at htr
       refine htr.mono ?_
       rintro e w6 ⟨rfl, ⟨m6, hm6⟩, n6, rfl⟩
       rw [HR0.out.2.1] at hm6 ⊢
       obtain ⟨A5, c5, hv5, _, _, _⟩ := own_read HO.out.1 (by rw [List.length_append, nums_len, hcl]; simp)
       subst hv5
       have HM := Lib.hid hm6; clear hm6 htr
       go_wp2
       go_roundw
       case rel =>
        refine ⟨k / 10, ds ++ [k % 10], bel_drewN H5.out _, ?_, ⟨some ⟨g, 0, none⟩, c3, rfl, ?_, fun _ => ⟨g, rfl, hg0, hg1, ?_⟩⟩, ?_, ?_, ?_⟩
        · have h1 := HJ.out.sz
          have h2 := HO.out.2.size
          show w2.heap.size ≤ w5.heap.size
          omega
        · have := limbs_le_len (Nat.div_le_self k 10); omega
        · rw [HM.out]; exact G5.out.take m6
        · have h1 := HO.out.1
          rw [nums_app, HR0.out.2.2, HR0.out.1] at h1
          have e1 : chrs (ds ++ [k % 10]) = chrs ds ++ [48 + k % 10] := by simp [chrs]
          rw [e1, List.length_append]
          exact h1
        · exact Nat.lt_of_le_of_lt (Nat.div_le_self _ _) HA.out.small
        · rw [HA.out.rest, digs_pos (by decide) hk, List.append_assoc]
          rfl
       case measure => dsimp only; omega
     · obtain ⟨i, rfl⟩ : ∃ i, j = i + 1 := ⟨j - 1, by omega⟩
       have hi : ((i + 1 : Nat) : Int) - 1 = (i : Int) := by omega
       rw [hi]
       have hil : i < (limbs k).length := by omega
       have hil' : (i : Int) < ((limbs k).length : Int) := by omega
       have hcell := HJ.out.row.at_ (j := i) (by omega)
       obtain ⟨x, hx⟩ : ∃ x, x = (limbs k).getD i 0 := ⟨_, rfl⟩
       have hx1 := (limbs_lim k).get i
       rw [HJ.out.low i (by omega), ← hx, limbV_eq] at hcell
       rw [← hx] at hx1
       have Ex := Lib.hid hx; clear hx
       have hfz := HJ.out.row.frozen i
       have hr0 : r0 < 10 := by rw [HJ.out.left]; exact Nat.mod_lt _ (by decide)
       obtain ⟨t, ht⟩ : ∃ t, t = r0 * 4294967296 + x := ⟨_, rfl⟩
       have s1 : bits BinOp.or IntKind.u64 (IntKind.u64.wrap ((r0 : Int) * 4294967296)) (x : Int) = (t : Int) := by
        rw [IntKind.wrap_u64, or_shl r0 x hr0 hx1, ht]
       have sx : IntKind.u64.wrap (x : Int) = (x : Int) := by rw [IntKind.wrap_u64]; omega
       obtain ⟨q, hq⟩ : ∃ q, q = t / 10 := ⟨_, rfl⟩
       obtain ⟨r1, hr1⟩ : ∃ r1, r1 = t % 10 := ⟨_, rfl⟩
       have s2 : (t : Int) / 10 = (q : Int) := by omega
       have s3 : (t : Int) % 10 = (r1 : Int) := by omega
       have s2' : (t : Int).tdiv 10 = (q : Int) := by rw [Int.tdiv_eq_ediv_of_nonneg (by omega)]; exact s2
       have s3' : (t : Int).tmod 10 = (r1 : Int) := by rw [Int.tmod_eq_emod_of_nonneg (by omega)]; exact s3
       have s4 : IntKind.u64.wrap (q : Int) = (q : Int) := by rw [IntKind.wrap_u64]; omega
       have s5 : (q : Int) % 4294967296 = (q : Int) := by omega
       have HS := Lib.hid (And.intro ht (And.intro hq (And.intro hr1 (And.intro hx1 hr0)))); clear ht hq hr1 hx1 hr0
       go_wp2
       go_roundw
       case rel =>
        obtain ⟨ht, hq, hr1, hx1, hr0⟩ := HS.out
        subst hq hr1
        subst ht
        exact ⟨i, _, _, by go_num, rfl, HJ.out.step Ex.out hx1 (HJ.out.old.setCell hg0 _) (by have := HJ.out.sz; simpa using this) (HJ.out.row.set_ _ _) (own_far HJ.out.own hg1 _)⟩
       case measure => simp [intOf]
end
end Go.Proofs.YtmbbdjpnecjleaaGreat
namespace Go.Proofs.YtmbbdjpnecjleaaGreat
section
set_option maxRecDepth 100000
set_option maxHeartbeats 1000000
open Go.RowKit

def digV (c : Nat) : Nat := if 48 ≤ c ∧ c ≤ 57 then c - 48 else if 97 ≤ c ∧ c ≤ 102 then c - 87 else if 65 ≤ c ∧ c ≤ 70 then c - 55 else 99
def codes (s : ByteArray) : List Nat := s.data.toList.map UInt8.toNat
def numOf (base : Nat) (cs : List Nat) : Nat := cs.foldl (fun n c => n * base + digV c) 0
end
end Go.Proofs.YtmbbdjpnecjleaaGreat
namespace Go.Proofs.YtmbbdjpnecjleaaGreat
section
set_option maxRecDepth 100000
set_option maxHeartbeats 1000000
open Go.RowKit

theorem bytesOf_get (cs : List Nat) (hc : ∀ c ∈ cs, c < 256) {j : Nat} (hj : j < (bytesOf cs).size) : ((bytesOf cs)[j]'hj).toNat = cs.getD j 0 := by
 have hj2 : j < cs.length := by rwa [bytesOf_size] at hj
 show ((cs.map UInt8.ofNat).toArray[j]'(by simpa using hj2)).toNat = _
 rw [List.getD_eq_getElem?_getD, List.getElem?_eq_getElem hj2]
 simp
 exact hc _ (List.getElem_mem hj2)
theorem chrs_len (ds : List Nat) : (chrs ds).length = ds.length := by simp [chrs]
theorem chrs_lt {ds : List Nat} (h : ∀ d ∈ ds, d < 10) : ∀ c ∈ chrs ds, c < 256 := by
 intro c hc
 obtain ⟨d, hd, rfl⟩ := List.mem_map.1 hc
 have := h d hd
 omega
theorem chrs_get (ds : List Nat) {j : Nat} (h : j < ds.length) : (chrs ds).getD j 0 = 48 + ds.getD j 0 := by
 simp [chrs, h]
theorem dec_size (n : Nat) : (dec n).size = (decL n).length := by unfold dec; rw [bytesOf_size, chrs_len]

def bval (ds : List Nat) : Nat := val 10 ds.reverse
theorem bval_decL (n : Nat) : bval (decL n) = n := by
 unfold bval
 by_cases h : n = 0
 · subst h; rfl
 · rw [decL_pos h, List.reverse_reverse, val_digs (by decide)]
theorem bval_zero_cons (ds : List Nat) : bval (0 :: ds) = bval ds := by
 unfold bval
 rw [List.reverse_cons, val_snoc]
 simp
theorem bval_snoc (ds : List Nat) (d : Nat) : bval (ds ++ [d]) = d + 10 * bval ds := by
 unfold bval
 rw [List.reverse_append]
 rfl
theorem decL_bval {ds : List Nat} (hd : ∀ d ∈ ds, d < 10) (h0 : 0 < ds.length) (h : ds.length = 1 ∨ ds.getD 0 0 ≠ 0) : decL (bval ds) = ds := by
 by_cases hz : bval ds = 0
 · have h1 : ds.length = 1 ∧ ds.getD 0 0 = 0 := by
    match ds, h0 with
    | d :: r, _ =>
     unfold bval at hz
     rw [List.reverse_cons, val_snoc] at hz
     have hd0 : d = 0 := by
      rcases Nat.mul_eq_zero.1 (show 10 ^ r.reverse.length * d = 0 by omega) with h | h
      · exact absurd h (Nat.ne_of_gt (Nat.pow_pos (by decide)))
      · exact h
     subst hd0
     rcases h with h | h
     · exact ⟨h, rfl⟩
     · simp at h
   match ds, h1 with
   | [d], ⟨_, h2⟩ =>
    have : d = 0 := by simpa using h2
    subst this
    rfl
 · rw [decL_pos hz]
   unfold bval
   rw [digs_val (by decide) ds.reverse (fun x hx => hd x (List.mem_reverse.1 hx))]
   · exact List.reverse_reverse ds
   · intro hne
     rw [List.getLast_reverse]
     match ds, h0 with
     | d :: r, _ =>
      rcases h with h | h
      · have hr : r = [] := List.eq_nil_of_length_eq_zero (by simpa using h)
        subst hr
        intro e
        have : d = 0 := by simpa using e
        subst this
        exact hz rfl
      · simpa using h

def RetS (s : ByteArray) (w : World) (e : Ending) (w' : World) : Prop := e = .returned (.string s) ∧ Below w.heap.size w w'
def RetSD (s : ByteArray) (w : World) (e : Ending) (w' : World) : Prop := e = .returned (.string s) ∧ ∃ n, w' = w.drewN n

theorem bytesOf_drop (cs : List Nat) : (bytesOf cs).extract 1 (bytesOf cs).size = bytesOf (cs.drop 1) := by
 apply ByteArray.ext
 rw [ByteArray.data_extract]
 apply Array.ext'
 rw [Array.toList_extract]
 have : (bytesOf cs).size = cs.length := bytesOf_size cs
 rw [this]
 simp [bytesOf, List.extract]
 rw [List.take_of_length_le (by simp)]

theorem trim_val {ds : List Nat} : ∀ k, k ≤ ds.length → (∀ j, j < k → ds.getD j 0 = 0) → bval (ds.drop k) = bval ds
 | 0, _, _ => rfl
 | k + 1, hk, h => by
  have ih := trim_val k (by omega) (fun j hj => h j (by omega))
  rw [← ih, List.drop_eq_getElem_cons (by omega : k < ds.length)]
  have e : ds[k] = 0 := by
   have := h k (by omega)
   rwa [List.getD_eq_getElem?_getD, List.getElem?_eq_getElem (by omega)] at this
  rw [e, bval_zero_cons]

theorem refTrim_any (ds : List Nat) (w : World) (hd : ∀ d ∈ ds, d < 10) (h0 : 0 < ds.length) :
 Calls Tryz.prog 93 #[.string (bytesOf (chrs ds))] w (RetSD (dec (bval ds)) w) := by
 have HD := Lib.hid hd; clear hd
 go_enter Tryz.func93, Tryz.ntmps93
 go_wp2
 go_loopw [0] (fun v wr => ∃ k : Nat, k < ds.length ∧ v = .string (bytesOf (chrs (ds.drop k))) ∧ (∀ j, j < k → ds.getD j 0 = 0) ∧ ∃ n, wr = w.drewN n) (fun v _ => match v with | .string s => s.size | _ => 0)
 case atStart => exact ⟨0, h0, rfl, fun j hj => absurd hj (Nat.not_lt_zero _), 0, rfl⟩
 case round =>
  obtain ⟨k, hk, rfl, hz, n, rfl⟩ := hrel
  have HZ := Lib.hid hz; clear hz
  have hlen : (bytesOf (chrs (ds.drop k))).size = ds.length - k := by rw [bytesOf_size, chrs_len, List.length_drop]
  obtain ⟨s, hs⟩ : ∃ s, s = bytesOf (chrs (ds.drop k)) := ⟨_, rfl⟩
  have hv : Hid (s = dec (bval ds) ∨ ¬ (ds.length - k = 1 ∨ ds.getD k 0 ≠ 0)) := by
   by_cases he : ds.length - k = 1 ∨ ds.getD k 0 ≠ 0
   · left
     rw [hs]
     have e1 := trim_val k (Nat.le_of_lt hk) HZ.out
     have e2 := decL_bval (ds := ds.drop k) (fun d hd => HD.out d (List.mem_of_mem_drop hd)) (by rw [List.length_drop]; omega) (by rw [List.length_drop]; simpa using he)
     unfold dec
     rw [← e1, e2]
   · exact .inr he
  have hb : ∀ h : 0 < s.size, (s[0]'h).toNat = 48 + ds.getD k 0 := fun h => by
   subst hs
   rw [bytesOf_get _ (chrs_lt (fun d hd => HD.out d (List.mem_of_mem_drop hd)))]
   rw [chrs_get _ (by rw [List.length_drop]; omega)]
   simp
  have hdrop := bytesOf_drop (chrs (ds.drop k))
  have hdd : (chrs (ds.drop k)).drop 1 = chrs (ds.drop (k + 1)) := by simp [chrs, List.map_drop]
  rw [hdd] at hdrop
  rw [← hs] at hlen hdrop ⊢
  have HS := Lib.hid (And.intro hs hdrop); clear hs hdrop hdd
  have hpos : 0 < s.size := by omega
  have hb0 := hb hpos
  clear hb
  have hpos' : (0 : Int) < (s.size : Int) := by omega
  obtain ⟨d, hde⟩ : ∃ d, d = ds.getD k 0 := ⟨_, rfl⟩
  rw [← hde] at hb0 hv
  have HDE := Lib.hid hde; clear hde
  by_cases h1 : ds.length - k = 1
  · have g1 : ¬ (1 : Int) < (s.size : Int) := by omega
    have HV := Lib.hid (show s = dec (bval ds) by rcases hv.out with h | h; exact h; exact absurd (.inl h1) h)
    clear hv
    go_wp2
    go_ret
    exact ⟨by rw [← HV.out]; rfl, n, rfl⟩
  · have g1 : (1 : Int) < (s.size : Int) := by omega
    by_cases h2 : d = 0
    · have g2 : (s[0]'hpos).toNat = 48 := by rw [hb0, h2]
      clear hb0 hv
      go_wp2
      go_roundw
      case rel =>
       have hx := HS.out.2
       rw [hlen] at hx
       refine ⟨k + 1, by omega, by rw [hx], fun j hj => ?_, n, rfl⟩
       by_cases hjk : j = k
       · rw [hjk, ← HDE.out, h2]
       · exact HZ.out j (by omega)
      case measure =>
       dsimp only
       rw [ByteArray.size_extract]
       omega
    · have HV := Lib.hid (show s = dec (bval ds) by rcases hv.out with h | h; exact h; exact absurd (.inr h2) h)
      clear hv
      have g2 : (((s[0]'hpos).toNat : Int) == 48) = false := by rw [hb0]; exact beq_eq_false_iff_ne.2 (by omega)
      clear hb0
      go_wp2
      go_ret
      exact ⟨by rw [← HV.out]; rfl, n, rfl⟩

theorem refAt_any (n i : Nat) (w : World) (hl : (decL n).length ≤ 100000) :
 Calls Tryz.prog 92 #[.string (dec n), .int .i64 i] w (RetI ((n / 10 ^ i % 10 : Nat) : Int) w) := by
 have hsz := dec_size n
 by_cases hi : i < (decL n).length
 · obtain ⟨s, hs⟩ : ∃ s, s = dec n := ⟨_, rfl⟩
   obtain ⟨j, hj⟩ : ∃ j, j = (decL n).length - 1 - i := ⟨_, rfl⟩
   rw [← hs] at hsz ⊢
   have hjs : j < s.size := by omega
   obtain ⟨d, hd⟩ : ∃ d, d = n / 10 ^ i % 10 := ⟨_, rfl⟩
   have hb : (s[j]'hjs).toNat = 48 + d := by
    subst hs
    exact (bytesOf_get (chrs (decL n)) (chrs_lt (decL_lt n)) hjs).trans (by rw [chrs_get _ (by omega), hj, decL_get n i hi, hd])
   have hd10 : d < 10 := by omega
   rw [← hd]
   obtain ⟨L, hL⟩ : ∃ L, L = (decL n).length := ⟨_, rfl⟩
   rw [← hL] at hsz hi hj hl
   have g1 : ¬ (L : Int) ≤ (i : Int) := by omega
   have g2 : (L : Int) - 1 - (i : Int) = (j : Int) := by omega
   have g3 : (j : Int) < (s.size : Int) := by omega
   have g4 : IntKind.i64.wrap ((L : Int) - 1 - (i : Int)) = (j : Int) := by rw [IntKind.wrap_i64]; omega
   have g5 : IntKind.u8.wrap (((s[j]'hjs).toNat : Int) - 48) = (d : Int) := by rw [hb, IntKind.wrap_u8']; omega
   have HS := Lib.hid (And.intro hs (And.intro hd (And.intro hL (And.intro hb hj)))); clear hs hd hL hb hj
   go_enter Tryz.func92, Tryz.ntmps92
   go_wp2
   go_ret
   exact ⟨rfl, rfl⟩
 · have e : n / 10 ^ i = 0 := decL_out n i (by omega)
   rw [e]
   have g1 : ((dec n).size : Int) ≤ (i : Int) := by omega
   go_enter Tryz.func92, Tryz.ntmps92
   go_wp2
   go_ret
   exact ⟨rfl, rfl⟩

structure OutB (w wr : World) (v : Value) (cs : List Nat) : Prop where
 old : Below w.heap.size w wr
 own : wr.ownsRow w.heap.size 5 1 v cs.length (nums .u8 cs)
theorem OutB.more {w wr w' : World} {v v' : Value} {cs : List Nat} {x : Nat} (h : OutB w wr v cs) (hb : Below w.heap.size wr w') (ho : w'.ownsRow w.heap.size 5 1 v' (cs.length + 1) (nums .u8 cs ++ [.int .u8 (x : Int)])) : OutB w w' v' (cs ++ [x]) := by
 refine ⟨h.old.trans hb, ?_⟩
 rw [nums_app] at ho
 rw [List.length_append]
 exact ho
theorem OutB.read {w wr : World} {v : Value} {cs : List Nat} (h : OutB w wr v cs) : ∃ A cap, v = .slice A cs.length cap ∧ Rd wr A cs.length (fun k => .int .u8 (cs.getD k 0 : Nat)) := by
 obtain ⟨A, cap, hv, _, _, hr⟩ := own_read h.own (by rw [nums_len]; omega)
 refine ⟨A, cap, hv, Rd.congr (by rw [Nat.mul_one] at hr; exact hr) fun k hk => nums_get .u8 cs hk⟩

theorem reversed_any (A : Option Addr) (cap : Nat) (cs : List Nat) (w : World) (hr : Rd w A cs.length (fun k => .int .u8 (cs.getD k 0 : Nat))) (h0 : 0 < cs.length) (hl : cs.length ≤ 100000) :
 Calls Tryz.prog 94 #[.slice A cs.length cap] w (RetS (bytesOf cs.reverse) w) := by
 have H := Lib.hid hr; clear hr
 go_enter Tryz.func94, Tryz.ntmps94
 go_wp2
 go_loopw [3, 4] (fun v i wr => ∃ k : Nat, i = .int .i64 ((k : Int) - 1) ∧ k ≤ cs.length ∧ OutB w wr v (cs.drop k).reverse) (fun _ i _ => (intOf i + 1).toNat)
 case atStart => exact ⟨cs.length, by go_num, Nat.le_refl _, bel_alloc (bel_refl _) _, by rw [List.drop_length]; exact own_empty _ _ _ _ (Nat.le_refl _)⟩
 case round =>
  obtain ⟨k, rfl, hk, hrel⟩ := hrel
  have HA := Lib.hid hrel; clear hrel
  by_cases hk0 : k = 0
  · subst hk0
    have ho := HA.out.own
    rw [List.drop_zero] at ho
    obtain ⟨A9, c9, hv, hr9⟩ := HA.out.read
    rw [List.drop_zero] at hr9 hv
    subst hv
    have hconv : (convert 104 9 (.slice A9 cs.reverse.length c9)).run Tryz.prog wr = .ok (.string (bytesOf cs.reverse)) wr :=
     run_str wr 104 9 5 A9 c9 cs.reverse (by rw [List.length_reverse]; exact h0) Tryz.underlying104 Tryz.underlying5 Tryz.underlying9 hr9
    rw [List.length_reverse] at hconv ⊢
    have HO := Lib.hid HA.out.old
    clear ho hr9
    go_wp2
    go_ret
    exact ⟨rfl, HO.out⟩
  · obtain ⟨j, rfl⟩ : ∃ j, k = j + 1 := ⟨k - 1, by omega⟩
    have hj : ((j + 1 : Nat) : Int) - 1 = (j : Int) := by omega
    rw [hj]
    have hjl : j < cs.length := by omega
    have hjl' : (j : Int) < (cs.length : Int) := by omega
    obtain ⟨g, off, rfl, hg, hc⟩ := Rd.below H.out HA.out.old (by omega)
    have hcell : wr.cell? ⟨g, off + j, none⟩ = some (.int .u8 ((cs.getD j 0 : Nat) : Int)) := hc j hjl
    clear hc
    obtain ⟨x, hx⟩ : ∃ x, x = cs.getD j 0 := ⟨_, rfl⟩
    rw [← hx] at hcell
    have hsucc : Hid ((cs.drop j).reverse = (cs.drop (j + 1)).reverse ++ [x]) := by
     show _ = _
     rw [List.drop_eq_getElem_cons hjl, List.reverse_cons, hx, List.getD_eq_getElem?_getD, List.getElem?_eq_getElem hjl]
     rfl
    have HX := Lib.hid hx; clear hx
    obtain ⟨out, hout⟩ : ∃ out, out = (cs.drop (j + 1)).reverse := ⟨_, rfl⟩
    have hol : out.length ≤ 100000 := by rw [hout, List.length_reverse, List.length_drop]; omega
    rw [← hout] at HA hsucc
    have HOU := Lib.hid hout; clear hout
    go_wp2_with (at_builtin; refine wpList_push _ rfl _ _ 104 rfl w.heap.size 5 (.int .u8 0) 1 (by kernel_rfl) info_u8 rfl _ out.length (nums .u8 out) rfl (.int .u8 (x : Int)) rfl rfl ?_ ?_ ?_ ?_ ?_; exact HA.out.own; (unfold maxLen; omega); omega; exact HA.out.old.size; intro v' w2 hown hbel; have HO := Lib.hid (And.intro hown hbel); clear hown hbel)
    go_roundw
    case rel => exact ⟨j, by go_num, by omega, by rw [hsucc.out]; exact HA.out.more HO.out.2 HO.out.1⟩
    case measure => simp [intOf]
end
end Go.Proofs.YtmbbdjpnecjleaaGreat
namespace Go.Proofs.YtmbbdjpnecjleaaGreat
section
set_option maxRecDepth 100000
set_option maxHeartbeats 1000000
open Go.RowKit

theorem refAt_is (n i d : Nat) (w : World) (hl : (decL n).length ≤ 100000) (hd : d = n / 10 ^ i % 10) :
 Calls Tryz.prog 92 #[.string (dec n), .int .i64 i] w (RetI (d : Int) w) := by
 rw [hd]; exact refAt_any n i w hl
theorem val10_snoc (ds : List Nat) (d : Nat) : val 10 (ds ++ [d]) = val 10 ds + 10 ^ ds.length * d := val_snoc _ _ _
theorem carry10 (P s r : Nat) : P * (s % 10) + P * 10 * (s / 10 + r) = P * (s + 10 * r) := by
 have h := Nat.mod_add_div s 10
 rw [Nat.mul_assoc, ← Nat.mul_add, Nat.mul_add 10, ← Nat.add_assoc, h]
theorem chrs_snoc (ds : List Nat) (d : Nat) : chrs (ds ++ [d]) = chrs ds ++ [48 + d] := by simp [chrs]

structure RAdd (w wr : World) (a b M : Nat) (v : Value) (i c : Nat) (ds : List Nat) : Prop where
 row : OutB w wr v (chrs ds)
 len : ds.length = i
 dig : ∀ d ∈ ds, d < 10
 carry : c ≤ 1
 sum : val 10 ds + 10 ^ i * (c + (a / 10 ^ i + b / 10 ^ i)) = a + b
 lim : i ≤ M + 1
 top : i = M + 1 → c = 0
theorem RAdd.step {w wr w' : World} {a b M : Nat} {v v' : Value} {i c x y t : Nat} {ds : List Nat} (h : RAdd w wr a b M v i c ds) (hx : x = a / 10 ^ i % 10) (hy : y = b / 10 ^ i % 10) (ht : t = x + y + c)
 (hM : (decL a).length ≤ M ∧ (decL b).length ≤ M) (hi : i ≤ M) (hrow : OutB w w' v' (chrs (ds ++ [t % 10]))) : RAdd w w' a b M v' (i + 1) (t / 10) (ds ++ [t % 10]) := by
 have hc := h.carry
 refine ⟨hrow, by rw [List.length_append, h.len]; rfl, ?_, by omega, ?_, by omega, ?_⟩
 · intro d hd
   rcases List.mem_append.1 hd with hd | hd
   · exact h.dig d hd
   · rw [List.mem_singleton.1 hd]; exact Nat.mod_lt _ (by decide)
 · rw [val10_snoc, h.len, Nat.add_assoc, Nat.pow_succ, carry10, ← h.sum, div_pow_step a i, div_pow_step b i, ← hx, ← hy, ht, Nat.pow_succ]
   congr 2
   omega
 · intro he
   have e1 : a / 10 ^ i = 0 := decL_out a i (by omega)
   have e2 : b / 10 ^ i = 0 := decL_out b i (by omega)
   rw [e1] at hx
   rw [e2] at hy
   omega
theorem RAdd.done {w wr : World} {a b M : Nat} {v : Value} {i c : Nat} {ds : List Nat} (h : RAdd w wr a b M v i c ds) (h1 : (decL a).length ≤ i) (h2 : (decL b).length ≤ i) (h3 : c = 0) : val 10 ds = a + b := by
 have hs := h.sum
 rw [decL_out a i h1, decL_out b i h2, h3] at hs
 simpa using hs

theorem refAdd_any (a b : Nat) (w : World) (hl : (decL a).length ≤ 10000) (hl' : (decL b).length ≤ 10000) :
 Calls Tryz.prog 121 #[.string (dec a), .string (dec b)] w (RetS (dec (a + b)) w) := by
 have z1 := dec_size a
 have z2 := dec_size b
 have hp1 := decL_len_pos a
 obtain ⟨la, hla⟩ : ∃ la, la = (decL a).length := ⟨_, rfl⟩
 obtain ⟨lb, hlb⟩ : ∃ lb, lb = (decL b).length := ⟨_, rfl⟩
 obtain ⟨M, hM⟩ : ∃ M, M = max la lb := ⟨_, rfl⟩
 rw [← hla] at z1 hl hp1
 rw [← hlb] at z2 hl'
 have hM1 : la ≤ M := by omega
 have hM2 : lb ≤ M := by omega
 have hM3 : M ≤ 10000 := by omega
 have hM4 : M = la ∨ M = lb := by omega
 have HL := Lib.hid (And.intro hla (And.intro hlb hM4)); clear hla hlb hM hM4
 go_enter Tryz.func121, Tryz.ntmps121
 go_wp2
 go_loopw [5, 6, 7] (fun v cv iv wr => ∃ (i c : Nat) (ds : List Nat), iv = .int .i64 (i : Int) ∧ cv = .int .i64 (c : Int) ∧ RAdd w wr a b M v i c ds) (fun _ _ i _ => M + 1 - (intOf i).toNat)
 case atStart => exact ⟨0, 0, [], rfl, rfl, ⟨bel_alloc (bel_refl _) _, own_empty _ _ _ _ (Nat.le_refl _)⟩, rfl, by simp, by omega, by simp [val], by omega, fun _ => rfl⟩
 case round =>
  obtain ⟨i, c, ds, rfl, rfl, hrel⟩ := hrel
  have HA := Lib.hid hrel; clear hrel
  have hlim := HA.out.lim
  have hlen := HA.out.len
  have hcar := HA.out.carry
  by_cases hend : la ≤ i ∧ lb ≤ i ∧ c = 0
  · obtain ⟨e1, e2, e3⟩ := hend
    have hdone := Lib.hid (HA.out.done (by rw [← HL.out.1]; exact e1) (by rw [← HL.out.2.1]; exact e2) e3)
    have q1 : ¬ (i : Int) < ((dec a).size : Int) := by omega
    have q2 : ¬ (i : Int) < ((dec b).size : Int) := by omega
    have q3 : ¬ (0 : Int) < (c : Int) := by omega
    obtain ⟨A9, c9, hv, hr9⟩ := HA.out.row.read
    subst hv
    have R9 := Lib.hid hr9; clear hr9
    have hlo : (chrs ds).length ≤ 100000 := by rw [chrs_len]; omega
    have hlo0 : 0 < (chrs ds).length := by rw [chrs_len]; omega
    have hrv : (chrs ds).reverse = chrs ds.reverse := by simp [chrs, List.map_reverse]
    have HRV := Lib.hid hrv; clear hrv
    go_wp2_with fail
    refine (reversed_any A9 c9 (chrs ds) _ R9.out hlo0 hlo).mono ?_
    rintro e w2 ⟨rfl, hb2⟩
    rw [HRV.out]
    have HB2 := Lib.hid hb2; clear hb2
    go_wp2_with fail
    refine (refTrim_any ds.reverse _ (fun d hd => HA.out.dig d (List.mem_reverse.1 hd)) (by rw [List.length_reverse]; rwa [chrs_len] at hlo0)).mono ?_
    rintro e w3 ⟨rfl, n3, rfl⟩
    rw [show bval ds.reverse = val 10 ds by unfold bval; rw [List.reverse_reverse], hdone.out]
    go_wp2
    go_ret
    exact ⟨rfl, bel_drewN (bel_trans HA.out.row.old HB2.out) _⟩
  · have him : i ≤ M := by
     have := HA.out.top
     omega
    have hq : ((i : Int) < ((dec a).size : Int)) ∨ (¬ (i : Int) < ((dec a).size : Int) ∧ (i : Int) < ((dec b).size : Int)) ∨ (¬ (i : Int) < ((dec a).size : Int) ∧ ¬ (i : Int) < ((dec b).size : Int) ∧ (0 : Int) < (c : Int)) := by omega
    obtain ⟨x, hx⟩ : ∃ x, x = a / 10 ^ i % 10 := ⟨_, rfl⟩
    obtain ⟨y, hy⟩ : ∃ y, y = b / 10 ^ i % 10 := ⟨_, rfl⟩
    have hx9 : x ≤ 9 := by omega
    have hy9 : y ≤ 9 := by omega
    have Ex := Lib.hid hx; clear hx
    have Ey := Lib.hid hy; clear hy
    obtain ⟨t1, ht1⟩ : ∃ t1, t1 = x + y := ⟨_, rfl⟩
    obtain ⟨t, ht⟩ : ∃ t, t = t1 + c := ⟨_, rfl⟩
    obtain ⟨l, hl9⟩ : ∃ l, l = t % 10 := ⟨_, rfl⟩
    obtain ⟨c', hc'⟩ : ∃ c', c' = t / 10 := ⟨_, rfl⟩
    obtain ⟨ch, hch⟩ : ∃ ch, ch = 48 + l := ⟨_, rfl⟩
    have s1 : IntKind.i64.wrap ((x : Int) + (y : Int)) = (t1 : Int) := by rw [IntKind.wrap_i64]; omega
    have s2 : IntKind.i64.wrap ((t1 : Int) + (c : Int)) = (t : Int) := by rw [IntKind.wrap_i64]; omega
    have s3 : (t : Int) % 10 = (l : Int) := by omega
    have s3' : (t : Int).tmod 10 = (l : Int) := by rw [Int.tmod_eq_emod_of_nonneg (by omega)]; exact s3
    have s4 : (t : Int) / 10 = (c' : Int) := by omega
    have s4' : (t : Int).tdiv 10 = (c' : Int) := by rw [Int.tdiv_eq_ediv_of_nonneg (by omega)]; exact s4
    have s5 : IntKind.i64.wrap (48 + (l : Int)) = (ch : Int) := by rw [IntKind.wrap_i64]; omega
    have s6 : IntKind.u8.wrap (ch : Int) = (ch : Int) := by rw [IntKind.wrap_u8']; omega
    have s7 : IntKind.i64.wrap (c' : Int) = (c' : Int) := by rw [IntKind.wrap_i64]; omega
    have s8 : IntKind.i64.wrap (l : Int) = (l : Int) := by rw [IntKind.wrap_i64]; omega
    have hMM : Hid ((decL a).length ≤ M ∧ (decL b).length ≤ M) := by
     have h1 := HL.out.1; have h2 := HL.out.2.1
     exact ⟨by omega, by omega⟩
    have HS := Lib.hid (And.intro ht1 (And.intro ht (And.intro hl9 (And.intro hc' hch)))); clear ht1 ht hl9 hc' hch hx9 hy9 hcar
    rcases hq with q1 | ⟨q1, q2⟩ | ⟨q1, q2, q3⟩
    all_goals
     go_wp2_with first
      | (go_at_call 92; (with_reducible refine (refAt_is a i x _ (by have := HL.out.1; omega) Ex.out).mono ?_); rintro e w' ⟨rfl, rfl⟩)
      | (go_at_call 92; (with_reducible refine (refAt_is b i y _ (by have := HL.out.2.1; omega) Ey.out).mono ?_); rintro e w' ⟨rfl, rfl⟩)
      | (at_builtin; refine wpList_push _ rfl _ _ 104 rfl w.heap.size 5 (.int .u8 0) 1 (by kernel_rfl) info_u8 rfl _ (chrs ds).length (nums .u8 (chrs ds)) rfl (.int .u8 (ch : Int)) rfl rfl ?_ ?_ ?_ ?_ ?_; exact HA.out.row.own; (unfold maxLen; rw [chrs_len]; omega); (rw [chrs_len]; omega); exact HA.out.row.old.size; intro v' w2 hown hbel; have HO := Lib.hid (And.intro hown hbel); clear hown hbel)
     go_roundw
     case rel =>
      obtain ⟨ht1, ht, hl9, hc', hch⟩ := HS.out
      subst hc' hl9
      have hr := HA.out.row.more HO.out.2 HO.out.1
      rw [hch, ← chrs_snoc] at hr
      exact ⟨i + 1, _, _, by go_num, rfl, HA.out.step Ex.out Ey.out (by omega) hMM.out him hr⟩
     case measure => simp [intOf]; omega
end
end Go.Proofs.YtmbbdjpnecjleaaGreat
