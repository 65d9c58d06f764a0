/-
  The reference's Nat: the limbs of digits.
-/
import Derived.Test.YtmbbdjpnecjleaaDoorNLaw4
namespace Go.Proofs.YtmbbdjpnecjleaaDoor
open Go.RowKit

theorem dec_b32 : dec B32 = ⟨#[52, 50, 57, 52, 57, 54, 55, 50, 57, 54]⟩ := by decide +kernel
theorem refDiv_b32 (k : Nat) (w : World) (hl : (decL k).length ≤ 1000) :
    Calls Tryd.prog 27 #[.string (dec k), .string ⟨#[52, 50, 57, 52, 57, 54, 55, 50, 57, 54]⟩] w (RetQR (dec (k / B32)) (dec (k % B32)) w) := by
  have := refDiv_any k B32 w hl (by decide +kernel) (by decide)
  rwa [dec_b32] at this
theorem dec_is0 (k : Nat) : ((dec k).toList == [48]) = decide (k = 0) := by
  rw [← dec_beq, dec_zero, ByteArray.toList_eq ⟨#[48]⟩]
structure NatRel (w wr : World) (n : Nat) (v : Value) (j : Nat) : Prop where
  row : OutL w wr v ((limbs n).take j)
  le : j ≤ (limbs n).length
theorem limbs_getB (n j : Nat) : (limbs n).getD j 0 = n / B32 ^ j % B32 := digs_get B32_two n j
theorem NatRel.more (n j : Nat) (h : n / B32 ^ j ≠ 0) : j < (limbs n).length := by
  by_cases hj : j < (limbs n).length
  · exact hj
  · exact absurd (Nat.div_eq_of_lt ((digs_len_le B32_two).1 (show (digs B32 n).length ≤ j by exact Nat.le_of_not_lt hj))) h
theorem NatRel.step (n j : Nat) (h : j < (limbs n).length) : (limbs n).take (j + 1) = (limbs n).take j ++ [n / B32 ^ j % B32] := by
  rw [List.take_succ_eq_append_getElem h, ← limbs_getB, List.getD_eq_getElem?_getD, List.getElem?_eq_getElem h]
  rfl
theorem NatRel.last (n j : Nat) (h : n / B32 ^ j = 0) : (limbs n).length ≤ j :=
  (digs_len_le B32_two).2 (Nat.div_eq_zero_iff_lt (Nat.pow_pos (by decide)) |>.1 h)
theorem bval_step {r i d : Nat} (hi : i < (decL r).length) (hd : d = (decL r).getD i 0) : bval ((decL r).take (i + 1)) = 10 * bval ((decL r).take i) + d := by
  rw [List.take_succ_eq_append_getElem hi, bval_snoc, hd, List.getD_eq_getElem?_getD, List.getElem?_eq_getElem hi]
  exact Nat.add_comm _ _
/-- append of one, that tells what it left as it was. -/
theorem wpList_pushg {P : Program} {ops : Array Oper} {rest : List Oper} {o : Oper} {a : Act} {Q : Exit → Act → World → Prop} (w : World) (hgd : o.guard = none) (s x : Operand) (t : TypeId)
    (ho : o.op = .call { callee := .builtin .append, args := #[s, x], argTypes := #[t, t] })
    (base : Nat) (e : TypeId) (z : Value) (bytes : Nat) (ht : P.underlying t = some (.slice e))
    (hinfo : (P.info? e).map (fun i => (i.zero, i.size, i.bytes)) = some (some z, 1, bytes)) (hzs : z.cells.size = 1)
    (v : Value) (n : Nat) (xs : List Value) (hs : a.eval s = v) (u : Value) (hx : a.eval x = .slice (some ⟨w.heap.size, 0, none⟩) 1 1) (h1 : u.oneCell' = true)
    (hown : w.ownsRow base e 1 v n xs)
    (h63 : n + 1 ≤ maxLen) (hbytes : (n + 1) * bytes ≤ 140737488355328) (hbase : base ≤ w.heap.size)
    (h : ∀ v' w', w'.ownsRow base e 1 v' (n + 1) (xs ++ [u]) → (w.alloc (.cells #[u] e)).grownBy w' v.ownBlock → Below base w w' → wpList P ops Q rest (a.put o.dst v') w') : wpList P ops Q (o :: rest) a (w.alloc (.cells #[u] e)) := by
  refine wpList_app (w.alloc (.cells #[u] e)) hgd s x t ho base e z 1 bytes ht hinfo hzs (by decide) v n xs hs (some ⟨w.heap.size, 0, none⟩) 1 1 [u] hx rfl (fun y hy => by
    rw [List.mem_singleton.1 hy]; exact h1) (own_below hown (bel_alloc (bel_refl _) _)) (Rd.newAt w [u] e _ 1 rfl (Nat.le_refl _)) h63 hbytes (by simp; omega) ?_
  intro v' w' h2 h3 h4
  refine h v' w' h2 h3 ?_
  exact ((Below.refl base w).alloc hbase _).trans h4
theorem own_block_lt {w : World} {base : Nat} {e : TypeId} {size n : Nat} {v : Value} {xs : List Value} (h : w.ownsRow base e size v n xs) {g : Nat} (hg : w.heap.size ≤ g) : some g ≠ v.ownBlock := by
  rcases h.2 with ⟨rfl, rfl⟩ | ⟨g', cap, cur, rfl, hb, hh, hc, hm, hsz, htake⟩
  · intro h; cases h
  · have := (Array.getElem?_eq_some_iff.1 hh).1
    intro h
    injection h with h
    have h' : g = g' := h
    omega
def lenOf : Value → Nat
  | .slice _ l _ => l
  | _ => 0
theorem own_len {w : World} {base : Nat} {e : TypeId} {size n : Nat} {v : Value} {xs : List Value} (h : w.ownsRow base e size v n xs) : lenOf v = n := by
  rcases h.2 with ⟨rfl, rfl⟩ | ⟨g', cap, cur, rfl, hb, hh, hc, hm, hsz, htake⟩ <;> rfl

set_option maxRecDepth 100000 in
set_option maxHeartbeats 1000000 in
theorem refNat_any (n : Nat) (w : World) (hn : n < Top) :
    Calls Tryd.prog 15 #[.string (dec n)] w (RetN n w) := by
  have hl16 := limbs_len16 hn
  have HN := Lib.hid hn; clear hn
  obtain ⟨M, hM⟩ : ∃ M, M = (limbs n).length := ⟨_, rfl⟩
  rw [← hM] at hl16
  have HM := Lib.hid hM; clear hM
  go_enter Tryd.func15, Tryd.ntmps15
  go_wp2
  go_loopw [0, 3] (fun sv v wr => ∃ k j : Nat, sv = .string (dec k) ∧ k = n / B32 ^ j ∧ NatRel w wr n v j) (fun _ v _ => M - lenOf v)
  case atStart => exact ⟨n, 0, rfl, by simp, ⟨bel_alloc (bel_refl _) _, own_empty _ _ _ _ (Nat.le_refl _), by intro x hx; simp at hx⟩, Nat.zero_le _⟩
  case round =>
    obtain ⟨k, j, rfl, hk, hrel⟩ := hrel
    have HA := Lib.hid hrel; clear hrel
    have HK := Lib.hid hk; clear hk
    have hb := dec_is0 k
    by_cases hk0 : k = 0
    · rw [decide_eq_true hk0] at hb
      obtain ⟨A9, c9, hv, hc9, hm9, hr9, hf9⟩ := own_rdF HA.out.row.own rfl
      subst hv
      have R9 := Lib.hid hr9; clear hr9
      have hall : Hid ((limbs n).take j = limbs n) := by
        show _ = _
        exact List.take_of_length_le (NatRel.last n j (by rw [← HK.out]; exact hk0))
      clear hf9 hk0
      go_wp2
      go_ret
      have hr := R9.out
      rw [hall.out] at hr ⊢
      exact ⟨_, rfl, ⟨A9, c9, rfl, by rw [hall.out] at hc9; exact hc9, hr⟩, HA.out.row.old⟩
    · rw [decide_eq_false hk0] at hb
      have hjl : j < M := by rw [HM.out]; exact NatRel.more n j (by rw [← HK.out]; exact hk0)
      have hkl : Hid ((decL k).length ≤ 1000) := by
        show _ ≤ _
        have := decL_top (n := k) (by rw [HK.out]; exact lt_top (Nat.div_le_self _ _) HN.out)
        omega
      clear hk0
      go_wp2_with (go_at_call 27; (with_reducible refine (refDiv_b32 k _ hkl.out).mono ?_); rintro e w2 ⟨rfl, hb2⟩; have HB2 := Lib.hid hb2; clear hb2)
      obtain ⟨q, hq⟩ : ∃ q, q = k / B32 := ⟨_, rfl⟩
      obtain ⟨r, hr⟩ : ∃ r, r = k % B32 := ⟨_, rfl⟩
      have hr32 : r < B32 := by rw [hr]; exact Nat.mod_lt _ (by decide)
      rw [← hq, ← hr]
      have HQR := Lib.hid (And.intro hq hr); clear hq hr
      have D := DAt.new w2 q r
      have HW := Lib.hid (bel_trans HB2.out (DAt.bel w2 q r))
      generalize hwd : w2.alloc (.cells #[.string (dec q), .string (dec r)] 51) = W3 at D HW ⊢
      clear hwd
      have d1 := D.r
      have hbw : wr.heap.size ≤ w2.heap.size := HB2.out.size
      clear HB2
      obtain ⟨b, hb0⟩ : ∃ b, b = w2.heap.size := ⟨_, rfl⟩
      rw [← hb0] at D d1 hbw ⊢
      clear hb0
      have HBW := Lib.hid (own_block_lt HA.out.row.own hbw); clear hbw
      have DD := Lib.hid D; clear D
      have hL10 : (decL r).length ≤ 10 := decL_limbs (k := 1) (by rw [Nat.pow_one]; exact hr32) (by decide)
      have hsz := dec_size r
      obtain ⟨s, hs⟩ : ∃ s, s = dec r := ⟨_, rfl⟩
      rw [← hs] at d1 hsz
      have HR32 := Lib.hid hr32; clear hr32
      have HS := Lib.hid hs; clear hs
      obtain ⟨L, hL⟩ : ∃ L, L = (decL r).length := ⟨_, rfl⟩
      rw [← hL] at hsz hL10
      have HL := Lib.hid hL; clear hL
      have hru : IntKind.u32.wrap (r : Int) = (r : Int) := by have := HR32.out; rw [B32_eq] at this; rw [IntKind.wrap_u32']; omega
      have hlen16 : ((limbs n).take j).length ≤ 17 := by rw [List.length_take]; have := HM.out; omega
      go_loopw [5, 6] (fun nv iv wi => ∃ i m : Nat, nv = .int .i64 (m : Int) ∧ iv = .int .i64 (i : Int) ∧ i ≤ L ∧ m = bval ((decL r).take i) ∧ m < 10 ^ i ∧ wi = W3) (fun _ iv _ => L - (intOf iv).toNat)
      case atStart => exact ⟨0, 0, rfl, rfl, Nat.zero_le _, by simp [bval, val], by simp, rfl⟩
      case round =>
        obtain ⟨i, m, rfl, rfl, hi, hm, hm10, rfl⟩ := hrel
        have hp10 : 10 ^ i ≤ 10 ^ 10 := Nat.pow_le_pow_right (by decide) (by omega)
        have hmb : m < 10000000000 := Nat.lt_of_lt_of_le hm10 hp10
        clear hp10
        have HMM := Lib.hid (And.intro hm hm10); clear hm hm10
        by_cases hlt : i < L
        · have hlt' : (i : Int) < (L : Int) := by omega
          have hi0 : (0 : Int) ≤ (i : Int) := by omega
          have his : i < s.size := by omega
          have hlt2 : (i : Int) < (s.size : Int) := by omega
          obtain ⟨d, hd⟩ : ∃ d, d = (decL r).getD i 0 := ⟨_, rfl⟩
          have hd10 : d < 10 := by rw [hd]; exact decL_digit r i
          have hbt : (s[i]'his).toNat = 48 + d := by
            have := HS.out
            subst this
            exact (bytesOf_get (chrs (decL r)) (chrs_lt (decL_lt r)) his).trans (by rw [chrs_get _ (by rw [← HL.out]; exact hlt), hd])
          have g5 : IntKind.u8.wrap (((s[i]'his).toNat : Int) - 48) = (d : Int) := by rw [hbt, IntKind.wrap_u8']; omega
          obtain ⟨m1, hm1⟩ : ∃ m1, m1 = 10 * m := ⟨_, rfl⟩
          obtain ⟨m2, hm2⟩ : ∃ m2, m2 = 10 * m + d := ⟨_, rfl⟩
          have g6 : IntKind.i64.wrap (10 * (m : Int)) = (m1 : Int) := by rw [IntKind.wrap_i64]; omega
          have g7 : IntKind.i64.wrap (d : Int) = (d : Int) := by rw [IntKind.wrap_i64]; omega
          have g8 : IntKind.i64.wrap ((m1 : Int) + (d : Int)) = (m2 : Int) := by rw [IntKind.wrap_i64]; omega
          have HM2 := Lib.hid (And.intro hd (And.intro hm2 hd10)); clear hd hm2 hm1 hbt
          go_wp2
          go_roundw
          case rel =>
            obtain ⟨hd, hm2, hd10⟩ := HM2.out
            refine ⟨i + 1, m2, rfl, by go_num, by omega, ?_, ?_, trivial⟩
            · rw [bval_step (by rw [← HL.out]; exact hlt) hd, ← HMM.out.1, hm2]
            · rw [Nat.pow_succ, hm2]
              have := HMM.out.2
              omega
          case measure => simp [intOf]; omega
        · have hiL : i = L := by omega
          have hmr : m = r := by rw [HMM.out.1, List.take_of_length_le (by rw [← HL.out]; omega), bval_decL]
          subst hmr
          go_wp2_with (at_builtin; refine wpList_pushg _ rfl _ _ 23 rfl w.heap.size 59 (.int .u32 0) 4 (by kernel_rfl) info_u32 rfl _ ((limbs n).take j).length (nums .u32 ((limbs n).take j)) rfl (.int .u32 (m : Int)) rfl rfl ?_ ?_ ?_ ?_ ?_; exact (HA.out.row.keep HW.out).own; (unfold maxLen; omega); omega; exact (HA.out.row.keep HW.out).old.size; intro v' w9 hown hgr hbel; have HO := Lib.hid (And.intro hown hbel); have d2 : w9.cell? ⟨b, 0, none⟩ = some (.string (dec q)) := Blk.cell ((Blk.alloc DD.out _).grown hgr HBW.out) 0; clear hown hbel hgr)
          go_roundw
          case rel =>
            have hrow := (HA.out.row.keep HW.out).more HR32.out HO.out.2 HO.out.1
            rw [HQR.out.2, HK.out, ← NatRel.step n j (by rw [← HM.out]; exact hjl)] at hrow
            refine ⟨q, j + 1, rfl, ?_, hrow, by rw [← HM.out]; omega⟩
            rw [HQR.out.1, HK.out, Nat.div_div_eq_div_mul, ← Nat.pow_succ]
          case measure =>
            rw [own_len HO.out.1, own_len HA.out.row.own, List.length_take, ← HM.out]
            omega
end Go.Proofs.YtmbbdjpnecjleaaDoor
