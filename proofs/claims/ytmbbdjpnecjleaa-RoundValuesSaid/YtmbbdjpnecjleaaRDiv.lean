/-
  The reference's Div, walked.
-/
import Derived.Test.YtmbbdjpnecjleaaRMul
namespace Go.Proofs.Ytmbbdjpnecjleaa
set_option maxRecDepth 100000
open Go.RowKit

theorem decL_mono {a b : Nat} (h : a ≤ b) : (decL a).length ≤ (decL b).length := by
  by_cases h' : (decL b).length < (decL a).length
  · have := decL_less h'; omega
  · omega

/-- A struct of two texts. -/
def RetQR (q r : ByteArray) (w : World) (e : Ending) (w' : World) : Prop := e = .returned (.agg #[.string q, .string r]) ∧ Below w.heap.size w w'

structure DvRel (w wr : World) (a b i : Nat) : Prop where
  old : Below w.heap.size w wr
  blk : Blk wr (w.heap.size + 1) 62 #[.string (dec (bval ((decL a).take i) / b)), .string (dec (bval ((decL a).take i) % b))]
  res : Blk wr w.heap.size 62 #[.string ⟨#[]⟩, .string ⟨#[]⟩]

theorem one_byte (P : Program) (src dst e : TypeId) (ch : Nat) (hs : P.underlying src = some (.slice e)) (he : P.underlying e = some (.int .u8)) (hd : P.underlying dst = some .string) (W : World) :
    (convert src dst (.slice (some ⟨W.heap.size, 0, none⟩) 1 1)).run P (W.alloc (.cells #[.int .u8 (ch : Int)] e)) = .ok (.string (bytesOf [ch])) (W.alloc (.cells #[.int .u8 (ch : Int)] e)) :=
  run_str (P := P) (W.alloc (.cells #[.int .u8 (ch : Int)] e)) src dst e (some ⟨W.heap.size, 0, none⟩) 1 [ch] (by simp) hs he hd fun _ =>
    ⟨W.heap.size, 0, rfl, by simp, fun k hk => by
      have h0 : k = 0 := by simpa using hk
      subst h0
      exact (Blk.new W e #[.int .u8 (ch : Int)]).cell 0⟩
theorem dec_cut (n : Nat) {i : Nat} (h : i < (decL n).length) : (dec n).extract i (i + 1) = bytesOf [48 + (decL n).getD i 0] := by
  apply ByteArray.ext
  rw [ByteArray.data_extract]
  apply Array.ext'
  rw [Array.toList_extract]
  have h2 : i < (List.map UInt8.ofNat (chrs (decL n))).length := by simp [chrs, h]
  show List.extract (dec n).data.toList i (i + 1) = (bytesOf [48 + (decL n).getD i 0]).data.toList
  have e : (dec n).data.toList = List.map UInt8.ofNat (chrs (decL n)) := by simp [dec, bytesOf]
  rw [e]
  simp only [List.extract]
  rw [List.drop_eq_getElem_cons h2]
  simp [bytesOf, chrs, h]

set_option maxRecDepth 100000 in
set_option maxHeartbeats 1000000 in
theorem refDiv_any (a b : Nat) (w : World) (hl : (decL a).length ≤ 1000) (hl' : (decL b).length ≤ 1000) (hb0 : b ≠ 0) :
    Calls Try.prog 43 #[.string (dec a), .string (dec b)] w (RetQR (dec (a / b)) (dec (a % b)) w) := by
  have HL := Lib.hid (And.intro hl (And.intro hl' hb0)); clear hl' hb0
  have z1 := dec_size a
  obtain ⟨la, hla⟩ : ∃ la, la = (decL a).length := ⟨_, rfl⟩
  rw [← hla] at z1 hl
  have HLA := Lib.hid hla; clear hla
  go_enter Try.func43, Try.ntmps43
  go_wp2
  go_loopw [6] (fun iv wr => ∃ i : Nat, iv = .int .i64 (i : Int) ∧ i ≤ la ∧ DvRel w wr a b i) (fun i _ => la - (intOf i).toNat)
  case atStart =>
    refine ⟨0, rfl, Nat.zero_le _, bel_alloc (bel_alloc (bel_refl _) _) _, ?_, (Blk.new _ _ _).alloc _⟩
    rw [List.take_zero, show bval [] = 0 from rfl, Nat.zero_div, Nat.zero_mod, dec_zero]
    have := Blk.new (w.alloc (.cells #[.string ⟨#[]⟩, .string ⟨#[]⟩] 62)) 62 #[.string ⟨#[48]⟩, .string ⟨#[48]⟩]
    rwa [World.size_alloc] at this
  case round =>
    obtain ⟨i, rfl, hi, hrel⟩ := hrel
    have HA := Lib.hid hrel; clear hrel
    by_cases hlt : i < la
    · have hi0 : (0 : Int) ≤ (i : Int) := by omega
      have hi1 : (i : Int) + 1 ≤ ((dec a).size : Int) := by omega
      have hil : (i : Int) < ((dec a).size : Int) := by omega
      obtain ⟨P, hP⟩ : ∃ P, P = bval ((decL a).take i) := ⟨_, rfl⟩
      have hblk := HA.out.blk
      rw [← hP] at hblk
      obtain ⟨Q, hQ⟩ : ∃ Q, Q = P / b := ⟨_, rfl⟩
      obtain ⟨R, hR⟩ : ∃ R, R = P % b := ⟨_, rfl⟩
      rw [← hQ, ← hR] at hblk
      have c0 : wr.cell? ⟨w.heap.size + 1, 0, none⟩ = some (.string (dec Q)) := by rw [hblk.cell]; rfl
      have c1 : wr.cell? ⟨w.heap.size + 1, 1, none⟩ = some (.string (dec R)) := by rw [hblk.cell]; rfl
      have HBK := Lib.hid hblk; clear hblk
      have hcut := dec_cut a (i := i) (by rw [← HLA.out]; exact hlt)
      obtain ⟨d, hd⟩ : ∃ d, d = (decL a).getD i 0 := ⟨_, rfl⟩
      rw [← hd] at hcut
      have hsi : IntKind.i64.wrap ((i : Int) + 1) = (i : Int) + 1 := by rw [IntKind.wrap_i64]; omega
      have hbp : 0 < b := by have := HL.out.2.2; omega
      have hRb : R < b := by rw [hR]; exact Nat.mod_lt _ hbp
      have hRl : (decL R).length ≤ 1000 := Nat.le_trans (decL_mono (Nat.le_of_lt hRb)) HL.out.2.1
      have hQl : (decL Q).length ≤ 1000 := by
        have h1 : (decL P).length ≤ 1000 := by
          have h3 := pre_lt a i
          rw [← hP] at h3
          by_cases h4 : i = 0
          · rw [h4, Nat.pow_zero] at h3
            have : P = 0 := by omega
            rw [this]; decide
          · exact Nat.le_trans (decL_len_le h3 (by omega)) (by omega)
        exact Nat.le_trans (decL_mono (by rw [hQ]; exact Nat.div_le_self _ _)) h1
      have hsz2 : ¬ 9223372036854775807 < (dec R).size + 1 := by rw [dec_size]; omega
      have sz1 : (bytesOf [48 + d]).size = 1 := rfl
      have hi2 : (0 : Int) ≤ (i : Int) + 1 := by omega
      have hi3 : (i : Int) ≤ (i : Int) + 1 := by omega
      have hi4 : (i : Int) + 1 ≤ (la : Int) := by omega
      have hi5 : (i : Int) < (la : Int) := by omega
      have hi6 : (i : Int) ≤ (la : Int) := by omega
      have hd10 : d < 10 := by rw [hd]; exact decL_digit a i
      obtain ⟨T, hT⟩ : ∃ T, T = d + 10 * R := ⟨_, rfl⟩
      have hTb : T < 10 * b := by omega
      have hTl : (decL T).length ≤ 1001 := Nat.le_trans (decL_len_le (k := (decL R).length + 1) (by
        have h1 := decL_bound R
        rw [Nat.pow_succ, hT]
        omega) (by omega)) (by omega)
      have HPQ := Lib.hid (And.intro hP (And.intro hQ (And.intro hR (And.intro hd (And.intro hd10 (And.intro hT hTb)))))); clear hP hQ hR hd hd10 hT hTb hRb
      have hcat := dec_snoc R d
      have HCAT := Lib.hid hcat; clear hcat
      go_wp2
      go_region_held3 (fun w' => w'.cell? ⟨w.heap.size + 1, 1, none⟩ = some (.string (dec R))) (first | exact c1)
        (first
          | (go_at_call 73; rw [HCAT.out]; (with_reducible refine (refTrim_any (decL R ++ [d]) _ ?_ ?_).mono ?_); (intro x hx; rcases List.mem_append.1 hx with hx | hx; exact decL_lt R x hx; (rw [List.mem_singleton.1 hx]; exact HPQ.out.2.2.2.2.1)); simp; rintro e w12 ⟨rfl, n12, rfl⟩; rw [bval_snoc, bval_decL, ← HPQ.out.2.2.2.2.2.1]))
      go_wp2
      have HW : Hid (Below wr.heap.size wr (wr.drewN (1 + n12))) := Lib.hid (bel_drewN (bel_refl _) _)
      go_loopw [7, 8] (fun v nv wj => ∃ (r n : Nat), v = .string (dec r) ∧ nv = .int .i64 (n : Int) ∧ r + n * b = T ∧ Below wr.heap.size wr wj) (fun _ nv _ => 10 - (intOf nv).toNat)
      case atStart => exact ⟨T, 0, rfl, rfl, by omega, HW.out⟩
      case round =>
        obtain ⟨r, n, rfl, rfl, hrn, hbj⟩ := hrel
        have HBJ := Lib.hid hbj; clear hbj
        have hTb := HPQ.out.2.2.2.2.2.2
        have hn10 : n < 10 := by
          have h1 : n * b < 10 * b := by omega
          exact Nat.lt_of_mul_lt_mul_right h1
        have hrl : (decL r).length ≤ 1001 := Nat.le_trans (decL_mono (by omega)) hTl
        by_cases hge : b ≤ r
        · have hc' : 0 ≤ cmpI (r : Int) (b : Int) := by unfold cmpI; rw [if_neg (by omega)]; split <;> omega
          have hsn : IntKind.i64.wrap ((n : Int) + 1) = (n : Int) + 1 := by rw [IntKind.wrap_i64]; omega
          have HRN := Lib.hid (And.intro hrn (And.intro hge (And.intro hTb hrl))); clear hrn hge hTb hrl
          go_wp2_with first
            | (go_at_call 46; (with_reducible refine (refCmp_any r b _).mono ?_); rintro e w13 ⟨rfl, n13, rfl⟩)
            | (go_at_call 68; (with_reducible refine (refSub_any r b _ ?_ ?_ ?_).mono ?_); (have := HRN.out.2.2.2; omega); (have := HL.out.2.1; omega); exact HRN.out.2.1; rintro e w14 ⟨rfl, hb14⟩; have HB14 := Lib.hid hb14; clear hb14)
          go_roundw
          case rel =>
            obtain ⟨hrn, hge, hTb, hrl⟩ := HRN.out
            exact ⟨r - b, n + 1, rfl, by go_num, by rw [Nat.add_mul, Nat.one_mul]; omega, bel_trans (bel_drewN HBJ.out n13) HB14.out⟩
          case measure => simp [intOf]; omega
        · have hc' : ¬ 0 ≤ cmpI (r : Int) (b : Int) := by rw [cmpI_lt (by omega)]; omega
          have HRN := Lib.hid (And.intro hrn (And.intro hge hTb)); clear hrn hge hTb
          obtain ⟨ch, hch⟩ : ∃ ch, ch = 48 + n := ⟨_, rfl⟩
          have s1 : IntKind.i64.wrap (48 + (n : Int)) = (ch : Int) := by rw [IntKind.wrap_i64]; omega
          have s2 : IntKind.u8.wrap (ch : Int) = (ch : Int) := by rw [IntKind.wrap_u8']; omega
          have hone : ∀ m, (convert 100 9 (.slice (some ⟨wr.heap.size, 0, none⟩) 1 1)).run Try.prog ((wr.drewN m).alloc (.cells #[.int .u8 (ch : Int)] 5)) = .ok (.string (bytesOf [ch])) ((wr.drewN m).alloc (.cells #[.int .u8 (ch : Int)] 5)) := fun m =>
            one_byte Try.prog 100 9 5 ch Try.underlying100 Try.underlying5 Try.underlying9 (wr.drewN m)
          have hcat2 : dec Q ++ bytesOf [ch] = bytesOf (chrs (decL Q ++ [n])) := by rw [hch]; exact dec_snoc Q n
          have HCH := Lib.hid (And.intro hch hcat2); clear hch hcat2
          have K : Hid (Blk wr (w.heap.size + 1) 62 #[.string (dec Q), .string (dec R)]) := HBK.out.below HBJ.out HBK.out.lt
          have HBW : Hid (Below w.heap.size w wr) := HA.out.old.trans (HBJ.out.mono HA.out.old.size)
          have RESJ : Hid (Blk wr w.heap.size 62 #[.string ⟨#[]⟩, .string ⟨#[]⟩]) := HA.out.res.below HBJ.out HA.out.res.lt
          have cj0 : wr.cell? ⟨w.heap.size + 1, 0, none⟩ = some (.string (dec Q)) := by rw [K.out.cell]; rfl
          have cj1 : wr.cell? ⟨w.heap.size + 1, 1, none⟩ = some (.string (dec R)) := by rw [K.out.cell]; rfl
          have fj0 : wr.frozen? ⟨w.heap.size + 1, 0, none⟩ = false := K.out.frozen 0
          have fj1 : wr.frozen? ⟨w.heap.size + 1, 1, none⟩ = false := K.out.frozen 1
          have hlt1 : w.heap.size + 1 < wr.heap.size := K.out.lt
          have sq1 : ¬ 9223372036854775807 < (dec Q).size + 1 := by rw [dec_size]; omega
          have sq2 : (bytesOf [ch]).size = 1 := rfl
          have HN10 := Lib.hid hn10
          clear c0 c1
          go_wp2_with first
            | (go_at_call 46; (with_reducible refine (refCmp_any r b _).mono ?_); rintro e w13 ⟨rfl, n13, rfl⟩)
            | (go_at_call 73; rw [HCH.out.2]; (with_reducible refine (refTrim_any (decL Q ++ [n]) _ ?_ ?_).mono ?_); (intro x hx; rcases List.mem_append.1 hx with hx | hx; exact decL_lt Q x hx; (rw [List.mem_singleton.1 hx]; exact HN10.out)); simp; rintro e w15 ⟨rfl, n15, rfl⟩; rw [bval_snoc, bval_decL]; obtain ⟨W5, hW5⟩ : ∃ W5, W5 = ((wr.drewN n13).alloc (.cells #[.int .u8 (ch : Int)] 5)).drewN n15 := ⟨_, rfl⟩; rw [← hW5]; have B5 := Lib.hid (show Below wr.heap.size wr W5 by rw [hW5]; exact bel_drewN (bel_alloc (bel_drewN (bel_refl _) _) _) _); clear hW5; have K5 := Lib.hid (K.out.below B5.out K.out.lt); have RES5 := Lib.hid (RESJ.out.below B5.out RESJ.out.lt); have f50 := K5.out.frozen 0; have f51 := K5.out.frozen 1; have c50 : W5.cell? ⟨w.heap.size + 1, 0, none⟩ = some (.string (dec Q)) := (by rw [K5.out.cell]; rfl); have c51 : W5.cell? ⟨w.heap.size + 1, 1, none⟩ = some (.string (dec R)) := (by rw [K5.out.cell]; rfl))
          go_roundw
          case rel =>
            obtain ⟨hrn, hge, hTb⟩ := HRN.out
            obtain ⟨hP, hQ, hR, hd, hd10, hT, _⟩ := HPQ.out
            have hP' : bval ((decL a).take (i + 1)) = r + b * (n + 10 * Q) := by
              rw [pre_succ a (by rw [← HLA.out]; exact hlt), ← hd, ← hP]
              have h1 := Nat.mod_add_div P b
              rw [← hR, ← hQ] at h1
              rw [← h1, Nat.mul_add b, Nat.mul_comm b n, Nat.mul_left_comm b 10]
              omega
            have hbp : 0 < b := by have := HL.out.2.2; omega
            have hrb : r < b := by omega
            refine ⟨i + 1, by go_num, by omega, ?_⟩
            have hbw : Below w.heap.size w W5 := HBW.out.trans (B5.out.mono HBW.out.size)
            refine ⟨(hbw.setCell (Nat.le_succ _) _).setCell (Nat.le_succ _) _, ?_, ?_⟩
            · rw [hP', Nat.add_mul_div_left _ _ hbp, Nat.div_eq_of_lt hrb, Nat.zero_add, Nat.add_mul_mod_self_left, Nat.mod_eq_of_lt hrb]
              exact (K5.out.put 0 (.string (dec (n + 10 * Q)))).put 1 (.string (dec r))
            · exact (RES5.out.far (by simp) _).far (by simp) _
          case measure => simp [intOf]; omega
    · have hil : i = la := by omega
      have HE : Hid (bval ((decL a).take i) = a) := by
        show _ = a
        rw [hil, HLA.out, List.take_length, bval_decL]
      have hblk := HA.out.blk
      rw [HE.out] at hblk
      have c0 : wr.cell? ⟨w.heap.size + 1, 0, none⟩ = some (.string (dec (a / b))) := by rw [hblk.cell]; rfl
      have c1 : wr.cell? ⟨w.heap.size + 1, 1, none⟩ = some (.string (dec (a % b))) := by rw [hblk.cell]; rfl
      have f0 : wr.frozen? ⟨w.heap.size, 0, none⟩ = false := HA.out.res.frozen 0
      have f1 : wr.frozen? ⟨w.heap.size, 1, none⟩ = false := HA.out.res.frozen 1
      have d0 : wr.cell? ⟨w.heap.size, 0, none⟩ = some (.string ⟨#[]⟩) := by rw [HA.out.res.cell]; rfl
      have d1 : wr.cell? ⟨w.heap.size, 1, none⟩ = some (.string ⟨#[]⟩) := by rw [HA.out.res.cell]; rfl
      have hbel : Below w.heap.size w ((wr.setCell ⟨w.heap.size, 0, none⟩ (.string (dec (a / b)))).setCell ⟨w.heap.size, 1, none⟩ (.string (dec (a % b)))) := (HA.out.old.setCell (by simp) _).setCell (by simp) _
      have hres : Blk ((wr.setCell ⟨w.heap.size, 0, none⟩ (.string (dec (a / b)))).setCell ⟨w.heap.size, 1, none⟩ (.string (dec (a % b)))) w.heap.size 62 #[.string (dec (a / b)), .string (dec (a % b))] := (HA.out.res.put 0 _).put 1 _
      have D := Lib.hid (And.intro hres hbel); clear hres hbel hblk
      go_wp2
      refine bodyPost_ret (v := .agg #[.string (dec (a / b)), .string (dec (a % b))]) ?hr ?hd ?hR
      case hd => rfl
      case hR => exact ⟨rfl, D.out.2⟩
      case hr => exact results_cell_row rfl _ _ w.heap.size 62 _ (0, 0) _ rfl D.out.1 Try.underlying62 rfl (by kernel_rfl)
end Go.Proofs.Ytmbbdjpnecjleaa
