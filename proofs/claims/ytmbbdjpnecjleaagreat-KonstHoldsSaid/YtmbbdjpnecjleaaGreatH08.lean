/-
 Parts: RDiv RText NLaw NLaw2 NLaw3 NLaw4.
-/
import Derived.Test.YtmbbdjpnecjleaaGreatH07
namespace Go.Proofs.YtmbbdjpnecjleaaGreat
section
set_option maxRecDepth 100000
set_option maxHeartbeats 1000000
open Go.RowKit

theorem decL_mono {a b : Nat} (h : a ≤ b) : (decL a).length ≤ (decL b).length := by
 by_cases h' : (decL b).length < (decL a).length
 · have := decL_less h'; omega
 · omega

def RetQR (q r : ByteArray) (w : World) (e : Ending) (w' : World) : Prop := e = .returned (.agg #[.string q, .string r]) ∧ Below w.heap.size w w'

structure DvRel (w wr : World) (a b i : Nat) : Prop where
 old : Below w.heap.size w wr
 blk : Blk wr (w.heap.size + 1) 124 #[.string (dec (bval ((decL a).take i) / b)), .string (dec (bval ((decL a).take i) % b))]
 res : Blk wr w.heap.size 124 #[.string ⟨#[]⟩, .string ⟨#[]⟩]

theorem one_byte (P : Program) (src dst e : TypeId) (ch : Nat) (hs : P.underlying src = some (.slice e)) (he : P.underlying e = some (.int .u8)) (hd : P.underlying dst = some .string) (W : World) :
 (convert src dst (.slice (some ⟨W.heap.size, 0, none⟩) 1 1)).run P (W.alloc (.cells #[.int .u8 (ch : Int)] e)) = .ok (.string (bytesOf [ch])) (W.alloc (.cells #[.int .u8 (ch : Int)] e)) :=
 run_str (P := P) (W.alloc (.cells #[.int .u8 (ch : Int)] e)) src dst e (some ⟨W.heap.size, 0, none⟩) 1 [ch] (by simp) hs he hd fun _ =>
  ⟨W.heap.size, 0, rfl, by simp, fun k hk => by
   have h0 : k = 0 := by simpa using hk
   subst h0
   exact (Blk.new W e #[.int .u8 (ch : Int)]).cell 0⟩
theorem dec_cut (n : Nat) {i : Nat} (h : i < (decL n).length) : (dec n).extract i (i + 1) = bytesOf [48 + (decL n).getD i 0] := by
 apply ByteArray.ext
 rw [ByteArray.data_extract]
 apply Array.ext'
 rw [Array.toList_extract]
 have h2 : i < (List.map UInt8.ofNat (chrs (decL n))).length := by simp [chrs, h]
 show List.extract (dec n).data.toList i (i + 1) = (bytesOf [48 + (decL n).getD i 0]).data.toList
 have e : (dec n).data.toList = List.map UInt8.ofNat (chrs (decL n)) := by simp [dec, bytesOf]
 rw [e]
 simp only [List.extract]
 rw [List.drop_eq_getElem_cons h2]
 simp [bytesOf, chrs, h]

theorem refDiv_any (a b : Nat) (w : World) (hl : (decL a).length ≤ 1000) (hl' : (decL b).length ≤ 1000) (hb0 : b ≠ 0) :
 Calls Tryz.prog 109 #[.string (dec a), .string (dec b)] w (RetQR (dec (a / b)) (dec (a % b)) w) := by
 have HL := Lib.hid (And.intro hl (And.intro hl' hb0)); clear hl' hb0
 have z1 := dec_size a
 obtain ⟨la, hla⟩ : ∃ la, la = (decL a).length := ⟨_, rfl⟩
 rw [← hla] at z1 hl
 have HLA := Lib.hid hla; clear hla
 go_enter Tryz.func109, Tryz.ntmps109
 go_wp2
 go_loopw [6] (fun iv wr => ∃ i : Nat, iv = .int .i64 (i : Int) ∧ i ≤ la ∧ DvRel w wr a b i) (fun i _ => la - (intOf i).toNat)
 case atStart =>
  refine ⟨0, rfl, Nat.zero_le _, bel_alloc (bel_alloc (bel_refl _) _) _, ?_, (Blk.new _ _ _).alloc _⟩
  rw [List.take_zero, show bval [] = 0 from rfl, Nat.zero_div, Nat.zero_mod, dec_zero]
  have := Blk.new (w.alloc (.cells #[.string ⟨#[]⟩, .string ⟨#[]⟩] 124)) 124 #[.string ⟨#[48]⟩, .string ⟨#[48]⟩]
  rwa [World.size_alloc] at this
 case round =>
  obtain ⟨i, rfl, hi, hrel⟩ := hrel
  have HA := Lib.hid hrel; clear hrel
  by_cases hlt : i < la
  · have hi0 : (0 : Int) ≤ (i : Int) := by omega
    have hi1 : (i : Int) + 1 ≤ ((dec a).size : Int) := by omega
    have hil : (i : Int) < ((dec a).size : Int) := by omega
    obtain ⟨P, hP⟩ : ∃ P, P = bval ((decL a).take i) := ⟨_, rfl⟩
    have hblk := HA.out.blk
    rw [← hP] at hblk
    obtain ⟨Q, hQ⟩ : ∃ Q, Q = P / b := ⟨_, rfl⟩
    obtain ⟨R, hR⟩ : ∃ R, R = P % b := ⟨_, rfl⟩
    rw [← hQ, ← hR] at hblk
    have c0 : wr.cell? ⟨w.heap.size + 1, 0, none⟩ = some (.string (dec Q)) := by rw [hblk.cell]; rfl
    have c1 : wr.cell? ⟨w.heap.size + 1, 1, none⟩ = some (.string (dec R)) := by rw [hblk.cell]; rfl
    have HBK := Lib.hid hblk; clear hblk
    have hcut := dec_cut a (i := i) (by rw [← HLA.out]; exact hlt)
    obtain ⟨d, hd⟩ : ∃ d, d = (decL a).getD i 0 := ⟨_, rfl⟩
    rw [← hd] at hcut
    have hsi : IntKind.i64.wrap ((i : Int) + 1) = (i : Int) + 1 := by rw [IntKind.wrap_i64]; omega
    have hbp : 0 < b := by have := HL.out.2.2; omega
    have hRb : R < b := by rw [hR]; exact Nat.mod_lt _ hbp
    have hRl : (decL R).length ≤ 1000 := Nat.le_trans (decL_mono (Nat.le_of_lt hRb)) HL.out.2.1
    have hQl : (decL Q).length ≤ 1000 := by
     have h1 : (decL P).length ≤ 1000 := by
      have h3 := pre_lt a i
      rw [← hP] at h3
      by_cases h4 : i = 0
      · rw [h4, Nat.pow_zero] at h3
        have : P = 0 := by omega
        rw [this]; decide
      · exact Nat.le_trans (decL_len_le h3 (by omega)) (by omega)
     exact Nat.le_trans (decL_mono (by rw [hQ]; exact Nat.div_le_self _ _)) h1
    have hsz2 : ¬ 9223372036854775807 < (dec R).size + 1 := by rw [dec_size]; omega
    have sz1 : (bytesOf [48 + d]).size = 1 := rfl
    have hi2 : (0 : Int) ≤ (i : Int) + 1 := by omega
    have hi3 : (i : Int) ≤ (i : Int) + 1 := by omega
    have hi4 : (i : Int) + 1 ≤ (la : Int) := by omega
    have hi5 : (i : Int) < (la : Int) := by omega
    have hi6 : (i : Int) ≤ (la : Int) := by omega
    have hd10 : d < 10 := by rw [hd]; exact decL_digit a i
    obtain ⟨T, hT⟩ : ∃ T, T = d + 10 * R := ⟨_, rfl⟩
    have hTb : T < 10 * b := by omega
    have hTl : (decL T).length ≤ 1001 := Nat.le_trans (decL_len_le (k := (decL R).length + 1) (by
     have h1 := decL_bound R
     rw [Nat.pow_succ, hT]
     omega) (by omega)) (by omega)
    have HPQ := Lib.hid (And.intro hP (And.intro hQ (And.intro hR (And.intro hd (And.intro hd10 (And.intro hT hTb)))))); clear hP hQ hR hd hd10 hT hTb hRb
    have hcat := dec_snoc R d
    have HCAT := Lib.hid hcat; clear hcat
    go_wp2
    go_region_held3 (fun w' => w'.cell? ⟨w.heap.size + 1, 1, none⟩ = some (.string (dec R))) (first | exact c1)
     (first
      | (go_at_call 93; rw [HCAT.out]; (with_reducible refine (refTrim_any (decL R ++ [d]) _ ?_ ?_).mono ?_); (intro x hx; rcases List.mem_append.1 hx with hx | hx; exact decL_lt R x hx; (rw [List.mem_singleton.1 hx]; exact HPQ.out.2.2.2.2.1)); simp; rintro e w12 ⟨rfl, n12, rfl⟩; rw [bval_snoc, bval_decL, ← HPQ.out.2.2.2.2.2.1]))
    go_wp2
    have HW : Hid (Below wr.heap.size wr (wr.drewN (1 + n12))) := Lib.hid (bel_drewN (bel_refl _) _)
    go_loopw [7, 8] (fun v nv wj => ∃ (r n : Nat), v = .string (dec r) ∧ nv = .int .i64 (n : Int) ∧ r + n * b = T ∧ Below wr.heap.size wr wj) (fun _ nv _ => 10 - (intOf nv).toNat)
    case atStart => exact ⟨T, 0, rfl, rfl, by omega, HW.out⟩
    case round =>
     obtain ⟨r, n, rfl, rfl, hrn, hbj⟩ := hrel
     have HBJ := Lib.hid hbj; clear hbj
     have hTb := HPQ.out.2.2.2.2.2.2
     have hn10 : n < 10 := by
      have h1 : n * b < 10 * b := by omega
      exact Nat.lt_of_mul_lt_mul_right h1
     have hrl : (decL r).length ≤ 1001 := Nat.le_trans (decL_mono (by omega)) hTl
     by_cases hge : b ≤ r
     · have hc' : 0 ≤ cmpI (r : Int) (b : Int) := by unfold cmpI; rw [if_neg (by omega)]; split <;> omega
       have hsn : IntKind.i64.wrap ((n : Int) + 1) = (n : Int) + 1 := by rw [IntKind.wrap_i64]; omega
       have HRN := Lib.hid (And.intro hrn (And.intro hge (And.intro hTb hrl))); clear hrn hge hTb hrl
       go_wp2_with first
        | (go_at_call 20; (with_reducible refine (refCmp_any r b _).mono ?_); rintro e w13 ⟨rfl, n13, rfl⟩)
        | (go_at_call 123; (with_reducible refine (refSub_any r b _ ?_ ?_ ?_).mono ?_); (have := HRN.out.2.2.2; omega); (have := HL.out.2.1; omega); exact HRN.out.2.1; rintro e w14 ⟨rfl, hb14⟩; have HB14 := Lib.hid hb14; clear hb14)
       go_roundw
       case rel =>
        obtain ⟨hrn, hge, hTb, hrl⟩ := HRN.out
        exact ⟨r - b, n + 1, rfl, by go_num, by rw [Nat.add_mul, Nat.one_mul]; omega, bel_trans (bel_drewN HBJ.out n13) HB14.out⟩
       case measure => simp [intOf]; omega
     · have hc' : ¬ 0 ≤ cmpI (r : Int) (b : Int) := by rw [cmpI_lt (by omega)]; omega
       have HRN := Lib.hid (And.intro hrn (And.intro hge hTb)); clear hrn hge hTb
       obtain ⟨ch, hch⟩ : ∃ ch, ch = 48 + n := ⟨_, rfl⟩
       have s1 : IntKind.i64.wrap (48 + (n : Int)) = (ch : Int) := by rw [IntKind.wrap_i64]; omega
       have s2 : IntKind.u8.wrap (ch : Int) = (ch : Int) := by rw [IntKind.wrap_u8']; omega
       have hone : ∀ m, (convert 104 9 (.slice (some ⟨wr.heap.size, 0, none⟩) 1 1)).run Tryz.prog ((wr.drewN m).alloc (.cells #[.int .u8 (ch : Int)] 5)) = .ok (.string (bytesOf [ch])) ((wr.drewN m).alloc (.cells #[.int .u8 (ch : Int)] 5)) := fun m =>
        one_byte Tryz.prog 104 9 5 ch Tryz.underlying104 Tryz.underlying5 Tryz.underlying9 (wr.drewN m)
       have hcat2 : dec Q ++ bytesOf [ch] = bytesOf (chrs (decL Q ++ [n])) := by rw [hch]; exact dec_snoc Q n
       have HCH := Lib.hid (And.intro hch hcat2); clear hch hcat2
       have K : Hid (Blk wr (w.heap.size + 1) 124 #[.string (dec Q), .string (dec R)]) := HBK.out.below HBJ.out HBK.out.lt
       have HBW : Hid (Below w.heap.size w wr) := HA.out.old.trans (HBJ.out.mono HA.out.old.size)
       have RESJ : Hid (Blk wr w.heap.size 124 #[.string ⟨#[]⟩, .string ⟨#[]⟩]) := HA.out.res.below HBJ.out HA.out.res.lt
       have cj0 : wr.cell? ⟨w.heap.size + 1, 0, none⟩ = some (.string (dec Q)) := by rw [K.out.cell]; rfl
       have cj1 : wr.cell? ⟨w.heap.size + 1, 1, none⟩ = some (.string (dec R)) := by rw [K.out.cell]; rfl
       have fj0 := K.out.frozen 0
       have fj1 := K.out.frozen 1
       have hlt1 : w.heap.size + 1 < wr.heap.size := K.out.lt
       have sq1 : ¬ 9223372036854775807 < (dec Q).size + 1 := by rw [dec_size]; omega
       have sq2 : (bytesOf [ch]).size = 1 := rfl
       have HN10 := Lib.hid hn10
       clear c0 c1
       go_wp2_with first
        | (go_at_call 20; (with_reducible refine (refCmp_any r b _).mono ?_); rintro e w13 ⟨rfl, n13, rfl⟩)
        | (go_at_call 93; rw [HCH.out.2]; (with_reducible refine (refTrim_any (decL Q ++ [n]) _ ?_ ?_).mono ?_); (intro x hx; rcases List.mem_append.1 hx with hx | hx; exact decL_lt Q x hx; (rw [List.mem_singleton.1 hx]; exact HN10.out)); simp; rintro e w15 ⟨rfl, n15, rfl⟩; rw [bval_snoc, bval_decL]; obtain ⟨W5, hW5⟩ : ∃ W5, W5 = ((wr.drewN n13).alloc (.cells #[.int .u8 (ch : Int)] 5)).drewN n15 := ⟨_, rfl⟩; rw [← hW5]; have B5 := Lib.hid (show Below wr.heap.size wr W5 by rw [hW5]; exact bel_drewN (bel_alloc (bel_drewN (bel_refl _) _) _) _); clear hW5; have K5 := Lib.hid (K.out.below B5.out K.out.lt); have RES5 := Lib.hid (RESJ.out.below B5.out RESJ.out.lt); have f50 := K5.out.frozen 0; have f51 := K5.out.frozen 1; have c50 : W5.cell? ⟨w.heap.size + 1, 0, none⟩ = some (.string (dec Q)) := (by rw [K5.out.cell]; rfl); have c51 : W5.cell? ⟨w.heap.size + 1, 1, none⟩ = some (.string (dec R)) := (by rw [K5.out.cell]; rfl))
       go_roundw
       case rel =>
        obtain ⟨hrn, hge, hTb⟩ := HRN.out
        obtain ⟨hP, hQ, hR, hd, hd10, hT, _⟩ := HPQ.out
        have hP' : bval ((decL a).take (i + 1)) = r + b * (n + 10 * Q) := by
         rw [pre_succ a (by rw [← HLA.out]; exact hlt), ← hd, ← hP]
         have h1 := Nat.mod_add_div P b
         rw [← hR, ← hQ] at h1
         rw [← h1, Nat.mul_add b, Nat.mul_comm b n, Nat.mul_left_comm b 10]
         omega
        have hbp : 0 < b := by have := HL.out.2.2; omega
        have hrb : r < b := by omega
        refine ⟨i + 1, by go_num, by omega, ?_⟩
        have hbw : Below w.heap.size w W5 := HBW.out.trans (B5.out.mono HBW.out.size)
        refine ⟨(hbw.setCell (Nat.le_succ _) _).setCell (Nat.le_succ _) _, ?_, ?_⟩
        · rw [hP', Nat.add_mul_div_left _ _ hbp, Nat.div_eq_of_lt hrb, Nat.zero_add, Nat.add_mul_mod_self_left, Nat.mod_eq_of_lt hrb]
          exact (K5.out.put 0 (.string (dec (n + 10 * Q)))).put 1 (.string (dec r))
        · exact (RES5.out.far (by simp) _).far (by simp) _
       case measure => simp [intOf]; omega
  · have hil : i = la := by omega
    have HE : Hid (bval ((decL a).take i) = a) := by
     show _ = a
     rw [hil, HLA.out, List.take_length, bval_decL]
    have hblk := HA.out.blk
    rw [HE.out] at hblk
    have c0 : wr.cell? ⟨w.heap.size + 1, 0, none⟩ = some (.string (dec (a / b))) := by rw [hblk.cell]; rfl
    have c1 : wr.cell? ⟨w.heap.size + 1, 1, none⟩ = some (.string (dec (a % b))) := by rw [hblk.cell]; rfl
    have f0 : wr.frozen? ⟨w.heap.size, 0, none⟩ = false := HA.out.res.frozen 0
    have f1 : wr.frozen? ⟨w.heap.size, 1, none⟩ = false := HA.out.res.frozen 1
    have d0 : wr.cell? ⟨w.heap.size, 0, none⟩ = some (.string ⟨#[]⟩) := by rw [HA.out.res.cell]; rfl
    have d1 : wr.cell? ⟨w.heap.size, 1, none⟩ = some (.string ⟨#[]⟩) := by rw [HA.out.res.cell]; rfl
    have hbel : Below w.heap.size w ((wr.setCell ⟨w.heap.size, 0, none⟩ (.string (dec (a / b)))).setCell ⟨w.heap.size, 1, none⟩ (.string (dec (a % b)))) := (HA.out.old.setCell (by simp) _).setCell (by simp) _
    have hres : Blk ((wr.setCell ⟨w.heap.size, 0, none⟩ (.string (dec (a / b)))).setCell ⟨w.heap.size, 1, none⟩ (.string (dec (a % b)))) w.heap.size 124 #[.string (dec (a / b)), .string (dec (a % b))] := (HA.out.res.put 0 _).put 1 _
    have D := Lib.hid (And.intro hres hbel); clear hres hbel hblk
    go_wp2
    refine bodyPost_ret (v := .agg #[.string (dec (a / b)), .string (dec (a % b))]) ?hr ?hd ?hR
    case hd => rfl
    case hR => exact ⟨rfl, D.out.2⟩
    case hr => exact results_cell_row rfl _ _ w.heap.size 124 _ (0, 0) _ rfl D.out.1 Tryz.underlying124 rfl (by kernel_rfl)
end
end Go.Proofs.YtmbbdjpnecjleaaGreat
namespace Go.Proofs.YtmbbdjpnecjleaaGreat
section
set_option maxRecDepth 100000
set_option maxHeartbeats 1000000
open Go.RowKit

theorem dec_one : dec 1 = ⟨#[49]⟩ := by decide +kernel
theorem B32_ten : B32 ≤ 10 ^ 10 := by decide
theorem decL_limbs {n k : Nat} (h : n < B32 ^ k) (hk : 1 ≤ k) : (decL n).length ≤ 10 * k := by
 refine decL_len_le (Nat.lt_of_lt_of_le h ?_) (by omega)
 rw [Nat.pow_mul]
 exact Nat.pow_le_pow_left B32_ten k
theorem decL_top {n : Nat} (h : n < Top) : (decL n).length ≤ 160 := decL_limbs (k := 16) h (by decide)

theorem refText_any (A : Option Addr) (cap : Nat) (xs : List Nat) (w : World) (h : RdL w A xs) (hx : Lim xs) (hl : xs.length ≤ 18) :
 Calls Tryz.prog 21 #[.slice A xs.length cap] w (RetS (dec (lval xs)) w) := by
 have H := Lib.hid h; clear h
 have HX := Lib.hid hx; clear hx
 go_enter Tryz.func21, Tryz.ntmps21
 go_wp2
 go_loopw [3, 4] (fun v iv wr => ∃ k : Nat, iv = .int .i64 ((k : Int) - 1) ∧ k ≤ xs.length ∧ v = .string (dec (lval (xs.drop k))) ∧ Below w.heap.size w wr) (fun _ i _ => (intOf i + 1).toNat)
 case atStart => exact ⟨xs.length, by go_num, Nat.le_refl _, by rw [List.drop_length]; rfl, bel_refl _⟩
 case round =>
  obtain ⟨k, rfl, hk, rfl, hb⟩ := hrel
  have HB := Lib.hid hb; clear hb
  by_cases hk0 : k = 0
  · subst hk0
    rw [List.drop_zero]
    go_wp2
    go_ret
    exact ⟨rfl, HB.out⟩
  · obtain ⟨j, rfl⟩ : ∃ j, k = j + 1 := ⟨k - 1, by omega⟩
    have hj : ((j + 1 : Nat) : Int) - 1 = (j : Int) := by omega
    rw [hj]
    have hjl : j < xs.length := by omega
    have hjl' : (j : Int) < (xs.length : Int) := by omega
    obtain ⟨g, off, rfl, hg, hcell⟩ := RdL.at_ (H.out.below HB.out) hjl
    obtain ⟨x, hxe⟩ : ∃ x, x = xs.getD j 0 := ⟨_, rfl⟩
    have hx1 := HX.out.get j
    rw [← hxe] at hcell hx1
    have sx : IntKind.i64.wrap (x : Int) = (x : Int) := by rw [IntKind.wrap_i64]; omega
    obtain ⟨N, hN⟩ : ∃ N, N = lval (xs.drop (j + 1)) := ⟨_, rfl⟩
    have hNl : (decL N).length ≤ 180 := by
     have h1 : N < B32 ^ 18 := by
      rw [hN]
      refine Nat.lt_of_lt_of_le (lval_lt fun y hy => HX.out y (List.mem_of_mem_drop hy)) (Nat.pow_le_pow_right (by decide) ?_)
      rw [List.length_drop]; omega
     exact decL_limbs h1 (by decide)
    rw [← hN]
    have hstep : Hid (N * 4294967296 + x = lval (xs.drop j)) := by
     show _ = _
     rw [lval_drop, ← hxe, ← hN, B32_eq, Nat.mul_comm, Nat.add_comm]
    have HX1 := Lib.hid (And.intro hx1 (And.intro hNl (And.intro hxe hN))); clear hx1 hNl hxe hN
    go_wp2_with (go_at_call 52; (with_reducible refine (refSmall_lit N 4294967296 x 4294967296 (x : Int) rfl rfl _ ?_ ?_ ?_).mono ?_); (have := HX1.out.2.1; omega); omega; (have := HX1.out.1; omega); rintro e w2 ⟨rfl, hb2⟩; rw [hstep.out]; have HB2 := Lib.hid hb2; clear hb2)
    go_roundw
    case rel => exact ⟨j, by go_num, by omega, rfl, bel_trans HB.out HB2.out⟩
    case measure => simp [intOf]

theorem refPower_any (n : Nat) (w : World) (hn : n ≤ 1100) :
 Calls Tryz.prog 114 #[.int .i64 n] w (RetS (dec (2 ^ n)) w) := by
 go_enter Tryz.func114, Tryz.ntmps114
 go_wp2
 go_loopw [3, 4] (fun v iv wr => ∃ k : Nat, iv = .int .i64 (k : Int) ∧ k ≤ n ∧ v = .string (dec (2 ^ k)) ∧ Below w.heap.size w wr) (fun _ i _ => n - (intOf i).toNat)
 case atStart => exact ⟨0, rfl, Nat.zero_le _, by rw [Nat.pow_zero, dec_one], bel_refl _⟩
 case round =>
  obtain ⟨k, rfl, hk, rfl, hb⟩ := hrel
  have HB := Lib.hid hb; clear hb
  by_cases hlt : k < n
  · have hlt' : (k : Int) < (n : Int) := by omega
    obtain ⟨N, hN⟩ : ∃ N, N = 2 ^ k := ⟨_, rfl⟩
    have hNl : (decL N).length ≤ 1101 := by
     refine Nat.le_trans (decL_len_le (k := k + 1) ?_ (by omega)) (by omega)
     rw [hN]
     exact Nat.lt_of_le_of_lt (Nat.pow_le_pow_left (by decide) k) (Nat.pow_lt_pow_right (by decide) (Nat.lt_succ_self k))
    rw [← hN]
    have hstep : Hid (N * 2 + 0 = 2 ^ (k + 1)) := by show _ = _; rw [hN, Nat.pow_succ, Nat.add_zero]
    have HN := Lib.hid (And.intro hN hNl); clear hN hNl
    go_wp2_with (go_at_call 52; (with_reducible refine (refSmall_lit N 2 0 2 0 rfl rfl _ ?_ ?_ ?_).mono ?_); (have := HN.out.2; omega); omega; omega; rintro e w2 ⟨rfl, hb2⟩; rw [hstep.out]; have HB2 := Lib.hid hb2; clear hb2)
    go_roundw
    case rel => exact ⟨k + 1, by go_num, by omega, rfl, bel_trans HB.out HB2.out⟩
    case measure => simp [intOf]; omega
  · have hkn : k = n := by omega
    subst hkn
    go_wp2
    go_ret
    exact ⟨rfl, HB.out⟩

def RetBB (b : Bool) (w : World) (e : Ending) (w' : World) : Prop := e = .returned (.bool b) ∧ Below w.heap.size w w'

theorem refPower_512 (w : World) : Calls Tryz.prog 114 #[.int .i64 512] w (RetS (dec Top) w) := by
 have h := refPower_any E512 w (by rw [E512_eq]; omega)
 rw [← top_pow] at h
 exact h
theorem cmp_ge {a b : Nat} (h : b ≤ a) : 0 ≤ cmpI (a : Int) (b : Int) := by unfold cmpI; rw [if_neg (by omega)]; split <;> omega
theorem refOver_any (n : Nat) (w : World) : Calls Tryz.prog 122 #[.string (dec n)] w (RetBB (decide (Top ≤ n)) w) := by
 have hp := refPower_512 w
 obtain ⟨T, hT⟩ : ∃ T, T = Top := ⟨_, rfl⟩
 rw [← hT] at hp ⊢
 clear hT
 go_enter Tryz.func122, Tryz.ntmps122
 go_wp2_with fail
 refine hp.mono ?_
 rintro e w2 ⟨rfl, hb2⟩
 have HB2 := Lib.hid hb2; clear hb2 hp
 go_wp2_with fail
 refine (refCmp_any n T _).mono ?_
 rintro e w3 ⟨rfl, n3, rfl⟩
 have hc : Hid (decide (0 ≤ cmpI (n : Int) (T : Int)) = decide (T ≤ n)) := by
  show decide _ = decide _
  rw [Bool.eq_iff_iff, decide_eq_true_eq, decide_eq_true_eq]
  constructor
  · intro h
    by_cases h' : T ≤ n
    · exact h'
    · rw [cmpI_lt (by omega)] at h; omega
  · exact cmp_ge
 go_wp2
 go_ret
 exact ⟨ret_bool hc.out, bel_drewN HB2.out _⟩

theorem same_any (A A' : Option Addr) (cap cap' : Nat) (xs ys : List Nat) (w : World) (h : RdL w A xs) (h' : RdL w A' ys) (hl : xs.length ≤ 100000) :
 Calls Tryz.prog 51 #[.slice A xs.length cap, .slice A' ys.length cap'] w (RetBD (decide (xs = ys)) w) := by
 have H := Lib.hid h; clear h
 have H' := Lib.hid h'; clear h'
 by_cases hlen : xs.length = ys.length
 · have q1 : ((xs.length : Int) != (ys.length : Int)) = false := by rw [hlen]; simp
   have HL := Lib.hid hlen; clear hlen
   go_enter Tryz.func51, Tryz.ntmps51
   go_wp2
   go_loopw [13] (fun iv wr => ∃ k : Nat, iv = .int .i64 (k : Int) ∧ k ≤ xs.length ∧ xs.take k = ys.take k ∧ ∃ n, wr = w.drewN n) (fun i _ => xs.length - (intOf i).toNat)
   case atStart => exact ⟨0, rfl, Nat.zero_le _, rfl, 0, rfl⟩
   case round =>
    obtain ⟨k, rfl, hk, hrel, n, rfl⟩ := hrel
    have HR := Lib.hid hrel; clear hrel
    by_cases hlt : k < xs.length
    · have hlt2 : k < ys.length := by rw [← HL.out]; exact hlt
      have hlt' : (k : Int) < (xs.length : Int) := by omega
      have hlt3 : (k : Int) < (ys.length : Int) := by omega
      obtain ⟨g, off, rfl, hg, hc1⟩ := H.out.at_ hlt
      obtain ⟨g', off', rfl, hg', hc2⟩ := H'.out.at_ hlt2
      obtain ⟨x, hx⟩ : ∃ x, x = xs.getD k 0 := ⟨_, rfl⟩
      obtain ⟨y, hy⟩ : ∃ y, y = ys.getD k 0 := ⟨_, rfl⟩
      rw [← hx] at hc1
      rw [← hy] at hc2
      have hx' : x = xs[k] := by rw [hx, List.getD_eq_getElem?_getD, List.getElem?_eq_getElem hlt]; rfl
      have hy' : y = ys[k] := by rw [hy, List.getD_eq_getElem?_getD, List.getElem?_eq_getElem hlt2]; rfl
      have HX := Lib.hid (And.intro hx' hy'); clear hx hy hx' hy'
      go_wp2
      go_quiet (fail)
      go_wp2
      · have hne : ((x : Int) != (y : Int)) = true := by assumption
        go_ret
        refine ⟨ret_bool ?_, _, World.drewN_drewN _ _ _⟩
        refine (decide_eq_false fun he => ?_).symm
        obtain ⟨hx', hy'⟩ := HX.out
        subst he
        rw [hx', hy'] at hne
        simp at hne
      · have heq : ((x : Int) != (y : Int)) = false := by assumption
        go_roundw
        case rel =>
         obtain ⟨hx', hy'⟩ := HX.out
         have hxy : xs[k] = ys[k] := by rw [← hx', ← hy']; simp at heq; omega
         exact ⟨k + 1, by go_num, by omega, by rw [List.take_succ_eq_append_getElem hlt, List.take_succ_eq_append_getElem hlt2, HR.out, hxy], _, rfl⟩
        case measure => simp [intOf]; omega
    · have he : xs = ys := by
       have := HR.out
       rwa [List.take_of_length_le (by omega), List.take_of_length_le (by rw [← HL.out]; omega)] at this
      have HE := Lib.hid he; clear he
      go_wp2
      go_ret
      exact ⟨ret_bool (decide_eq_true HE.out).symm, n, rfl⟩
 · have q1 : ((xs.length : Int) != (ys.length : Int)) = true := by simp; omega
   go_enter Tryz.func51, Tryz.ntmps51
   go_wp2
   go_ret
   exact ⟨ret_bool (decide_eq_false fun he => hlen (by rw [he])).symm, 0, rfl⟩
end
end Go.Proofs.YtmbbdjpnecjleaaGreat
namespace Go.Proofs.YtmbbdjpnecjleaaGreat
section
set_option maxRecDepth 100000
set_option maxHeartbeats 1000000
open Go.RowKit

def few (xs : List Nat) : List Nat := xs.take 18
theorem few_len (xs : List Nat) : (few xs).length = min xs.length 18 := by unfold few; rw [List.length_take]; omega
theorem few_le (xs : List Nat) : (few xs).length ≤ 18 := by rw [few_len]; omega
theorem few_lim {xs : List Nat} (h : Lim xs) : Lim (few xs) := fun x hx => h x (List.mem_of_mem_take hx)

theorem small_top {n : Nat} (h : n < 18446744073709551616) : n < Top := Nat.lt_of_lt_of_le h (by
 show B32 ^ 2 ≤ B32 ^ 16
 exact Nat.pow_le_pow_right (by decide) (by decide))
theorem fit_small {n : Nat} (h : n < Top) : fitN n = n ∧ fitC n = 0 := by unfold fitN fitC; rw [if_pos h, if_pos h]; exact ⟨rfl, rfl⟩

def RetIEB (i c : Int) (w : World) (e : Ending) (w' : World) : Prop := e = .returned (.tuple #[.int .i64 i, .int .i64 c]) ∧ Below w.heap.size w w'
def RetIB (i : Int) (w : World) (e : Ending) (w' : World) : Prop := e = .returned (.int .i64 i) ∧ Below w.heap.size w w'
theorem RetBD.bb {b : Bool} {w w' : World} {e : Ending} (h : RetBD b w e w') : RetBB b w e w' := by
 obtain ⟨rfl, n, rfl⟩ := h
 exact ⟨rfl, bel_drewN (bel_refl _) _⟩
theorem right_bb (A : Option Addr) (cap : Nat) (xs : List Nat) (w : World) (h : RdL w A xs) (hl : xs.length ≤ 18) : Calls Tryz.prog 89 #[.slice A xs.length cap] w (RetBB (rightL xs) w) :=
 (right_any A cap xs w h (by omega)).mono fun _ _ => RetBD.bb
theorem refRight_bb (A : Option Addr) (cap : Nat) (xs : List Nat) (w : World) (h : RdL w A xs) (hl : xs.length ≤ 18) : Calls Tryz.prog 68 #[.slice A xs.length cap] w (RetBB (rightL xs) w) :=
 (refRight_any A cap xs w h (by omega)).mono fun _ _ => RetBD.bb
theorem same_bb (A A' : Option Addr) (cap cap' : Nat) (xs ys : List Nat) (w : World) (h : RdL w A xs) (h' : RdL w A' ys) (hl : xs.length ≤ 18) : Calls Tryz.prog 51 #[.slice A xs.length cap, .slice A' ys.length cap'] w (RetBB (decide (xs = ys)) w) :=
 (same_any A A' cap cap' xs ys w h h' (by omega)).mono fun _ _ => RetBD.bb
theorem refCmp_bb (a b : Nat) (w : World) : Calls Tryz.prog 20 #[.string (dec a), .string (dec b)] w (RetIB (cmpI a b) w) :=
 (refCmp_any a b w).mono fun _ _ h => by
  obtain ⟨rfl, n, rfl⟩ := h
  exact ⟨rfl, bel_drewN (bel_refl _) _⟩
theorem len18 {n : Nat} (h : n < Top) : (limbs n).length ≤ 18 := by have := limbs_len16 h; omega
theorem cmp_num (A A' : Option Addr) (cap cap' : Nat) (a b : Nat) (w : World) (h : RdL w A (limbs a)) (h' : RdL w A' (limbs b)) (ha : a < Top) (hb : b < Top) :
 Calls Tryz.prog 88 #[.slice A (limbs a).length cap, .slice A' (limbs b).length cap'] w (RetIEB (cmpI a b) 0 w) := by
 have hc := cmp_any A A' cap cap' (limbs a) (limbs b) w h h' (limbs_lim a) (limbs_lim b) (by have := len18 ha; omega) (by have := len18 hb; omega)
 rw [if_pos (by rw [rightL_limbs ha, rightL_limbs hb]; rfl), lval_limbs, lval_limbs] at hc
 exact hc.mono fun _ _ h => by
  obtain ⟨rfl, n, rfl⟩ := h
  exact ⟨rfl, bel_drewN (bel_refl _) _⟩
theorem add_num (A A' : Option Addr) (cap cap' : Nat) (a b : Nat) (w : World) (h : RdL w A (limbs a)) (h' : RdL w A' (limbs b)) (ha : a < Top) (hb : b < Top) :
 Calls Tryz.prog 151 #[.slice A (limbs a).length cap, .slice A' (limbs b).length cap'] w (RetNE (fitN (a + b)) (fitC (a + b)) w) := by
 have hc := add_right A A' cap cap' (limbs a) (limbs b) w h h' (limbs_lim a) (limbs_lim b) (rightL_limbs ha) (rightL_limbs hb) (limbs_len16 ha) (limbs_len16 hb)
 rwa [lval_limbs, lval_limbs] at hc
theorem sub_num (A A' : Option Addr) (cap cap' : Nat) (a b : Nat) (w : World) (h : RdL w A (limbs a)) (h' : RdL w A' (limbs b)) (ha : a < Top) (hb : b < Top) :
 Calls Tryz.prog 152 #[.slice A (limbs a).length cap, .slice A' (limbs b).length cap'] w (RetNE (a - b) (subC a b) w) := by
 have hc := sub_right A A' cap cap' (limbs a) (limbs b) w h h' (limbs_lim a) (limbs_lim b) (rightL_limbs ha) (rightL_limbs hb) (limbs_len16 ha) (limbs_len16 hb)
 rwa [lval_limbs, lval_limbs] at hc
theorem mul_num (A A' : Option Addr) (cap cap' : Nat) (a b : Nat) (w : World) (h : RdL w A (limbs a)) (h' : RdL w A' (limbs b)) (ha : a < Top) (hb : b < Top) :
 Calls Tryz.prog 100 #[.slice A (limbs a).length cap, .slice A' (limbs b).length cap'] w (RetNE (fitN (a * b)) (fitC (a * b)) w) := by
 have hc := mul_right A A' cap cap' (limbs a) (limbs b) w h h' (limbs_lim a) (limbs_lim b) (rightL_limbs ha) (rightL_limbs hb) (limbs_len16 ha) (limbs_len16 hb)
 rwa [lval_limbs, lval_limbs] at hc
theorem bits_num (A : Option Addr) (cap : Nat) (a : Nat) (w : World) (h : RdL w A (limbs a)) (ha : a < Top) :
 Calls Tryz.prog 106 #[.slice A (limbs a).length cap] w (RetIEB (nbits a) 0 w) := by
 have hc := bits_any A cap (limbs a) w h (limbs_lim a) (len18 ha)
 rw [if_pos (rightL_limbs ha), lval_limbs] at hc
 exact hc.mono fun _ _ h => by
  obtain ⟨rfl, n, rfl⟩ := h
  exact ⟨rfl, bel_drewN (bel_refl _) _⟩
theorem text_num (A : Option Addr) (cap : Nat) (a : Nat) (w : World) (h : RdL w A (limbs a)) (ha : a < Top) :
 Calls Tryz.prog 21 #[.slice A (limbs a).length cap] w (RetS (dec a) w) := by
 have hc := refText_any A cap (limbs a) w h (limbs_lim a) (len18 ha)
 rwa [lval_limbs] at hc
theorem rightR {a : Nat} (h : a < Top) (A : Option Addr) (cap : Nat) (w : World) (hr : RdL w A (limbs a)) : Calls Tryz.prog 89 #[.slice A (limbs a).length cap] w (RetBB true w) := by
 have hc := right_bb A cap (limbs a) w hr (len18 h)
 rwa [rightL_limbs h] at hc
theorem refRightR {a : Nat} (h : a < Top) (A : Option Addr) (cap : Nat) (w : World) (hr : RdL w A (limbs a)) : Calls Tryz.prog 68 #[.slice A (limbs a).length cap] w (RetBB true w) := by
 have hc := refRight_bb A cap (limbs a) w hr (len18 h)
 rwa [rightL_limbs h] at hc
theorem right_num {xs : List Nat} (hx : Lim xs) (h : rightL xs = true) : ∃ n, xs = limbs n ∧ n < Top := by
 obtain ⟨a, b⟩ := (rightL_iff hx).1 h
 exact ⟨lval xs, a.symm, b⟩
end
end Go.Proofs.YtmbbdjpnecjleaaGreat
namespace Go.Proofs.YtmbbdjpnecjleaaGreat
section
set_option maxRecDepth 100000
set_option maxHeartbeats 1000000
open Go.RowKit

theorem codes_bytes (ds : List Nat) (h : ∀ d ∈ ds, d < 256) : codes (bytesOf ds) = ds := by
 unfold codes bytesOf
 show ((ds.map UInt8.ofNat).toArray.toList).map UInt8.toNat = ds
 rw [List.toList_toArray, List.map_map]
 conv => rhs; rw [← List.map_id ds]
 refine List.map_congr_left fun d hd => ?_
 show (UInt8.ofNat d).toNat = d
 rw [UInt8.toNat_ofNat']
 exact Nat.mod_eq_of_lt (h d hd)
theorem codes_dec (n : Nat) : codes (dec n) = chrs (decL n) := by
 unfold dec
 refine codes_bytes _ fun d hd => ?_
 obtain ⟨x, hx, rfl⟩ := List.mem_map.1 hd
 have := decL_lt n x hx
 omega
theorem digV_chr {d : Nat} (h : d < 10) : digV (48 + d) = d := by unfold digV; rw [if_pos ⟨by omega, by omega⟩]; omega
theorem num_rev (b : Nat) (ds : List Nat) (h : ∀ d ∈ ds, d < 10) : (ds.reverse.map (fun d => 48 + d)).foldl (fun n c => n * b + digV c) 0 = val b ds := by
 induction ds with
 | nil => rfl
 | cons d r ih =>
  rw [List.reverse_cons, List.map_append, List.foldl_append, ih (fun x hx => h x (List.mem_cons_of_mem _ hx))]
  show val b r * b + digV (48 + d) = val b (d :: r)
  rw [digV_chr (h d (List.mem_cons_self ..))]
  show _ = d + b * val b r
  rw [Nat.mul_comm]
  omega
theorem num_dec (n : Nat) : numOf 10 (codes (dec n)) = n := by
 rw [codes_dec]
 by_cases h0 : n = 0
 · subst h0; rfl
 · rw [decL_pos h0]
   have := num_rev 10 (digs 10 n) (digs_lt (by decide) n)
   rw [val_digs (by decide)] at this
   exact this
theorem dec_len {n : Nat} (h : n < Top) : (dec n).size ≤ 160 := by rw [dec_size]; exact decL_top h
theorem div_num (A A' : Option Addr) (cap cap' : Nat) (a b : Nat) (w : World) (h : RdL w A (limbs a)) (h' : RdL w A' (limbs b)) (ha : a < Top) (hb : b < Top) (hb0 : b ≠ 0) :
 Calls Tryz.prog 134 #[.slice A (limbs a).length cap, .slice A' (limbs b).length cap'] w (RetD (a / b) (a % b) 0 w) := div_right A A' cap cap' a b w h h' ha hb hb0
theorem text_ok (A : Option Addr) (cap : Nat) (n : Nat) (w : World) (h : RdL w A (limbs n)) (hn : n < Top) :
 Calls Tryz.prog 111 #[.slice A (limbs n).length cap] w (RetSE (dec n) 0 w) := text_right A cap n w h hn
theorem lt_top {a b : Nat} (h : a ≤ b) (hb : b < Top) : a < Top := Nat.lt_of_le_of_lt h hb
theorem RetNE.of {n m : Nat} {c d : Int} {w w' : World} {e : Ending} (h : RetNE n c w e w') (h1 : n = m) (h2 : c = d) : RetNE m d w e w' := by subst h1 h2; exact h
theorem add_small (A A' : Option Addr) (cap cap' : Nat) (a b c : Nat) (w : World) (h : RdL w A (limbs a)) (h' : RdL w A' (limbs b)) (ha : a < Top) (hb : b < Top) (hc : a + b = c) (hc' : c < Top) :
 Calls Tryz.prog 151 #[.slice A (limbs a).length cap, .slice A' (limbs b).length cap'] w (RetNE c 0 w) := by
 subst hc
 exact (add_num A A' cap cap' a b w h h' ha hb).mono fun _ _ h => h.of (fit_small hc').1 (fit_small hc').2
end
end Go.Proofs.YtmbbdjpnecjleaaGreat
namespace Go.Proofs.YtmbbdjpnecjleaaGreat
section
set_option maxRecDepth 100000
set_option maxHeartbeats 1000000
open Go.RowKit

theorem shN_up (a m : Nat) : shN a (m : Int) = a * 2 ^ m := by unfold shN; rw [if_pos (by omega), Int.toNat_natCast]
theorem shift_up (A : Option Addr) (cap a m : Nat) (w : World) (h : RdL w A (limbs a)) (ha : a < Top) :
 Calls Tryz.prog 86 #[.slice A (limbs a).length cap, .int .i64 m] w (RetNE (fitN (a * 2 ^ m)) (fitC (a * 2 ^ m)) w) := by
 have := shift_right A cap a m w h ha
 rwa [shN_up] at this
theorem fit_over {N : Nat} (h : ¬ N < Top) : fitN N = 0 ∧ fitC N = 2 := by unfold fitN fitC; rw [if_neg h, if_neg h]; exact ⟨rfl, rfl⟩
end
end Go.Proofs.YtmbbdjpnecjleaaGreat
namespace Go.Proofs.YtmbbdjpnecjleaaGreat
section
set_option maxRecDepth 100000
set_option maxHeartbeats 1000000
open Go.RowKit

theorem bits_is (A : Option Addr) (cap a nb : Nat) (w : World) (h : RdL w A (limbs a)) (ha : a < Top) (hn : nbits a = nb) :
 Calls Tryz.prog 106 #[.slice A (limbs a).length cap] w (RetIEB nb 0 w) := by
 subst hn
 exact bits_num A cap a w h ha
theorem nbits_top {a : Nat} (h : a < Top) : nbits a ≤ 512 := Nat.le_trans (nbits_le_of (k := E512) (by rw [← top_pow]; exact h)) (by rw [E512_eq]; exact Nat.le_refl _)
def DAt (w : World) (g q r : Nat) : Prop := Blk w g 124 #[.string (dec q), .string (dec r)]
theorem DAt.new (w : World) (q r : Nat) : DAt (w.alloc (.cells #[.string (dec q), .string (dec r)] 124)) w.heap.size q r := Blk.new _ _ _
theorem DAt.bel (w : World) (q r : Nat) : Below w.heap.size w (w.alloc (.cells #[.string (dec q), .string (dec r)] 124)) := bel_alloc (bel_refl _) _
theorem DAt.below {w w' : World} {g q r : Nat} (h : DAt w g q r) (hb : Below w.heap.size w w') : DAt w' g q r := Blk.below h hb (Blk.lt h)
theorem DAt.q {w : World} {g q r : Nat} (h : DAt w g q r) : w.cell? ⟨g, 0, none⟩ = some (.string (dec q)) := by rw [Blk.cell h]; rfl
theorem DAt.r {w : World} {g q r : Nat} (h : DAt w g q r) : w.cell? ⟨g, 1, none⟩ = some (.string (dec r)) := by rw [Blk.cell h]; rfl
theorem field_q (s t : ByteArray) (W : World) : (Instr.field 124 (.agg #[.string s, .string t]) 0).run Tryz.prog W = .ok (.string s) W := by kernel_rfl
end
end Go.Proofs.YtmbbdjpnecjleaaGreat
