/-
 Parts: K40 Open NOpen QOpen K29.
-/
import Derived.Test.YtmbbdjpnecjleaaGreatH36
import Derived.Test.YtmbbdjpnecjleaaGreatH01
import Derived.ProofKit
import Derived.Deep.Slices
import Derived.Deep.Fields
import Derived.ChangeSame
import Derived.Test.YtmbbdjpnecjleaaGreatH08
import Derived.Deep.Strs
import Derived.Test.YtmbbdjpnecjleaaGreatH32
import Derived.ChangeArms
namespace Go.Proofs.YtmbbdjpnecjleaaGreat
section
set_option maxRecDepth 100000
set_option maxHeartbeats 1000000
open Go.RowKit

theorem refitC {t k : Int} {b : Bool} {s : ByteArray} {q : Q} {e : Int} (h : HOK t k b s q e) (he : e = 0) : (((limbs q.n).length ≤ 18 ∧ (limbs q.d).length ≤ 18) ∧ ∀ W A B c d, RdL W A (limbs q.n) → RdL W B (limbs q.d) → (limbs q.n).length ≤ c → (limbs q.d).length ≤ d → Calls Tryz.prog 16 #[.agg #[.int .i64 k, .bool b, .string s, .bool q.s, .slice A (limbs q.n).length c, .slice B (limbs q.d).length d]] W (RetBB true W)) ∧
 ∀ W A B c d, RdL W A (limbs q.n) → RdL W B (limbs q.d) → (limbs q.n).length ≤ c → (limbs q.d).length ≤ d → Calls Tryz.prog 13 #[.agg #[.int .i64 k, .bool b, .string s, .bool q.s, .slice A (limbs q.n).length c, .slice B (limbs q.d).length d], .int .i64 t] W (RetV k b s q 0 W) := by
 subst he
 have hl := h.lim
 obtain ⟨h1, h2⟩ := refit h
 refine ⟨⟨⟨hl.2.2.1, hl.2.2.2⟩, fun W A B c d r1 r2 k1 k2 => ?_⟩, fun W A B c d r1 r2 k1 k2 => h2 A B c d W ⟨r1, r2, k1, k2⟩⟩
 have hr : rightV k b s q.s (limbs q.n) (limbs q.d) = true := h1
 have := kRight_any k b s q.s A B c d (limbs q.n) (limbs q.d) W r1 r2 hl.1 hl.2.1 hl.2.2.1 hl.2.2.2 k1 k2
 rwa [hr] at this
theorem law_holds15 (op : ByteArray) (a b : VD) (A B A' B' : Option Addr) (c d c' d' : Nat) (t : Int) (w : World) (hA : a.rd w A B c d) (hB : b.rd w A' B' c' d') (m1 : Lim a.xs) (m2 : Lim a.ys) (m3 : Lim b.xs) (m4 : Lim b.ys) :
 Calls Tryz.prog 4 #[.string op, a.at A B c d, b.at A' B' c' d', .int .i64 t] w (RetBB true w) := by
 obtain ⟨ka, ba, sa, ga, x0, y0⟩ := a
 obtain ⟨kb, bb, sb, gb, x0', y0'⟩ := b
 obtain ⟨h1, h2, k1, k2⟩ := hA
 obtain ⟨h3, h4, k3, k4⟩ := hB
 have la : VD.lim ⟨ka, ba, sa.extract 0 (min sa.size 203), ga, few x0, few y0⟩ := ⟨few_lim m1, few_lim m2, few_le _, few_le _⟩
 have lb : VD.lim ⟨kb, bb, sb.extract 0 (min sb.size 203), gb, few x0', few y0'⟩ := ⟨few_lim m3, few_lim m4, few_le _, few_le _⟩
 obtain ⟨k1', b1, t1, q1, e1, hP1, hO1⟩ := res_f _ t la
 obtain ⟨k2', b2, t2, q2, e2, hP2, hO2⟩ := res_u (op.extract 0 (min op.size 3)) _ t la
 obtain ⟨k3', b3, t3, q3, e3, hP3, hO3⟩ := bin_k (op.extract 0 (min op.size 3)) _ _ t la lb
 obtain ⟨k4', b4, t4, q4, e4, hP4, hO4⟩ := res_s (op.extract 0 (min op.size 3)) _ _ t la lb
 obtain ⟨k5, b5, t5, q5, e5, k6, b6, t6, q6, e6, k7, b7, t7, q7, e7, k8, b8, t8, q8, e8, hD⟩ := div_res _ _ t la lb
 exact law_holds op ka kb ba bb ga gb sa sb _ _ _ A B A' B' c d c' d' x0 y0 x0' y0' _ _ _ _ t w h1 h2 h3 h4 m1 m2 m3 m4 k1 k2 k3 k4 rfl rfl rfl rfl rfl rfl rfl
  (fun W r1 r2 c1 c2 => hP1 A B c d W ⟨r1, r2, c1, c2⟩)
  (fun W r1 r2 c1 c2 => hP2 A B c d W ⟨r1, r2, c1, c2⟩)
  (fun W r1 r2 c1 c2 r3 r4 c3 c4 => hP3 A B A' B' c d c' d' W ⟨r1, r2, c1, c2⟩ ⟨r3, r4, c3, c4⟩)
  (fun W r1 r2 c1 c2 r3 r4 c3 c4 => hP4 A B A' B' c d c' d' W ⟨r1, r2, c1, c2⟩ ⟨r3, r4, c3, c4⟩)
  (refitC hO1) (refitC hO2) (refitC hO3) (refitC hO4)
  (fun W r1 r2 c1 c2 r3 r4 c3 c4 => hD.n A B A' B' c d c' d' W ⟨r1, r2, c1, c2⟩ ⟨r3, r4, c3, c4⟩)
  (fun W E F m n g1 g2 g3 g4 r3 r4 c3 c4 => hD.m E F A' B' m n c' d' W ⟨g1, g2, g3, g4⟩ ⟨r3, r4, c3, c4⟩)
  (fun W r1 r2 c1 c2 r3 r4 c3 c4 => hD.l A B A' B' c d c' d' W ⟨r1, r2, c1, c2⟩ ⟨r3, r4, c3, c4⟩)
  (fun W E F m n g1 g2 g3 g4 G H m' n' f1 f2 f3 f4 => hD.x E F G H m n m' n' W ⟨g1, g2, g3, g4⟩ ⟨f1, f2, f3, f4⟩)
  (fun ra rb hw hka hkb z5 z6 z7 z8 => by
   obtain ⟨g1, g2, g3, nb, n1, n2, n3, n4⟩ := hD.fin ra rb hw hka hkb z5 z6 z7 z8
   have g1' : q8.s = ga := g1
   have g2' : limbs q8.n = few x0 := g2
   have g3' : limbs q8.d = few y0 := g3
   refine ⟨⟨by rw [g2']; exact few_le _, by rw [g3']; exact few_le _⟩, ?_, nb, n1, n2, n3, n4⟩
   rw [g1', g2', g3']
   exact like_self _ _ _)
end
end Go.Proofs.YtmbbdjpnecjleaaGreat
namespace Go.Proofs.YtmbbdjpnecjleaaGreat
section
set_option maxRecDepth 100000
set_option maxHeartbeats 1000000
open Go.RowKit Go.ChangeShapes Go.WideShapes

theorem addr_plain {w : World} {a : Addr} {v : Value} (h : w.cell? a = some v) : a = ⟨a.block, a.off, none⟩ := by
 have := World.cell?_spot h
 cases a
 simp at this
 subst this
 rfl
theorem addr_add (b off i : Nat) : (⟨b, off, none⟩ : Addr).add i = ⟨b, off + i, none⟩ := by
 unfold Addr.add
 split <;> simp_all

section
variable {H : Type} {enc : TypeId × Value → H} {P : Program} {w : World} {base : Nat} {spare : Nat → Bool} {held : Bool}

theorem rd_of_add {a : Addr} {n : Nat} {f : Nat → Value} (h : ∀ i, i < n → w.cell? (a.add i) = some (f i)) : Rd w (some a) n f := fun hn => by
 have h0 := h 0 hn
 rw [Addr.add, if_pos rfl] at h0
 have ha := addr_plain h0
 refine ⟨a.block, a.off, by rw [← ha], World.block_lt_of_cell? w a h0, fun k hk => ?_⟩
 have := h k hk
 rw [ha, addr_add] at this
 exact this

theorem open_rdI {t e : TypeId} {k : IntKind} {fuel : Nat} {v : Value} {x : DataW H × List MemPlace} (ht : P.underlying t = some (.slice e)) (he : P.underlying e = some (.int k)) (hc : P.cellsOf e = 1)
 (h : DataW.trod enc P w base spare held fuel t [v] = some x) :
 ∃ A cap xs, v = .slice A xs.length cap ∧ xs.length ≤ cap ∧ cap ≤ maxLen ∧ RdI w A k xs ∧ ∀ n ∈ xs, (Lit.int k n).wf = true := by
 rcases open_ints ht he hc h with ⟨hcs, _⟩ | ⟨a, len, cap, zs, hcs, _, hl, hm, hz, _, hcell, hwz⟩
 · simp only [List.cons.injEq, and_true] at hcs
   subst hcs
   exact ⟨none, 0, [], rfl, Nat.le_refl _, Nat.zero_le _, Rd.nil, by simp⟩
 · simp only [List.cons.injEq, and_true] at hcs
   subst hcs
   have hzl : len ≤ zs.length := by rw [hz]; split <;> omega
   have hlen : (zs.take len).length = len := by rw [List.length_take]; omega
   refine ⟨some a, cap, zs.take len, by rw [hlen], by omega, hm, ?_, fun n hn => hwz n (List.mem_of_mem_take hn)⟩
   unfold RdI
   rw [hlen]
   refine rd_of_add fun i hi => ?_
   rw [hcell i (by omega)]
   simp [hi]
end
end
end Go.Proofs.YtmbbdjpnecjleaaGreat
namespace Go.Proofs.YtmbbdjpnecjleaaGreat
section
set_option maxRecDepth 100000
set_option maxHeartbeats 1000000
open Go.RowKit Go.ChangeShapes Go.WideShapes

section
variable {H : Type} {enc : TypeId × Value → H} {w : World} {base : Nat} {spare : Nat → Bool} {held : Bool}
theorem wf_u32 {n : Int} (h : (Lit.int .u32 n).wf = true) : 0 ≤ n ∧ n < 4294967296 := by
 simp [Lit.wf, IntKind.min, IntKind.max, IntKind.bits, IntKind.signed] at h
 omega
theorem open_rdL {fuel : Nat} {v : Value} {x : DataW H × List MemPlace} (h : DataW.trod enc Tryz.prog w base spare held fuel 23 [v] = some x) :
 ∃ A cap xs, v = .slice A xs.length cap ∧ xs.length ≤ cap ∧ RdL w A xs ∧ Lim xs := by
 obtain ⟨A, cap, zs, rfl, h1, _, hr, hw⟩ := open_rdI Tryz.underlying23 Tryz.underlying62 (by kernel_rfl) h
 refine ⟨A, cap, zs.map Int.toNat, by rw [List.length_map], by rw [List.length_map]; exact h1, ?_, ?_⟩
 · unfold RdL
   rw [List.length_map]
   refine Rd.congr hr fun k hk => ?_
   have hz := wf_u32 (hw (zs[k]) (List.getElem_mem hk))
   simp [hk]
   omega
 · intro y hy
   obtain ⟨z, hz, rfl⟩ := List.mem_map.1 hy
   have := wf_u32 (hw z hz)
   rw [B32_eq]
   omega
end
end
end Go.Proofs.YtmbbdjpnecjleaaGreat
namespace Go.Proofs.YtmbbdjpnecjleaaGreat
section
set_option maxRecDepth 100000
set_option maxHeartbeats 1000000
open Go.RowKit Go.ChangeShapes Go.WideShapes Go.Deep

section
variable {H : Type} {enc : TypeId × Value → H} {w : World} {base : Nat} {spare : Nat → Bool} {held : Bool}
theorem open_rat {fuel : Nat} {cs : List Value} {x : DataW H × List MemPlace} (h : DataW.trod enc Tryz.prog w base spare held fuel 25 cs = some x) :
 ∃ s A c xs B d ys, cs = [.bool s, .slice A (List.length xs) c, .slice B (List.length ys) d] ∧ xs.length ≤ c ∧ ys.length ≤ d ∧ RdL w A xs ∧ RdL w B ys ∧ Lim xs ∧ Lim ys := by
 obtain ⟨xs0, n, _, rfl, hl, hlen, hf⟩ := DataW.trod_struct Tryz.underlying25 h
 have hl3 : cs.length = 3 := hl.trans (by kernel_rfl)
 match cs, hl3 with
 | [v0, v1, v2], _ =>
  match xs0, hlen with
  | [y0, y1, y2], _ =>
   have h0 : DataW.trod enc Tryz.prog w base spare held n 4 [v0] = some y0 := by
    have := hf 0 _ rfl
    simpa [show Tryz.prog.cellsOf 4 = 1 by kernel_rfl] using this
   have h1 : DataW.trod enc Tryz.prog w base spare held n 23 [v1] = some y1 := by
    have := hf 1 _ rfl
    simpa [show Tryz.prog.cellsOf 23 = 1 by kernel_rfl] using this
   have h2 : DataW.trod enc Tryz.prog w base spare held n 23 [v2] = some y2 := by
    have := hf 2 _ rfl
    simpa [show Tryz.prog.cellsOf 23 = 1 by kernel_rfl] using this
   obtain ⟨s, e0, _⟩ := DataW.trod_bool Tryz.underlying4 h0
   obtain ⟨A, c, xs, e1, hc, hr, hx⟩ := open_rdL h1
   obtain ⟨B, d, ys, e2, hd, hr2, hy⟩ := open_rdL h2
   simp only [List.cons.injEq, and_true] at e0
   subst e0 e1 e2
   exact ⟨s, A, c, xs, B, d, ys, rfl, hc, hd, hr, hr2, hx, hy⟩
end
end
end Go.Proofs.YtmbbdjpnecjleaaGreat
namespace Go.Proofs.YtmbbdjpnecjleaaGreat
section
set_option maxRecDepth 100000
set_option maxHeartbeats 1000000
open Go.ChangeShapes Go.WideShapes Go.RowKit

section
variable {H : Type} {enc : TypeId × Value → H} {w : World} {base : Nat} {spare : Nat → Bool} {held : Bool}
theorem open_val {fuel : Nat} {cs : List Value} {x : DataW H × List MemPlace} (h : DataW.trod enc Tryz.prog w base spare held fuel 27 cs = some x) :
 ∃ (a : VD) (A B : Option Addr) (c d : Nat), cs = [.int .i64 a.k, .bool a.b, .string a.s, .bool a.g, .slice A a.xs.length c, .slice B a.ys.length d] ∧ a.rd w A B c d ∧ Lim a.xs ∧ Lim a.ys := by
 obtain ⟨xs0, n, _, rfl, hl, hlen, hf⟩ := DataW.trod_struct Tryz.underlying27 h
 have hl6 : cs.length = 6 := hl.trans (by kernel_rfl)
 match cs, hl6 with
 | [v0, v1, v2, v3, v4, v5], _ =>
  match xs0, hlen with
  | [y0, y1, y2, y3], _ =>
   have e1 : Tryz.prog.cellsOf 3 = 1 := by kernel_rfl
   have e2 : Tryz.prog.cellsOf 4 = 1 := by kernel_rfl
   have e3 : Tryz.prog.cellsOf 9 = 1 := by kernel_rfl
   have e4 : Tryz.prog.cellsOf 25 = 3 := by kernel_rfl
   have h0 : DataW.trod enc Tryz.prog w base spare held n 3 [v0] = some y0 := by
    have := hf 0 _ rfl
    simpa [e1, e2, e3, e4] using this
   have h1 : DataW.trod enc Tryz.prog w base spare held n 4 [v1] = some y1 := by
    have := hf 1 _ rfl
    simpa [e1, e2, e3, e4] using this
   have h2 : DataW.trod enc Tryz.prog w base spare held n 9 [v2] = some y2 := by
    have := hf 2 _ rfl
    simpa [e1, e2, e3, e4] using this
   have h3 : DataW.trod enc Tryz.prog w base spare held n 25 [v3, v4, v5] = some y3 := by
    have := hf 3 _ rfl
    simpa [e1, e2, e3, e4] using this
   obtain ⟨k, f0, _⟩ := DataW.trod_int Tryz.underlying3 h0
   obtain ⟨b, f1, _⟩ := DataW.trod_bool Tryz.underlying4 h1
   obtain ⟨s, f2, _⟩ := DataW.trod_string Tryz.underlying9 h2
   obtain ⟨g, A, c, xs, B, d, ys, f3, hc, hd, hr, hr2, hx, hy⟩ := open_rat h3
   simp only [List.cons.injEq, and_true] at f0 f1 f2 f3
   obtain ⟨f3, f4, f5⟩ := f3
   subst f0 f1 f2 f3 f4 f5
   exact ⟨⟨k, b, s, g, xs, ys⟩, A, B, c, d, rfl, ⟨hr, hr2, hc, hd⟩, hx, hy⟩
end
end
end Go.Proofs.YtmbbdjpnecjleaaGreat
