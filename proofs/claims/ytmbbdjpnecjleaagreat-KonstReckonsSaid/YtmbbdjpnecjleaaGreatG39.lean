/-
 Parts: K27 K28 Open NOpen QOpen K29.
-/
import Derived.Test.YtmbbdjpnecjleaaGreatG38
import Derived.Test.YtmbbdjpnecjleaaGreatG01
import Derived.ProofKit
import Derived.Deep.Slices
import Derived.Deep.Fields
import Derived.ChangeSame
import Derived.Test.YtmbbdjpnecjleaaGreatG08
import Derived.Deep.Strs
import Derived.ChangeArms
namespace Go.Proofs.YtmbbdjpnecjleaaGreat
section
set_option maxRecDepth 100000
set_option maxHeartbeats 1000000
open Go.RowKit

structure VD where
 k : Int
 b : Bool
 s : ByteArray
 g : Bool
 xs : List Nat
 ys : List Nat
structure XD where
 k : Int
 b : Bool
 s : ByteArray
 f : Bool
 n : ByteArray
 d : ByteArray
def VD.right (a : VD) : Bool := rightV a.k a.b a.s a.g a.xs a.ys
def VD.lim (a : VD) : Prop := Lim a.xs ∧ Lim a.ys ∧ a.xs.length ≤ 18 ∧ a.ys.length ≤ 18
def VD.rd (a : VD) (W : World) (A B : Option Addr) (c d : Nat) : Prop := RdL W A a.xs ∧ RdL W B a.ys ∧ a.xs.length ≤ c ∧ a.ys.length ≤ d
def VD.at (a : VD) (A B : Option Addr) (c d : Nat) : Value := .agg #[.int .i64 a.k, .bool a.b, .string a.s, .bool a.g, .slice A a.xs.length c, .slice B a.ys.length d]
def XD.at (x : XD) : Value := .agg #[.int .i64 x.k, .bool x.b, .string x.s, .bool x.f, .string x.n, .string x.d, .bool false, .int .i64 0]
inductive OfR : VD → XD → Prop
 | num (q : Q) (h : Fit q) : OfR ⟨3, false, ⟨#[]⟩, q.s, limbs q.n, limbs q.d⟩ ⟨3, false, ⟨#[]⟩, q.s, dec q.n, dec q.d⟩
 | one (b : Bool) : OfR ⟨1, b, ⟨#[]⟩, false, [], []⟩ ⟨1, b, ⟨#[]⟩, false, ⟨#[]⟩, ⟨#[]⟩⟩
 | two (s : ByteArray) (h : s.size ≤ 200) : OfR ⟨2, false, s, false, [], []⟩ ⟨2, false, s, false, ⟨#[]⟩, ⟨#[]⟩⟩
theorem none_is {g : Bool} {xs ys : List Nat} (h : noneB g xs.length ys.length = true) : g = false ∧ xs = [] ∧ ys = [] := by
 unfold noneB at h
 simp only [Bool.and_eq_true, decide_eq_true_eq, Bool.not_eq_true'] at h
 exact ⟨h.1, List.eq_nil_of_length_eq_zero h.2.1, List.eq_nil_of_length_eq_zero h.2.2⟩
theorem empty_is {s : ByteArray} (h : emptyB s = true) : s = ⟨#[]⟩ := of_decide_eq_true h
theorem of_right {a : VD} (hl : a.lim) (h : a.right = true) : ∃ x, OfR a x := by
 obtain ⟨k, b, s, g, xs, ys⟩ := a
 unfold VD.right rightV at h
 simp only at h
 split at h
 · subst k
   rw [Bool.and_eq_true] at h
   obtain ⟨rfl, rfl, rfl⟩ := none_is h.2
   obtain rfl := empty_is h.1
   exact ⟨_, .one b⟩
 · split at h
   · subst k
     simp only [Bool.and_eq_true, decide_eq_true_eq, Bool.not_eq_true'] at h
     obtain ⟨rfl, h2, h3⟩ := h
     obtain ⟨rfl, rfl, rfl⟩ := none_is h2
     exact ⟨_, .two s h3⟩
   · split at h
     · subst k
       simp only [Bool.and_eq_true, Bool.not_eq_true'] at h
       obtain ⟨rfl, h2, h3⟩ := h
       obtain rfl := empty_is h2
       obtain ⟨q, rfl, rfl, rfl, h4, h5, h6⟩ := rightB_num hl.1 hl.2.1 h3
       exact ⟨_, .num q ⟨h4, h5, h6⟩⟩
     · cases h
theorem OfR.one_is {a : VD} {x : XD} (h : OfR a x) (hk : a.k = 1) : ∃ b, a = ⟨1, b, ⟨#[]⟩, false, [], []⟩ ∧ x = ⟨1, b, ⟨#[]⟩, false, ⟨#[]⟩, ⟨#[]⟩⟩ := by
 cases h with
 | num q h => cases hk
 | one b => exact ⟨b, rfl, rfl⟩
 | two s h => cases hk
theorem OfR.two_is {a : VD} {x : XD} (h : OfR a x) (hk : a.k = 2) : ∃ s, s.size ≤ 200 ∧ a = ⟨2, false, s, false, [], []⟩ ∧ x = ⟨2, false, s, false, ⟨#[]⟩, ⟨#[]⟩⟩ := by
 cases h with
 | num q h => cases hk
 | one b => cases hk
 | two s h => exact ⟨s, h, rfl, rfl⟩
theorem OfR.num_is {a : VD} {x : XD} (h : OfR a x) (hk : a.k = 3) : ∃ q, Fit q ∧ a = ⟨3, false, ⟨#[]⟩, q.s, limbs q.n, limbs q.d⟩ ∧ x = ⟨3, false, ⟨#[]⟩, q.s, dec q.n, dec q.d⟩ := by
 cases h with
 | num q h => exact ⟨q, h, rfl, rfl⟩
 | one b => cases hk
 | two s h => cases hk
theorem OfR.kind {a : VD} {x : XD} (h : OfR a x) : x.k = a.k := by cases h <;> rfl
def KBinP (op : ByteArray) (a b : VD) (t : Int) (k : Int) (bb : Bool) (s : ByteArray) (q : Q) (e : Int) : Prop :=
 ∀ A B A' B' c d c' d' W, a.rd W A B c d → b.rd W A' B' c' d' → Calls Tryz.prog 6 #[.string op, a.at A B c d, b.at A' B' c' d', .int .i64 t] W (RetV k bb s q e W)
def RBinP (op : ByteArray) (x y : XD) (t : Int) (k : Int) (bb : Bool) (s : ByteArray) (fs : Bool) (n d : ByteArray) (e : Int) : Prop :=
 ∀ W, Calls Tryz.prog 11 #[.string op, x.at, y.at, .int .i64 t] W (RetRV k bb s fs n d e W)
inductive VOK : Int → Bool → ByteArray → Q → Int → Bool → ByteArray → ByteArray → Prop
 | err (e : Int) (h : e ≠ 0) : VOK 0 false ⟨#[]⟩ noQ e false ⟨#[]⟩ ⟨#[]⟩
 | one (b : Bool) : VOK 1 b ⟨#[]⟩ noQ 0 false ⟨#[]⟩ ⟨#[]⟩
 | two (s : ByteArray) (h : s.size ≤ 200) : VOK 2 false s noQ 0 false ⟨#[]⟩ ⟨#[]⟩
 | num (q : Q) (h : Fit q) : VOK 3 false ⟨#[]⟩ q 0 q.s (dec q.n) (dec q.d)
theorem VOK.is {k : Int} {b : Bool} {s : ByteArray} {q : Q} {e : Int} {fs : Bool} {n d : ByteArray} (h : VOK k b s q e fs n d) (W : World) (A B : Option Addr) (c c' : Nat) (r1 : RdL W A (limbs q.n)) (r2 : RdL W B (limbs q.d)) (k1 : (limbs q.n).length ≤ c) (k2 : (limbs q.d).length ≤ c') :
 Calls Tryz.prog 10 #[.agg #[.int .i64 k, .bool b, .string s, .bool q.s, .slice A (limbs q.n).length c, .slice B (limbs q.d).length c'], .int .i64 e, .agg #[.int .i64 k, .bool b, .string s, .bool fs, .string n, .string d, .bool false, .int .i64 e]] W (RetBB true W) := by
 cases h with
 | err _ h => exact is_err e A B c c' W h
 | one _ => exact is_1 b ⟨#[]⟩ A B c c' W rfl
 | two _ h => exact is_2 false s A B c c' W (by unfold rightV; rw [if_neg (by decide), if_pos rfl]; simp [noneB, h])
 | num _ h => exact is_num q A B c c' W r1 r2 k1 k2 h.1 h.2.1 h.2.2
theorem fits_fit {q v : Q} {t r : Int} (h : FitsR q t v r) (hq : Fit q) (hr : r = 0) : Fit v := by
 have fl : ∀ sz, FlFit q sz v → Fit v := by
  rintro sz ⟨p, u, t, cc, ex, hf, hC, ho, h1, h2, rfl⟩
  refine ⟨h1, h2, valQ_right fun e => ?_⟩
  rw [e]
  simp
 subst hr
 rcases h with ⟨_, _, h⟩ | ⟨_, _, _, _, h⟩ | ⟨_, _, _, _, rfl, _⟩ | ⟨_, ⟨_, _, h⟩ | ⟨h, _⟩⟩ | ⟨_, ⟨_, _, h⟩ | ⟨h, _⟩⟩ | ⟨_, _, _, _, rfl, _⟩
 · cases h
 · cases h
 · exact hq
 · cases h
 · exact fl _ h
 · cases h
 · exact fl _ h
 · exact hq
theorem fits_bad {q v : Q} {t r : Int} (h : FitsR q t v r) (hr : r ≠ 0) : v = noQ := by
 rcases h with ⟨_, h, _⟩ | ⟨_, _, _, h, _⟩ | ⟨_, _, _, _, _, h⟩ | ⟨_, ⟨_, h, _⟩ | ⟨_, h⟩⟩ | ⟨_, ⟨_, h, _⟩ | ⟨_, h⟩⟩ | ⟨_, _, _, _, _, h⟩
 · exact h
 · exact h
 · exact absurd h hr
 · exact h
 · exact absurd h hr
 · exact h
 · exact absurd h hr
 · exact absurd h hr
theorem vok_rk {v : Q} {r : Int} (h1 : r = 0 → Fit v) (h2 : r ≠ 0 → v = noQ) : VOK (rk r) false ⟨#[]⟩ v r (rs v r) (rn v r) (rd v r) := by
 unfold rk rs rn rd
 by_cases h : r = 0
 · rw [if_pos h, if_pos h, if_pos h, if_pos h]
   obtain rfl := h
   exact .num v (h1 rfl)
 · rw [if_neg h, if_neg h, if_neg h, if_neg h, h2 h]
   exact .err r h
structure OpRow (op : ByteArray) (wh : Bool) (F : FuncId) (cp : Nat → Nat → Nat → Nat → Nat → Nat → Array Value) : Prop where
 look : ∀ g1 g2 g3 g4 g5 g6, lookL .string (.string op) (opsTab g1 g2 g3 g4 g5 g6) = some (some (.agg #[.bool wh, .func (.func F) #[] (cp g1 g2 g3 g4 g5 g6)]))
 four : inB ops4 op = wh
 call : ∀ vs w, (callFunc F vs).run Tryz.prog w = .ok (.enter F vs) w
 does : ∀ a b t, Fit a → Fit b → (wh = true → wholeB t = true ∧ a.d = 1 ∧ b.d = 1) → ∃ q e, OpX op F cp a b t q e
theorem byte_eq {s t : ByteArray} (h : (s.toList == t.toList) = true) : t = s := by
 have h1 : s.toList = t.toList := by simpa using h
 rw [ByteArray.toList_eq, ByteArray.toList_eq] at h1
 exact (ByteArray.ext (Array.ext' h1)).symm
theorem op_row {op : ByteArray} (h : inB ops8 op = true) : ∃ wh F cp, OpRow op wh F cp := by
 unfold inB ops8 at h
 simp only [List.any_cons, List.any_nil, Bool.or_false, Bool.or_eq_true] at h
 rcases h with h | h | h | h | h | h | h | h
 all_goals obtain rfl := byte_eq h; clear h
 · exact ⟨false, 95, cpG 1, fun _ _ _ _ _ _ => rfl, by decide +kernel, fun vs w => by kernel_rfl, fun a b t ha hb _ => op_add a b t ha hb⟩
 · exact ⟨false, 95, cpG 2, fun _ _ _ _ _ _ => rfl, by decide +kernel, fun vs w => by kernel_rfl, fun a b t ha hb _ => op_sub a b t ha hb⟩
 · exact ⟨false, 95, cpG 3, fun _ _ _ _ _ _ => rfl, by decide +kernel, fun vs w => by kernel_rfl, fun a b t ha hb _ => op_mul a b t ha hb⟩
 · exact ⟨false, 57, cpN, fun _ _ _ _ _ _ => rfl, by decide +kernel, fun vs w => by kernel_rfl, fun a b t ha hb _ => op_quo a b t ha hb⟩
 · exact ⟨true, 58, cpN, fun _ _ _ _ _ _ => rfl, by decide +kernel, fun vs w => by kernel_rfl, fun a b t ha hb hw => op_left a b t ha hb (hw rfl).1 (hw rfl).2.1 (hw rfl).2.2⟩
 · exact ⟨true, 103, cpG 4, fun _ _ _ _ _ _ => rfl, by decide +kernel, fun vs w => by kernel_rfl, fun a b t ha hb _ => op_bit0 a b t ha hb⟩
 · exact ⟨true, 103, cpG 5, fun _ _ _ _ _ _ => rfl, by decide +kernel, fun vs w => by kernel_rfl, fun a b t ha hb _ => op_bit1 a b t ha hb⟩
 · exact ⟨true, 103, cpG 6, fun _ _ _ _ _ _ => rfl, by decide +kernel, fun vs w => by kernel_rfl, fun a b t ha hb _ => op_bit2 a b t ha hb⟩
theorem same_no {k x : ByteArray} (h : (x.toList == k.toList) = false) : Instr.sameNow .string (.string k) (.string x) = some false := by
 have h1 : ¬ k.data = x.data := by
  intro e
  obtain rfl : k = x := ByteArray.ext e
  simp at h
 have h2 : (k == x) = false := by
  show (k.data == x.data) = false
  simpa using h1
 simp [Instr.sameNow, h2]
theorem look_no8 {op : ByteArray} (h : inB ops8 op = false) (g1 g2 g3 g4 g5 g6 : Nat) : lookL .string (.string op) (opsTab g1 g2 g3 g4 g5 g6) = some none := by
 unfold inB ops8 at h
 simp only [List.any_cons, List.any_nil, Bool.or_false, Bool.or_eq_false_iff] at h
 obtain ⟨h1, h2, h3, h4, h5, h6, h7, h8⟩ := h
 unfold opsTab
 simp only [lookL, same_no h1, same_no h2, same_no h3, same_no h4, same_no h5, same_no h6, same_no h7, same_no h8]
end
end Go.Proofs.YtmbbdjpnecjleaaGreat
namespace Go.Proofs.YtmbbdjpnecjleaaGreat
section
set_option maxRecDepth 100000
set_option maxHeartbeats 1000000
open Go.RowKit

def Alike (op : ByteArray) (a b : VD) (x y : XD) (t : Int) : Prop := ∃ k bb s q e fs n d, KBinP op a b t k bb s q e ∧ RBinP op x y t k bb s fs n d e ∧ VOK k bb s q e fs n d
def numV (a : Q) : VD := ⟨3, false, ⟨#[]⟩, a.s, limbs a.n, limbs a.d⟩
def numX (a : Q) : XD := ⟨3, false, ⟨#[]⟩, a.s, dec a.n, dec a.d⟩
theorem bas_is {t : Int} (h : basB t = true) : 0 ≤ t ∧ t ≤ 18 := by
 unfold basB at h
 simpa using h
theorem num_both {op : ByteArray} {wh : Bool} {F : FuncId} {cp : Nat → Nat → Nat → Nat → Nat → Nat → Array Value} (hr : OpRow op wh F cp) (h8 : inB ops8 op = true) (n1 : op ≠ ⟨#[38, 38]⟩) (n2 : op ≠ ⟨#[124, 124]⟩) (a b : Q) (t : Int) (ha : Fit a) (hb : Fit b) (hbas : basB t = true) (hnum : numB t = true) (hw : wh = true → wholeB t = true ∧ a.d = 1 ∧ b.d = 1) :
 Alike op (numV a) (numV b) (numX a) (numX b) t := by
 obtain ⟨q, e, hX⟩ := hr.does a b t ha hb hw
 have h0t := (bas_is hbas).1
 by_cases he : e = 0
 · subst he
   have hq := hX.fit rfl
   obtain ⟨v, r, hF⟩ := kfits_any q t hq.2.2.den
   refine ⟨rk r, false, ⟨#[]⟩, v, r, rs v r, rn v r, rd v r, ?_, ?_, vok_rk (fits_fit hF hq) (fits_bad hF)⟩
   · rintro A B A' B' c d c' d' W ⟨h1, h2, k1, k2⟩ ⟨h3, h4, k3, k4⟩
     cases wh
     · exact kBin_any op F cp t a b A B A' B' c d c' d' W h1 h2 h3 h4 k1 k2 k3 k4 ha hb hr.call n1 n2 hr.look hX.does hbas hnum (fun _ => hq) (fun _ => ⟨hF, rfl⟩) (fun h => absurd rfl h)
     · exact kBin_whole op F cp t a b A B A' B' c d c' d' W h1 h2 h3 h4 k1 k2 k3 k4 ha hb hr.call n1 n2 hr.look hX.does hbas hnum (hw rfl).1 (hw rfl).2.1 (hw rfl).2.2 (fun _ => hq) (fun _ => ⟨hF, rfl⟩) (fun h => absurd rfl h)
   · intro W
     cases wh
     · exact rBin_any op a b t W n1 n2 h8 hr.four hnum hX.reck (fun W => rFits_is t q W h0t hq.1 hq.2.1 hq.2.2 hF)
     · exact rBin_whole op a b t W n1 n2 h8 hr.four hnum (hw rfl).1 (hw rfl).2.1 (hw rfl).2.2 hX.reck (fun W => rFits_is t q W h0t hq.1 hq.2.1 hq.2.2 hF)
 · obtain rfl := hX.bad he
   refine ⟨rk e, false, ⟨#[]⟩, noQ, e, rs noQ e, rn noQ e, rd noQ e, ?_, ?_, vok_rk (fun h => absurd h he) (fun _ => rfl)⟩
   · rintro A B A' B' c d c' d' W ⟨h1, h2, k1, k2⟩ ⟨h3, h4, k3, k4⟩
     cases wh
     · exact kBin_any op F cp t a b A B A' B' c d c' d' W h1 h2 h3 h4 k1 k2 k3 k4 ha hb hr.call n1 n2 hr.look hX.does hbas hnum (fun h => absurd h he) (fun h => absurd h he) (fun _ => ⟨rfl, rfl, if_neg he⟩)
     · exact kBin_whole op F cp t a b A B A' B' c d c' d' W h1 h2 h3 h4 k1 k2 k3 k4 ha hb hr.call n1 n2 hr.look hX.does hbas hnum (hw rfl).1 (hw rfl).2.1 (hw rfl).2.2 (fun h => absurd h he) (fun h => absurd h he) (fun _ => ⟨rfl, rfl, if_neg he⟩)
   · intro W
     cases wh
     · exact rBin_any op a b t W n1 n2 h8 hr.four hnum hX.reck (fun W => rFits_err t W he)
     · exact rBin_whole op a b t W n1 n2 h8 hr.four hnum (hw rfl).1 (hw rfl).2.1 (hw rfl).2.2 hX.reck (fun W => rFits_err t W he)
theorem err_both {op : ByteArray} {a b : VD} {x y : XD} {t : Int} {e : Int} (he : e ≠ 0) (h1 : KBinP op a b t 0 false ⟨#[]⟩ noQ e) (h2 : RBinP op x y t 0 false ⟨#[]⟩ false ⟨#[]⟩ ⟨#[]⟩ e) : Alike op a b x y t := ⟨_, _, _, _, _, _, _, _, h1, h2, .err e he⟩
section
variable {a b : VD} {x y : XD} {t : Int}
theorem x_at {a : VD} {x : XD} (hx : OfR a x) : x.at = .agg #[.int .i64 a.k, .bool x.b, .string x.s, .bool x.f, .string x.n, .string x.d, .bool false, .int .i64 0] := by
 rw [← hx.kind]
 rfl
theorem and_both (hx : OfR a x) (hy : OfR b y) (la : a.lim) (lb : b.lim) (ra : a.right = true) (rb : b.right = true) (hbas : basB t = true) : Alike ⟨#[38, 38]⟩ a b x y t := by
 by_cases h : a.k = 1 ∧ b.k = 1 ∧ truthB t = true
 · obtain ⟨u, rfl, rfl⟩ := hx.one_is h.1
   obtain ⟨v, rfl, rfl⟩ := hy.one_is h.2.1
   refine ⟨1, (u && v), ⟨#[]⟩, noQ, 0, false, ⟨#[]⟩, ⟨#[]⟩, ?_, fun W => rBin_and t W h.2.2, .one _⟩
   intro A B A' B' c d c' d' W hA hB
   exact kBin_and 1 1 u v false false ⟨#[]⟩ ⟨#[]⟩ A B A' B' c d c' d' [] [] [] [] t W hA.1 hA.2.1 hB.1 hB.2.1 la.1 la.2.1 lb.1 lb.2.1 la.2.2.1 la.2.2.2 lb.2.2.1 lb.2.2.2 hA.2.2.1 hA.2.2.2 hB.2.2.1 hB.2.2.2 ra rb hbas (fun W g1 g2 g3 g4 => kLogic_and u v false false ⟨#[]⟩ ⟨#[]⟩ A B A' B' c d c' d' [] [] [] [] t W g1 g2 g3 g4 la.1 la.2.1 lb.1 lb.2.1 la.2.2.1 la.2.2.2 lb.2.2.1 lb.2.2.2 hA.2.2.1 hA.2.2.2 hB.2.2.1 hB.2.2.2 h.2.2)
 · refine err_both (e := 11) (by decide) ?_ fun W => ?_
   · intro A B A' B' c d c' d' W hA hB
     exact kBin_and a.k b.k a.b b.b a.g b.g a.s b.s A B A' B' c d c' d' a.xs a.ys b.xs b.ys t W hA.1 hA.2.1 hB.1 hB.2.1 la.1 la.2.1 lb.1 lb.2.1 la.2.2.1 la.2.2.2 lb.2.2.1 lb.2.2.2 hA.2.2.1 hA.2.2.2 hB.2.2.1 hB.2.2.2 ra rb hbas (fun W g1 g2 g3 g4 => kLogic_type ⟨#[38, 38]⟩ a.k b.k a.b b.b a.g b.g a.s b.s A B A' B' c d c' d' a.xs a.ys b.xs b.ys t W g1 g2 g3 g4 la.1 la.2.1 lb.1 lb.2.1 la.2.2.1 la.2.2.2 lb.2.2.1 lb.2.2.2 hA.2.2.1 hA.2.2.2 hB.2.2.1 hB.2.2.2 h)
   · rw [x_at hx, x_at hy]
     exact rBin_andt t W h
theorem or_both (hx : OfR a x) (hy : OfR b y) (la : a.lim) (lb : b.lim) (ra : a.right = true) (rb : b.right = true) (hbas : basB t = true) : Alike ⟨#[124, 124]⟩ a b x y t := by
 by_cases h : a.k = 1 ∧ b.k = 1 ∧ truthB t = true
 · obtain ⟨u, rfl, rfl⟩ := hx.one_is h.1
   obtain ⟨v, rfl, rfl⟩ := hy.one_is h.2.1
   refine ⟨1, (u || v), ⟨#[]⟩, noQ, 0, false, ⟨#[]⟩, ⟨#[]⟩, ?_, fun W => rBin_or t W h.2.2, .one _⟩
   intro A B A' B' c d c' d' W hA hB
   exact kBin_or 1 1 u v false false ⟨#[]⟩ ⟨#[]⟩ A B A' B' c d c' d' [] [] [] [] t W hA.1 hA.2.1 hB.1 hB.2.1 la.1 la.2.1 lb.1 lb.2.1 la.2.2.1 la.2.2.2 lb.2.2.1 lb.2.2.2 hA.2.2.1 hA.2.2.2 hB.2.2.1 hB.2.2.2 ra rb hbas (fun W g1 g2 g3 g4 => kLogic_or u v false false ⟨#[]⟩ ⟨#[]⟩ A B A' B' c d c' d' [] [] [] [] t W g1 g2 g3 g4 la.1 la.2.1 lb.1 lb.2.1 la.2.2.1 la.2.2.2 lb.2.2.1 lb.2.2.2 hA.2.2.1 hA.2.2.2 hB.2.2.1 hB.2.2.2 h.2.2)
 · refine err_both (e := 11) (by decide) ?_ fun W => ?_
   · intro A B A' B' c d c' d' W hA hB
     exact kBin_or a.k b.k a.b b.b a.g b.g a.s b.s A B A' B' c d c' d' a.xs a.ys b.xs b.ys t W hA.1 hA.2.1 hB.1 hB.2.1 la.1 la.2.1 lb.1 lb.2.1 la.2.2.1 la.2.2.2 lb.2.2.1 lb.2.2.2 hA.2.2.1 hA.2.2.2 hB.2.2.1 hB.2.2.2 ra rb hbas (fun W g1 g2 g3 g4 => kLogic_type ⟨#[124, 124]⟩ a.k b.k a.b b.b a.g b.g a.s b.s A B A' B' c d c' d' a.xs a.ys b.xs b.ys t W g1 g2 g3 g4 la.1 la.2.1 lb.1 lb.2.1 la.2.2.1 la.2.2.2 lb.2.2.1 lb.2.2.2 hA.2.2.1 hA.2.2.2 hB.2.2.1 hB.2.2.2 h)
   · rw [x_at hx, x_at hy]
     exact rBin_ort t W h
theorem unk_both {op : ByteArray} (hx : OfR a x) (hy : OfR b y) (la : a.lim) (lb : b.lim) (ra : a.right = true) (rb : b.right = true) (hbas : basB t = true) (n1 : op ≠ ⟨#[38, 38]⟩) (n2 : op ≠ ⟨#[124, 124]⟩) (h : inB ops8 op = false) : Alike op a b x y t := by
 refine err_both (e := 1) (by decide) ?_ fun W => ?_
 · intro A B A' B' c d c' d' W hA hB
   exact kBin_unk op a.k b.k a.b b.b a.g b.g a.s b.s A B A' B' c d c' d' a.xs a.ys b.xs b.ys t W hA.1 hA.2.1 hB.1 hB.2.1 la.1 la.2.1 lb.1 lb.2.1 la.2.2.1 la.2.2.2 lb.2.2.1 lb.2.2.2 hA.2.2.1 hA.2.2.2 hB.2.2.1 hB.2.2.2 ra rb hbas n1 n2 (look_no8 h)
 · rw [x_at hx, x_at hy]
   exact rBin_unk op t W n1 n2 h
theorem row_both {op : ByteArray} (hx : OfR a x) (hy : OfR b y) (la : a.lim) (lb : b.lim) (ra : a.right = true) (rb : b.right = true) (hbas : basB t = true) (n1 : op ≠ ⟨#[38, 38]⟩) (n2 : op ≠ ⟨#[124, 124]⟩) (h8 : inB ops8 op = true) : Alike op a b x y t := by
 obtain ⟨wh, F, cp, hr⟩ := op_row h8
 by_cases ht : op.toList = [43] ∧ a.k = 2 ∧ b.k = 2 ∧ wordsB t = true
 · obtain ⟨ho, hka, hkb, hw⟩ := ht
   obtain ⟨s1, z1, rfl, rfl⟩ := hx.two_is hka
   obtain ⟨s2, z2, rfl, rfl⟩ := hy.two_is hkb
   obtain rfl : op = ⟨#[43]⟩ := byte_eq (by rw [ho]; decide +kernel)
   by_cases hs : 200 < s1.size + s2.size
   · refine err_both (e := 7) (by decide) ?_ fun W => rBin_many t W hw (show s1.size ≤ 1000 by omega) (show s2.size ≤ 1000 by omega) hs
     intro A B A' B' c d c' d' W hA hB
     exact kBin_many _ wh F cp false false false false s1 s2 A B A' B' c d c' d' [] [] [] [] t W hA.1 hA.2.1 hB.1 hB.2.1 la.1 la.2.1 lb.1 lb.2.1 la.2.2.1 la.2.2.2 lb.2.2.1 lb.2.2.2 hA.2.2.1 hA.2.2.2 hB.2.2.1 hB.2.2.2 ra rb hbas n1 n2 hr.look ho hw (show s1.size ≤ 1000 by omega) (show s2.size ≤ 1000 by omega) hs
   · refine ⟨2, false, s1 ++ s2, noQ, 0, false, ⟨#[]⟩, ⟨#[]⟩, ?_, fun W => rBin_text t W hw (show s1.size ≤ 1000 by omega) (show s2.size ≤ 1000 by omega) hs, .two _ (by rw [ByteArray.size_append]; omega)⟩
     intro A B A' B' c d c' d' W hA hB
     exact kBin_text _ wh F cp false false false false s1 s2 A B A' B' c d c' d' [] [] [] [] t W hA.1 hA.2.1 hB.1 hB.2.1 la.1 la.2.1 lb.1 lb.2.1 la.2.2.1 la.2.2.2 lb.2.2.1 lb.2.2.2 hA.2.2.1 hA.2.2.2 hB.2.2.1 hB.2.2.2 ra rb hbas n1 n2 hr.look ho hw (show s1.size ≤ 1000 by omega) (show s2.size ≤ 1000 by omega) hs
 · by_cases hn : a.k = 3 ∧ b.k = 3 ∧ numB t = true
   · obtain ⟨hka, hkb, hnum⟩ := hn
     obtain ⟨p, hp, rfl, rfl⟩ := hx.num_is hka
     obtain ⟨q, hq, rfl, rfl⟩ := hy.num_is hkb
     by_cases hw : wh = true → wholeB t = true ∧ p.d = 1 ∧ q.d = 1
     · exact num_both hr h8 n1 n2 p q t hp hq hbas hnum hw
     · cases wh
       · exact absurd (fun h => nomatch h) hw
       · have hz : ¬ (p.d = 1 ∧ q.d = 1 ∧ wholeB t = true) := fun h => hw fun _ => ⟨h.2.2, h.1, h.2.1⟩
         refine err_both (e := 11) (by decide) ?_ fun W => rBin_frac op p q t W n1 n2 h8 hr.four hnum hz
         rintro A B A' B' c d c' d' W ⟨h1, h2, k1, k2⟩ ⟨h3, h4, k3, k4⟩
         exact kBin_frac op F cp t p q A B A' B' c d c' d' W h1 h2 h3 h4 k1 k2 k3 k4 hp hq n1 n2 hr.look hbas hnum hz
   · refine err_both (e := 11) (by decide) ?_ fun W => ?_
     · intro A B A' B' c d c' d' W hA hB
       exact kBin_type op wh F cp a.k b.k a.b b.b a.g b.g a.s b.s A B A' B' c d c' d' a.xs a.ys b.xs b.ys t W hA.1 hA.2.1 hB.1 hB.2.1 la.1 la.2.1 lb.1 lb.2.1 la.2.2.1 la.2.2.2 lb.2.2.1 lb.2.2.2 hA.2.2.1 hA.2.2.2 hB.2.2.1 hB.2.2.2 ra rb hbas n1 n2 hr.look hn ht
     · rw [x_at hx, x_at hy]
       exact rBin_type op t W n1 n2 h8 hn ht
theorem bin_both (op : ByteArray) (hx : OfR a x) (hy : OfR b y) (la : a.lim) (lb : b.lim) (ra : a.right = true) (rb : b.right = true) (hbas : basB t = true) : Alike op a b x y t := by
 by_cases n1 : op = ⟨#[38, 38]⟩
 · subst n1
   exact and_both hx hy la lb ra rb hbas
 · by_cases n2 : op = ⟨#[124, 124]⟩
   · subst n2
     exact or_both hx hy la lb ra rb hbas
   · cases h : inB ops8 op
     · exact unk_both hx hy la lb ra rb hbas n1 n2 h
     · exact row_both hx hy la lb ra rb hbas n1 n2 h
theorem bin_bad (op : ByteArray) (la : a.lim) (lb : b.lim) (h : ¬ (a.right = true ∧ b.right = true ∧ 0 ≤ t ∧ t ≤ 18)) : KBinP op a b t 0 false ⟨#[]⟩ noQ 1 := by
 intro A B A' B' c d c' d' W hA hB
 cases ra : a.right
 · exact kBin_bada op a.k b.k a.b b.b a.g b.g a.s b.s A B A' B' c d c' d' a.xs a.ys b.xs b.ys t W hA.1 hA.2.1 hB.1 hB.2.1 la.1 la.2.1 lb.1 lb.2.1 la.2.2.1 la.2.2.2 lb.2.2.1 lb.2.2.2 hA.2.2.1 hA.2.2.2 hB.2.2.1 hB.2.2.2 ra
 · cases rb : b.right
   · exact kBin_badb op a.k b.k a.b b.b a.g b.g a.s b.s A B A' B' c d c' d' a.xs a.ys b.xs b.ys t W hA.1 hA.2.1 hB.1 hB.2.1 la.1 la.2.1 lb.1 lb.2.1 la.2.2.1 la.2.2.2 lb.2.2.1 lb.2.2.2 hA.2.2.1 hA.2.2.2 hB.2.2.1 hB.2.2.2 ra rb
   · exact kBin_badt op a.k b.k a.b b.b a.g b.g a.s b.s A B A' B' c d c' d' a.xs a.ys b.xs b.ys t W hA.1 hA.2.1 hB.1 hB.2.1 la.1 la.2.1 lb.1 lb.2.1 la.2.2.1 la.2.2.2 lb.2.2.1 lb.2.2.2 hA.2.2.1 hA.2.2.2 hB.2.2.1 hB.2.2.2 ra rb (by
      unfold basB
      rw [Bool.and_eq_false_iff, decide_eq_false_iff_not, decide_eq_false_iff_not]
      by_cases h0 : 0 ≤ t
      · exact .inr fun h1 => h ⟨ra, rb, h0, h1⟩
      · exact .inl h0)
end
theorem of_is {a : VD} {x : XD} (h : OfR a x) (A B : Option Addr) (c d : Nat) (W : World) (hA : a.rd W A B c d) : Calls Tryz.prog 12 #[a.at A B c d] W (RetRV x.k x.b x.s x.f x.n x.d 0 W) := by
 cases h with
 | num q h => exact rOf_num q A B c d W hA.1 hA.2.1 hA.2.2.1 hA.2.2.2 h.1 h.2.1 h.2.2
 | one b => exact rOf_flat 1 b false ⟨#[]⟩ [] [] A B c d W (by decide)
 | two s h => exact rOf_flat 2 false false s [] [] A B c d W (by decide)
theorem law_reckons15 (op : ByteArray) (a b : VD) (A B A' B' : Option Addr) (c d c' d' : Nat) (t : Int) (w : World) (hA : a.rd w A B c d) (hB : b.rd w A' B' c' d') (m1 : Lim a.xs) (m2 : Lim a.ys) (m3 : Lim b.xs) (m4 : Lim b.ys) :
 Calls Tryz.prog 3 #[.string op, a.at A B c d, b.at A' B' c' d', .int .i64 t] w (RetBB true w) := by
 obtain ⟨ka, ba, sa, ga, x0, y0⟩ := a
 obtain ⟨kb, bb, sb, gb, x0', y0'⟩ := b
 obtain ⟨h1, h2, k1, k2⟩ := hA
 obtain ⟨h3, h4, k3, k4⟩ := hB
 have la : VD.lim ⟨ka, ba, sa.extract 0 (min sa.size 203), ga, few x0, few y0⟩ := ⟨few_lim m1, few_lim m2, few_le _, few_le _⟩
 have lb : VD.lim ⟨kb, bb, sb.extract 0 (min sb.size 203), gb, few x0', few y0'⟩ := ⟨few_lim m3, few_lim m4, few_le _, few_le _⟩
 have c1 := Nat.le_trans (few_short x0) k1
 have c2 := Nat.le_trans (few_short y0) k2
 have c3 := Nat.le_trans (few_short x0') k3
 have c4 := Nat.le_trans (few_short y0') k4
 by_cases hbad : VD.right ⟨ka, ba, sa.extract 0 (min sa.size 203), ga, few x0, few y0⟩ = true ∧ VD.right ⟨kb, bb, sb.extract 0 (min sb.size 203), gb, few x0', few y0'⟩ = true ∧ 0 ≤ t ∧ t ≤ 18
 · obtain ⟨x, hx⟩ := of_right la hbad.1
   obtain ⟨y, hy⟩ := of_right lb hbad.2.1
   obtain ⟨k, b9, s, q, e, fs, n, d9, hK, hR, hV⟩ := bin_both (op.extract 0 (min op.size 3)) hx hy la lb hbad.1 hbad.2.1 (show basB t = true by unfold basB; simp [hbad.2.2])
   exact law_all op ka kb ba bb ga gb sa sb _ _ _ A B A' B' c d c' d' x0 y0 x0' y0' _ _ _ _ t w h1 h2 h3 h4 m1 m2 m3 m4 k1 k2 k3 k4 rfl rfl rfl rfl rfl rfl rfl
    (fun W r1 r2 r3 r4 => hK A B A' B' c d c' d' W ⟨r1, r2, c1, c2⟩ ⟨r3, r4, c3, c4⟩)
    (.inr ⟨hbad.1, hbad.2.1, hbad.2.2.1, hbad.2.2.2, fun W r1 r2 => of_is hx A B c d W ⟨r1, r2, c1, c2⟩, fun W r1 r2 => of_is hy A' B' c' d' W ⟨r1, r2, c3, c4⟩, hR, fun W Ax Ay cx cy r1 r2 j1 j2 => hV.is W Ax Ay cx cy r1 r2 j1 j2⟩)
 · exact law_all (kx := 0) (ky := 0) (bx := false) (by_ := false) (fx := false) (fy := false) (fs := false) (n0 := ⟨#[]⟩) (d0 := ⟨#[]⟩) (sx := ⟨#[]⟩) (nx := ⟨#[]⟩) (dx := ⟨#[]⟩) (sy := ⟨#[]⟩) (ny := ⟨#[]⟩) (dy := ⟨#[]⟩) op ka kb ba bb ga gb sa sb _ _ _ A B A' B' c d c' d' x0 y0 x0' y0' _ _ _ _ t w h1 h2 h3 h4 m1 m2 m3 m4 k1 k2 k3 k4 rfl rfl rfl rfl rfl rfl rfl
    (fun W r1 r2 r3 r4 => bin_bad _ la lb hbad A B A' B' c d c' d' W ⟨r1, r2, c1, c2⟩ ⟨r3, r4, c3, c4⟩)
    (.inl ⟨hbad, fun W Ax Ay cx cy => refused_is Ax Ay cx cy W⟩)
end
end Go.Proofs.YtmbbdjpnecjleaaGreat
namespace Go.Proofs.YtmbbdjpnecjleaaGreat
section
set_option maxRecDepth 100000
set_option maxHeartbeats 1000000
open Go.RowKit Go.ChangeShapes Go.WideShapes

theorem addr_plain {w : World} {a : Addr} {v : Value} (h : w.cell? a = some v) : a = ⟨a.block, a.off, none⟩ := by
 have := World.cell?_spot h
 cases a
 simp at this
 subst this
 rfl
theorem addr_add (b off i : Nat) : (⟨b, off, none⟩ : Addr).add i = ⟨b, off + i, none⟩ := by
 unfold Addr.add
 split <;> simp_all

section
variable {H : Type} {enc : TypeId × Value → H} {P : Program} {w : World} {base : Nat} {spare : Nat → Bool} {held : Bool}

theorem rd_of_add {a : Addr} {n : Nat} {f : Nat → Value} (h : ∀ i, i < n → w.cell? (a.add i) = some (f i)) : Rd w (some a) n f := fun hn => by
 have h0 := h 0 hn
 rw [Addr.add, if_pos rfl] at h0
 have ha := addr_plain h0
 refine ⟨a.block, a.off, by rw [← ha], World.block_lt_of_cell? w a h0, fun k hk => ?_⟩
 have := h k hk
 rw [ha, addr_add] at this
 exact this

theorem open_rdI {t e : TypeId} {k : IntKind} {fuel : Nat} {v : Value} {x : DataW H × List MemPlace} (ht : P.underlying t = some (.slice e)) (he : P.underlying e = some (.int k)) (hc : P.cellsOf e = 1)
 (h : DataW.trod enc P w base spare held fuel t [v] = some x) :
 ∃ A cap xs, v = .slice A xs.length cap ∧ xs.length ≤ cap ∧ cap ≤ maxLen ∧ RdI w A k xs ∧ ∀ n ∈ xs, (Lit.int k n).wf = true := by
 rcases open_ints ht he hc h with ⟨hcs, _⟩ | ⟨a, len, cap, zs, hcs, _, hl, hm, hz, _, hcell, hwz⟩
 · simp only [List.cons.injEq, and_true] at hcs
   subst hcs
   exact ⟨none, 0, [], rfl, Nat.le_refl _, Nat.zero_le _, Rd.nil, by simp⟩
 · simp only [List.cons.injEq, and_true] at hcs
   subst hcs
   have hzl : len ≤ zs.length := by rw [hz]; split <;> omega
   have hlen : (zs.take len).length = len := by rw [List.length_take]; omega
   refine ⟨some a, cap, zs.take len, by rw [hlen], by omega, hm, ?_, fun n hn => hwz n (List.mem_of_mem_take hn)⟩
   unfold RdI
   rw [hlen]
   refine rd_of_add fun i hi => ?_
   rw [hcell i (by omega)]
   simp [hi]
end
end
end Go.Proofs.YtmbbdjpnecjleaaGreat
namespace Go.Proofs.YtmbbdjpnecjleaaGreat
section
set_option maxRecDepth 100000
set_option maxHeartbeats 1000000
open Go.RowKit Go.ChangeShapes Go.WideShapes

section
variable {H : Type} {enc : TypeId × Value → H} {w : World} {base : Nat} {spare : Nat → Bool} {held : Bool}
theorem wf_u32 {n : Int} (h : (Lit.int .u32 n).wf = true) : 0 ≤ n ∧ n < 4294967296 := by
 simp [Lit.wf, IntKind.min, IntKind.max, IntKind.bits, IntKind.signed] at h
 omega
theorem open_rdL {fuel : Nat} {v : Value} {x : DataW H × List MemPlace} (h : DataW.trod enc Tryz.prog w base spare held fuel 23 [v] = some x) :
 ∃ A cap xs, v = .slice A xs.length cap ∧ xs.length ≤ cap ∧ RdL w A xs ∧ Lim xs := by
 obtain ⟨A, cap, zs, rfl, h1, _, hr, hw⟩ := open_rdI Tryz.underlying23 Tryz.underlying62 (by kernel_rfl) h
 refine ⟨A, cap, zs.map Int.toNat, by rw [List.length_map], by rw [List.length_map]; exact h1, ?_, ?_⟩
 · unfold RdL
   rw [List.length_map]
   refine Rd.congr hr fun k hk => ?_
   have hz := wf_u32 (hw (zs[k]) (List.getElem_mem hk))
   simp [hk]
   omega
 · intro y hy
   obtain ⟨z, hz, rfl⟩ := List.mem_map.1 hy
   have := wf_u32 (hw z hz)
   rw [B32_eq]
   omega
end
end
end Go.Proofs.YtmbbdjpnecjleaaGreat
namespace Go.Proofs.YtmbbdjpnecjleaaGreat
section
set_option maxRecDepth 100000
set_option maxHeartbeats 1000000
open Go.RowKit Go.ChangeShapes Go.WideShapes Go.Deep

section
variable {H : Type} {enc : TypeId × Value → H} {w : World} {base : Nat} {spare : Nat → Bool} {held : Bool}
theorem open_rat {fuel : Nat} {cs : List Value} {x : DataW H × List MemPlace} (h : DataW.trod enc Tryz.prog w base spare held fuel 25 cs = some x) :
 ∃ s A c xs B d ys, cs = [.bool s, .slice A (List.length xs) c, .slice B (List.length ys) d] ∧ xs.length ≤ c ∧ ys.length ≤ d ∧ RdL w A xs ∧ RdL w B ys ∧ Lim xs ∧ Lim ys := by
 obtain ⟨xs0, n, _, rfl, hl, hlen, hf⟩ := DataW.trod_struct Tryz.underlying25 h
 have hl3 : cs.length = 3 := hl.trans (by kernel_rfl)
 match cs, hl3 with
 | [v0, v1, v2], _ =>
  match xs0, hlen with
  | [y0, y1, y2], _ =>
   have h0 : DataW.trod enc Tryz.prog w base spare held n 4 [v0] = some y0 := by
    have := hf 0 _ rfl
    simpa [show Tryz.prog.cellsOf 4 = 1 by kernel_rfl] using this
   have h1 : DataW.trod enc Tryz.prog w base spare held n 23 [v1] = some y1 := by
    have := hf 1 _ rfl
    simpa [show Tryz.prog.cellsOf 23 = 1 by kernel_rfl] using this
   have h2 : DataW.trod enc Tryz.prog w base spare held n 23 [v2] = some y2 := by
    have := hf 2 _ rfl
    simpa [show Tryz.prog.cellsOf 23 = 1 by kernel_rfl] using this
   obtain ⟨s, e0, _⟩ := DataW.trod_bool Tryz.underlying4 h0
   obtain ⟨A, c, xs, e1, hc, hr, hx⟩ := open_rdL h1
   obtain ⟨B, d, ys, e2, hd, hr2, hy⟩ := open_rdL h2
   simp only [List.cons.injEq, and_true] at e0
   subst e0 e1 e2
   exact ⟨s, A, c, xs, B, d, ys, rfl, hc, hd, hr, hr2, hx, hy⟩
end
end
end Go.Proofs.YtmbbdjpnecjleaaGreat
namespace Go.Proofs.YtmbbdjpnecjleaaGreat
section
set_option maxRecDepth 100000
set_option maxHeartbeats 1000000
open Go.ChangeShapes Go.WideShapes Go.RowKit

section
variable {H : Type} {enc : TypeId × Value → H} {w : World} {base : Nat} {spare : Nat → Bool} {held : Bool}
theorem open_val {fuel : Nat} {cs : List Value} {x : DataW H × List MemPlace} (h : DataW.trod enc Tryz.prog w base spare held fuel 27 cs = some x) :
 ∃ (a : VD) (A B : Option Addr) (c d : Nat), cs = [.int .i64 a.k, .bool a.b, .string a.s, .bool a.g, .slice A a.xs.length c, .slice B a.ys.length d] ∧ a.rd w A B c d ∧ Lim a.xs ∧ Lim a.ys := by
 obtain ⟨xs0, n, _, rfl, hl, hlen, hf⟩ := DataW.trod_struct Tryz.underlying27 h
 have hl6 : cs.length = 6 := hl.trans (by kernel_rfl)
 match cs, hl6 with
 | [v0, v1, v2, v3, v4, v5], _ =>
  match xs0, hlen with
  | [y0, y1, y2, y3], _ =>
   have e1 : Tryz.prog.cellsOf 3 = 1 := by kernel_rfl
   have e2 : Tryz.prog.cellsOf 4 = 1 := by kernel_rfl
   have e3 : Tryz.prog.cellsOf 9 = 1 := by kernel_rfl
   have e4 : Tryz.prog.cellsOf 25 = 3 := by kernel_rfl
   have h0 : DataW.trod enc Tryz.prog w base spare held n 3 [v0] = some y0 := by
    have := hf 0 _ rfl
    simpa [e1, e2, e3, e4] using this
   have h1 : DataW.trod enc Tryz.prog w base spare held n 4 [v1] = some y1 := by
    have := hf 1 _ rfl
    simpa [e1, e2, e3, e4] using this
   have h2 : DataW.trod enc Tryz.prog w base spare held n 9 [v2] = some y2 := by
    have := hf 2 _ rfl
    simpa [e1, e2, e3, e4] using this
   have h3 : DataW.trod enc Tryz.prog w base spare held n 25 [v3, v4, v5] = some y3 := by
    have := hf 3 _ rfl
    simpa [e1, e2, e3, e4] using this
   obtain ⟨k, f0, _⟩ := DataW.trod_int Tryz.underlying3 h0
   obtain ⟨b, f1, _⟩ := DataW.trod_bool Tryz.underlying4 h1
   obtain ⟨s, f2, _⟩ := DataW.trod_string Tryz.underlying9 h2
   obtain ⟨g, A, c, xs, B, d, ys, f3, hc, hd, hr, hr2, hx, hy⟩ := open_rat h3
   simp only [List.cons.injEq, and_true] at f0 f1 f2 f3
   obtain ⟨f3, f4, f5⟩ := f3
   subst f0 f1 f2 f3 f4 f5
   exact ⟨⟨k, b, s, g, xs, ys⟩, A, B, c, d, rfl, ⟨hr, hr2, hc, hd⟩, hx, hy⟩
end
end
end Go.Proofs.YtmbbdjpnecjleaaGreat
