/-
 Parts: K39.
-/
import Derived.Test.YtmbbdjpnecjleaaGreatH35
import Derived.Test.YtmbbdjpnecjleaaGreatH26
namespace Go.Proofs.YtmbbdjpnecjleaaGreat
section
set_option maxRecDepth 100000
set_option maxHeartbeats 1000000
open Go.RowKit

theorem rLike_same (k : Int) (b : Bool) (s : ByteArray) (q : Q) (A B A' B' : Option Addr) (c d c' d' : Nat) (w : World) (h1 : RdL w A (limbs q.n)) (h2 : RdL w B (limbs q.d)) (h3 : RdL w A' (limbs q.n)) (h4 : RdL w B' (limbs q.d)) (l1 : (limbs q.n).length ≤ 18) (l2 : (limbs q.d).length ≤ 18) :
 Calls Tryz.prog 17 #[.agg #[.int .i64 k, .bool b, .string s, .bool q.s, .slice A (limbs q.n).length c, .slice B (limbs q.d).length d], .agg #[.int .i64 k, .bool b, .string s, .bool q.s, .slice A' (limbs q.n).length c', .slice B' (limbs q.d).length d']] w (RetBB true w) := by
 have R1 := Lib.hid h1; clear h1
 have R2 := Lib.hid h2; clear h2
 have R3 := Lib.hid h3; clear h3
 have R4 := Lib.hid h4; clear h4
 have HL := Lib.hid (And.intro l1 l2); clear l1 l2
 have z1 : (k == k) = true := by simp
 have z2 : (s.toList == s.toList) = true := by simp
 obtain ⟨wa, hwa⟩ : ∃ wa, wa = (w.alloc (.cells #[.int .i64 k, .bool b, .string s, .bool q.s, .slice A (limbs q.n).length c, .slice B (limbs q.d).length d] 27)).alloc (.cells #[.int .i64 k, .bool b, .string s, .bool q.s, .slice A' (limbs q.n).length c', .slice B' (limbs q.d).length d'] 27) := ⟨_, rfl⟩
 obtain ⟨hbl, CX, CY⟩ := kal2 hwa
 replace R1 := hmR R1 hbl
 replace R2 := hmR R2 hbl
 replace R3 := hmR R3 hbl
 replace R4 := hmR R4 hbl
 have HW := Lib.hid hbl; clear hbl
 replace CX := Lib.hid CX
 replace CY := Lib.hid CY
 go_enter Tryz.func17, Tryz.ntmps17
 go_upto_region 1 with fail
 rw [← hwa]
 clear hwa
 obtain ⟨CX0, CX1, CX2, CX3, CX4, CX5⟩ := CX.out.cs6
 obtain ⟨CY0, CY1, CY2, CY3, CY4, CY5⟩ := CY.out.cs6
 cases b
 all_goals
  go_wp2_with fail
  refine (refSame_ok q.s q.s A B A' B' c d c' d' (limbs q.n) (limbs q.d) (limbs q.n) (limbs q.d) _ R1.out R3.out HL.out.1 R2.out R4.out HL.out.2 (like_self _ _ _)).mono ?_
  rintro e w1 ⟨rfl, hbl⟩
  replace R1 := hmR R1 hbl
  replace R2 := hmR R2 hbl
  replace R3 := hmR R3 hbl
  replace R4 := hmR R4 hbl
  replace CX := hmB CX hbl
  replace CY := hmB CY hbl
  replace HW := hmW HW hbl; clear hbl
  clear CX0 CX1 CX2 CX3 CX4 CX5 CY0 CY1 CY2 CY3 CY4 CY5
  obtain ⟨CX0, CX1, CX2, CX3, CX4, CX5⟩ := CX.out.cs6
  obtain ⟨CY0, CY1, CY2, CY3, CY4, CY5⟩ := CY.out.cs6
  go_wp2
  go_ret
  first | exact ⟨rfl, HW.out⟩ | (refine ret_bb ?_ HW.out; simp)
structure HolW (w wr : World) (gL : Nat) (C D L : Array Value) (rs : List (Option Addr × List Nat)) : Prop where
 old : Below w.heap.size w wr
 cx : Blk wr w.heap.size 27 C
 cy : Blk wr (w.heap.size + 1) 27 D
 cl : Blk wr gL 27 L
 rd_ : ∀ p ∈ rs, RdL wr p.1 p.2
theorem HolW.rd {w wr : World} {gL : Nat} {C D L : Array Value} {rs : List (Option Addr × List Nat)} (h : HolW w wr gL C D L rs) (n : Nat) {p : Option Addr × List Nat} (hp : rs[n]? = some p) : RdL wr p.1 p.2 := h.rd_ p (List.mem_of_getElem? hp)
theorem HolW.mk12 {w wr : World} {gL : Nat} {C D L : Array Value} {a1 a2 a3 a4 a5 a6 a7 a8 a9 a10 a11 a12 : Option Addr} {x1 x2 x3 x4 x5 x6 x7 x8 x9 x10 x11 x12 : List Nat} (h : Below w.heap.size w wr) (cx : Blk wr w.heap.size 27 C) (cy : Blk wr (w.heap.size + 1) 27 D) (cl : Blk wr gL 27 L)
 (r1 : RdL wr a1 x1) (r2 : RdL wr a2 x2) (r3 : RdL wr a3 x3) (r4 : RdL wr a4 x4) (r5 : RdL wr a5 x5) (r6 : RdL wr a6 x6) (r7 : RdL wr a7 x7) (r8 : RdL wr a8 x8) (r9 : RdL wr a9 x9) (r10 : RdL wr a10 x10) (r11 : RdL wr a11 x11) (r12 : RdL wr a12 x12) : HolW w wr gL C D L [(a1, x1), (a2, x2), (a3, x3), (a4, x4), (a5, x5), (a6, x6), (a7, x7), (a8, x8), (a9, x9), (a10, x10), (a11, x11), (a12, x12)] := by
 refine ⟨h, cx, cy, cl, ?_⟩
 intro p hp
 simp only [List.mem_cons, List.not_mem_nil, or_false] at hp
 rcases hp with rfl | rfl | rfl | rfl | rfl | rfl | rfl | rfl | rfl | rfl | rfl | rfl
 · exact r1
 · exact r2
 · exact r3
 · exact r4
 · exact r5
 · exact r6
 · exact r7
 · exact r8
 · exact r9
 · exact r10
 · exact r11
 · exact r12
theorem text_is15 {xs : List Nat} {nb : Nat} (e : xs = limbs nb) {A : Option Addr} {w : World} (h : RdL w A xs) (hn : nb < Top) (c : Nat) (W : World) (hW : W = w := by rfl) : Calls Tryz.prog 21 #[.slice A xs.length c] W (RetS (dec nb) W) := by
 subst e hW
 exact text_num A c nb _ h hn
set_option maxHeartbeats 20000000 in
theorem law_holds {k1 e1 k2 e2 k3 e3 k4 e4 k5 e5 k6 e6 k7 e7 k8 e8 : Int} {b1 b2 b3 b4 b5 b6 b7 b8 : Bool} {t1 t2 t3 t4 t5 t6 t7 t8 : ByteArray} {q1 q2 q3 q4 q5 q6 q7 q8 : Q} (op : ByteArray) (ka kb : Int) (ba bb ga gb : Bool) (sa sb s1 s2 op1 : ByteArray) (A B A' B' : Option Addr) (c d c' d' : Nat) (x0 y0 x0' y0' xs ys xs' ys' : List Nat) (t : Int) (w : World) (h1 : RdL w A x0) (h2 : RdL w B y0) (h3 : RdL w A' x0') (h4 : RdL w B' y0') (m1 : Lim x0) (m2 : Lim y0) (m3 : Lim x0') (m4 : Lim y0') (j1 : x0.length ≤ c) (j2 : y0.length ≤ d) (j3 : x0'.length ≤ c') (j4 : y0'.length ≤ d') (f1 : few x0 = xs) (f2 : few y0 = ys) (f3 : few x0' = xs') (f4 : few y0' = ys') (z1 : sa.extract 0 (min sa.size 203) = s1) (z2 : sb.extract 0 (min sb.size 203) = s2) (z3 : op.extract 0 (min op.size 3) = op1) (hP1 : ∀ W, RdL W A xs → RdL W B ys → xs.length ≤ c → ys.length ≤ d → Calls Tryz.prog 13 #[.agg #[.int .i64 ka, .bool ba, .string s1, .bool ga, .slice A xs.length c, .slice B ys.length d], .int .i64 t] W (RetV k1 b1 t1 q1 e1 W)) (hP2 : ∀ W, RdL W A xs → RdL W B ys → xs.length ≤ c → ys.length ≤ d → Calls Tryz.prog 14 #[.string op1, .agg #[.int .i64 ka, .bool ba, .string s1, .bool ga, .slice A xs.length c, .slice B ys.length d], .int .i64 t] W (RetV k2 b2 t2 q2 e2 W)) (hP3 : ∀ W, RdL W A xs → RdL W B ys → xs.length ≤ c → ys.length ≤ d → RdL W A' xs' → RdL W B' ys' → xs'.length ≤ c' → ys'.length ≤ d' → Calls Tryz.prog 6 #[.string op1, .agg #[.int .i64 ka, .bool ba, .string s1, .bool ga, .slice A xs.length c, .slice B ys.length d], .agg #[.int .i64 kb, .bool bb, .string s2, .bool gb, .slice A' xs'.length c', .slice B' ys'.length d'], .int .i64 t] W (RetV k3 b3 t3 q3 e3 W)) (hP4 : ∀ W, RdL W A xs → RdL W B ys → xs.length ≤ c → ys.length ≤ d → RdL W A' xs' → RdL W B' ys' → xs'.length ≤ c' → ys'.length ≤ d' → Calls Tryz.prog 15 #[.string op1, .agg #[.int .i64 ka, .bool ba, .string s1, .bool ga, .slice A xs.length c, .slice B ys.length d], .agg #[.int .i64 kb, .bool bb, .string s2, .bool gb, .slice A' xs'.length c', .slice B' ys'.length d'], .int .i64 t] W (RetV k4 b4 t4 q4 e4 W)) (hre1 : e1 = 0 → (((limbs q1.n).length ≤ 18 ∧ (limbs q1.d).length ≤ 18) ∧ ∀ W A B c d, RdL W A (limbs q1.n) → RdL W B (limbs q1.d) → (limbs q1.n).length ≤ c → (limbs q1.d).length ≤ d → Calls Tryz.prog 16 #[.agg #[.int .i64 k1, .bool b1, .string t1, .bool q1.s, .slice A (limbs q1.n).length c, .slice B (limbs q1.d).length d]] W (RetBB true W)) ∧ ∀ W A B c d, RdL W A (limbs q1.n) → RdL W B (limbs q1.d) → (limbs q1.n).length ≤ c → (limbs q1.d).length ≤ d → Calls Tryz.prog 13 #[.agg #[.int .i64 k1, .bool b1, .string t1, .bool q1.s, .slice A (limbs q1.n).length c, .slice B (limbs q1.d).length d], .int .i64 t] W (RetV k1 b1 t1 q1 0 W)) (hre2 : e2 = 0 → (((limbs q2.n).length ≤ 18 ∧ (limbs q2.d).length ≤ 18) ∧ ∀ W A B c d, RdL W A (limbs q2.n) → RdL W B (limbs q2.d) → (limbs q2.n).length ≤ c → (limbs q2.d).length ≤ d → Calls Tryz.prog 16 #[.agg #[.int .i64 k2, .bool b2, .string t2, .bool q2.s, .slice A (limbs q2.n).length c, .slice B (limbs q2.d).length d]] W (RetBB true W)) ∧ ∀ W A B c d, RdL W A (limbs q2.n) → RdL W B (limbs q2.d) → (limbs q2.n).length ≤ c → (limbs q2.d).length ≤ d → Calls Tryz.prog 13 #[.agg #[.int .i64 k2, .bool b2, .string t2, .bool q2.s, .slice A (limbs q2.n).length c, .slice B (limbs q2.d).length d], .int .i64 t] W (RetV k2 b2 t2 q2 0 W)) (hre3 : e3 = 0 → (((limbs q3.n).length ≤ 18 ∧ (limbs q3.d).length ≤ 18) ∧ ∀ W A B c d, RdL W A (limbs q3.n) → RdL W B (limbs q3.d) → (limbs q3.n).length ≤ c → (limbs q3.d).length ≤ d → Calls Tryz.prog 16 #[.agg #[.int .i64 k3, .bool b3, .string t3, .bool q3.s, .slice A (limbs q3.n).length c, .slice B (limbs q3.d).length d]] W (RetBB true W)) ∧ ∀ W A B c d, RdL W A (limbs q3.n) → RdL W B (limbs q3.d) → (limbs q3.n).length ≤ c → (limbs q3.d).length ≤ d → Calls Tryz.prog 13 #[.agg #[.int .i64 k3, .bool b3, .string t3, .bool q3.s, .slice A (limbs q3.n).length c, .slice B (limbs q3.d).length d], .int .i64 t] W (RetV k3 b3 t3 q3 0 W)) (hre4 : e4 = 0 → (((limbs q4.n).length ≤ 18 ∧ (limbs q4.d).length ≤ 18) ∧ ∀ W A B c d, RdL W A (limbs q4.n) → RdL W B (limbs q4.d) → (limbs q4.n).length ≤ c → (limbs q4.d).length ≤ d → Calls Tryz.prog 16 #[.agg #[.int .i64 k4, .bool b4, .string t4, .bool q4.s, .slice A (limbs q4.n).length c, .slice B (limbs q4.d).length d]] W (RetBB true W)) ∧ ∀ W A B c d, RdL W A (limbs q4.n) → RdL W B (limbs q4.d) → (limbs q4.n).length ≤ c → (limbs q4.d).length ≤ d → Calls Tryz.prog 13 #[.agg #[.int .i64 k4, .bool b4, .string t4, .bool q4.s, .slice A (limbs q4.n).length c, .slice B (limbs q4.d).length d], .int .i64 t] W (RetV k4 b4 t4 q4 0 W)) (hBn : ∀ W, RdL W A xs → RdL W B ys → xs.length ≤ c → ys.length ≤ d → RdL W A' xs' → RdL W B' ys' → xs'.length ≤ c' → ys'.length ≤ d' → Calls Tryz.prog 6 #[.string ⟨#[47]⟩, .agg #[.int .i64 ka, .bool ba, .string s1, .bool ga, .slice A xs.length c, .slice B ys.length d], .agg #[.int .i64 kb, .bool bb, .string s2, .bool gb, .slice A' xs'.length c', .slice B' ys'.length d'], .int .i64 t] W (RetV k5 b5 t5 q5 e5 W)) (hBm : ∀ W, ∀ (E F : Option Addr) (m n : Nat), RdL W E (limbs q5.n) → RdL W F (limbs q5.d) → (limbs q5.n).length ≤ m → (limbs q5.d).length ≤ n → RdL W A' xs' → RdL W B' ys' → xs'.length ≤ c' → ys'.length ≤ d' → Calls Tryz.prog 6 #[.string ⟨#[42]⟩, .agg #[.int .i64 k5, .bool b5, .string t5, .bool q5.s, .slice E (limbs q5.n).length m, .slice F (limbs q5.d).length n], .agg #[.int .i64 kb, .bool bb, .string s2, .bool gb, .slice A' xs'.length c', .slice B' ys'.length d'], .int .i64 t] W (RetV k6 b6 t6 q6 e6 W)) (hBl : ∀ W, RdL W A xs → RdL W B ys → xs.length ≤ c → ys.length ≤ d → RdL W A' xs' → RdL W B' ys' → xs'.length ≤ c' → ys'.length ≤ d' → Calls Tryz.prog 6 #[.string ⟨#[37]⟩, .agg #[.int .i64 ka, .bool ba, .string s1, .bool ga, .slice A xs.length c, .slice B ys.length d], .agg #[.int .i64 kb, .bool bb, .string s2, .bool gb, .slice A' xs'.length c', .slice B' ys'.length d'], .int .i64 t] W (RetV k7 b7 t7 q7 e7 W)) (hBx : ∀ W, ∀ (E F : Option Addr) (m n : Nat), RdL W E (limbs q6.n) → RdL W F (limbs q6.d) → (limbs q6.n).length ≤ m → (limbs q6.d).length ≤ n → ∀ (G H : Option Addr) (m' n' : Nat), RdL W G (limbs q7.n) → RdL W H (limbs q7.d) → (limbs q7.n).length ≤ m' → (limbs q7.d).length ≤ n' → Calls Tryz.prog 6 #[.string ⟨#[43]⟩, .agg #[.int .i64 k6, .bool b6, .string t6, .bool q6.s, .slice E (limbs q6.n).length m, .slice F (limbs q6.d).length n], .agg #[.int .i64 k7, .bool b7, .string t7, .bool q7.s, .slice G (limbs q7.n).length m', .slice H (limbs q7.d).length n'], .int .i64 t] W (RetV k8 b8 t8 q8 e8 W)) (hfin : rightV ka ba s1 ga xs ys = true → rightV kb bb s2 gb xs' ys' = true → wholeB t = true → ka = 3 → kb = 3 → e5 = 0 → e6 = 0 → e7 = 0 → e8 = 0 → ((limbs q8.n).length ≤ 18 ∧ (limbs q8.d).length ≤ 18) ∧ likeB q8.s ga (limbs q8.n) (limbs q8.d) xs ys = true ∧ ∃ nb, xs' = limbs nb ∧ nb < Top ∧ q7.n < nb ∧ q7.n < Top) :
 Calls Tryz.prog 4 #[.string op, .agg #[.int .i64 ka, .bool ba, .string sa, .bool ga, .slice A x0.length c, .slice B y0.length d], .agg #[.int .i64 kb, .bool bb, .string sb, .bool gb, .slice A' x0'.length c', .slice B' y0'.length d'], .int .i64 t] w (RetBB true w) := by
 have R1 := Lib.hid (show RdL w A xs by rw [← f1]; exact h1.take 18); clear h1
 have R2 := Lib.hid (show RdL w B ys by rw [← f2]; exact h2.take 18); clear h2
 have R3 := Lib.hid (show RdL w A' xs' by rw [← f3]; exact h3.take 18); clear h3
 have R4 := Lib.hid (show RdL w B' ys' by rw [← f4]; exact h4.take 18); clear h4
 have L18 := Lib.hid (show xs.length ≤ 18 ∧ ys.length ≤ 18 ∧ xs'.length ≤ 18 ∧ ys'.length ≤ 18 by rw [← f1, ← f2, ← f3, ← f4]; exact ⟨few_le _, few_le _, few_le _, few_le _⟩)
 have M4 := Lib.hid (show Lim xs ∧ Lim ys ∧ Lim xs' ∧ Lim ys' by rw [← f1, ← f2, ← f3, ← f4]; exact ⟨few_lim m1, few_lim m2, few_lim m3, few_lim m4⟩); clear m1 m2 m3 m4
 have F := Lib.hid (And.intro (And.intro j1 (And.intro j2 (And.intro f1 (And.intro f2 z1)))) (And.intro j3 (And.intro j4 (And.intro f3 (And.intro f4 z2))))); clear j1 j2 j3 j4 f1 f2 f3 f4 z1 z2
 have HP1 := Lib.hid hP1; clear hP1
 have HRE1 := Lib.hid hre1; clear hre1
 have HP2 := Lib.hid hP2; clear hP2
 have HRE2 := Lib.hid hre2; clear hre2
 have HP3 := Lib.hid hP3; clear hP3
 have HRE3 := Lib.hid hre3; clear hre3
 have HP4 := Lib.hid hP4; clear hP4
 have HRE4 := Lib.hid hre4; clear hre4
 have HBn := Lib.hid hBn; clear hBn
 have HBm := Lib.hid hBm; clear hBm
 have HBl := Lib.hid hBl; clear hBl
 have HBx := Lib.hid hBx; clear hBx
 have HFIN := Lib.hid hfin; clear hfin
 have KC := Lib.hid (show xs.length ≤ c ∧ ys.length ≤ d ∧ xs'.length ≤ c' ∧ ys'.length ≤ d' by rw [← F.out.1.2.2.1, ← F.out.1.2.2.2.1, ← F.out.2.2.2.1, ← F.out.2.2.2.2.1]; exact ⟨Nat.le_trans (few_short _) F.out.1.1, Nat.le_trans (few_short _) F.out.1.2.1, Nat.le_trans (few_short _) F.out.2.1, Nat.le_trans (few_short _) F.out.2.2.1⟩)
 obtain ⟨j, s9, hj, hs, hsz, hj1, hj2⟩ := cut_str15 op 3
 obtain rfl : s9 = op1 := by rw [← hs, hj, z3]
 clear z3
 have hmin3 := min_int15 3 op.size 3 rfl
 rw [← hj] at hmin3
 have hj' : (j : Int) ≤ (op.size : Int) := by omega
 have HO := Lib.hid hs; clear hs hj hsz hj1 hj2
 obtain ⟨wa, hwa⟩ : ∃ wa, wa = (w.alloc (.cells #[.int .i64 ka, .bool ba, .string sa, .bool ga, .slice A x0.length c, .slice B y0.length d] 27)).alloc (.cells #[.int .i64 kb, .bool bb, .string sb, .bool gb, .slice A' x0'.length c', .slice B' y0'.length d'] 27) := ⟨_, rfl⟩
 obtain ⟨hbl, CX, CY⟩ := kal2 hwa
 replace R1 := hmR R1 hbl
 replace R2 := hmR R2 hbl
 replace R3 := hmR R3 hbl
 replace R4 := hmR R4 hbl
 have HW := Lib.hid hbl; clear hbl
 replace CX := Lib.hid CX
 replace CY := Lib.hid CY
 go_enter Tryz.func4, Tryz.ntmps4
 go_upto_region 1 with fail
 rw [← hwa]
 clear hwa
 obtain ⟨CX0, CX1, CX2, CX3, CX4, CX5⟩ := CX.out.cs6
 obtain ⟨CY0, CY1, CY2, CY3, CY4, CY5⟩ := CY.out.cs6
 refine wp_region_inv (TAt [some (.agg #[.int .i64 ka, .bool ba, .string sa, .bool ga, .slice A x0.length c, .slice B y0.length d]), some (.agg #[.int .i64 ka, .bool ba, .string s1, .bool ga, .slice A xs.length c, .slice B ys.length d]), some (.agg #[.int .i64 kb, .bool bb, .string sb, .bool gb, .slice A' x0'.length c', .slice B' y0'.length d']), some (.agg #[.int .i64 kb, .bool bb, .string s2, .bool gb, .slice A' xs'.length c', .slice B' ys'.length d']), some (.string op), some (.string op), some (.int .i64 (op.size : Int)), some (.int .i64 (j : Int)), some (.string s9), none, none, some (.string s9)]) (fun S W => LawI w #[.int .i64 ka, .bool ba, .string sa, .bool ga, .slice A x0.length c, .slice B y0.length d] #[.int .i64 ka, .bool ba, .string s1, .bool ga, .slice A xs.length c, .slice B ys.length d] #[.int .i64 kb, .bool bb, .string sb, .bool gb, .slice A' x0'.length c', .slice B' y0'.length d'] #[.int .i64 kb, .bool bb, .string s2, .bool gb, .slice A' xs'.length c', .slice B' ys'.length d'] A B A' B' xs ys xs' ys' (S 9) (S 10) W) (by kernel_rfl) (by kernel_rfl) ?ini (stepsI_cons ?_ (stepsI_cons ?_ (stepsI_cons ?_ (stepsI_cons ?_ (stepsI_cons ?_ (stepsI_cons ?_ (stepsI_cons ?_ (stepsI_cons ?_ (stepsI_cons ?_ (stepsI_cons ?_ (stepsI_cons ?_ (stepsI_cons ?_ (stepsI_nil))))))))))))) ?fin
 case ini => exact LawI.below ⟨HW.out, R1.out, R2.out, R3.out, R4.out, CX.out, CY.out⟩ (bel_drewN (bel_refl _) 1)
 · intro S a1 w9 K9 hun hcl haf hF hI hK hC
   replace hun : S 0 = false := hun
   have b5 := hF.base (k := 5) (by kernel_rfl) rfl
   have s9_ : S 9 = false := iclo hcl 9 0 (j := 1) rfl rfl (iclo hcl 1 0 (j := 0) rfl rfl hun)
   have cx9 : Blk w9 w.heap.size 27 #[.int .i64 ka, .bool ba, .string sa, .bool ga, .slice A x0.length c, .slice B y0.length d] := by have h := hI.cx; rw [s9_] at h; exact h
   obtain ⟨c0, c1, c2, c3, c4, c5⟩ := cx9.cs6
   clear cx9
   have HI := Lib.hid hI
   clear hF hcl haf hK hI
   go_simp
   exact hC _ _ (fun _ _ => rfl) (HI.out.keep (by simp) (by simp))
 · intro S a1 w9 K9 hun hcl haf hF hI hK hC
   replace hun : S 1 = false := hun
   obtain ⟨v25, e25, z25⟩ := ikn hK 0 (k := 25) (iaft haf 0 (g := .data) (j := 0) rfl rfl) rfl
   have z25 : v25 = .agg #[.int .i64 ka, .bool ba, .string sa, .bool ga, .slice A x0.length c, .slice B y0.length d] := z25
   subst z25
   have HI := Lib.hid hI
   clear hF hcl haf hK hI
   go_simp
   refine (fewV_is ka ba ga sa s1 A B c d x0 y0 xs ys _ F.out.1.1 F.out.1.2.1 F.out.1.2.2.1 F.out.1.2.2.2.1 F.out.1.2.2.2.2).mono ?_
   rintro e w7 ⟨rfl, hbl⟩
   exact hC _ _ (fun _ _ => rfl) ((HI.out.below hbl).keep (by simp) (by simp))
 · intro S a1 w9 K9 hun hcl haf hF hI hK hC
   replace hun : S 2 = false := hun
   have b6 := hF.base (k := 6) (by kernel_rfl) rfl
   have s10_ : S 10 = false := iclo hcl 10 0 (j := 3) rfl rfl (iclo hcl 3 0 (j := 2) rfl rfl hun)
   have cy9 : Blk w9 (w.heap.size + 1) 27 #[.int .i64 kb, .bool bb, .string sb, .bool gb, .slice A' x0'.length c', .slice B' y0'.length d'] := by have h := hI.cy; rw [s10_] at h; exact h
   obtain ⟨c0, c1, c2, c3, c4, c5⟩ := cy9.cs6
   clear cy9
   have HI := Lib.hid hI
   clear hF hcl haf hK hI
   go_simp
   exact hC _ _ (fun _ _ => rfl) (HI.out.keep (by simp) (by simp))
 · intro S a1 w9 K9 hun hcl haf hF hI hK hC
   replace hun : S 3 = false := hun
   obtain ⟨v27, e27, z27⟩ := ikn hK 2 (k := 27) (iaft haf 0 (g := .data) (j := 2) rfl rfl) rfl
   have z27 : v27 = .agg #[.int .i64 kb, .bool bb, .string sb, .bool gb, .slice A' x0'.length c', .slice B' y0'.length d'] := z27
   subst z27
   have HI := Lib.hid hI
   clear hF hcl haf hK hI
   go_simp
   refine (fewV_is kb bb gb sb s2 A' B' c' d' x0' y0' xs' ys' _ F.out.2.1 F.out.2.2.1 F.out.2.2.2.1 F.out.2.2.2.2.1 F.out.2.2.2.2.2).mono ?_
   rintro e w7 ⟨rfl, hbl⟩
   exact hC _ _ (fun _ _ => rfl) ((HI.out.below hbl).keep (by simp) (by simp))
 · intro S a1 w9 K9 hun hcl haf hF hI hK hC
   replace hun : S 4 = false := hun
   have s11_ : S 11 = false := iclo hcl 11 0 (j := 8) rfl rfl (iclo hcl 8 0 (j := 4) rfl rfl hun)
   have b0 := hF.base1 11 (k := 0) (v := .string op) s11_ (by kernel_rfl) rfl
   have HI := Lib.hid hI
   clear hF hcl haf hK hI
   go_simp
   exact hC _ _ (fun _ _ => rfl) (HI.out.keep (by simp) (by simp))
 · intro S a1 w9 K9 hun hcl haf hF hI hK hC
   replace hun : S 5 = false := hun
   have s11_ : S 11 = false := iclo hcl 11 0 (j := 8) rfl rfl (iclo hcl 8 1 (j := 7) rfl rfl (iclo hcl 7 0 (j := 6) rfl rfl (iclo hcl 6 0 (j := 5) rfl rfl hun)))
   have b0 := hF.base1 11 (k := 0) (v := .string op) s11_ (by kernel_rfl) rfl
   have HI := Lib.hid hI
   clear hF hcl haf hK hI
   go_simp
   exact hC _ _ (fun _ _ => rfl) (HI.out.keep (by simp) (by simp))
 · intro S a1 w9 K9 hun hcl haf hF hI hK hC
   replace hun : S 6 = false := hun
   obtain ⟨v30, e30, z30⟩ := ikn hK 5 (k := 30) (iaft haf 0 (g := .data) (j := 5) rfl rfl) rfl
   have z30 : v30 = .string op := z30
   subst z30
   have HI := Lib.hid hI
   clear hF hcl haf hK hI
   go_simp
   exact hC _ _ (fun _ _ => rfl) (HI.out.keep (by simp) (by simp))
 · intro S a1 w9 K9 hun hcl haf hF hI hK hC
   replace hun : S 7 = false := hun
   obtain ⟨v31, e31, z31⟩ := ikn hK 6 (k := 31) (iaft haf 0 (g := .data) (j := 6) rfl rfl) rfl
   have z31 : v31 = .int .i64 (op.size : Int) := z31
   subst z31
   have HI := Lib.hid hI
   clear hF hcl haf hK hI
   go_simp
   exact hC _ _ (fun _ _ => rfl) (HI.out.keep (by simp) (by simp))
 · intro S a1 w9 K9 hun hcl haf hF hI hK hC
   replace hun : S 8 = false := hun
   obtain ⟨v29, e29, z29⟩ := ikn hK 4 (k := 29) (iaft haf 0 (g := .data) (j := 4) rfl rfl) rfl
   have z29 : v29 = .string op := z29
   subst z29
   obtain ⟨v32, e32, z32⟩ := ikn hK 7 (k := 32) (iaft haf 1 (g := .data) (j := 7) rfl rfl) rfl
   have z32 : v32 = .int .i64 (j : Int) := z32
   subst z32
   have HI := Lib.hid hI
   clear hF hcl haf hK hI
   go_simp
   exact hC _ _ (fun _ _ => congrArg Value.string HO.out) (HI.out.keep (by simp) (by simp))
 · intro S a1 w9 K9 hun hcl haf hF hI hK hC
   replace hun : S 9 = false := hun
   have b5 := hF.base (k := 5) (by kernel_rfl) rfl
   obtain ⟨v26, e26, z26⟩ := ikn hK 1 (k := 26) (iaft haf 0 (g := .data) (j := 1) rfl rfl) rfl
   have z26 : v26 = .agg #[.int .i64 ka, .bool ba, .string s1, .bool ga, .slice A xs.length c, .slice B ys.length d] := z26
   subst z26
   have cx9 : Blk w9 w.heap.size 27 #[.int .i64 ka, .bool ba, .string sa, .bool ga, .slice A x0.length c, .slice B y0.length d] := by have h := hI.cx; rw [hun] at h; exact h
   obtain ⟨c0, c1, c2, c3, c4, c5⟩ := cx9.cs6
   obtain ⟨f0, f1, f2, f3, f4, f5⟩ := cx9.fz6
   have HI := Lib.hid hI
   clear hF hcl haf hK hI
   go_simp
   exact hC undef _ (fun _ h => nomatch h) ((HI.out.putx cx9).keep (by simp [hun]) (by simp))
 · intro S a1 w9 K9 hun hcl haf hF hI hK hC
   replace hun : S 10 = false := hun
   have b6 := hF.base (k := 6) (by kernel_rfl) rfl
   obtain ⟨v28, e28, z28⟩ := ikn hK 3 (k := 28) (iaft haf 0 (g := .data) (j := 3) rfl rfl) rfl
   have z28 : v28 = .agg #[.int .i64 kb, .bool bb, .string s2, .bool gb, .slice A' xs'.length c', .slice B' ys'.length d'] := z28
   subst z28
   have cy9 : Blk w9 (w.heap.size + 1) 27 #[.int .i64 kb, .bool bb, .string sb, .bool gb, .slice A' x0'.length c', .slice B' y0'.length d'] := by have h := hI.cy; rw [hun] at h; exact h
   obtain ⟨c0, c1, c2, c3, c4, c5⟩ := cy9.cs6
   obtain ⟨f0, f1, f2, f3, f4, f5⟩ := cy9.fz6
   have HI := Lib.hid hI
   clear hF hcl haf hK hI
   go_simp
   exact hC undef _ (fun _ h => nomatch h) ((HI.out.puty cy9).keep (by simp) (by simp [hun]))
 · intro S a1 w9 K9 hun hcl haf hF hI hK hC
   replace hun : S 11 = false := hun
   obtain ⟨v33, e33, z33⟩ := ikn hK 8 (k := 33) (iaft haf 0 (g := .data) (j := 8) rfl rfl) rfl
   have z33 : v33 = .string s9 := z33
   subst z33
   have HI := Lib.hid hI
   clear hF hcl haf hK hI
   go_simp
   exact hC _ _ (fun _ _ => rfl) (HI.out.keep (by simp) (by simp))
 case fin =>
  intro S a0 w9 hS hF hI hK
  obtain ⟨v0, e0, z0⟩ := ikn hK 11 (k := 0) (hS 11 (by decide)) rfl
  have z0 : v0 = .string s9 := z0
  subst z0
  have b3 := hF.base (k := 3) (by kernel_rfl) rfl
  have b5 := hF.base (k := 5) (by kernel_rfl) rfl
  have b6 := hF.base (k := 6) (by kernel_rfl) rfl
  have hsz := hF.size
  have hdf := hF.defers
  clear hF hK
  have hI := hI
  rw [hS 9 (by decide), hS 10 (by decide)] at hI
  clear hS
  obtain ⟨⟨l0⟩, df⟩ := a0
  have hs0 : l0.length = 190 := hsz
  clear hsz
  replace hdf : df = _ := hdf
  subst hdf
  obtain ⟨u, rfl⟩ := lits_190 hs0
  clear hs0
  generalize hAr : (Array.mk [u 0, u 1, u 2, u 3, u 4, u 5, u 6, u 7, u 8, u 9, u 10, u 11, u 12, u 13, u 14, u 15, u 16, u 17, u 18, u 19, u 20, u 21, u 22, u 23, u 24, u 25, u 26, u 27, u 28, u 29, u 30, u 31, u 32, u 33, u 34, u 35, u 36, u 37, u 38, u 39, u 40, u 41, u 42, u 43, u 44, u 45, u 46, u 47, u 48, u 49, u 50, u 51, u 52, u 53, u 54, u 55, u 56, u 57, u 58, u 59, u 60, u 61, u 62, u 63, u 64, u 65, u 66, u 67, u 68, u 69, u 70, u 71, u 72, u 73, u 74, u 75, u 76, u 77, u 78, u 79, u 80, u 81, u 82, u 83, u 84, u 85, u 86, u 87, u 88, u 89, u 90, u 91, u 92, u 93, u 94, u 95, u 96, u 97, u 98, u 99, u 100, u 101, u 102, u 103, u 104, u 105, u 106, u 107, u 108, u 109, u 110, u 111, u 112, u 113, u 114, u 115, u 116, u 117, u 118, u 119, u 120, u 121, u 122, u 123, u 124, u 125, u 126, u 127, u 128, u 129, u 130, u 131, u 132, u 133, u 134, u 135, u 136, u 137, u 138, u 139, u 140, u 141, u 142, u 143, u 144, u 145, u 146, u 147, u 148, u 149, u 150, u 151, u 152, u 153, u 154, u 155, u 156, u 157, u 158, u 159, u 160, u 161, u 162, u 163, u 164, u 165, u 166, u 167, u 168, u 169, u 170, u 171, u 172, u 173, u 174, u 175, u 176, u 177, u 178, u 179, u 180, u 181, u 182, u 183, u 184, u 185, u 186, u 187, u 188, u 189] : Array Value) = ar
  obtain rfl : ar = #[u 0, u 1, u 2, u 3, u 4, u 5, u 6, u 7, u 8, u 9, u 10, u 11, u 12, u 13, u 14, u 15, u 16, u 17, u 18, u 19, u 20, u 21, u 22, u 23, u 24, u 25, u 26, u 27, u 28, u 29, u 30, u 31, u 32, u 33, u 34, u 35, u 36, u 37, u 38, u 39, u 40, u 41, u 42, u 43, u 44, u 45, u 46, u 47, u 48, u 49, u 50, u 51, u 52, u 53, u 54, u 55, u 56, u 57, u 58, u 59, u 60, u 61, u 62, u 63, u 64, u 65, u 66, u 67, u 68, u 69, u 70, u 71, u 72, u 73, u 74, u 75, u 76, u 77, u 78, u 79, u 80, u 81, u 82, u 83, u 84, u 85, u 86, u 87, u 88, u 89, u 90, u 91, u 92, u 93, u 94, u 95, u 96, u 97, u 98, u 99, u 100, u 101, u 102, u 103, u 104, u 105, u 106, u 107, u 108, u 109, u 110, u 111, u 112, u 113, u 114, u 115, u 116, u 117, u 118, u 119, u 120, u 121, u 122, u 123, u 124, u 125, u 126, u 127, u 128, u 129, u 130, u 131, u 132, u 133, u 134, u 135, u 136, u 137, u 138, u 139, u 140, u 141, u 142, u 143, u 144, u 145, u 146, u 147, u 148, u 149, u 150, u 151, u 152, u 153, u 154, u 155, u 156, u 157, u 158, u 159, u 160, u 161, u 162, u 163, u 164, u 165, u 166, u 167, u 168, u 169, u 170, u 171, u 172, u 173, u 174, u 175, u 176, u 177, u 178, u 179, u 180, u 181, u 182, u 183, u 184, u 185, u 186, u 187, u 188, u 189] := hAr.symm
  have q3 : u 3 = _ := Option.some.inj b3
  clear b3
  have q5 : u 5 = _ := Option.some.inj b5
  clear b5
  have q6 : u 6 = _ := Option.some.inj b6
  clear b6
  have q0 : u 0 = _ := Option.some.inj e0
  clear e0
  rw [q0, q3, q5, q6]
  clear q0 q3 q5 q6
  refine wpList_nil ?_
  have HW := Lib.hid hI.old
  have R1 := Lib.hid hI.r1
  have R2 := Lib.hid hI.r2
  have R3 := Lib.hid hI.r3
  have R4 := Lib.hid hI.r4
  have CX := Lib.hid (show Blk w9 w.heap.size 27 #[.int .i64 ka, .bool ba, .string s1, .bool ga, .slice A xs.length c, .slice B ys.length d] from hI.cx)
  have CY := Lib.hid (show Blk w9 (w.heap.size + 1) 27 #[.int .i64 kb, .bool bb, .string s2, .bool gb, .slice A' xs'.length c', .slice B' ys'.length d'] from hI.cy)
  clear hI
  obtain ⟨CX0, CX1, CX2, CX3, CX4, CX5⟩ := CX.out.cs6
  obtain ⟨CY0, CY1, CY2, CY3, CY4, CY5⟩ := CY.out.cs6
  go_wp2_with fail
  refine (HP1.out _ R1.out R2.out KC.out.1 KC.out.2.1).mono ?_
  rintro e w51 ⟨v1, v2, rfl, hn1, hn2, hbl⟩
  replace R1 := hmR R1 hbl
  replace R2 := hmR R2 hbl
  replace R3 := hmR R3 hbl
  replace R4 := hmR R4 hbl
  replace CX := hmB CX hbl
  replace CY := hmB CY hbl
  replace HW := hmW HW hbl; clear hbl
  clear CX0 CX1 CX2 CX3 CX4 CX5 CY0 CY1 CY2 CY3 CY4 CY5
  obtain ⟨CX0, CX1, CX2, CX3, CX4, CX5⟩ := CX.out.cs6
  obtain ⟨CY0, CY1, CY2, CY3, CY4, CY5⟩ := CY.out.cs6
  have HNX1 := Lib.hid hn1; have HNY1 := Lib.hid hn2; clear hn1 hn2
  obtain ⟨X1, cx1, rfl, hcx, hrx⟩ := HNX1.out.row
  obtain ⟨Y1, cy1, rfl, hcy, hry⟩ := HNY1.out.row
  have RX1 := Lib.hid hrx; have RY1 := Lib.hid hry; have KX1 := Lib.hid (And.intro hcx hcy); clear hrx hry hcx hcy
  clear HNX1 HNY1
  go_upto_region 3 with fail
  obtain ⟨w41, hw41⟩ : ∃ w41, w41 = w51.alloc (.cells #[.int .i64 k1, .bool b1, .string t1, .bool q1.s, .slice X1 (limbs q1.n).length cx1, .slice Y1 (limbs q1.d).length cy1] 27) := ⟨_, rfl⟩
  rw [← hw41]
  obtain ⟨hbl, CP⟩ := sal1 hw41
  clear hw41
  replace R1 := hmR R1 hbl
  replace R2 := hmR R2 hbl
  replace R3 := hmR R3 hbl
  replace R4 := hmR R4 hbl
  replace RX1 := hmR RX1 hbl
  replace RY1 := hmR RY1 hbl
  replace CX := hmB CX hbl
  replace CY := hmB CY hbl
  replace HW := hmW HW hbl; clear hbl
  clear CX0 CX1 CX2 CX3 CX4 CX5 CY0 CY1 CY2 CY3 CY4 CY5
  obtain ⟨CX0, CX1, CX2, CX3, CX4, CX5⟩ := CX.out.cs6
  obtain ⟨CY0, CY1, CY2, CY3, CY4, CY5⟩ := CY.out.cs6
  obtain ⟨CP0, CP1, CP2, CP3, CP4, CP5⟩ := CP.out.cs6
  clear CX0 CX1 CX2 CX3 CX4 CX5 CY0 CY1 CY2 CY3 CY4 CY5 CP0 CP1 CP2 CP3 CP4 CP5
  obtain ⟨CX0, CX1, CX2, CX3, CX4, CX5⟩ := CX.out.cs6
  obtain ⟨CY0, CY1, CY2, CY3, CY4, CY5⟩ := CY.out.cs6
  go_wp2_with fail
  refine (HP2.out _ R1.out R2.out KC.out.1 KC.out.2.1).mono ?_
  rintro e w52 ⟨v1, v2, rfl, hn1, hn2, hbl⟩
  replace R1 := hmR R1 hbl
  replace R2 := hmR R2 hbl
  replace R3 := hmR R3 hbl
  replace R4 := hmR R4 hbl
  replace RX1 := hmR RX1 hbl
  replace RY1 := hmR RY1 hbl
  replace CX := hmB CX hbl
  replace CY := hmB CY hbl
  replace CP := hmB CP hbl
  replace HW := hmW HW hbl; clear hbl
  clear CX0 CX1 CX2 CX3 CX4 CX5 CY0 CY1 CY2 CY3 CY4 CY5
  obtain ⟨CX0, CX1, CX2, CX3, CX4, CX5⟩ := CX.out.cs6
  obtain ⟨CY0, CY1, CY2, CY3, CY4, CY5⟩ := CY.out.cs6
  have HNX2 := Lib.hid hn1; have HNY2 := Lib.hid hn2; clear hn1 hn2
  obtain ⟨X2, cx2, rfl, hcx, hrx⟩ := HNX2.out.row
  obtain ⟨Y2, cy2, rfl, hcy, hry⟩ := HNY2.out.row
  have RX2 := Lib.hid hrx; have RY2 := Lib.hid hry; have KX2 := Lib.hid (And.intro hcx hcy); clear hrx hry hcx hcy
  clear HNX2 HNY2
  go_upto_region 4 with fail
  obtain ⟨w42, hw42⟩ : ∃ w42, w42 = w52.alloc (.cells #[.int .i64 k2, .bool b2, .string t2, .bool q2.s, .slice X2 (limbs q2.n).length cx2, .slice Y2 (limbs q2.d).length cy2] 27) := ⟨_, rfl⟩
  rw [← hw42]
  obtain ⟨hbl, CQ⟩ := sal1 hw42
  clear hw42
  replace R1 := hmR R1 hbl
  replace R2 := hmR R2 hbl
  replace R3 := hmR R3 hbl
  replace R4 := hmR R4 hbl
  replace RX1 := hmR RX1 hbl
  replace RY1 := hmR RY1 hbl
  replace RX2 := hmR RX2 hbl
  replace RY2 := hmR RY2 hbl
  replace CX := hmB CX hbl
  replace CY := hmB CY hbl
  replace CP := hmB CP hbl
  replace HW := hmW HW hbl; clear hbl
  clear CX0 CX1 CX2 CX3 CX4 CX5 CY0 CY1 CY2 CY3 CY4 CY5
  obtain ⟨CX0, CX1, CX2, CX3, CX4, CX5⟩ := CX.out.cs6
  obtain ⟨CY0, CY1, CY2, CY3, CY4, CY5⟩ := CY.out.cs6
  obtain ⟨CQ0, CQ1, CQ2, CQ3, CQ4, CQ5⟩ := CQ.out.cs6
  clear CX0 CX1 CX2 CX3 CX4 CX5 CY0 CY1 CY2 CY3 CY4 CY5 CQ0 CQ1 CQ2 CQ3 CQ4 CQ5
  obtain ⟨CX0, CX1, CX2, CX3, CX4, CX5⟩ := CX.out.cs6
  obtain ⟨CY0, CY1, CY2, CY3, CY4, CY5⟩ := CY.out.cs6
  go_wp2_with fail
  refine (HP3.out _ R1.out R2.out KC.out.1 KC.out.2.1 R3.out R4.out KC.out.2.2.1 KC.out.2.2.2).mono ?_
  rintro e w53 ⟨v1, v2, rfl, hn1, hn2, hbl⟩
  replace R1 := hmR R1 hbl
  replace R2 := hmR R2 hbl
  replace R3 := hmR R3 hbl
  replace R4 := hmR R4 hbl
  replace RX1 := hmR RX1 hbl
  replace RY1 := hmR RY1 hbl
  replace RX2 := hmR RX2 hbl
  replace RY2 := hmR RY2 hbl
  replace CX := hmB CX hbl
  replace CY := hmB CY hbl
  replace CP := hmB CP hbl
  replace CQ := hmB CQ hbl
  replace HW := hmW HW hbl; clear hbl
  clear CX0 CX1 CX2 CX3 CX4 CX5 CY0 CY1 CY2 CY3 CY4 CY5
  obtain ⟨CX0, CX1, CX2, CX3, CX4, CX5⟩ := CX.out.cs6
  obtain ⟨CY0, CY1, CY2, CY3, CY4, CY5⟩ := CY.out.cs6
  have HNX3 := Lib.hid hn1; have HNY3 := Lib.hid hn2; clear hn1 hn2
  obtain ⟨X3, cx3, rfl, hcx, hrx⟩ := HNX3.out.row
  obtain ⟨Y3, cy3, rfl, hcy, hry⟩ := HNY3.out.row
  have RX3 := Lib.hid hrx; have RY3 := Lib.hid hry; have KX3 := Lib.hid (And.intro hcx hcy); clear hrx hry hcx hcy
  clear HNX3 HNY3
  go_upto_region 5 with fail
  obtain ⟨w43, hw43⟩ : ∃ w43, w43 = w53.alloc (.cells #[.int .i64 k3, .bool b3, .string t3, .bool q3.s, .slice X3 (limbs q3.n).length cx3, .slice Y3 (limbs q3.d).length cy3] 27) := ⟨_, rfl⟩
  rw [← hw43]
  obtain ⟨hbl, CR⟩ := sal1 hw43
  clear hw43
  replace R1 := hmR R1 hbl
  replace R2 := hmR R2 hbl
  replace R3 := hmR R3 hbl
  replace R4 := hmR R4 hbl
  replace RX1 := hmR RX1 hbl
  replace RY1 := hmR RY1 hbl
  replace RX2 := hmR RX2 hbl
  replace RY2 := hmR RY2 hbl
  replace RX3 := hmR RX3 hbl
  replace RY3 := hmR RY3 hbl
  replace CX := hmB CX hbl
  replace CY := hmB CY hbl
  replace CP := hmB CP hbl
  replace CQ := hmB CQ hbl
  replace HW := hmW HW hbl; clear hbl
  clear CX0 CX1 CX2 CX3 CX4 CX5 CY0 CY1 CY2 CY3 CY4 CY5
  obtain ⟨CX0, CX1, CX2, CX3, CX4, CX5⟩ := CX.out.cs6
  obtain ⟨CY0, CY1, CY2, CY3, CY4, CY5⟩ := CY.out.cs6
  obtain ⟨CR0, CR1, CR2, CR3, CR4, CR5⟩ := CR.out.cs6
  clear CX0 CX1 CX2 CX3 CX4 CX5 CY0 CY1 CY2 CY3 CY4 CY5 CR0 CR1 CR2 CR3 CR4 CR5
  obtain ⟨CX0, CX1, CX2, CX3, CX4, CX5⟩ := CX.out.cs6
  obtain ⟨CY0, CY1, CY2, CY3, CY4, CY5⟩ := CY.out.cs6
  go_wp2_with fail
  refine (HP4.out _ R1.out R2.out KC.out.1 KC.out.2.1 R3.out R4.out KC.out.2.2.1 KC.out.2.2.2).mono ?_
  rintro e w54 ⟨v1, v2, rfl, hn1, hn2, hbl⟩
  replace R1 := hmR R1 hbl
  replace R2 := hmR R2 hbl
  replace R3 := hmR R3 hbl
  replace R4 := hmR R4 hbl
  replace RX1 := hmR RX1 hbl
  replace RY1 := hmR RY1 hbl
  replace RX2 := hmR RX2 hbl
  replace RY2 := hmR RY2 hbl
  replace RX3 := hmR RX3 hbl
  replace RY3 := hmR RY3 hbl
  replace CX := hmB CX hbl
  replace CY := hmB CY hbl
  replace CP := hmB CP hbl
  replace CQ := hmB CQ hbl
  replace CR := hmB CR hbl
  replace HW := hmW HW hbl; clear hbl
  clear CX0 CX1 CX2 CX3 CX4 CX5 CY0 CY1 CY2 CY3 CY4 CY5
  obtain ⟨CX0, CX1, CX2, CX3, CX4, CX5⟩ := CX.out.cs6
  obtain ⟨CY0, CY1, CY2, CY3, CY4, CY5⟩ := CY.out.cs6
  have HNX4 := Lib.hid hn1; have HNY4 := Lib.hid hn2; clear hn1 hn2
  obtain ⟨X4, cx4, rfl, hcx, hrx⟩ := HNX4.out.row
  obtain ⟨Y4, cy4, rfl, hcy, hry⟩ := HNY4.out.row
  have RX4 := Lib.hid hrx; have RY4 := Lib.hid hry; have KX4 := Lib.hid (And.intro hcx hcy); clear hrx hry hcx hcy
  clear HNX4 HNY4
  go_upto_region 6 with fail
  obtain ⟨w44, hw44⟩ : ∃ w44, w44 = w54.alloc (.cells #[.int .i64 k4, .bool b4, .string t4, .bool q4.s, .slice X4 (limbs q4.n).length cx4, .slice Y4 (limbs q4.d).length cy4] 27) := ⟨_, rfl⟩
  rw [← hw44]
  obtain ⟨hbl, CS⟩ := sal1 hw44
  clear hw44
  replace R1 := hmR R1 hbl
  replace R2 := hmR R2 hbl
  replace R3 := hmR R3 hbl
  replace R4 := hmR R4 hbl
  replace RX1 := hmR RX1 hbl
  replace RY1 := hmR RY1 hbl
  replace RX2 := hmR RX2 hbl
  replace RY2 := hmR RY2 hbl
  replace RX3 := hmR RX3 hbl
  replace RY3 := hmR RY3 hbl
  replace RX4 := hmR RX4 hbl
  replace RY4 := hmR RY4 hbl
  replace CX := hmB CX hbl
  replace CY := hmB CY hbl
  replace CP := hmB CP hbl
  replace CQ := hmB CQ hbl
  replace CR := hmB CR hbl
  replace HW := hmW HW hbl; clear hbl
  clear CX0 CX1 CX2 CX3 CX4 CX5 CY0 CY1 CY2 CY3 CY4 CY5
  obtain ⟨CX0, CX1, CX2, CX3, CX4, CX5⟩ := CX.out.cs6
  obtain ⟨CY0, CY1, CY2, CY3, CY4, CY5⟩ := CY.out.cs6
  obtain ⟨CS0, CS1, CS2, CS3, CS4, CS5⟩ := CS.out.cs6
  clear CX0 CX1 CX2 CX3 CX4 CX5 CY0 CY1 CY2 CY3 CY4 CY5 CS0 CS1 CS2 CS3 CS4 CS5
  obtain ⟨CP0, CP1, CP2, CP3, CP4, CP5⟩ := CP.out.cs6
  obtain ⟨CQ0, CQ1, CQ2, CQ3, CQ4, CQ5⟩ := CQ.out.cs6
  obtain ⟨CR0, CR1, CR2, CR3, CR4, CR5⟩ := CR.out.cs6
  obtain ⟨CS0, CS1, CS2, CS3, CS4, CS5⟩ := CS.out.cs6
  go_wp2_with fail
  obtain ⟨w45, hw45⟩ : ∃ w45, w45 = w44.alloc (.cells #[.int .i64 k1, .bool b1, .string t1, .bool q1.s, .slice X1 (limbs q1.n).length cx1, .slice Y1 (limbs q1.d).length cy1, .int .i64 k2, .bool b2, .string t2, .bool q2.s, .slice X2 (limbs q2.n).length cx2, .slice Y2 (limbs q2.d).length cy2, .int .i64 k3, .bool b3, .string t3, .bool q3.s, .slice X3 (limbs q3.n).length cx3, .slice Y3 (limbs q3.d).length cy3, .int .i64 k4, .bool b4, .string t4, .bool q4.s, .slice X4 (limbs q4.n).length cx4, .slice Y4 (limbs q4.d).length cy4] 27) := ⟨_, rfl⟩
  rw [← hw45]
  obtain ⟨hbl, CL⟩ := sal1 hw45
  clear hw45
  replace R1 := hmR R1 hbl
  replace R2 := hmR R2 hbl
  replace R3 := hmR R3 hbl
  replace R4 := hmR R4 hbl
  replace RX1 := hmR RX1 hbl
  replace RY1 := hmR RY1 hbl
  replace RX2 := hmR RX2 hbl
  replace RY2 := hmR RY2 hbl
  replace RX3 := hmR RX3 hbl
  replace RY3 := hmR RY3 hbl
  replace RX4 := hmR RX4 hbl
  replace RY4 := hmR RY4 hbl
  replace CX := hmB CX hbl
  replace CY := hmB CY hbl
  replace CP := hmB CP hbl
  replace CQ := hmB CQ hbl
  replace CR := hmB CR hbl
  replace CS := hmB CS hbl
  replace HW := hmW HW hbl; clear hbl
  clear CP0 CP1 CP2 CP3 CP4 CP5 CQ0 CQ1 CQ2 CQ3 CQ4 CQ5 CR0 CR1 CR2 CR3 CR4 CR5 CS0 CS1 CS2 CS3 CS4 CS5
  obtain ⟨CP0, CP1, CP2, CP3, CP4, CP5⟩ := CP.out.cs6
  obtain ⟨CQ0, CQ1, CQ2, CQ3, CQ4, CQ5⟩ := CQ.out.cs6
  obtain ⟨CR0, CR1, CR2, CR3, CR4, CR5⟩ := CR.out.cs6
  obtain ⟨CS0, CS1, CS2, CS3, CS4, CS5⟩ := CS.out.cs6
  clear CP0 CP1 CP2 CP3 CP4 CP5 CQ0 CQ1 CQ2 CQ3 CQ4 CQ5 CR0 CR1 CR2 CR3 CR4 CR5 CS0 CS1 CS2 CS3 CS4 CS5
  go_loopw [69] (fun iv wr => ∃ i : Nat, iv = .int .i64 (i : Int) ∧ i ≤ 4 ∧ HolW w wr (w44.heap.size) #[.int .i64 ka, .bool ba, .string s1, .bool ga, .slice A xs.length c, .slice B ys.length d] #[.int .i64 kb, .bool bb, .string s2, .bool gb, .slice A' xs'.length c', .slice B' ys'.length d'] #[.int .i64 k1, .bool b1, .string t1, .bool q1.s, .slice X1 (limbs q1.n).length cx1, .slice Y1 (limbs q1.d).length cy1, .int .i64 k2, .bool b2, .string t2, .bool q2.s, .slice X2 (limbs q2.n).length cx2, .slice Y2 (limbs q2.d).length cy2, .int .i64 k3, .bool b3, .string t3, .bool q3.s, .slice X3 (limbs q3.n).length cx3, .slice Y3 (limbs q3.d).length cy3, .int .i64 k4, .bool b4, .string t4, .bool q4.s, .slice X4 (limbs q4.n).length cx4, .slice Y4 (limbs q4.d).length cy4] [(A, xs), (B, ys), (A', xs'), (B', ys'), (X1, limbs q1.n), (Y1, limbs q1.d), (X2, limbs q2.n), (Y2, limbs q2.d), (X3, limbs q3.n), (Y3, limbs q3.d), (X4, limbs q4.n), (Y4, limbs q4.d)]) (fun iv _ => 4 - (intOf iv).toNat)
  case atStart => exact ⟨0, rfl, by decide, HolW.mk12 HW.out CX.out CY.out CL.out R1.out R2.out R3.out R4.out RX1.out RY1.out RX2.out RY2.out RX3.out RY3.out RX4.out RY4.out⟩
  case round =>
   clear HW R1 R2 R3 R4 RX1 RY1 RX2 RY2 RX3 RY3 RX4 RY4 CX CY CP CQ CR CS CL
   obtain ⟨i, rfl, hi, hrel⟩ := hrel
   have HW := Lib.hid hrel.old
   have CX := Lib.hid hrel.cx
   have CY := Lib.hid hrel.cy
   have CL := Lib.hid hrel.cl
   have R1 := Lib.hid (hrel.rd 0 rfl)
   have R2 := Lib.hid (hrel.rd 1 rfl)
   have R3 := Lib.hid (hrel.rd 2 rfl)
   have R4 := Lib.hid (hrel.rd 3 rfl)
   have RX1 := Lib.hid (hrel.rd 4 rfl)
   have RY1 := Lib.hid (hrel.rd 5 rfl)
   have RX2 := Lib.hid (hrel.rd 6 rfl)
   have RY2 := Lib.hid (hrel.rd 7 rfl)
   have RX3 := Lib.hid (hrel.rd 8 rfl)
   have RY3 := Lib.hid (hrel.rd 9 rfl)
   have RX4 := Lib.hid (hrel.rd 10 rfl)
   have RY4 := Lib.hid (hrel.rd 11 rfl)
   clear hrel
   have hi5 : i = 0 ∨ i = 1 ∨ i = 2 ∨ i = 3 ∨ i = 4 := by omega
   clear hi
   rcases hi5 with rfl | rfl | rfl | rfl | rfl
   · have cl0 : wr.cell? ⟨w44.heap.size, 0, none⟩ = some (.int .i64 k1) := CL.out.cell 0
     have cl1 := CL.out.c1
     have cl2 := CL.out.c2
     have cl3 := CL.out.c3
     have cl4 := CL.out.c4
     have cl5 := CL.out.c5
     go_upto_region 9 with fail
     obtain ⟨wv, hwv⟩ : ∃ wv, wv = wr.alloc (.cells #[.int .i64 k1, .bool b1, .string t1, .bool q1.s, .slice X1 (limbs q1.n).length cx1, .slice Y1 (limbs q1.d).length cy1] 27) := ⟨_, rfl⟩
     rw [← hwv]
     obtain ⟨hbl, CV⟩ := sal1 hwv
     clear hwv
     replace R1 := hmR R1 hbl
     replace R2 := hmR R2 hbl
     replace R3 := hmR R3 hbl
     replace R4 := hmR R4 hbl
     replace RX1 := hmR RX1 hbl
     replace RY1 := hmR RY1 hbl
     replace RX2 := hmR RX2 hbl
     replace RY2 := hmR RY2 hbl
     replace RX3 := hmR RX3 hbl
     replace RY3 := hmR RY3 hbl
     replace RX4 := hmR RX4 hbl
     replace RY4 := hmR RY4 hbl
     replace CX := hmB CX hbl
     replace CY := hmB CY hbl
     replace CL := hmB CL hbl
     replace HW := hmW HW hbl; clear hbl
     obtain ⟨CV0, CV1, CV2, CV3, CV4, CV5⟩ := CV.out.cs6
     clear cl0 cl1 cl2 cl3 cl4 cl5
     have he : e1 = 0 ∨ ((e1 != 0) = true ∧ ¬ e1 = 0) := by by_cases h : e1 = 0 <;> simp [h]
     rcases he with he | ⟨he1, he2⟩
     · subst he
       obtain ⟨hrr, hff⟩ := HRE1.out rfl
       have HRR := Lib.hid hrr; have HFF := Lib.hid hff; clear hrr hff
       go_upto_region 10 with fail
       obtain ⟨we, hwe⟩ : ∃ we, we = wv.alloc (.cells #[.int .i64 0, .int .i64 e2, .int .i64 e3, .int .i64 e4] 29) := ⟨_, rfl⟩
       rw [← hwe]
       obtain ⟨hbl, CE⟩ := sal1 hwe
       clear hwe
       replace R1 := hmR R1 hbl
       replace R2 := hmR R2 hbl
       replace R3 := hmR R3 hbl
       replace R4 := hmR R4 hbl
       replace RX1 := hmR RX1 hbl
       replace RY1 := hmR RY1 hbl
       replace RX2 := hmR RX2 hbl
       replace RY2 := hmR RY2 hbl
       replace RX3 := hmR RX3 hbl
       replace RY3 := hmR RY3 hbl
       replace RX4 := hmR RX4 hbl
       replace RY4 := hmR RY4 hbl
       replace CX := hmB CX hbl
       replace CY := hmB CY hbl
       replace CL := hmB CL hbl
       replace CV := hmB CV hbl
       replace HW := hmW HW hbl; clear hbl
       clear CV0 CV1 CV2 CV3 CV4 CV5
       obtain ⟨CV0, CV1, CV2, CV3, CV4, CV5⟩ := CV.out.cs6
       go_wp2_with fail
       refine (HFF.out _ X1 Y1 cx1 cy1 RX1.out RY1.out KX1.out.1 KX1.out.2).mono ?_
       rintro e w71 ⟨v1, v2, rfl, hn1, hn2, hbl⟩
       replace R1 := hmR R1 hbl
       replace R2 := hmR R2 hbl
       replace R3 := hmR R3 hbl
       replace R4 := hmR R4 hbl
       replace RX1 := hmR RX1 hbl
       replace RY1 := hmR RY1 hbl
       replace RX2 := hmR RX2 hbl
       replace RY2 := hmR RY2 hbl
       replace RX3 := hmR RX3 hbl
       replace RY3 := hmR RY3 hbl
       replace RX4 := hmR RX4 hbl
       replace RY4 := hmR RY4 hbl
       replace CX := hmB CX hbl
       replace CY := hmB CY hbl
       replace CL := hmB CL hbl
       replace CV := hmB CV hbl
       replace CE := hmB CE hbl
       replace HW := hmW HW hbl; clear hbl
       clear CV0 CV1 CV2 CV3 CV4 CV5
       obtain ⟨CV0, CV1, CV2, CV3, CV4, CV5⟩ := CV.out.cs6
       obtain ⟨Z1, z1, rfl, hc1, hr1⟩ := hn1.row
       obtain ⟨Z2, z2, rfl, hc2, hr2⟩ := hn2.row
       have RZ1 := Lib.hid hr1; have RZ2 := Lib.hid hr2; clear hn1 hn2 hc1 hc2 hr1 hr2
       go_upto_region 11 with fail
       obtain ⟨wf_, hwf_⟩ : ∃ wf_, wf_ = w71.alloc (.cells #[.int .i64 k1, .bool b1, .string t1, .bool q1.s, .slice Z1 (limbs q1.n).length z1, .slice Z2 (limbs q1.d).length z2] 27) := ⟨_, rfl⟩
       rw [← hwf_]
       obtain ⟨hbl, CF⟩ := sal1 hwf_
       clear hwf_
       replace R1 := hmR R1 hbl
       replace R2 := hmR R2 hbl
       replace R3 := hmR R3 hbl
       replace R4 := hmR R4 hbl
       replace RX1 := hmR RX1 hbl
       replace RY1 := hmR RY1 hbl
       replace RX2 := hmR RX2 hbl
       replace RY2 := hmR RY2 hbl
       replace RX3 := hmR RX3 hbl
       replace RY3 := hmR RY3 hbl
       replace RX4 := hmR RX4 hbl
       replace RY4 := hmR RY4 hbl
       replace RZ1 := hmR RZ1 hbl
       replace RZ2 := hmR RZ2 hbl
       replace CX := hmB CX hbl
       replace CY := hmB CY hbl
       replace CL := hmB CL hbl
       replace CV := hmB CV hbl
       replace CE := hmB CE hbl
       replace HW := hmW HW hbl; clear hbl
       clear CV0 CV1 CV2 CV3 CV4 CV5
       obtain ⟨CV0, CV1, CV2, CV3, CV4, CV5⟩ := CV.out.cs6
       obtain ⟨CF0, CF1, CF2, CF3, CF4, CF5⟩ := CF.out.cs6
       go_wp2_with fail
       refine (HRR.out.2 _ X1 Y1 cx1 cy1 RX1.out RY1.out KX1.out.1 KX1.out.2).mono ?_
       rintro e w81 ⟨rfl, hbl⟩
       replace R1 := hmR R1 hbl
       replace R2 := hmR R2 hbl
       replace R3 := hmR R3 hbl
       replace R4 := hmR R4 hbl
       replace RX1 := hmR RX1 hbl
       replace RY1 := hmR RY1 hbl
       replace RX2 := hmR RX2 hbl
       replace RY2 := hmR RY2 hbl
       replace RX3 := hmR RX3 hbl
       replace RY3 := hmR RY3 hbl
       replace RX4 := hmR RX4 hbl
       replace RY4 := hmR RY4 hbl
       replace RZ1 := hmR RZ1 hbl
       replace RZ2 := hmR RZ2 hbl
       replace CX := hmB CX hbl
       replace CY := hmB CY hbl
       replace CL := hmB CL hbl
       replace CV := hmB CV hbl
       replace CE := hmB CE hbl
       replace CF := hmB CF hbl
       replace HW := hmW HW hbl; clear hbl
       clear CV0 CV1 CV2 CV3 CV4 CV5 CF0 CF1 CF2 CF3 CF4 CF5
       obtain ⟨CV0, CV1, CV2, CV3, CV4, CV5⟩ := CV.out.cs6
       obtain ⟨CF0, CF1, CF2, CF3, CF4, CF5⟩ := CF.out.cs6
       go_wp2_with fail
       refine (rLike_same k1 b1 t1 q1 Z1 Z2 X1 Y1 z1 z2 cx1 cy1 _ RZ1.out RZ2.out RX1.out RY1.out HRR.out.1.1 HRR.out.1.2).mono ?_
       rintro e w82 ⟨rfl, hbl⟩
       replace R1 := hmR R1 hbl
       replace R2 := hmR R2 hbl
       replace R3 := hmR R3 hbl
       replace R4 := hmR R4 hbl
       replace RX1 := hmR RX1 hbl
       replace RY1 := hmR RY1 hbl
       replace RX2 := hmR RX2 hbl
       replace RY2 := hmR RY2 hbl
       replace RX3 := hmR RX3 hbl
       replace RY3 := hmR RY3 hbl
       replace RX4 := hmR RX4 hbl
       replace RY4 := hmR RY4 hbl
       replace RZ1 := hmR RZ1 hbl
       replace RZ2 := hmR RZ2 hbl
       replace CX := hmB CX hbl
       replace CY := hmB CY hbl
       replace CL := hmB CL hbl
       replace CV := hmB CV hbl
       replace CE := hmB CE hbl
       replace CF := hmB CF hbl
       replace HW := hmW HW hbl; clear hbl
       clear CV0 CV1 CV2 CV3 CV4 CV5 CF0 CF1 CF2 CF3 CF4 CF5
       obtain ⟨CV0, CV1, CV2, CV3, CV4, CV5⟩ := CV.out.cs6
       obtain ⟨CF0, CF1, CF2, CF3, CF4, CF5⟩ := CF.out.cs6
       go_wp2
       go_roundw
       case rel => exact ⟨1, by go_num, by decide, HolW.mk12 HW.out CX.out CY.out CL.out R1.out R2.out R3.out R4.out RX1.out RY1.out RX2.out RY2.out RX3.out RY3.out RX4.out RY4.out⟩
       case measure => decide
     · have HE2 := Lib.hid he2
       go_upto_region 13 with fail
       obtain ⟨we, hwe⟩ : ∃ we, we = wv.alloc (.cells #[.int .i64 e1, .int .i64 e2, .int .i64 e3, .int .i64 e4] 29) := ⟨_, rfl⟩
       rw [← hwe]
       obtain ⟨hbl, CE⟩ := sal1 hwe
       clear hwe
       replace R1 := hmR R1 hbl
       replace R2 := hmR R2 hbl
       replace R3 := hmR R3 hbl
       replace R4 := hmR R4 hbl
       replace RX1 := hmR RX1 hbl
       replace RY1 := hmR RY1 hbl
       replace RX2 := hmR RX2 hbl
       replace RY2 := hmR RY2 hbl
       replace RX3 := hmR RX3 hbl
       replace RY3 := hmR RY3 hbl
       replace RX4 := hmR RX4 hbl
       replace RY4 := hmR RY4 hbl
       replace CX := hmB CX hbl
       replace CY := hmB CY hbl
       replace CL := hmB CL hbl
       replace CV := hmB CV hbl
       replace HW := hmW HW hbl; clear hbl
       clear CV0 CV1 CV2 CV3 CV4 CV5
       obtain ⟨CV0, CV1, CV2, CV3, CV4, CV5⟩ := CV.out.cs6
       go_wp2
       go_roundw
       case rel => exact ⟨1, by go_num, by decide, HolW.mk12 HW.out CX.out CY.out CL.out R1.out R2.out R3.out R4.out RX1.out RY1.out RX2.out RY2.out RX3.out RY3.out RX4.out RY4.out⟩
       case measure => decide
   · have cl0 : wr.cell? ⟨w44.heap.size, 6, none⟩ = some (.int .i64 k2) := CL.out.cell 6
     have cl1 := CL.out.c7
     have cl2 : wr.cell? ⟨w44.heap.size, 8, none⟩ = some (.string t2) := CL.out.cell 8
     have cl3 : wr.cell? ⟨w44.heap.size, 9, none⟩ = some (.bool q2.s) := CL.out.cell 9
     have cl4 : wr.cell? ⟨w44.heap.size, 10, none⟩ = some (.slice X2 (limbs q2.n).length cx2) := CL.out.cell 10
     have cl5 : wr.cell? ⟨w44.heap.size, 11, none⟩ = some (.slice Y2 (limbs q2.d).length cy2) := CL.out.cell 11
     go_upto_region 9 with fail
     obtain ⟨wv, hwv⟩ : ∃ wv, wv = wr.alloc (.cells #[.int .i64 k2, .bool b2, .string t2, .bool q2.s, .slice X2 (limbs q2.n).length cx2, .slice Y2 (limbs q2.d).length cy2] 27) := ⟨_, rfl⟩
     rw [← hwv]
     obtain ⟨hbl, CV⟩ := sal1 hwv
     clear hwv
     replace R1 := hmR R1 hbl
     replace R2 := hmR R2 hbl
     replace R3 := hmR R3 hbl
     replace R4 := hmR R4 hbl
     replace RX1 := hmR RX1 hbl
     replace RY1 := hmR RY1 hbl
     replace RX2 := hmR RX2 hbl
     replace RY2 := hmR RY2 hbl
     replace RX3 := hmR RX3 hbl
     replace RY3 := hmR RY3 hbl
     replace RX4 := hmR RX4 hbl
     replace RY4 := hmR RY4 hbl
     replace CX := hmB CX hbl
     replace CY := hmB CY hbl
     replace CL := hmB CL hbl
     replace HW := hmW HW hbl; clear hbl
     obtain ⟨CV0, CV1, CV2, CV3, CV4, CV5⟩ := CV.out.cs6
     clear cl0 cl1 cl2 cl3 cl4 cl5
     have he : e2 = 0 ∨ ((e2 != 0) = true ∧ ¬ e2 = 0) := by by_cases h : e2 = 0 <;> simp [h]
     rcases he with he | ⟨he1, he2⟩
     · subst he
       obtain ⟨hrr, hff⟩ := HRE2.out rfl
       have HRR := Lib.hid hrr; have HFF := Lib.hid hff; clear hrr hff
       go_upto_region 10 with fail
       obtain ⟨we, hwe⟩ : ∃ we, we = wv.alloc (.cells #[.int .i64 e1, .int .i64 0, .int .i64 e3, .int .i64 e4] 29) := ⟨_, rfl⟩
       rw [← hwe]
       obtain ⟨hbl, CE⟩ := sal1 hwe
       clear hwe
       replace R1 := hmR R1 hbl
       replace R2 := hmR R2 hbl
       replace R3 := hmR R3 hbl
       replace R4 := hmR R4 hbl
       replace RX1 := hmR RX1 hbl
       replace RY1 := hmR RY1 hbl
       replace RX2 := hmR RX2 hbl
       replace RY2 := hmR RY2 hbl
       replace RX3 := hmR RX3 hbl
       replace RY3 := hmR RY3 hbl
       replace RX4 := hmR RX4 hbl
       replace RY4 := hmR RY4 hbl
       replace CX := hmB CX hbl
       replace CY := hmB CY hbl
       replace CL := hmB CL hbl
       replace CV := hmB CV hbl
       replace HW := hmW HW hbl; clear hbl
       clear CV0 CV1 CV2 CV3 CV4 CV5
       obtain ⟨CV0, CV1, CV2, CV3, CV4, CV5⟩ := CV.out.cs6
       go_wp2_with fail
       refine (HFF.out _ X2 Y2 cx2 cy2 RX2.out RY2.out KX2.out.1 KX2.out.2).mono ?_
       rintro e w71 ⟨v1, v2, rfl, hn1, hn2, hbl⟩
       replace R1 := hmR R1 hbl
       replace R2 := hmR R2 hbl
       replace R3 := hmR R3 hbl
       replace R4 := hmR R4 hbl
       replace RX1 := hmR RX1 hbl
       replace RY1 := hmR RY1 hbl
       replace RX2 := hmR RX2 hbl
       replace RY2 := hmR RY2 hbl
       replace RX3 := hmR RX3 hbl
       replace RY3 := hmR RY3 hbl
       replace RX4 := hmR RX4 hbl
       replace RY4 := hmR RY4 hbl
       replace CX := hmB CX hbl
       replace CY := hmB CY hbl
       replace CL := hmB CL hbl
       replace CV := hmB CV hbl
       replace CE := hmB CE hbl
       replace HW := hmW HW hbl; clear hbl
       clear CV0 CV1 CV2 CV3 CV4 CV5
       obtain ⟨CV0, CV1, CV2, CV3, CV4, CV5⟩ := CV.out.cs6
       obtain ⟨Z1, z1, rfl, hc1, hr1⟩ := hn1.row
       obtain ⟨Z2, z2, rfl, hc2, hr2⟩ := hn2.row
       have RZ1 := Lib.hid hr1; have RZ2 := Lib.hid hr2; clear hn1 hn2 hc1 hc2 hr1 hr2
       go_upto_region 11 with fail
       obtain ⟨wf_, hwf_⟩ : ∃ wf_, wf_ = w71.alloc (.cells #[.int .i64 k2, .bool b2, .string t2, .bool q2.s, .slice Z1 (limbs q2.n).length z1, .slice Z2 (limbs q2.d).length z2] 27) := ⟨_, rfl⟩
       rw [← hwf_]
       obtain ⟨hbl, CF⟩ := sal1 hwf_
       clear hwf_
       replace R1 := hmR R1 hbl
       replace R2 := hmR R2 hbl
       replace R3 := hmR R3 hbl
       replace R4 := hmR R4 hbl
       replace RX1 := hmR RX1 hbl
       replace RY1 := hmR RY1 hbl
       replace RX2 := hmR RX2 hbl
       replace RY2 := hmR RY2 hbl
       replace RX3 := hmR RX3 hbl
       replace RY3 := hmR RY3 hbl
       replace RX4 := hmR RX4 hbl
       replace RY4 := hmR RY4 hbl
       replace RZ1 := hmR RZ1 hbl
       replace RZ2 := hmR RZ2 hbl
       replace CX := hmB CX hbl
       replace CY := hmB CY hbl
       replace CL := hmB CL hbl
       replace CV := hmB CV hbl
       replace CE := hmB CE hbl
       replace HW := hmW HW hbl; clear hbl
       clear CV0 CV1 CV2 CV3 CV4 CV5
       obtain ⟨CV0, CV1, CV2, CV3, CV4, CV5⟩ := CV.out.cs6
       obtain ⟨CF0, CF1, CF2, CF3, CF4, CF5⟩ := CF.out.cs6
       go_wp2_with fail
       refine (HRR.out.2 _ X2 Y2 cx2 cy2 RX2.out RY2.out KX2.out.1 KX2.out.2).mono ?_
       rintro e w81 ⟨rfl, hbl⟩
       replace R1 := hmR R1 hbl
       replace R2 := hmR R2 hbl
       replace R3 := hmR R3 hbl
       replace R4 := hmR R4 hbl
       replace RX1 := hmR RX1 hbl
       replace RY1 := hmR RY1 hbl
       replace RX2 := hmR RX2 hbl
       replace RY2 := hmR RY2 hbl
       replace RX3 := hmR RX3 hbl
       replace RY3 := hmR RY3 hbl
       replace RX4 := hmR RX4 hbl
       replace RY4 := hmR RY4 hbl
       replace RZ1 := hmR RZ1 hbl
       replace RZ2 := hmR RZ2 hbl
       replace CX := hmB CX hbl
       replace CY := hmB CY hbl
       replace CL := hmB CL hbl
       replace CV := hmB CV hbl
       replace CE := hmB CE hbl
       replace CF := hmB CF hbl
       replace HW := hmW HW hbl; clear hbl
       clear CV0 CV1 CV2 CV3 CV4 CV5 CF0 CF1 CF2 CF3 CF4 CF5
       obtain ⟨CV0, CV1, CV2, CV3, CV4, CV5⟩ := CV.out.cs6
       obtain ⟨CF0, CF1, CF2, CF3, CF4, CF5⟩ := CF.out.cs6
       go_wp2_with fail
       refine (rLike_same k2 b2 t2 q2 Z1 Z2 X2 Y2 z1 z2 cx2 cy2 _ RZ1.out RZ2.out RX2.out RY2.out HRR.out.1.1 HRR.out.1.2).mono ?_
       rintro e w82 ⟨rfl, hbl⟩
       replace R1 := hmR R1 hbl
       replace R2 := hmR R2 hbl
       replace R3 := hmR R3 hbl
       replace R4 := hmR R4 hbl
       replace RX1 := hmR RX1 hbl
       replace RY1 := hmR RY1 hbl
       replace RX2 := hmR RX2 hbl
       replace RY2 := hmR RY2 hbl
       replace RX3 := hmR RX3 hbl
       replace RY3 := hmR RY3 hbl
       replace RX4 := hmR RX4 hbl
       replace RY4 := hmR RY4 hbl
       replace RZ1 := hmR RZ1 hbl
       replace RZ2 := hmR RZ2 hbl
       replace CX := hmB CX hbl
       replace CY := hmB CY hbl
       replace CL := hmB CL hbl
       replace CV := hmB CV hbl
       replace CE := hmB CE hbl
       replace CF := hmB CF hbl
       replace HW := hmW HW hbl; clear hbl
       clear CV0 CV1 CV2 CV3 CV4 CV5 CF0 CF1 CF2 CF3 CF4 CF5
       obtain ⟨CV0, CV1, CV2, CV3, CV4, CV5⟩ := CV.out.cs6
       obtain ⟨CF0, CF1, CF2, CF3, CF4, CF5⟩ := CF.out.cs6
       go_wp2
       go_roundw
       case rel => exact ⟨2, by go_num, by decide, HolW.mk12 HW.out CX.out CY.out CL.out R1.out R2.out R3.out R4.out RX1.out RY1.out RX2.out RY2.out RX3.out RY3.out RX4.out RY4.out⟩
       case measure => decide
     · have HE2 := Lib.hid he2
       go_upto_region 13 with fail
       obtain ⟨we, hwe⟩ : ∃ we, we = wv.alloc (.cells #[.int .i64 e1, .int .i64 e2, .int .i64 e3, .int .i64 e4] 29) := ⟨_, rfl⟩
       rw [← hwe]
       obtain ⟨hbl, CE⟩ := sal1 hwe
       clear hwe
       replace R1 := hmR R1 hbl
       replace R2 := hmR R2 hbl
       replace R3 := hmR R3 hbl
       replace R4 := hmR R4 hbl
       replace RX1 := hmR RX1 hbl
       replace RY1 := hmR RY1 hbl
       replace RX2 := hmR RX2 hbl
       replace RY2 := hmR RY2 hbl
       replace RX3 := hmR RX3 hbl
       replace RY3 := hmR RY3 hbl
       replace RX4 := hmR RX4 hbl
       replace RY4 := hmR RY4 hbl
       replace CX := hmB CX hbl
       replace CY := hmB CY hbl
       replace CL := hmB CL hbl
       replace CV := hmB CV hbl
       replace HW := hmW HW hbl; clear hbl
       clear CV0 CV1 CV2 CV3 CV4 CV5
       obtain ⟨CV0, CV1, CV2, CV3, CV4, CV5⟩ := CV.out.cs6
       go_wp2
       go_roundw
       case rel => exact ⟨2, by go_num, by decide, HolW.mk12 HW.out CX.out CY.out CL.out R1.out R2.out R3.out R4.out RX1.out RY1.out RX2.out RY2.out RX3.out RY3.out RX4.out RY4.out⟩
       case measure => decide
   · have cl0 : wr.cell? ⟨w44.heap.size, 12, none⟩ = some (.int .i64 k3) := CL.out.cell 12
     have cl1 : wr.cell? ⟨w44.heap.size, 13, none⟩ = some (.bool b3) := CL.out.cell 13
     have cl2 : wr.cell? ⟨w44.heap.size, 14, none⟩ = some (.string t3) := CL.out.cell 14
     have cl3 : wr.cell? ⟨w44.heap.size, 15, none⟩ = some (.bool q3.s) := CL.out.cell 15
     have cl4 : wr.cell? ⟨w44.heap.size, 16, none⟩ = some (.slice X3 (limbs q3.n).length cx3) := CL.out.cell 16
     have cl5 : wr.cell? ⟨w44.heap.size, 17, none⟩ = some (.slice Y3 (limbs q3.d).length cy3) := CL.out.cell 17
     go_upto_region 9 with fail
     obtain ⟨wv, hwv⟩ : ∃ wv, wv = wr.alloc (.cells #[.int .i64 k3, .bool b3, .string t3, .bool q3.s, .slice X3 (limbs q3.n).length cx3, .slice Y3 (limbs q3.d).length cy3] 27) := ⟨_, rfl⟩
     rw [← hwv]
     obtain ⟨hbl, CV⟩ := sal1 hwv
     clear hwv
     replace R1 := hmR R1 hbl
     replace R2 := hmR R2 hbl
     replace R3 := hmR R3 hbl
     replace R4 := hmR R4 hbl
     replace RX1 := hmR RX1 hbl
     replace RY1 := hmR RY1 hbl
     replace RX2 := hmR RX2 hbl
     replace RY2 := hmR RY2 hbl
     replace RX3 := hmR RX3 hbl
     replace RY3 := hmR RY3 hbl
     replace RX4 := hmR RX4 hbl
     replace RY4 := hmR RY4 hbl
     replace CX := hmB CX hbl
     replace CY := hmB CY hbl
     replace CL := hmB CL hbl
     replace HW := hmW HW hbl; clear hbl
     obtain ⟨CV0, CV1, CV2, CV3, CV4, CV5⟩ := CV.out.cs6
     clear cl0 cl1 cl2 cl3 cl4 cl5
     have he : e3 = 0 ∨ ((e3 != 0) = true ∧ ¬ e3 = 0) := by by_cases h : e3 = 0 <;> simp [h]
     rcases he with he | ⟨he1, he2⟩
     · subst he
       obtain ⟨hrr, hff⟩ := HRE3.out rfl
       have HRR := Lib.hid hrr; have HFF := Lib.hid hff; clear hrr hff
       go_upto_region 10 with fail
       obtain ⟨we, hwe⟩ : ∃ we, we = wv.alloc (.cells #[.int .i64 e1, .int .i64 e2, .int .i64 0, .int .i64 e4] 29) := ⟨_, rfl⟩
       rw [← hwe]
       obtain ⟨hbl, CE⟩ := sal1 hwe
       clear hwe
       replace R1 := hmR R1 hbl
       replace R2 := hmR R2 hbl
       replace R3 := hmR R3 hbl
       replace R4 := hmR R4 hbl
       replace RX1 := hmR RX1 hbl
       replace RY1 := hmR RY1 hbl
       replace RX2 := hmR RX2 hbl
       replace RY2 := hmR RY2 hbl
       replace RX3 := hmR RX3 hbl
       replace RY3 := hmR RY3 hbl
       replace RX4 := hmR RX4 hbl
       replace RY4 := hmR RY4 hbl
       replace CX := hmB CX hbl
       replace CY := hmB CY hbl
       replace CL := hmB CL hbl
       replace CV := hmB CV hbl
       replace HW := hmW HW hbl; clear hbl
       clear CV0 CV1 CV2 CV3 CV4 CV5
       obtain ⟨CV0, CV1, CV2, CV3, CV4, CV5⟩ := CV.out.cs6
       go_wp2_with fail
       refine (HFF.out _ X3 Y3 cx3 cy3 RX3.out RY3.out KX3.out.1 KX3.out.2).mono ?_
       rintro e w71 ⟨v1, v2, rfl, hn1, hn2, hbl⟩
       replace R1 := hmR R1 hbl
       replace R2 := hmR R2 hbl
       replace R3 := hmR R3 hbl
       replace R4 := hmR R4 hbl
       replace RX1 := hmR RX1 hbl
       replace RY1 := hmR RY1 hbl
       replace RX2 := hmR RX2 hbl
       replace RY2 := hmR RY2 hbl
       replace RX3 := hmR RX3 hbl
       replace RY3 := hmR RY3 hbl
       replace RX4 := hmR RX4 hbl
       replace RY4 := hmR RY4 hbl
       replace CX := hmB CX hbl
       replace CY := hmB CY hbl
       replace CL := hmB CL hbl
       replace CV := hmB CV hbl
       replace CE := hmB CE hbl
       replace HW := hmW HW hbl; clear hbl
       clear CV0 CV1 CV2 CV3 CV4 CV5
       obtain ⟨CV0, CV1, CV2, CV3, CV4, CV5⟩ := CV.out.cs6
       obtain ⟨Z1, z1, rfl, hc1, hr1⟩ := hn1.row
       obtain ⟨Z2, z2, rfl, hc2, hr2⟩ := hn2.row
       have RZ1 := Lib.hid hr1; have RZ2 := Lib.hid hr2; clear hn1 hn2 hc1 hc2 hr1 hr2
       go_upto_region 11 with fail
       obtain ⟨wf_, hwf_⟩ : ∃ wf_, wf_ = w71.alloc (.cells #[.int .i64 k3, .bool b3, .string t3, .bool q3.s, .slice Z1 (limbs q3.n).length z1, .slice Z2 (limbs q3.d).length z2] 27) := ⟨_, rfl⟩
       rw [← hwf_]
       obtain ⟨hbl, CF⟩ := sal1 hwf_
       clear hwf_
       replace R1 := hmR R1 hbl
       replace R2 := hmR R2 hbl
       replace R3 := hmR R3 hbl
       replace R4 := hmR R4 hbl
       replace RX1 := hmR RX1 hbl
       replace RY1 := hmR RY1 hbl
       replace RX2 := hmR RX2 hbl
       replace RY2 := hmR RY2 hbl
       replace RX3 := hmR RX3 hbl
       replace RY3 := hmR RY3 hbl
       replace RX4 := hmR RX4 hbl
       replace RY4 := hmR RY4 hbl
       replace RZ1 := hmR RZ1 hbl
       replace RZ2 := hmR RZ2 hbl
       replace CX := hmB CX hbl
       replace CY := hmB CY hbl
       replace CL := hmB CL hbl
       replace CV := hmB CV hbl
       replace CE := hmB CE hbl
       replace HW := hmW HW hbl; clear hbl
       clear CV0 CV1 CV2 CV3 CV4 CV5
       obtain ⟨CV0, CV1, CV2, CV3, CV4, CV5⟩ := CV.out.cs6
       obtain ⟨CF0, CF1, CF2, CF3, CF4, CF5⟩ := CF.out.cs6
       go_wp2_with fail
       refine (HRR.out.2 _ X3 Y3 cx3 cy3 RX3.out RY3.out KX3.out.1 KX3.out.2).mono ?_
       rintro e w81 ⟨rfl, hbl⟩
       replace R1 := hmR R1 hbl
       replace R2 := hmR R2 hbl
       replace R3 := hmR R3 hbl
       replace R4 := hmR R4 hbl
       replace RX1 := hmR RX1 hbl
       replace RY1 := hmR RY1 hbl
       replace RX2 := hmR RX2 hbl
       replace RY2 := hmR RY2 hbl
       replace RX3 := hmR RX3 hbl
       replace RY3 := hmR RY3 hbl
       replace RX4 := hmR RX4 hbl
       replace RY4 := hmR RY4 hbl
       replace RZ1 := hmR RZ1 hbl
       replace RZ2 := hmR RZ2 hbl
       replace CX := hmB CX hbl
       replace CY := hmB CY hbl
       replace CL := hmB CL hbl
       replace CV := hmB CV hbl
       replace CE := hmB CE hbl
       replace CF := hmB CF hbl
       replace HW := hmW HW hbl; clear hbl
       clear CV0 CV1 CV2 CV3 CV4 CV5 CF0 CF1 CF2 CF3 CF4 CF5
       obtain ⟨CV0, CV1, CV2, CV3, CV4, CV5⟩ := CV.out.cs6
       obtain ⟨CF0, CF1, CF2, CF3, CF4, CF5⟩ := CF.out.cs6
       go_wp2_with fail
       refine (rLike_same k3 b3 t3 q3 Z1 Z2 X3 Y3 z1 z2 cx3 cy3 _ RZ1.out RZ2.out RX3.out RY3.out HRR.out.1.1 HRR.out.1.2).mono ?_
       rintro e w82 ⟨rfl, hbl⟩
       replace R1 := hmR R1 hbl
       replace R2 := hmR R2 hbl
       replace R3 := hmR R3 hbl
       replace R4 := hmR R4 hbl
       replace RX1 := hmR RX1 hbl
       replace RY1 := hmR RY1 hbl
       replace RX2 := hmR RX2 hbl
       replace RY2 := hmR RY2 hbl
       replace RX3 := hmR RX3 hbl
       replace RY3 := hmR RY3 hbl
       replace RX4 := hmR RX4 hbl
       replace RY4 := hmR RY4 hbl
       replace RZ1 := hmR RZ1 hbl
       replace RZ2 := hmR RZ2 hbl
       replace CX := hmB CX hbl
       replace CY := hmB CY hbl
       replace CL := hmB CL hbl
       replace CV := hmB CV hbl
       replace CE := hmB CE hbl
       replace CF := hmB CF hbl
       replace HW := hmW HW hbl; clear hbl
       clear CV0 CV1 CV2 CV3 CV4 CV5 CF0 CF1 CF2 CF3 CF4 CF5
       obtain ⟨CV0, CV1, CV2, CV3, CV4, CV5⟩ := CV.out.cs6
       obtain ⟨CF0, CF1, CF2, CF3, CF4, CF5⟩ := CF.out.cs6
       go_wp2
       go_roundw
       case rel => exact ⟨3, by go_num, by decide, HolW.mk12 HW.out CX.out CY.out CL.out R1.out R2.out R3.out R4.out RX1.out RY1.out RX2.out RY2.out RX3.out RY3.out RX4.out RY4.out⟩
       case measure => decide
     · have HE2 := Lib.hid he2
       go_upto_region 13 with fail
       obtain ⟨we, hwe⟩ : ∃ we, we = wv.alloc (.cells #[.int .i64 e1, .int .i64 e2, .int .i64 e3, .int .i64 e4] 29) := ⟨_, rfl⟩
       rw [← hwe]
       obtain ⟨hbl, CE⟩ := sal1 hwe
       clear hwe
       replace R1 := hmR R1 hbl
       replace R2 := hmR R2 hbl
       replace R3 := hmR R3 hbl
       replace R4 := hmR R4 hbl
       replace RX1 := hmR RX1 hbl
       replace RY1 := hmR RY1 hbl
       replace RX2 := hmR RX2 hbl
       replace RY2 := hmR RY2 hbl
       replace RX3 := hmR RX3 hbl
       replace RY3 := hmR RY3 hbl
       replace RX4 := hmR RX4 hbl
       replace RY4 := hmR RY4 hbl
       replace CX := hmB CX hbl
       replace CY := hmB CY hbl
       replace CL := hmB CL hbl
       replace CV := hmB CV hbl
       replace HW := hmW HW hbl; clear hbl
       clear CV0 CV1 CV2 CV3 CV4 CV5
       obtain ⟨CV0, CV1, CV2, CV3, CV4, CV5⟩ := CV.out.cs6
       go_wp2
       go_roundw
       case rel => exact ⟨3, by go_num, by decide, HolW.mk12 HW.out CX.out CY.out CL.out R1.out R2.out R3.out R4.out RX1.out RY1.out RX2.out RY2.out RX3.out RY3.out RX4.out RY4.out⟩
       case measure => decide
   · have cl0 : wr.cell? ⟨w44.heap.size, 18, none⟩ = some (.int .i64 k4) := CL.out.cell 18
     have cl1 : wr.cell? ⟨w44.heap.size, 19, none⟩ = some (.bool b4) := CL.out.cell 19
     have cl2 : wr.cell? ⟨w44.heap.size, 20, none⟩ = some (.string t4) := CL.out.cell 20
     have cl3 : wr.cell? ⟨w44.heap.size, 21, none⟩ = some (.bool q4.s) := CL.out.cell 21
     have cl4 : wr.cell? ⟨w44.heap.size, 22, none⟩ = some (.slice X4 (limbs q4.n).length cx4) := CL.out.cell 22
     have cl5 : wr.cell? ⟨w44.heap.size, 23, none⟩ = some (.slice Y4 (limbs q4.d).length cy4) := CL.out.cell 23
     go_upto_region 9 with fail
     obtain ⟨wv, hwv⟩ : ∃ wv, wv = wr.alloc (.cells #[.int .i64 k4, .bool b4, .string t4, .bool q4.s, .slice X4 (limbs q4.n).length cx4, .slice Y4 (limbs q4.d).length cy4] 27) := ⟨_, rfl⟩
     rw [← hwv]
     obtain ⟨hbl, CV⟩ := sal1 hwv
     clear hwv
     replace R1 := hmR R1 hbl
     replace R2 := hmR R2 hbl
     replace R3 := hmR R3 hbl
     replace R4 := hmR R4 hbl
     replace RX1 := hmR RX1 hbl
     replace RY1 := hmR RY1 hbl
     replace RX2 := hmR RX2 hbl
     replace RY2 := hmR RY2 hbl
     replace RX3 := hmR RX3 hbl
     replace RY3 := hmR RY3 hbl
     replace RX4 := hmR RX4 hbl
     replace RY4 := hmR RY4 hbl
     replace CX := hmB CX hbl
     replace CY := hmB CY hbl
     replace CL := hmB CL hbl
     replace HW := hmW HW hbl; clear hbl
     obtain ⟨CV0, CV1, CV2, CV3, CV4, CV5⟩ := CV.out.cs6
     clear cl0 cl1 cl2 cl3 cl4 cl5
     have he : e4 = 0 ∨ ((e4 != 0) = true ∧ ¬ e4 = 0) := by by_cases h : e4 = 0 <;> simp [h]
     rcases he with he | ⟨he1, he2⟩
     · subst he
       obtain ⟨hrr, hff⟩ := HRE4.out rfl
       have HRR := Lib.hid hrr; have HFF := Lib.hid hff; clear hrr hff
       go_upto_region 10 with fail
       obtain ⟨we, hwe⟩ : ∃ we, we = wv.alloc (.cells #[.int .i64 e1, .int .i64 e2, .int .i64 e3, .int .i64 0] 29) := ⟨_, rfl⟩
       rw [← hwe]
       obtain ⟨hbl, CE⟩ := sal1 hwe
       clear hwe
       replace R1 := hmR R1 hbl
       replace R2 := hmR R2 hbl
       replace R3 := hmR R3 hbl
       replace R4 := hmR R4 hbl
       replace RX1 := hmR RX1 hbl
       replace RY1 := hmR RY1 hbl
       replace RX2 := hmR RX2 hbl
       replace RY2 := hmR RY2 hbl
       replace RX3 := hmR RX3 hbl
       replace RY3 := hmR RY3 hbl
       replace RX4 := hmR RX4 hbl
       replace RY4 := hmR RY4 hbl
       replace CX := hmB CX hbl
       replace CY := hmB CY hbl
       replace CL := hmB CL hbl
       replace CV := hmB CV hbl
       replace HW := hmW HW hbl; clear hbl
       clear CV0 CV1 CV2 CV3 CV4 CV5
       obtain ⟨CV0, CV1, CV2, CV3, CV4, CV5⟩ := CV.out.cs6
       go_wp2_with fail
       refine (HFF.out _ X4 Y4 cx4 cy4 RX4.out RY4.out KX4.out.1 KX4.out.2).mono ?_
       rintro e w71 ⟨v1, v2, rfl, hn1, hn2, hbl⟩
       replace R1 := hmR R1 hbl
       replace R2 := hmR R2 hbl
       replace R3 := hmR R3 hbl
       replace R4 := hmR R4 hbl
       replace RX1 := hmR RX1 hbl
       replace RY1 := hmR RY1 hbl
       replace RX2 := hmR RX2 hbl
       replace RY2 := hmR RY2 hbl
       replace RX3 := hmR RX3 hbl
       replace RY3 := hmR RY3 hbl
       replace RX4 := hmR RX4 hbl
       replace RY4 := hmR RY4 hbl
       replace CX := hmB CX hbl
       replace CY := hmB CY hbl
       replace CL := hmB CL hbl
       replace CV := hmB CV hbl
       replace CE := hmB CE hbl
       replace HW := hmW HW hbl; clear hbl
       clear CV0 CV1 CV2 CV3 CV4 CV5
       obtain ⟨CV0, CV1, CV2, CV3, CV4, CV5⟩ := CV.out.cs6
       obtain ⟨Z1, z1, rfl, hc1, hr1⟩ := hn1.row
       obtain ⟨Z2, z2, rfl, hc2, hr2⟩ := hn2.row
       have RZ1 := Lib.hid hr1; have RZ2 := Lib.hid hr2; clear hn1 hn2 hc1 hc2 hr1 hr2
       go_upto_region 11 with fail
       obtain ⟨wf_, hwf_⟩ : ∃ wf_, wf_ = w71.alloc (.cells #[.int .i64 k4, .bool b4, .string t4, .bool q4.s, .slice Z1 (limbs q4.n).length z1, .slice Z2 (limbs q4.d).length z2] 27) := ⟨_, rfl⟩
       rw [← hwf_]
       obtain ⟨hbl, CF⟩ := sal1 hwf_
       clear hwf_
       replace R1 := hmR R1 hbl
       replace R2 := hmR R2 hbl
       replace R3 := hmR R3 hbl
       replace R4 := hmR R4 hbl
       replace RX1 := hmR RX1 hbl
       replace RY1 := hmR RY1 hbl
       replace RX2 := hmR RX2 hbl
       replace RY2 := hmR RY2 hbl
       replace RX3 := hmR RX3 hbl
       replace RY3 := hmR RY3 hbl
       replace RX4 := hmR RX4 hbl
       replace RY4 := hmR RY4 hbl
       replace RZ1 := hmR RZ1 hbl
       replace RZ2 := hmR RZ2 hbl
       replace CX := hmB CX hbl
       replace CY := hmB CY hbl
       replace CL := hmB CL hbl
       replace CV := hmB CV hbl
       replace CE := hmB CE hbl
       replace HW := hmW HW hbl; clear hbl
       clear CV0 CV1 CV2 CV3 CV4 CV5
       obtain ⟨CV0, CV1, CV2, CV3, CV4, CV5⟩ := CV.out.cs6
       obtain ⟨CF0, CF1, CF2, CF3, CF4, CF5⟩ := CF.out.cs6
       go_wp2_with fail
       refine (HRR.out.2 _ X4 Y4 cx4 cy4 RX4.out RY4.out KX4.out.1 KX4.out.2).mono ?_
       rintro e w81 ⟨rfl, hbl⟩
       replace R1 := hmR R1 hbl
       replace R2 := hmR R2 hbl
       replace R3 := hmR R3 hbl
       replace R4 := hmR R4 hbl
       replace RX1 := hmR RX1 hbl
       replace RY1 := hmR RY1 hbl
       replace RX2 := hmR RX2 hbl
       replace RY2 := hmR RY2 hbl
       replace RX3 := hmR RX3 hbl
       replace RY3 := hmR RY3 hbl
       replace RX4 := hmR RX4 hbl
       replace RY4 := hmR RY4 hbl
       replace RZ1 := hmR RZ1 hbl
       replace RZ2 := hmR RZ2 hbl
       replace CX := hmB CX hbl
       replace CY := hmB CY hbl
       replace CL := hmB CL hbl
       replace CV := hmB CV hbl
       replace CE := hmB CE hbl
       replace CF := hmB CF hbl
       replace HW := hmW HW hbl; clear hbl
       clear CV0 CV1 CV2 CV3 CV4 CV5 CF0 CF1 CF2 CF3 CF4 CF5
       obtain ⟨CV0, CV1, CV2, CV3, CV4, CV5⟩ := CV.out.cs6
       obtain ⟨CF0, CF1, CF2, CF3, CF4, CF5⟩ := CF.out.cs6
       go_wp2_with fail
       refine (rLike_same k4 b4 t4 q4 Z1 Z2 X4 Y4 z1 z2 cx4 cy4 _ RZ1.out RZ2.out RX4.out RY4.out HRR.out.1.1 HRR.out.1.2).mono ?_
       rintro e w82 ⟨rfl, hbl⟩
       replace R1 := hmR R1 hbl
       replace R2 := hmR R2 hbl
       replace R3 := hmR R3 hbl
       replace R4 := hmR R4 hbl
       replace RX1 := hmR RX1 hbl
       replace RY1 := hmR RY1 hbl
       replace RX2 := hmR RX2 hbl
       replace RY2 := hmR RY2 hbl
       replace RX3 := hmR RX3 hbl
       replace RY3 := hmR RY3 hbl
       replace RX4 := hmR RX4 hbl
       replace RY4 := hmR RY4 hbl
       replace RZ1 := hmR RZ1 hbl
       replace RZ2 := hmR RZ2 hbl
       replace CX := hmB CX hbl
       replace CY := hmB CY hbl
       replace CL := hmB CL hbl
       replace CV := hmB CV hbl
       replace CE := hmB CE hbl
       replace CF := hmB CF hbl
       replace HW := hmW HW hbl; clear hbl
       clear CV0 CV1 CV2 CV3 CV4 CV5 CF0 CF1 CF2 CF3 CF4 CF5
       obtain ⟨CV0, CV1, CV2, CV3, CV4, CV5⟩ := CV.out.cs6
       obtain ⟨CF0, CF1, CF2, CF3, CF4, CF5⟩ := CF.out.cs6
       go_wp2
       go_roundw
       case rel => exact ⟨4, by go_num, by decide, HolW.mk12 HW.out CX.out CY.out CL.out R1.out R2.out R3.out R4.out RX1.out RY1.out RX2.out RY2.out RX3.out RY3.out RX4.out RY4.out⟩
       case measure => decide
     · have HE2 := Lib.hid he2
       go_upto_region 13 with fail
       obtain ⟨we, hwe⟩ : ∃ we, we = wv.alloc (.cells #[.int .i64 e1, .int .i64 e2, .int .i64 e3, .int .i64 e4] 29) := ⟨_, rfl⟩
       rw [← hwe]
       obtain ⟨hbl, CE⟩ := sal1 hwe
       clear hwe
       replace R1 := hmR R1 hbl
       replace R2 := hmR R2 hbl
       replace R3 := hmR R3 hbl
       replace R4 := hmR R4 hbl
       replace RX1 := hmR RX1 hbl
       replace RY1 := hmR RY1 hbl
       replace RX2 := hmR RX2 hbl
       replace RY2 := hmR RY2 hbl
       replace RX3 := hmR RX3 hbl
       replace RY3 := hmR RY3 hbl
       replace RX4 := hmR RX4 hbl
       replace RY4 := hmR RY4 hbl
       replace CX := hmB CX hbl
       replace CY := hmB CY hbl
       replace CL := hmB CL hbl
       replace CV := hmB CV hbl
       replace HW := hmW HW hbl; clear hbl
       clear CV0 CV1 CV2 CV3 CV4 CV5
       obtain ⟨CV0, CV1, CV2, CV3, CV4, CV5⟩ := CV.out.cs6
       go_wp2
       go_roundw
       case rel => exact ⟨4, by go_num, by decide, HolW.mk12 HW.out CX.out CY.out CL.out R1.out R2.out R3.out R4.out RX1.out RY1.out RX2.out RY2.out RX3.out RY3.out RX4.out RY4.out⟩
       case measure => decide
   · obtain ⟨CX0, CX1, CX2, CX3, CX4, CX5⟩ := CX.out.cs6
     obtain ⟨CY0, CY1, CY2, CY3, CY4, CY5⟩ := CY.out.cs6
     go_upto_region 14 with fail
     obtain ⟨u1, hu1⟩ : ∃ u, rightV ka ba s1 ga xs ys = u := ⟨_, rfl⟩
     obtain ⟨u2, hu2⟩ : ∃ u, rightV kb bb s2 gb xs' ys' = u := ⟨_, rfl⟩
     obtain ⟨u3, hu3⟩ : ∃ u, wholeB t = u := ⟨_, rfl⟩
     have HU1 := Lib.hid hu1; have HU2 := Lib.hid hu2; have HU3 := Lib.hid hu3; clear hu1 hu2
     have KWH := Lib.hid (fun W => rWhole_is t W hu3); clear hu3
     go_wp2_with fail
     refine (rRight_any ka ba s1 ga A B c d xs ys _ R1.out R2.out M4.out.1 M4.out.2.1 L18.out.1 L18.out.2.1).mono ?_
     rintro e w91 ⟨rfl, hbl⟩
     replace R1 := hmR R1 hbl
     replace R2 := hmR R2 hbl
     replace R3 := hmR R3 hbl
     replace R4 := hmR R4 hbl
     replace RX1 := hmR RX1 hbl
     replace RY1 := hmR RY1 hbl
     replace RX2 := hmR RX2 hbl
     replace RY2 := hmR RY2 hbl
     replace RX3 := hmR RX3 hbl
     replace RY3 := hmR RY3 hbl
     replace RX4 := hmR RX4 hbl
     replace RY4 := hmR RY4 hbl
     replace CX := hmB CX hbl
     replace CY := hmB CY hbl
     replace CL := hmB CL hbl
     replace HW := hmW HW hbl; clear hbl
     clear CX0 CX1 CX2 CX3 CX4 CX5 CY0 CY1 CY2 CY3 CY4 CY5
     obtain ⟨CX0, CX1, CX2, CX3, CX4, CX5⟩ := CX.out.cs6
     obtain ⟨CY0, CY1, CY2, CY3, CY4, CY5⟩ := CY.out.cs6
     rw [HU1.out]
     cases u1
     · go_wp2_with fail
       refine (aliveV _).mono ?_
       rintro e w92 ⟨rfl, hbl⟩
       replace R1 := hmR R1 hbl
       replace R2 := hmR R2 hbl
       replace R3 := hmR R3 hbl
       replace R4 := hmR R4 hbl
       replace RX1 := hmR RX1 hbl
       replace RY1 := hmR RY1 hbl
       replace RX2 := hmR RX2 hbl
       replace RY2 := hmR RY2 hbl
       replace RX3 := hmR RX3 hbl
       replace RY3 := hmR RY3 hbl
       replace RX4 := hmR RX4 hbl
       replace RY4 := hmR RY4 hbl
       replace CX := hmB CX hbl
       replace CY := hmB CY hbl
       replace CL := hmB CL hbl
       replace HW := hmW HW hbl; clear hbl
       clear CX0 CX1 CX2 CX3 CX4 CX5 CY0 CY1 CY2 CY3 CY4 CY5
       obtain ⟨CX0, CX1, CX2, CX3, CX4, CX5⟩ := CX.out.cs6
       obtain ⟨CY0, CY1, CY2, CY3, CY4, CY5⟩ := CY.out.cs6
       go_wp2
       go_ret
       exact ⟨rfl, HW.out⟩
     · go_wp2_with fail
       refine (rRight_any kb bb s2 gb A' B' c' d' xs' ys' _ R3.out R4.out M4.out.2.2.1 M4.out.2.2.2 L18.out.2.2.1 L18.out.2.2.2).mono ?_
       rintro e w92 ⟨rfl, hbl⟩
       replace R1 := hmR R1 hbl
       replace R2 := hmR R2 hbl
       replace R3 := hmR R3 hbl
       replace R4 := hmR R4 hbl
       replace RX1 := hmR RX1 hbl
       replace RY1 := hmR RY1 hbl
       replace RX2 := hmR RX2 hbl
       replace RY2 := hmR RY2 hbl
       replace RX3 := hmR RX3 hbl
       replace RY3 := hmR RY3 hbl
       replace RX4 := hmR RX4 hbl
       replace RY4 := hmR RY4 hbl
       replace CX := hmB CX hbl
       replace CY := hmB CY hbl
       replace CL := hmB CL hbl
       replace HW := hmW HW hbl; clear hbl
       clear CX0 CX1 CX2 CX3 CX4 CX5 CY0 CY1 CY2 CY3 CY4 CY5
       obtain ⟨CX0, CX1, CX2, CX3, CX4, CX5⟩ := CX.out.cs6
       obtain ⟨CY0, CY1, CY2, CY3, CY4, CY5⟩ := CY.out.cs6
       rw [HU2.out]
       cases u2
       · go_wp2_with fail
         refine (aliveV _).mono ?_
         rintro e w93 ⟨rfl, hbl⟩
         replace R1 := hmR R1 hbl
         replace R2 := hmR R2 hbl
         replace R3 := hmR R3 hbl
         replace R4 := hmR R4 hbl
         replace RX1 := hmR RX1 hbl
         replace RY1 := hmR RY1 hbl
         replace RX2 := hmR RX2 hbl
         replace RY2 := hmR RY2 hbl
         replace RX3 := hmR RX3 hbl
         replace RY3 := hmR RY3 hbl
         replace RX4 := hmR RX4 hbl
         replace RY4 := hmR RY4 hbl
         replace CX := hmB CX hbl
         replace CY := hmB CY hbl
         replace CL := hmB CL hbl
         replace HW := hmW HW hbl; clear hbl
         clear CX0 CX1 CX2 CX3 CX4 CX5 CY0 CY1 CY2 CY3 CY4 CY5
         obtain ⟨CX0, CX1, CX2, CX3, CX4, CX5⟩ := CX.out.cs6
         obtain ⟨CY0, CY1, CY2, CY3, CY4, CY5⟩ := CY.out.cs6
         go_wp2
         go_ret
         exact ⟨rfl, HW.out⟩
       · go_wp2_with fail
         refine (KWH.out _).mono ?_
         rintro e wv ⟨rfl, hwv⟩
         obtain rfl := hwv.symm
         clear hwv
         cases u3
         · go_wp2_with fail
           refine (aliveV _).mono ?_
           rintro e w93 ⟨rfl, hbl⟩
           replace R1 := hmR R1 hbl
           replace R2 := hmR R2 hbl
           replace R3 := hmR R3 hbl
           replace R4 := hmR R4 hbl
           replace RX1 := hmR RX1 hbl
           replace RY1 := hmR RY1 hbl
           replace RX2 := hmR RX2 hbl
           replace RY2 := hmR RY2 hbl
           replace RX3 := hmR RX3 hbl
           replace RY3 := hmR RY3 hbl
           replace RX4 := hmR RX4 hbl
           replace RY4 := hmR RY4 hbl
           replace CX := hmB CX hbl
           replace CY := hmB CY hbl
           replace CL := hmB CL hbl
           replace HW := hmW HW hbl; clear hbl
           clear CX0 CX1 CX2 CX3 CX4 CX5 CY0 CY1 CY2 CY3 CY4 CY5
           obtain ⟨CX0, CX1, CX2, CX3, CX4, CX5⟩ := CX.out.cs6
           obtain ⟨CY0, CY1, CY2, CY3, CY4, CY5⟩ := CY.out.cs6
           go_wp2
           go_ret
           exact ⟨rfl, HW.out⟩
         · have hka : ka = 3 ∨ ((ka == 3) = false ∧ ¬ ka = 3 ∧ (ka != 3) = true) := by by_cases h : ka = 3 <;> simp [h]
           rcases hka with rfl | ⟨a1, a2, a3⟩
           · have hkb : kb = 3 ∨ ((kb == 3) = false ∧ ¬ kb = 3 ∧ (kb != 3) = true) := by by_cases h : kb = 3 <;> simp [h]
             rcases hkb with rfl | ⟨a1, a2, a3⟩
             · go_wp2_with fail
               refine (HBn.out _ R1.out R2.out KC.out.1 KC.out.2.1 R3.out R4.out KC.out.2.2.1 KC.out.2.2.2).mono ?_
               rintro e w93 ⟨v1, v2, rfl, hn1, hn2, hbl⟩
               replace R1 := hmR R1 hbl
               replace R2 := hmR R2 hbl
               replace R3 := hmR R3 hbl
               replace R4 := hmR R4 hbl
               replace RX1 := hmR RX1 hbl
               replace RY1 := hmR RY1 hbl
               replace RX2 := hmR RX2 hbl
               replace RY2 := hmR RY2 hbl
               replace RX3 := hmR RX3 hbl
               replace RY3 := hmR RY3 hbl
               replace RX4 := hmR RX4 hbl
               replace RY4 := hmR RY4 hbl
               replace CX := hmB CX hbl
               replace CY := hmB CY hbl
               replace CL := hmB CL hbl
               replace HW := hmW HW hbl; clear hbl
               clear CX0 CX1 CX2 CX3 CX4 CX5 CY0 CY1 CY2 CY3 CY4 CY5
               obtain ⟨CX0, CX1, CX2, CX3, CX4, CX5⟩ := CX.out.cs6
               obtain ⟨CY0, CY1, CY2, CY3, CY4, CY5⟩ := CY.out.cs6
               have HNX5 := Lib.hid hn1; have HNY5 := Lib.hid hn2; clear hn1 hn2
               obtain ⟨X5, cx5, rfl, hcx, hrx⟩ := HNX5.out.row
               obtain ⟨Y5, cy5, rfl, hcy, hry⟩ := HNY5.out.row
               have RX5 := Lib.hid hrx; have RY5 := Lib.hid hry; have KX5 := Lib.hid (And.intro hcx hcy); clear hrx hry hcx hcy
               clear HNX5 HNY5
               go_upto_region 17 with fail
               obtain ⟨w51, hw51⟩ : ∃ w51, w51 = w93.alloc (.cells #[.int .i64 k5, .bool b5, .string t5, .bool q5.s, .slice X5 (limbs q5.n).length cx5, .slice Y5 (limbs q5.d).length cy5] 27) := ⟨_, rfl⟩
               rw [← hw51]
               obtain ⟨hbl, CN⟩ := sal1 hw51
               clear hw51
               replace R1 := hmR R1 hbl
               replace R2 := hmR R2 hbl
               replace R3 := hmR R3 hbl
               replace R4 := hmR R4 hbl
               replace RX1 := hmR RX1 hbl
               replace RY1 := hmR RY1 hbl
               replace RX2 := hmR RX2 hbl
               replace RY2 := hmR RY2 hbl
               replace RX3 := hmR RX3 hbl
               replace RY3 := hmR RY3 hbl
               replace RX4 := hmR RX4 hbl
               replace RY4 := hmR RY4 hbl
               replace RX5 := hmR RX5 hbl
               replace RY5 := hmR RY5 hbl
               replace CX := hmB CX hbl
               replace CY := hmB CY hbl
               replace CL := hmB CL hbl
               replace HW := hmW HW hbl; clear hbl
               clear CX0 CX1 CX2 CX3 CX4 CX5 CY0 CY1 CY2 CY3 CY4 CY5
               obtain ⟨CX0, CX1, CX2, CX3, CX4, CX5⟩ := CX.out.cs6
               obtain ⟨CY0, CY1, CY2, CY3, CY4, CY5⟩ := CY.out.cs6
               obtain ⟨CN0, CN1, CN2, CN3, CN4, CN5⟩ := CN.out.cs6
               go_wp2_with fail
               refine (HBm.out _ X5 Y5 cx5 cy5 RX5.out RY5.out KX5.out.1 KX5.out.2 R3.out R4.out KC.out.2.2.1 KC.out.2.2.2).mono ?_
               rintro e w94 ⟨v1, v2, rfl, hn1, hn2, hbl⟩
               replace R1 := hmR R1 hbl
               replace R2 := hmR R2 hbl
               replace R3 := hmR R3 hbl
               replace R4 := hmR R4 hbl
               replace RX1 := hmR RX1 hbl
               replace RY1 := hmR RY1 hbl
               replace RX2 := hmR RX2 hbl
               replace RY2 := hmR RY2 hbl
               replace RX3 := hmR RX3 hbl
               replace RY3 := hmR RY3 hbl
               replace RX4 := hmR RX4 hbl
               replace RY4 := hmR RY4 hbl
               replace RX5 := hmR RX5 hbl
               replace RY5 := hmR RY5 hbl
               replace CX := hmB CX hbl
               replace CY := hmB CY hbl
               replace CL := hmB CL hbl
               replace CN := hmB CN hbl
               replace HW := hmW HW hbl; clear hbl
               clear CX0 CX1 CX2 CX3 CX4 CX5 CY0 CY1 CY2 CY3 CY4 CY5 CN0 CN1 CN2 CN3 CN4 CN5
               obtain ⟨CX0, CX1, CX2, CX3, CX4, CX5⟩ := CX.out.cs6
               obtain ⟨CY0, CY1, CY2, CY3, CY4, CY5⟩ := CY.out.cs6
               obtain ⟨CN0, CN1, CN2, CN3, CN4, CN5⟩ := CN.out.cs6
               have HNX6 := Lib.hid hn1; have HNY6 := Lib.hid hn2; clear hn1 hn2
               obtain ⟨X6, cx6, rfl, hcx, hrx⟩ := HNX6.out.row
               obtain ⟨Y6, cy6, rfl, hcy, hry⟩ := HNY6.out.row
               have RX6 := Lib.hid hrx; have RY6 := Lib.hid hry; have KX6 := Lib.hid (And.intro hcx hcy); clear hrx hry hcx hcy
               clear HNX6 HNY6
               go_upto_region 18 with fail
               obtain ⟨w52, hw52⟩ : ∃ w52, w52 = w94.alloc (.cells #[.int .i64 k6, .bool b6, .string t6, .bool q6.s, .slice X6 (limbs q6.n).length cx6, .slice Y6 (limbs q6.d).length cy6] 27) := ⟨_, rfl⟩
               rw [← hw52]
               obtain ⟨hbl, CM⟩ := sal1 hw52
               clear hw52
               replace R1 := hmR R1 hbl
               replace R2 := hmR R2 hbl
               replace R3 := hmR R3 hbl
               replace R4 := hmR R4 hbl
               replace RX1 := hmR RX1 hbl
               replace RY1 := hmR RY1 hbl
               replace RX2 := hmR RX2 hbl
               replace RY2 := hmR RY2 hbl
               replace RX3 := hmR RX3 hbl
               replace RY3 := hmR RY3 hbl
               replace RX4 := hmR RX4 hbl
               replace RY4 := hmR RY4 hbl
               replace RX5 := hmR RX5 hbl
               replace RY5 := hmR RY5 hbl
               replace RX6 := hmR RX6 hbl
               replace RY6 := hmR RY6 hbl
               replace CX := hmB CX hbl
               replace CY := hmB CY hbl
               replace CL := hmB CL hbl
               replace CN := hmB CN hbl
               replace HW := hmW HW hbl; clear hbl
               clear CX0 CX1 CX2 CX3 CX4 CX5 CY0 CY1 CY2 CY3 CY4 CY5 CN0 CN1 CN2 CN3 CN4 CN5
               obtain ⟨CX0, CX1, CX2, CX3, CX4, CX5⟩ := CX.out.cs6
               obtain ⟨CY0, CY1, CY2, CY3, CY4, CY5⟩ := CY.out.cs6
               obtain ⟨CN0, CN1, CN2, CN3, CN4, CN5⟩ := CN.out.cs6
               obtain ⟨CM0, CM1, CM2, CM3, CM4, CM5⟩ := CM.out.cs6
               go_wp2_with fail
               refine (HBl.out _ R1.out R2.out KC.out.1 KC.out.2.1 R3.out R4.out KC.out.2.2.1 KC.out.2.2.2).mono ?_
               rintro e w95 ⟨v1, v2, rfl, hn1, hn2, hbl⟩
               replace R1 := hmR R1 hbl
               replace R2 := hmR R2 hbl
               replace R3 := hmR R3 hbl
               replace R4 := hmR R4 hbl
               replace RX1 := hmR RX1 hbl
               replace RY1 := hmR RY1 hbl
               replace RX2 := hmR RX2 hbl
               replace RY2 := hmR RY2 hbl
               replace RX3 := hmR RX3 hbl
               replace RY3 := hmR RY3 hbl
               replace RX4 := hmR RX4 hbl
               replace RY4 := hmR RY4 hbl
               replace RX5 := hmR RX5 hbl
               replace RY5 := hmR RY5 hbl
               replace RX6 := hmR RX6 hbl
               replace RY6 := hmR RY6 hbl
               replace CX := hmB CX hbl
               replace CY := hmB CY hbl
               replace CL := hmB CL hbl
               replace CN := hmB CN hbl
               replace CM := hmB CM hbl
               replace HW := hmW HW hbl; clear hbl
               clear CX0 CX1 CX2 CX3 CX4 CX5 CY0 CY1 CY2 CY3 CY4 CY5 CN0 CN1 CN2 CN3 CN4 CN5 CM0 CM1 CM2 CM3 CM4 CM5
               obtain ⟨CX0, CX1, CX2, CX3, CX4, CX5⟩ := CX.out.cs6
               obtain ⟨CY0, CY1, CY2, CY3, CY4, CY5⟩ := CY.out.cs6
               obtain ⟨CN0, CN1, CN2, CN3, CN4, CN5⟩ := CN.out.cs6
               obtain ⟨CM0, CM1, CM2, CM3, CM4, CM5⟩ := CM.out.cs6
               have HNX7 := Lib.hid hn1; have HNY7 := Lib.hid hn2; clear hn1 hn2
               obtain ⟨X7, cx7, rfl, hcx, hrx⟩ := HNX7.out.row
               obtain ⟨Y7, cy7, rfl, hcy, hry⟩ := HNY7.out.row
               have RX7 := Lib.hid hrx; have RY7 := Lib.hid hry; have KX7 := Lib.hid (And.intro hcx hcy); clear hrx hry hcx hcy
               clear HNX7 HNY7
               go_upto_region 19 with fail
               obtain ⟨w53, hw53⟩ : ∃ w53, w53 = w95.alloc (.cells #[.int .i64 k7, .bool b7, .string t7, .bool q7.s, .slice X7 (limbs q7.n).length cx7, .slice Y7 (limbs q7.d).length cy7] 27) := ⟨_, rfl⟩
               rw [← hw53]
               obtain ⟨hbl, CO⟩ := sal1 hw53
               clear hw53
               replace R1 := hmR R1 hbl
               replace R2 := hmR R2 hbl
               replace R3 := hmR R3 hbl
               replace R4 := hmR R4 hbl
               replace RX1 := hmR RX1 hbl
               replace RY1 := hmR RY1 hbl
               replace RX2 := hmR RX2 hbl
               replace RY2 := hmR RY2 hbl
               replace RX3 := hmR RX3 hbl
               replace RY3 := hmR RY3 hbl
               replace RX4 := hmR RX4 hbl
               replace RY4 := hmR RY4 hbl
               replace RX5 := hmR RX5 hbl
               replace RY5 := hmR RY5 hbl
               replace RX6 := hmR RX6 hbl
               replace RY6 := hmR RY6 hbl
               replace RX7 := hmR RX7 hbl
               replace RY7 := hmR RY7 hbl
               replace CX := hmB CX hbl
               replace CY := hmB CY hbl
               replace CL := hmB CL hbl
               replace CN := hmB CN hbl
               replace CM := hmB CM hbl
               replace HW := hmW HW hbl; clear hbl
               clear CX0 CX1 CX2 CX3 CX4 CX5 CY0 CY1 CY2 CY3 CY4 CY5 CN0 CN1 CN2 CN3 CN4 CN5 CM0 CM1 CM2 CM3 CM4 CM5
               obtain ⟨CX0, CX1, CX2, CX3, CX4, CX5⟩ := CX.out.cs6
               obtain ⟨CY0, CY1, CY2, CY3, CY4, CY5⟩ := CY.out.cs6
               obtain ⟨CN0, CN1, CN2, CN3, CN4, CN5⟩ := CN.out.cs6
               obtain ⟨CM0, CM1, CM2, CM3, CM4, CM5⟩ := CM.out.cs6
               obtain ⟨CO0, CO1, CO2, CO3, CO4, CO5⟩ := CO.out.cs6
               go_wp2_with fail
               refine (HBx.out _ X6 Y6 cx6 cy6 RX6.out RY6.out KX6.out.1 KX6.out.2 X7 Y7 cx7 cy7 RX7.out RY7.out KX7.out.1 KX7.out.2).mono ?_
               rintro e w96 ⟨v1, v2, rfl, hn1, hn2, hbl⟩
               replace R1 := hmR R1 hbl
               replace R2 := hmR R2 hbl
               replace R3 := hmR R3 hbl
               replace R4 := hmR R4 hbl
               replace RX1 := hmR RX1 hbl
               replace RY1 := hmR RY1 hbl
               replace RX2 := hmR RX2 hbl
               replace RY2 := hmR RY2 hbl
               replace RX3 := hmR RX3 hbl
               replace RY3 := hmR RY3 hbl
               replace RX4 := hmR RX4 hbl
               replace RY4 := hmR RY4 hbl
               replace RX5 := hmR RX5 hbl
               replace RY5 := hmR RY5 hbl
               replace RX6 := hmR RX6 hbl
               replace RY6 := hmR RY6 hbl
               replace RX7 := hmR RX7 hbl
               replace RY7 := hmR RY7 hbl
               replace CX := hmB CX hbl
               replace CY := hmB CY hbl
               replace CL := hmB CL hbl
               replace CN := hmB CN hbl
               replace CM := hmB CM hbl
               replace CO := hmB CO hbl
               replace HW := hmW HW hbl; clear hbl
               clear CX0 CX1 CX2 CX3 CX4 CX5 CY0 CY1 CY2 CY3 CY4 CY5 CN0 CN1 CN2 CN3 CN4 CN5 CM0 CM1 CM2 CM3 CM4 CM5 CO0 CO1 CO2 CO3 CO4 CO5
               obtain ⟨CX0, CX1, CX2, CX3, CX4, CX5⟩ := CX.out.cs6
               obtain ⟨CY0, CY1, CY2, CY3, CY4, CY5⟩ := CY.out.cs6
               obtain ⟨CN0, CN1, CN2, CN3, CN4, CN5⟩ := CN.out.cs6
               obtain ⟨CM0, CM1, CM2, CM3, CM4, CM5⟩ := CM.out.cs6
               obtain ⟨CO0, CO1, CO2, CO3, CO4, CO5⟩ := CO.out.cs6
               have HNX8 := Lib.hid hn1; have HNY8 := Lib.hid hn2; clear hn1 hn2
               obtain ⟨X8, cx8, rfl, hcx, hrx⟩ := HNX8.out.row
               obtain ⟨Y8, cy8, rfl, hcy, hry⟩ := HNY8.out.row
               have RX8 := Lib.hid hrx; have RY8 := Lib.hid hry; have KX8 := Lib.hid (And.intro hcx hcy); clear hrx hry hcx hcy
               clear HNX8 HNY8
               go_upto_region 20 with fail
               obtain ⟨w54, hw54⟩ : ∃ w54, w54 = w96.alloc (.cells #[.int .i64 k8, .bool b8, .string t8, .bool q8.s, .slice X8 (limbs q8.n).length cx8, .slice Y8 (limbs q8.d).length cy8] 27) := ⟨_, rfl⟩
               rw [← hw54]
               obtain ⟨hbl, CA⟩ := sal1 hw54
               clear hw54
               replace R1 := hmR R1 hbl
               replace R2 := hmR R2 hbl
               replace R3 := hmR R3 hbl
               replace R4 := hmR R4 hbl
               replace RX1 := hmR RX1 hbl
               replace RY1 := hmR RY1 hbl
               replace RX2 := hmR RX2 hbl
               replace RY2 := hmR RY2 hbl
               replace RX3 := hmR RX3 hbl
               replace RY3 := hmR RY3 hbl
               replace RX4 := hmR RX4 hbl
               replace RY4 := hmR RY4 hbl
               replace RX5 := hmR RX5 hbl
               replace RY5 := hmR RY5 hbl
               replace RX6 := hmR RX6 hbl
               replace RY6 := hmR RY6 hbl
               replace RX7 := hmR RX7 hbl
               replace RY7 := hmR RY7 hbl
               replace RX8 := hmR RX8 hbl
               replace RY8 := hmR RY8 hbl
               replace CX := hmB CX hbl
               replace CY := hmB CY hbl
               replace CL := hmB CL hbl
               replace CN := hmB CN hbl
               replace CM := hmB CM hbl
               replace CO := hmB CO hbl
               replace HW := hmW HW hbl; clear hbl
               clear CX0 CX1 CX2 CX3 CX4 CX5 CY0 CY1 CY2 CY3 CY4 CY5 CN0 CN1 CN2 CN3 CN4 CN5 CM0 CM1 CM2 CM3 CM4 CM5 CO0 CO1 CO2 CO3 CO4 CO5
               obtain ⟨CX0, CX1, CX2, CX3, CX4, CX5⟩ := CX.out.cs6
               obtain ⟨CY0, CY1, CY2, CY3, CY4, CY5⟩ := CY.out.cs6
               obtain ⟨CN0, CN1, CN2, CN3, CN4, CN5⟩ := CN.out.cs6
               obtain ⟨CM0, CM1, CM2, CM3, CM4, CM5⟩ := CM.out.cs6
               obtain ⟨CO0, CO1, CO2, CO3, CO4, CO5⟩ := CO.out.cs6
               obtain ⟨CA0, CA1, CA2, CA3, CA4, CA5⟩ := CA.out.cs6
               have he5 : e5 = 0 ∨ ((e5 != 0) = true ∧ ¬ e5 = 0) := by by_cases h : e5 = 0 <;> simp [h]
               rcases he5 with rfl | ⟨he5, hf5⟩
               · have he6 : e6 = 0 ∨ ((e6 != 0) = true ∧ ¬ e6 = 0) := by by_cases h : e6 = 0 <;> simp [h]
                 rcases he6 with rfl | ⟨he6, hf6⟩
                 · have he7 : e7 = 0 ∨ ((e7 != 0) = true ∧ ¬ e7 = 0) := by by_cases h : e7 = 0 <;> simp [h]
                   rcases he7 with rfl | ⟨he7, hf7⟩
                   · have he8 : e8 = 0 ∨ ((e8 != 0) = true ∧ ¬ e8 = 0) := by by_cases h : e8 = 0 <;> simp [h]
                     rcases he8 with rfl | ⟨he8, hf8⟩
                     · obtain ⟨hS, hT, nb, hb1, hb2, hb3, hb4⟩ := HFIN.out HU1.out HU2.out HU3.out (by simp) (by simp) (by simp) (by simp) (by simp) (by simp)
                       have HS9 := Lib.hid hS; have HT9 := Lib.hid hT; have HNB := Lib.hid (And.intro hb2 (And.intro hb3 hb4)); clear hS hT hb2 hb3 hb4
                       have HB1 := Lib.hid hb1; clear hb1
                       go_upto_region 22 with fail
                       have HCV := Lib.hid (show cmpI (q7.n : Int) (nb : Int) < 0 from cmpI_lt0.2 HNB.out.2.1)
                       obtain ⟨cv, hcv⟩ : ∃ cv, cmpI (q7.n : Int) (nb : Int) = cv := ⟨_, rfl⟩
                       have HCE := Lib.hid hcv; clear hcv
                       refine wp_region_typedG 20 (TOf [VIs (.bool true),
                        VIs (.bool true),
                        VIs (.pointer (some ⟨w96.heap.size, 3, none⟩)),
                        VIs (.agg #[.bool q8.s, .slice X8 (limbs q8.n).length cx8, .slice Y8 (limbs q8.d).length cy8]),
                        VIs (.pointer (some ⟨w.heap.size, 3, none⟩)),
                        VIs (.agg #[.bool ga, .slice A xs.length c, .slice B ys.length d]),
                        VIs (.bool true),
                        VIs (.bool true),
                        VIs (.bool true),
                        VIs (.pointer (some ⟨w95.heap.size, 3, none⟩)),
                        VIs (.pointer (some ⟨w95.heap.size, 4, none⟩)),
                        VIs (.slice X7 (limbs q7.n).length cx7),
                        VIs (.string (dec q7.n)),
                        VIs (.pointer (some ⟨w.heap.size + 1, 3, none⟩)),
                        VIs (.pointer (some ⟨w.heap.size + 1, 4, none⟩)),
                        VIs (.slice A' xs'.length c'),
                        VIs (.string (dec nb)),
                        VIs (.int .i64 cv),
                        VIs (.bool true),
                        VIs (.bool true)]) (by kernel_rfl) (by kernel_rfl) (by kernel_rfl) (LiftAll.at_ (.cons (VIs.lift _) (.cons (VIs.lift _) (.cons (VIs.lift _) (.cons (VIs.lift _) (.cons (VIs.lift _) (.cons (VIs.lift _) (.cons (VIs.lift _) (.cons (VIs.lift _) (.cons (VIs.lift _) (.cons (VIs.lift _) (.cons (VIs.lift _) (.cons (VIs.lift _) (.cons (VIs.lift _) (.cons (VIs.lift _) (.cons (VIs.lift _) (.cons (VIs.lift _) (.cons (VIs.lift _) (.cons (VIs.lift _) (.cons (VIs.lift _) (.cons (VIs.lift _) .nil))))))))))))))))))))) (stepsG_all (stepsG_cons ?_ (stepsG_cons ?_ (stepsG_cons ?_ (stepsG_cons ?_ (stepsG_cons ?_ (stepsG_cons ?_ (stepsG_cons ?_ (stepsG_cons ?_ (stepsG_cons ?_ (stepsG_cons ?_ (stepsG_cons ?_ (stepsG_cons ?_ (stepsG_cons ?_ (stepsG_cons ?_ (stepsG_cons ?_ (stepsG_cons ?_ (stepsG_cons ?_ (stepsG_cons ?_ (stepsG_cons ?_ (stepsG_cons ?_ stepsG_zero))))))))))))))))))))) ?fin
                       · refine stepG_plain rfl ?_
                         intro a0 w9 K9 hF hB hK hC
                         have HB9 := Lib.hid hB
                         clear hF hB hK
                         go_simp
                         refine (aliveV _).mono ?_
                         rintro e w7 ⟨rfl, hbl⟩
                         exact hC _ _ hbl fun _ _ => rfl
                       · refine stepG_plain rfl ?_
                         intro a0 w9 K9 hF hB hK hC
                         have e170 := depV hK 0 rfl rfl rfl rfl
                         clear hF hB hK
                         go_simp
                         exact hC _ _ (bR _) fun _ _ => rfl
                       · intro a0 w9 K9 hF hB hK hC
                         obtain ⟨vg, eg, zg⟩ := dep hK 0 (g := .guard) (j := 1) (k := 171) rfl rfl rfl
                         have zg : vg = .bool true := zg
                         subst zg
                         refine guard_in (j := 1) (k := 171) (want := true) rfl rfl eg rfl ?_
                         have b24 := hF.base (k := 24) (by kernel_rfl) rfl
                         clear hF hB hK
                         go_simp
                         exact hC _ _ (bR _) fun _ _ => rfl
                       · intro a0 w9 K9 hF hB hK hC
                         obtain ⟨vg, eg, zg⟩ := dep hK 1 (g := .guard) (j := 1) (k := 171) rfl rfl rfl
                         have zg : vg = .bool true := zg
                         subst zg
                         refine guard_in (j := 1) (k := 171) (want := true) rfl rfl eg rfl ?_
                         have e172 := depV hK 0 rfl rfl rfl rfl
                         have x90 := (CA.out.below hB CA.out.lt).c0
                         have x91 := (CA.out.below hB CA.out.lt).c1
                         have x92 := (CA.out.below hB CA.out.lt).c2
                         have x93 := (CA.out.below hB CA.out.lt).c3
                         have x94 := (CA.out.below hB CA.out.lt).c4
                         have x95 := (CA.out.below hB CA.out.lt).c5
                         clear hF hB hK
                         go_simp
                         exact hC _ _ (bR _) fun _ _ => rfl
                       · intro a0 w9 K9 hF hB hK hC
                         obtain ⟨vg, eg, zg⟩ := dep hK 0 (g := .guard) (j := 1) (k := 171) rfl rfl rfl
                         have zg : vg = .bool true := zg
                         subst zg
                         refine guard_in (j := 1) (k := 171) (want := true) rfl rfl eg rfl ?_
                         have b5 := hF.base (k := 5) (by kernel_rfl) rfl
                         clear hF hB hK
                         go_simp
                         exact hC _ _ (bR _) fun _ _ => rfl
                       · intro a0 w9 K9 hF hB hK hC
                         obtain ⟨vg, eg, zg⟩ := dep hK 1 (g := .guard) (j := 1) (k := 171) rfl rfl rfl
                         have zg : vg = .bool true := zg
                         subst zg
                         refine guard_in (j := 1) (k := 171) (want := true) rfl rfl eg rfl ?_
                         have e174 := depV hK 0 rfl rfl rfl rfl
                         have x90 := (CX.out.below hB CX.out.lt).c0
                         have x91 := (CX.out.below hB CX.out.lt).c1
                         have x92 := (CX.out.below hB CX.out.lt).c2
                         have x93 := (CX.out.below hB CX.out.lt).c3
                         have x94 := (CX.out.below hB CX.out.lt).c4
                         have x95 := (CX.out.below hB CX.out.lt).c5
                         clear hF hB hK
                         go_simp
                         exact hC _ _ (bR _) fun _ _ => rfl
                       · intro a0 w9 K9 hF hB hK hC
                         obtain ⟨vg, eg, zg⟩ := dep hK 3 (g := .guard) (j := 1) (k := 171) rfl rfl rfl
                         have zg : vg = .bool true := zg
                         subst zg
                         refine guard_in (j := 1) (k := 171) (want := true) rfl rfl eg rfl ?_
                         have e173 := depV hK 0 rfl rfl rfl rfl
                         have e175 := depV hK 1 rfl rfl rfl rfl
                         have HB9 := Lib.hid hB
                         clear hF hB hK
                         go_simp
                         refine (refSame_ok q8.s ga X8 Y8 A B cx8 cy8 c d (limbs q8.n) (limbs q8.d) xs ys _ (RX8.out.below HB9.out) (R1.out.below HB9.out) HS9.out.1 (RY8.out.below HB9.out) (R2.out.below HB9.out) HS9.out.2 HT9.out).mono ?_
                         rintro e w7 ⟨rfl, hbl⟩
                         exact hC _ _ hbl fun _ _ => rfl
                       · refine stepG_plain rfl ?_
                         intro a0 w9 K9 hF hB hK hC
                         have e171 := depV hK 0 rfl rfl rfl rfl
                         have e176 := depV hK 1 rfl rfl rfl rfl
                         have HB9 := Lib.hid hB
                         clear hF hB hK
                         go_simp
                         exact hC _ _ (bR _) fun _ _ => rfl
                       · refine stepG_plain rfl ?_
                         intro a0 w9 K9 hF hB hK hC
                         have e177 := depV hK 0 rfl rfl rfl rfl
                         clear hF hB hK
                         go_simp
                         exact hC _ _ (bR _) fun _ _ => rfl
                       · intro a0 w9 K9 hF hB hK hC
                         obtain ⟨vg, eg, zg⟩ := dep hK 0 (g := .guard) (j := 8) (k := 178) rfl rfl rfl
                         have zg : vg = .bool true := zg
                         subst zg
                         refine guard_in (j := 8) (k := 178) (want := true) rfl rfl eg rfl ?_
                         have b23 := hF.base (k := 23) (by kernel_rfl) rfl
                         clear hF hB hK
                         go_simp
                         exact hC _ _ (bR _) fun _ _ => rfl
                       · intro a0 w9 K9 hF hB hK hC
                         obtain ⟨vg, eg, zg⟩ := dep hK 1 (g := .guard) (j := 8) (k := 178) rfl rfl rfl
                         have zg : vg = .bool true := zg
                         subst zg
                         refine guard_in (j := 8) (k := 178) (want := true) rfl rfl eg rfl ?_
                         have e179 := depV hK 0 rfl rfl rfl rfl
                         clear hF hB hK
                         go_simp
                         exact hC _ _ (bR _) fun _ _ => rfl
                       · intro a0 w9 K9 hF hB hK hC
                         obtain ⟨vg, eg, zg⟩ := dep hK 1 (g := .guard) (j := 8) (k := 178) rfl rfl rfl
                         have zg : vg = .bool true := zg
                         subst zg
                         refine guard_in (j := 8) (k := 178) (want := true) rfl rfl eg rfl ?_
                         have e180 := depV hK 0 rfl rfl rfl rfl
                         have x9 := (CO.out.below hB CO.out.lt).c4
                         clear hF hB hK
                         go_simp
                         exact hC _ _ (bR _) fun _ _ => rfl
                       · intro a0 w9 K9 hF hB hK hC
                         obtain ⟨vg, eg, zg⟩ := dep hK 2 (g := .guard) (j := 8) (k := 178) rfl rfl rfl
                         have zg : vg = .bool true := zg
                         subst zg
                         refine guard_in (j := 8) (k := 178) (want := true) rfl rfl eg rfl ?_
                         have e181 := depV hK 0 rfl rfl rfl rfl
                         have HB9 := Lib.hid hB
                         clear hF hB hK
                         go_simp
                         refine (text_num X7 cx7 q7.n _ (RX7.out.below HB9.out) HNB.out.2.2).mono ?_
                         rintro e w7 ⟨rfl, hbl⟩
                         exact hC _ _ hbl fun _ _ => rfl
                       · intro a0 w9 K9 hF hB hK hC
                         obtain ⟨vg, eg, zg⟩ := dep hK 0 (g := .guard) (j := 8) (k := 178) rfl rfl rfl
                         have zg : vg = .bool true := zg
                         subst zg
                         refine guard_in (j := 8) (k := 178) (want := true) rfl rfl eg rfl ?_
                         have b6 := hF.base (k := 6) (by kernel_rfl) rfl
                         clear hF hB hK
                         go_simp
                         exact hC _ _ (bR _) fun _ _ => rfl
                       · intro a0 w9 K9 hF hB hK hC
                         obtain ⟨vg, eg, zg⟩ := dep hK 1 (g := .guard) (j := 8) (k := 178) rfl rfl rfl
                         have zg : vg = .bool true := zg
                         subst zg
                         refine guard_in (j := 8) (k := 178) (want := true) rfl rfl eg rfl ?_
                         have e183 := depV hK 0 rfl rfl rfl rfl
                         clear hF hB hK
                         go_simp
                         exact hC _ _ (bR _) fun _ _ => rfl
                       · intro a0 w9 K9 hF hB hK hC
                         obtain ⟨vg, eg, zg⟩ := dep hK 1 (g := .guard) (j := 8) (k := 178) rfl rfl rfl
                         have zg : vg = .bool true := zg
                         subst zg
                         refine guard_in (j := 8) (k := 178) (want := true) rfl rfl eg rfl ?_
                         have e184 := depV hK 0 rfl rfl rfl rfl
                         have x9 := (CY.out.below hB CY.out.lt).c4
                         clear hF hB hK
                         go_simp
                         exact hC _ _ (bR _) fun _ _ => rfl
                       · intro a0 w9 K9 hF hB hK hC
                         obtain ⟨vg, eg, zg⟩ := dep hK 2 (g := .guard) (j := 8) (k := 178) rfl rfl rfl
                         have zg : vg = .bool true := zg
                         subst zg
                         refine guard_in (j := 8) (k := 178) (want := true) rfl rfl eg rfl ?_
                         have e185 := depV hK 0 rfl rfl rfl rfl
                         have HB9 := Lib.hid hB
                         clear hF hB hK
                         go_simp
                         refine (text_is15 HB1.out (R3.out.below HB9.out) HNB.out.1 c' _).mono ?_
                         rintro e w7 ⟨rfl, hbl⟩
                         exact hC _ _ hbl fun _ _ => rfl
                       · intro a0 w9 K9 hF hB hK hC
                         obtain ⟨vg, eg, zg⟩ := dep hK 3 (g := .guard) (j := 8) (k := 178) rfl rfl rfl
                         have zg : vg = .bool true := zg
                         subst zg
                         refine guard_in (j := 8) (k := 178) (want := true) rfl rfl eg rfl ?_
                         have e182 := depV hK 0 rfl rfl rfl rfl
                         have e186 := depV hK 1 rfl rfl rfl rfl
                         have HB9 := Lib.hid hB
                         clear hF hB hK
                         go_simp
                         refine (cmp_v HCE.out _).mono ?_
                         rintro e w7 ⟨rfl, hbl⟩
                         exact hC _ _ hbl fun _ _ => rfl
                       · intro a0 w9 K9 hF hB hK hC
                         obtain ⟨vg, eg, zg⟩ := dep hK 1 (g := .guard) (j := 8) (k := 178) rfl rfl rfl
                         have zg : vg = .bool true := zg
                         subst zg
                         refine guard_in (j := 8) (k := 178) (want := true) rfl rfl eg rfl ?_
                         have e187 := depV hK 0 rfl rfl rfl rfl
                         have HB9 := Lib.hid hB
                         clear hF hB hK
                         go_simp
                         exact hC _ _ (bel_refl _) fun _ _ => congrArg Value.bool (decide_eq_true (by rw [← HCE.out]; exact HCV.out))
                       · refine stepG_plain rfl ?_
                         intro a0 w9 K9 hF hB hK hC
                         have e178 := depV hK 0 rfl rfl rfl rfl
                         have e188 := depV hK 1 rfl rfl rfl rfl
                         have HB9 := Lib.hid hB
                         clear hF hB hK
                         go_simp
                         exact hC _ _ (bR _) fun _ _ => rfl
                       case fin =>
                        intro a0 w9 hF hB hK
                        have b5 := hF.base (k := 5) (by kernel_rfl) rfl
                        have b6 := hF.base (k := 6) (by kernel_rfl) rfl
                        have b23 := hF.base (k := 23) (by kernel_rfl) rfl
                        have b24 := hF.base (k := 24) (by kernel_rfl) rfl
                        have hsz := hF.size
                        have hdf := hF.defers
                        clear hF
                        obtain ⟨v189, e189, z189⟩ := known hK 19 (k := 189) (by decide) rfl
                        have z189 : v189 = .bool true := z189
                        subst z189
                        clear hK
                        obtain ⟨⟨l0⟩, df⟩ := a0
                        have hs0 : l0.length = 190 := hsz
                        clear hsz
                        replace hdf : df = _ := hdf
                        subst hdf
                        obtain ⟨u, rfl⟩ := lits_190 hs0
                        clear hs0
                        generalize hAr : (Array.mk [u 0, u 1, u 2, u 3, u 4, u 5, u 6, u 7, u 8, u 9, u 10, u 11, u 12, u 13, u 14, u 15, u 16, u 17, u 18, u 19, u 20, u 21, u 22, u 23, u 24, u 25, u 26, u 27, u 28, u 29, u 30, u 31, u 32, u 33, u 34, u 35, u 36, u 37, u 38, u 39, u 40, u 41, u 42, u 43, u 44, u 45, u 46, u 47, u 48, u 49, u 50, u 51, u 52, u 53, u 54, u 55, u 56, u 57, u 58, u 59, u 60, u 61, u 62, u 63, u 64, u 65, u 66, u 67, u 68, u 69, u 70, u 71, u 72, u 73, u 74, u 75, u 76, u 77, u 78, u 79, u 80, u 81, u 82, u 83, u 84, u 85, u 86, u 87, u 88, u 89, u 90, u 91, u 92, u 93, u 94, u 95, u 96, u 97, u 98, u 99, u 100, u 101, u 102, u 103, u 104, u 105, u 106, u 107, u 108, u 109, u 110, u 111, u 112, u 113, u 114, u 115, u 116, u 117, u 118, u 119, u 120, u 121, u 122, u 123, u 124, u 125, u 126, u 127, u 128, u 129, u 130, u 131, u 132, u 133, u 134, u 135, u 136, u 137, u 138, u 139, u 140, u 141, u 142, u 143, u 144, u 145, u 146, u 147, u 148, u 149, u 150, u 151, u 152, u 153, u 154, u 155, u 156, u 157, u 158, u 159, u 160, u 161, u 162, u 163, u 164, u 165, u 166, u 167, u 168, u 169, u 170, u 171, u 172, u 173, u 174, u 175, u 176, u 177, u 178, u 179, u 180, u 181, u 182, u 183, u 184, u 185, u 186, u 187, u 188, u 189] : Array Value) = ar
                        obtain rfl : ar = #[u 0, u 1, u 2, u 3, u 4, u 5, u 6, u 7, u 8, u 9, u 10, u 11, u 12, u 13, u 14, u 15, u 16, u 17, u 18, u 19, u 20, u 21, u 22, u 23, u 24, u 25, u 26, u 27, u 28, u 29, u 30, u 31, u 32, u 33, u 34, u 35, u 36, u 37, u 38, u 39, u 40, u 41, u 42, u 43, u 44, u 45, u 46, u 47, u 48, u 49, u 50, u 51, u 52, u 53, u 54, u 55, u 56, u 57, u 58, u 59, u 60, u 61, u 62, u 63, u 64, u 65, u 66, u 67, u 68, u 69, u 70, u 71, u 72, u 73, u 74, u 75, u 76, u 77, u 78, u 79, u 80, u 81, u 82, u 83, u 84, u 85, u 86, u 87, u 88, u 89, u 90, u 91, u 92, u 93, u 94, u 95, u 96, u 97, u 98, u 99, u 100, u 101, u 102, u 103, u 104, u 105, u 106, u 107, u 108, u 109, u 110, u 111, u 112, u 113, u 114, u 115, u 116, u 117, u 118, u 119, u 120, u 121, u 122, u 123, u 124, u 125, u 126, u 127, u 128, u 129, u 130, u 131, u 132, u 133, u 134, u 135, u 136, u 137, u 138, u 139, u 140, u 141, u 142, u 143, u 144, u 145, u 146, u 147, u 148, u 149, u 150, u 151, u 152, u 153, u 154, u 155, u 156, u 157, u 158, u 159, u 160, u 161, u 162, u 163, u 164, u 165, u 166, u 167, u 168, u 169, u 170, u 171, u 172, u 173, u 174, u 175, u 176, u 177, u 178, u 179, u 180, u 181, u 182, u 183, u 184, u 185, u 186, u 187, u 188, u 189] := hAr.symm
                        have q5 : u 5 = _ := Option.some.inj b5
                        clear b5
                        have q6 : u 6 = _ := Option.some.inj b6
                        clear b6
                        have q23 : u 23 = _ := Option.some.inj b23
                        clear b23
                        have q24 : u 24 = _ := Option.some.inj b24
                        clear b24
                        have q189 : u 189 = _ := Option.some.inj e189
                        clear e189
                        rw [q5, q6, q23, q24, q189]
                        clear q5 q6 q23 q24 q189
                        have hbl := hB; clear hB
                        replace R1 := hmR R1 hbl
                        replace R2 := hmR R2 hbl
                        replace R3 := hmR R3 hbl
                        replace R4 := hmR R4 hbl
                        replace RX1 := hmR RX1 hbl
                        replace RY1 := hmR RY1 hbl
                        replace RX2 := hmR RX2 hbl
                        replace RY2 := hmR RY2 hbl
                        replace RX3 := hmR RX3 hbl
                        replace RY3 := hmR RY3 hbl
                        replace RX4 := hmR RX4 hbl
                        replace RY4 := hmR RY4 hbl
                        replace RX5 := hmR RX5 hbl
                        replace RY5 := hmR RY5 hbl
                        replace RX6 := hmR RX6 hbl
                        replace RY6 := hmR RY6 hbl
                        replace RX7 := hmR RX7 hbl
                        replace RY7 := hmR RY7 hbl
                        replace RX8 := hmR RX8 hbl
                        replace RY8 := hmR RY8 hbl
                        replace CX := hmB CX hbl
                        replace CY := hmB CY hbl
                        replace CL := hmB CL hbl
                        replace CN := hmB CN hbl
                        replace CM := hmB CM hbl
                        replace CO := hmB CO hbl
                        replace CA := hmB CA hbl
                        replace HW := hmW HW hbl; clear hbl
                        clear CX0 CX1 CX2 CX3 CX4 CX5 CY0 CY1 CY2 CY3 CY4 CY5 CN0 CN1 CN2 CN3 CN4 CN5 CM0 CM1 CM2 CM3 CM4 CM5 CO0 CO1 CO2 CO3 CO4 CO5 CA0 CA1 CA2 CA3 CA4 CA5
                        obtain ⟨CX0, CX1, CX2, CX3, CX4, CX5⟩ := CX.out.cs6
                        obtain ⟨CY0, CY1, CY2, CY3, CY4, CY5⟩ := CY.out.cs6
                        obtain ⟨CN0, CN1, CN2, CN3, CN4, CN5⟩ := CN.out.cs6
                        obtain ⟨CM0, CM1, CM2, CM3, CM4, CM5⟩ := CM.out.cs6
                        obtain ⟨CO0, CO1, CO2, CO3, CO4, CO5⟩ := CO.out.cs6
                        obtain ⟨CA0, CA1, CA2, CA3, CA4, CA5⟩ := CA.out.cs6
                        simp only [List.drop_succ_cons, List.drop_zero]
                        go_wp2
                        go_ret
                        exact ⟨rfl, HW.out⟩
                     · go_wp2_with fail
                       refine (aliveV _).mono ?_
                       rintro e w97 ⟨rfl, hbl⟩
                       replace R1 := hmR R1 hbl
                       replace R2 := hmR R2 hbl
                       replace R3 := hmR R3 hbl
                       replace R4 := hmR R4 hbl
                       replace RX1 := hmR RX1 hbl
                       replace RY1 := hmR RY1 hbl
                       replace RX2 := hmR RX2 hbl
                       replace RY2 := hmR RY2 hbl
                       replace RX3 := hmR RX3 hbl
                       replace RY3 := hmR RY3 hbl
                       replace RX4 := hmR RX4 hbl
                       replace RY4 := hmR RY4 hbl
                       replace RX5 := hmR RX5 hbl
                       replace RY5 := hmR RY5 hbl
                       replace RX6 := hmR RX6 hbl
                       replace RY6 := hmR RY6 hbl
                       replace RX7 := hmR RX7 hbl
                       replace RY7 := hmR RY7 hbl
                       replace RX8 := hmR RX8 hbl
                       replace RY8 := hmR RY8 hbl
                       replace CX := hmB CX hbl
                       replace CY := hmB CY hbl
                       replace CL := hmB CL hbl
                       replace CN := hmB CN hbl
                       replace CM := hmB CM hbl
                       replace CO := hmB CO hbl
                       replace CA := hmB CA hbl
                       replace HW := hmW HW hbl; clear hbl
                       clear CX0 CX1 CX2 CX3 CX4 CX5 CY0 CY1 CY2 CY3 CY4 CY5 CN0 CN1 CN2 CN3 CN4 CN5 CM0 CM1 CM2 CM3 CM4 CM5 CO0 CO1 CO2 CO3 CO4 CO5 CA0 CA1 CA2 CA3 CA4 CA5
                       obtain ⟨CX0, CX1, CX2, CX3, CX4, CX5⟩ := CX.out.cs6
                       obtain ⟨CY0, CY1, CY2, CY3, CY4, CY5⟩ := CY.out.cs6
                       obtain ⟨CN0, CN1, CN2, CN3, CN4, CN5⟩ := CN.out.cs6
                       obtain ⟨CM0, CM1, CM2, CM3, CM4, CM5⟩ := CM.out.cs6
                       obtain ⟨CO0, CO1, CO2, CO3, CO4, CO5⟩ := CO.out.cs6
                       obtain ⟨CA0, CA1, CA2, CA3, CA4, CA5⟩ := CA.out.cs6
                       go_wp2
                       go_ret
                       exact ⟨rfl, HW.out⟩
                   · go_wp2_with fail
                     refine (aliveV _).mono ?_
                     rintro e w97 ⟨rfl, hbl⟩
                     replace R1 := hmR R1 hbl
                     replace R2 := hmR R2 hbl
                     replace R3 := hmR R3 hbl
                     replace R4 := hmR R4 hbl
                     replace RX1 := hmR RX1 hbl
                     replace RY1 := hmR RY1 hbl
                     replace RX2 := hmR RX2 hbl
                     replace RY2 := hmR RY2 hbl
                     replace RX3 := hmR RX3 hbl
                     replace RY3 := hmR RY3 hbl
                     replace RX4 := hmR RX4 hbl
                     replace RY4 := hmR RY4 hbl
                     replace RX5 := hmR RX5 hbl
                     replace RY5 := hmR RY5 hbl
                     replace RX6 := hmR RX6 hbl
                     replace RY6 := hmR RY6 hbl
                     replace RX7 := hmR RX7 hbl
                     replace RY7 := hmR RY7 hbl
                     replace RX8 := hmR RX8 hbl
                     replace RY8 := hmR RY8 hbl
                     replace CX := hmB CX hbl
                     replace CY := hmB CY hbl
                     replace CL := hmB CL hbl
                     replace CN := hmB CN hbl
                     replace CM := hmB CM hbl
                     replace CO := hmB CO hbl
                     replace CA := hmB CA hbl
                     replace HW := hmW HW hbl; clear hbl
                     clear CX0 CX1 CX2 CX3 CX4 CX5 CY0 CY1 CY2 CY3 CY4 CY5 CN0 CN1 CN2 CN3 CN4 CN5 CM0 CM1 CM2 CM3 CM4 CM5 CO0 CO1 CO2 CO3 CO4 CO5 CA0 CA1 CA2 CA3 CA4 CA5
                     obtain ⟨CX0, CX1, CX2, CX3, CX4, CX5⟩ := CX.out.cs6
                     obtain ⟨CY0, CY1, CY2, CY3, CY4, CY5⟩ := CY.out.cs6
                     obtain ⟨CN0, CN1, CN2, CN3, CN4, CN5⟩ := CN.out.cs6
                     obtain ⟨CM0, CM1, CM2, CM3, CM4, CM5⟩ := CM.out.cs6
                     obtain ⟨CO0, CO1, CO2, CO3, CO4, CO5⟩ := CO.out.cs6
                     obtain ⟨CA0, CA1, CA2, CA3, CA4, CA5⟩ := CA.out.cs6
                     go_wp2
                     go_ret
                     exact ⟨rfl, HW.out⟩
                 · go_wp2_with fail
                   refine (aliveV _).mono ?_
                   rintro e w97 ⟨rfl, hbl⟩
                   replace R1 := hmR R1 hbl
                   replace R2 := hmR R2 hbl
                   replace R3 := hmR R3 hbl
                   replace R4 := hmR R4 hbl
                   replace RX1 := hmR RX1 hbl
                   replace RY1 := hmR RY1 hbl
                   replace RX2 := hmR RX2 hbl
                   replace RY2 := hmR RY2 hbl
                   replace RX3 := hmR RX3 hbl
                   replace RY3 := hmR RY3 hbl
                   replace RX4 := hmR RX4 hbl
                   replace RY4 := hmR RY4 hbl
                   replace RX5 := hmR RX5 hbl
                   replace RY5 := hmR RY5 hbl
                   replace RX6 := hmR RX6 hbl
                   replace RY6 := hmR RY6 hbl
                   replace RX7 := hmR RX7 hbl
                   replace RY7 := hmR RY7 hbl
                   replace RX8 := hmR RX8 hbl
                   replace RY8 := hmR RY8 hbl
                   replace CX := hmB CX hbl
                   replace CY := hmB CY hbl
                   replace CL := hmB CL hbl
                   replace CN := hmB CN hbl
                   replace CM := hmB CM hbl
                   replace CO := hmB CO hbl
                   replace CA := hmB CA hbl
                   replace HW := hmW HW hbl; clear hbl
                   clear CX0 CX1 CX2 CX3 CX4 CX5 CY0 CY1 CY2 CY3 CY4 CY5 CN0 CN1 CN2 CN3 CN4 CN5 CM0 CM1 CM2 CM3 CM4 CM5 CO0 CO1 CO2 CO3 CO4 CO5 CA0 CA1 CA2 CA3 CA4 CA5
                   obtain ⟨CX0, CX1, CX2, CX3, CX4, CX5⟩ := CX.out.cs6
                   obtain ⟨CY0, CY1, CY2, CY3, CY4, CY5⟩ := CY.out.cs6
                   obtain ⟨CN0, CN1, CN2, CN3, CN4, CN5⟩ := CN.out.cs6
                   obtain ⟨CM0, CM1, CM2, CM3, CM4, CM5⟩ := CM.out.cs6
                   obtain ⟨CO0, CO1, CO2, CO3, CO4, CO5⟩ := CO.out.cs6
                   obtain ⟨CA0, CA1, CA2, CA3, CA4, CA5⟩ := CA.out.cs6
                   go_wp2
                   go_ret
                   exact ⟨rfl, HW.out⟩
               · go_wp2_with fail
                 refine (aliveV _).mono ?_
                 rintro e w97 ⟨rfl, hbl⟩
                 replace R1 := hmR R1 hbl
                 replace R2 := hmR R2 hbl
                 replace R3 := hmR R3 hbl
                 replace R4 := hmR R4 hbl
                 replace RX1 := hmR RX1 hbl
                 replace RY1 := hmR RY1 hbl
                 replace RX2 := hmR RX2 hbl
                 replace RY2 := hmR RY2 hbl
                 replace RX3 := hmR RX3 hbl
                 replace RY3 := hmR RY3 hbl
                 replace RX4 := hmR RX4 hbl
                 replace RY4 := hmR RY4 hbl
                 replace RX5 := hmR RX5 hbl
                 replace RY5 := hmR RY5 hbl
                 replace RX6 := hmR RX6 hbl
                 replace RY6 := hmR RY6 hbl
                 replace RX7 := hmR RX7 hbl
                 replace RY7 := hmR RY7 hbl
                 replace RX8 := hmR RX8 hbl
                 replace RY8 := hmR RY8 hbl
                 replace CX := hmB CX hbl
                 replace CY := hmB CY hbl
                 replace CL := hmB CL hbl
                 replace CN := hmB CN hbl
                 replace CM := hmB CM hbl
                 replace CO := hmB CO hbl
                 replace CA := hmB CA hbl
                 replace HW := hmW HW hbl; clear hbl
                 clear CX0 CX1 CX2 CX3 CX4 CX5 CY0 CY1 CY2 CY3 CY4 CY5 CN0 CN1 CN2 CN3 CN4 CN5 CM0 CM1 CM2 CM3 CM4 CM5 CO0 CO1 CO2 CO3 CO4 CO5 CA0 CA1 CA2 CA3 CA4 CA5
                 obtain ⟨CX0, CX1, CX2, CX3, CX4, CX5⟩ := CX.out.cs6
                 obtain ⟨CY0, CY1, CY2, CY3, CY4, CY5⟩ := CY.out.cs6
                 obtain ⟨CN0, CN1, CN2, CN3, CN4, CN5⟩ := CN.out.cs6
                 obtain ⟨CM0, CM1, CM2, CM3, CM4, CM5⟩ := CM.out.cs6
                 obtain ⟨CO0, CO1, CO2, CO3, CO4, CO5⟩ := CO.out.cs6
                 obtain ⟨CA0, CA1, CA2, CA3, CA4, CA5⟩ := CA.out.cs6
                 go_wp2
                 go_ret
                 exact ⟨rfl, HW.out⟩
             · go_wp2_with fail
               refine (aliveV _).mono ?_
               rintro e w93 ⟨rfl, hbl⟩
               replace R1 := hmR R1 hbl
               replace R2 := hmR R2 hbl
               replace R3 := hmR R3 hbl
               replace R4 := hmR R4 hbl
               replace RX1 := hmR RX1 hbl
               replace RY1 := hmR RY1 hbl
               replace RX2 := hmR RX2 hbl
               replace RY2 := hmR RY2 hbl
               replace RX3 := hmR RX3 hbl
               replace RY3 := hmR RY3 hbl
               replace RX4 := hmR RX4 hbl
               replace RY4 := hmR RY4 hbl
               replace CX := hmB CX hbl
               replace CY := hmB CY hbl
               replace CL := hmB CL hbl
               replace HW := hmW HW hbl; clear hbl
               clear CX0 CX1 CX2 CX3 CX4 CX5 CY0 CY1 CY2 CY3 CY4 CY5
               obtain ⟨CX0, CX1, CX2, CX3, CX4, CX5⟩ := CX.out.cs6
               obtain ⟨CY0, CY1, CY2, CY3, CY4, CY5⟩ := CY.out.cs6
               go_wp2
               go_ret
               exact ⟨rfl, HW.out⟩
           · go_wp2_with fail
             refine (aliveV _).mono ?_
             rintro e w93 ⟨rfl, hbl⟩
             replace R1 := hmR R1 hbl
             replace R2 := hmR R2 hbl
             replace R3 := hmR R3 hbl
             replace R4 := hmR R4 hbl
             replace RX1 := hmR RX1 hbl
             replace RY1 := hmR RY1 hbl
             replace RX2 := hmR RX2 hbl
             replace RY2 := hmR RY2 hbl
             replace RX3 := hmR RX3 hbl
             replace RY3 := hmR RY3 hbl
             replace RX4 := hmR RX4 hbl
             replace RY4 := hmR RY4 hbl
             replace CX := hmB CX hbl
             replace CY := hmB CY hbl
             replace CL := hmB CL hbl
             replace HW := hmW HW hbl; clear hbl
             clear CX0 CX1 CX2 CX3 CX4 CX5 CY0 CY1 CY2 CY3 CY4 CY5
             obtain ⟨CX0, CX1, CX2, CX3, CX4, CX5⟩ := CX.out.cs6
             obtain ⟨CY0, CY1, CY2, CY3, CY4, CY5⟩ := CY.out.cs6
             go_wp2
             go_ret
             exact ⟨rfl, HW.out⟩
end
end Go.Proofs.YtmbbdjpnecjleaaGreat
