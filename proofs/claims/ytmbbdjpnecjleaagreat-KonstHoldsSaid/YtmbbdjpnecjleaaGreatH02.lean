/-
 Parts: K1 Digs Limbs Own NOwn.
-/
import Derived.Test.YtmbbdjpnecjleaaGreatH01
import Derived.Test.YtmbbdjpnecjleaaGreatRows
namespace Go.Proofs.YtmbbdjpnecjleaaGreat
section
set_option maxRecDepth 100000
set_option maxHeartbeats 1000000
open Go.RowKit Go.MapKept

def bitsN (t : Int) : Nat := if t = 2 then 64 else if t = 3 then 8 else if t = 4 then 16 else if t = 5 then 32 else if t = 6 then 64 else if t = 7 then 64 else if t = 8 then 8 else if t = 9 then 16 else if t = 10 then 32 else if t = 11 then 64 else 0
def bitsO (t : Int) : Option Value := if t == 2 then some (.int .i64 64) else if t == 3 then some (.int .i64 8) else if t == 4 then some (.int .i64 16) else if t == 5 then some (.int .i64 32) else if t == 6 then some (.int .i64 64) else if t == 7 then some (.int .i64 64) else if t == 8 then some (.int .i64 8) else if t == 9 then some (.int .i64 16) else if t == 10 then some (.int .i64 32) else if t == 11 then some (.int .i64 64) else none
def bitsTab : List (Value × Value) := [(.int .i64 2, .int .i64 64), (.int .i64 3, .int .i64 8), (.int .i64 4, .int .i64 16), (.int .i64 5, .int .i64 32), (.int .i64 6, .int .i64 64), (.int .i64 7, .int .i64 64), (.int .i64 8, .int .i64 8), (.int .i64 9, .int .i64 16), (.int .i64 10, .int .i64 32), (.int .i64 11, .int .i64 64)]
theorem bits_look (t : Int) : lookL (.int .i64) (.int .i64 t) bitsTab = some (bitsO t) := by
 unfold bitsTab bitsO
 simp only [lookL, Instr.sameNow, if_true]
 cases h2 : t == 2
 rotate_left
 · rfl
 cases h3 : t == 3
 rotate_left
 · rfl
 cases h4 : t == 4
 rotate_left
 · rfl
 cases h5 : t == 5
 rotate_left
 · rfl
 cases h6 : t == 6
 rotate_left
 · rfl
 cases h7 : t == 7
 rotate_left
 · rfl
 cases h8 : t == 8
 rotate_left
 · rfl
 cases h9 : t == 9
 rotate_left
 · rfl
 cases h10 : t == 10
 rotate_left
 · rfl
 cases h11 : t == 11
 rotate_left
 · rfl
 rfl
theorem bits_val (t : Int) : (bitsO t).getD (.int .i64 0) = .int .i64 (bitsN t : Nat) := by
 unfold bitsO bitsN
 by_cases h2 : t = 2
 · subst h2; rfl
 by_cases h3 : t = 3
 · subst h3; rfl
 by_cases h4 : t = 4
 · subst h4; rfl
 by_cases h5 : t = 5
 · subst h5; rfl
 by_cases h6 : t = 6
 · subst h6; rfl
 by_cases h7 : t = 7
 · subst h7; rfl
 by_cases h8 : t = 8
 · subst h8; rfl
 by_cases h9 : t = 9
 · subst h9; rfl
 by_cases h10 : t = 10
 · subst h10; rfl
 by_cases h11 : t = 11
 · subst h11; rfl
 simp [*]
theorem zero_int (w : World) : (zeroValue 3).run Tryz.prog w = .ok (.int .i64 0) w := by kernel_rfl
theorem is_key (t : Int) : IsKey (.int .i64) (.int .i64 t) := by simp [IsKey]
structure MapM (w wr : World) (L : List (Value × Value)) : Prop where
 is : MapIs wr w.heap.size L
 old : Below w.heap.size w wr
theorem MapM.start (w : World) : MapM w (w.alloc (.map #[] 0)) [] := ⟨MapIs.made w, bel_alloc (bel_refl w) _⟩
theorem MapM.step {w wr w' : World} {L M : List (Value × Value)} (h : MapM w wr L) (hm : MapIs w' w.heap.size M) (hg : wr.grownBy w' (some w.heap.size)) : MapM w w' M :=
 ⟨hm, h.old.grown hg h.old.size (fun k hk => by cases hk; exact Nat.le_refl _)⟩
theorem kBits_is {n : Nat} (t : Int) (w : World) (hn : bitsN t = n) : Calls Tryz.prog 85 #[.int .i64 t] w (fun e w' => e = .returned (.int .i64 (n : Int)) ∧ Below w.heap.size w w') := by
 have hv := bits_val t
 rw [hn] at hv
 have HV : Hid ((if false then Value.tuple #[(bitsO t).getD (.int .i64 0), .bool (bitsO t).isSome] else (bitsO t).getD (.int .i64 0)) = .int .i64 (n : Int)) := Lib.hid hv
 clear hv hn
 have hmm := @run_makeMap Tryz.prog
 have HM := Lib.hid (MapM.start w)
 go_enter Tryz.func85, Tryz.ntmps85
 go_wp2_with first
  | (refine wpList_insert _ rfl _ _ _ 138 rfl 3 3 (.int .i64) Tryz.underlying138 Tryz.underlying3 w.heap.size _ rfl HM.out.is _ _ rfl rfl (is_key _) rfl ?_; intro w9 hm hg; replace HM := Lib.hid (HM.out.step hm hg); clear hm hg)
  | (refine wpList_look _ rfl _ _ 138 false rfl 3 3 (.int .i64) Tryz.underlying138 Tryz.underlying3 w.heap.size _ rfl HM.out.is _ rfl (is_key _) (.int .i64 0) (zero_int _) (bitsO t) (bits_look t) (.int .i64 (n : Int)) HV.out ?_)
 go_ret
 exact ⟨rfl, HM.out.old⟩
theorem MapM.below {w wr w' : World} {L : List (Value × Value)} (h : MapM w wr L) (hb : Below wr.heap.size wr w') : MapM w w' L := ⟨h.is.below hb, bel_trans h.old hb⟩
theorem is_keyS (s : ByteArray) : IsKey .string (.string s) := by simp [IsKey]
def RetClo (F : Nat) (f : Value) (w : World) (e : Ending) (w' : World) : Prop := ∃ g, e = .returned (.func (.func F) #[] #[.pointer (some ⟨g, 0, none⟩)]) ∧ w.heap.size ≤ g ∧ g < w'.heap.size ∧ w'.cell? ⟨g, 0, none⟩ = some f ∧ Below w.heap.size w w'
theorem dropped_any (f : Fn) (first cap : Array Value) (w : World) : Calls Tryz.prog 53 #[.func f first cap] w (RetClo 95 (.func f first cap) w) := by
 have hmf : ∀ (fn : Fn) (first cap : Array Value) (w : World), (Instr.makeFunc fn first cap).run Tryz.prog w = .ok (.func fn first cap) w := fun _ _ _ _ => rfl
 go_enter Tryz.func53, Tryz.ntmps53
 go_wp2
 go_ret
 exact ⟨w.heap.size, rfl, Nat.le_refl _, by simp, by simp, bel_alloc (bel_refl w) _⟩
theorem bitly_any (f : Fn) (first cap : Array Value) (w : World) : Calls Tryz.prog 59 #[.func f first cap] w (RetClo 103 (.func f first cap) w) := by
 have hmf : ∀ (fn : Fn) (first cap : Array Value) (w : World), (Instr.makeFunc fn first cap).run Tryz.prog w = .ok (.func fn first cap) w := fun _ _ _ _ => rfl
 go_enter Tryz.func59, Tryz.ntmps59
 go_wp2
 go_ret
 exact ⟨w.heap.size, rfl, Nat.le_refl _, by simp, by simp, bel_alloc (bel_refl w) _⟩
def opsTab (g1 g2 g3 g4 g5 g6 : Nat) : List (Value × Value) := [(.string ⟨#[43]⟩, .agg #[.bool false, .func (.func 95) #[] #[.pointer (some ⟨g1, 0, none⟩)]]), (.string ⟨#[45]⟩, .agg #[.bool false, .func (.func 95) #[] #[.pointer (some ⟨g2, 0, none⟩)]]), (.string ⟨#[42]⟩, .agg #[.bool false, .func (.func 95) #[] #[.pointer (some ⟨g3, 0, none⟩)]]), (.string ⟨#[47]⟩, .agg #[.bool false, .func (.func 57) #[] #[]]), (.string ⟨#[37]⟩, .agg #[.bool true, .func (.func 58) #[] #[]]), (.string ⟨#[38]⟩, .agg #[.bool true, .func (.func 103) #[] #[.pointer (some ⟨g4, 0, none⟩)]]), (.string ⟨#[124]⟩, .agg #[.bool true, .func (.func 103) #[] #[.pointer (some ⟨g5, 0, none⟩)]]), (.string ⟨#[94]⟩, .agg #[.bool true, .func (.func 103) #[] #[.pointer (some ⟨g6, 0, none⟩)]])]
def RetOps (w : World) (e : Ending) (w' : World) : Prop := ∃ b g1 g2 g3 g4 g5 g6, e = .returned (.map (some b)) ∧ MapIs w' b (opsTab g1 g2 g3 g4 g5 g6) ∧ Below w.heap.size w w' ∧
g1 < w'.heap.size ∧ w'.cell? ⟨g1, 0, none⟩ = some (.func (.func 54) #[] #[]) ∧ g2 < w'.heap.size ∧ w'.cell? ⟨g2, 0, none⟩ = some (.func (.func 55) #[] #[]) ∧ g3 < w'.heap.size ∧ w'.cell? ⟨g3, 0, none⟩ = some (.func (.func 56) #[] #[]) ∧ g4 < w'.heap.size ∧ w'.cell? ⟨g4, 0, none⟩ = some (.func (.func 60) #[] #[]) ∧ g5 < w'.heap.size ∧ w'.cell? ⟨g5, 0, none⟩ = some (.func (.func 61) #[] #[]) ∧ g6 < w'.heap.size ∧ w'.cell? ⟨g6, 0, none⟩ = some (.func (.func 62) #[] #[])
structure CloAt (w : World) (B g : Nat) (f : Value) : Prop where
 ne : B < g
 lt : g < w.heap.size
 cell : w.cell? ⟨g, 0, none⟩ = some f
theorem CloAt.below {w w' : World} {B g : Nat} {f : Value} (h : CloAt w B g f) (hb : Below w.heap.size w w') : CloAt w' B g f := ⟨h.ne, Nat.lt_of_lt_of_le h.lt hb.size, (hb.cell (p := ⟨g, 0, none⟩) h.lt).trans h.cell⟩
theorem CloAt.grown {w w' : World} {B g : Nat} {f : Value} (h : CloAt w B g f) (hg : w.grownBy w' (some B)) : CloAt w' B g f := ⟨h.ne, Nat.lt_of_lt_of_le h.lt hg.size, hg.cell h.cell (by have := h.ne; simp; omega)⟩
theorem operators_any (w : World) : Calls Tryz.prog 24 #[] w (RetOps w) := by
 have hmm := @run_makeMap Tryz.prog
 have HM := Lib.hid (MapM.start w)
 go_enter Tryz.func24, Tryz.ntmps24
 go_wp2_with fail
 refine (dropped_any (.func 54) #[] #[] _).mono ?_
 rintro e w1 ⟨g1, rfl, h1, h2, h3, hb⟩
 have C1 := Lib.hid (CloAt.mk (B := w.heap.size) (Nat.lt_of_lt_of_le HM.out.is.lt h1) h2 h3)
 replace HM := Lib.hid (HM.out.below hb); clear h1 h2 h3 hb
 go_wp2_with (refine wpList_insert _ rfl _ _ _ 56 rfl 9 54 .string Tryz.underlying56 Tryz.underlying9 w.heap.size _ rfl HM.out.is _ _ rfl rfl (is_keyS _) (by kernel_rfl) ?_; intro w9 hm hg; replace C1 := Lib.hid (C1.out.grown hg); replace HM := Lib.hid (HM.out.step hm hg); clear hm hg)
 go_wp2_with fail
 refine (dropped_any (.func 55) #[] #[] _).mono ?_
 rintro e w2 ⟨g2, rfl, h1, h2, h3, hb⟩
 have C2 := Lib.hid (CloAt.mk (B := w.heap.size) (Nat.lt_of_lt_of_le HM.out.is.lt h1) h2 h3)
 replace C1 := Lib.hid (C1.out.below hb)
 replace HM := Lib.hid (HM.out.below hb); clear h1 h2 h3 hb
 go_wp2_with (refine wpList_insert _ rfl _ _ _ 56 rfl 9 54 .string Tryz.underlying56 Tryz.underlying9 w.heap.size _ rfl HM.out.is _ _ rfl rfl (is_keyS _) (by kernel_rfl) ?_; intro w9 hm hg; replace C1 := Lib.hid (C1.out.grown hg); replace C2 := Lib.hid (C2.out.grown hg); replace HM := Lib.hid (HM.out.step hm hg); clear hm hg)
 go_wp2_with fail
 refine (dropped_any (.func 56) #[] #[] _).mono ?_
 rintro e w3 ⟨g3, rfl, h1, h2, h3, hb⟩
 have C3 := Lib.hid (CloAt.mk (B := w.heap.size) (Nat.lt_of_lt_of_le HM.out.is.lt h1) h2 h3)
 replace C1 := Lib.hid (C1.out.below hb)
 replace C2 := Lib.hid (C2.out.below hb)
 replace HM := Lib.hid (HM.out.below hb); clear h1 h2 h3 hb
 go_wp2_with (refine wpList_insert _ rfl _ _ _ 56 rfl 9 54 .string Tryz.underlying56 Tryz.underlying9 w.heap.size _ rfl HM.out.is _ _ rfl rfl (is_keyS _) (by kernel_rfl) ?_; intro w9 hm hg; replace C1 := Lib.hid (C1.out.grown hg); replace C2 := Lib.hid (C2.out.grown hg); replace C3 := Lib.hid (C3.out.grown hg); replace HM := Lib.hid (HM.out.step hm hg); clear hm hg)
 go_wp2_with (refine wpList_insert _ rfl _ _ _ 56 rfl 9 54 .string Tryz.underlying56 Tryz.underlying9 w.heap.size _ rfl HM.out.is _ _ rfl rfl (is_keyS _) (by kernel_rfl) ?_; intro w9 hm hg; replace C1 := Lib.hid (C1.out.grown hg); replace C2 := Lib.hid (C2.out.grown hg); replace C3 := Lib.hid (C3.out.grown hg); replace HM := Lib.hid (HM.out.step hm hg); clear hm hg)
 go_wp2_with (refine wpList_insert _ rfl _ _ _ 56 rfl 9 54 .string Tryz.underlying56 Tryz.underlying9 w.heap.size _ rfl HM.out.is _ _ rfl rfl (is_keyS _) (by kernel_rfl) ?_; intro w9 hm hg; replace C1 := Lib.hid (C1.out.grown hg); replace C2 := Lib.hid (C2.out.grown hg); replace C3 := Lib.hid (C3.out.grown hg); replace HM := Lib.hid (HM.out.step hm hg); clear hm hg)
 go_wp2_with fail
 refine (bitly_any (.func 60) #[] #[] _).mono ?_
 rintro e w4 ⟨g4, rfl, h1, h2, h3, hb⟩
 have C4 := Lib.hid (CloAt.mk (B := w.heap.size) (Nat.lt_of_lt_of_le HM.out.is.lt h1) h2 h3)
 replace C1 := Lib.hid (C1.out.below hb)
 replace C2 := Lib.hid (C2.out.below hb)
 replace C3 := Lib.hid (C3.out.below hb)
 replace HM := Lib.hid (HM.out.below hb); clear h1 h2 h3 hb
 go_wp2_with (refine wpList_insert _ rfl _ _ _ 56 rfl 9 54 .string Tryz.underlying56 Tryz.underlying9 w.heap.size _ rfl HM.out.is _ _ rfl rfl (is_keyS _) (by kernel_rfl) ?_; intro w9 hm hg; replace C1 := Lib.hid (C1.out.grown hg); replace C2 := Lib.hid (C2.out.grown hg); replace C3 := Lib.hid (C3.out.grown hg); replace C4 := Lib.hid (C4.out.grown hg); replace HM := Lib.hid (HM.out.step hm hg); clear hm hg)
 go_wp2_with fail
 refine (bitly_any (.func 61) #[] #[] _).mono ?_
 rintro e w5 ⟨g5, rfl, h1, h2, h3, hb⟩
 have C5 := Lib.hid (CloAt.mk (B := w.heap.size) (Nat.lt_of_lt_of_le HM.out.is.lt h1) h2 h3)
 replace C1 := Lib.hid (C1.out.below hb)
 replace C2 := Lib.hid (C2.out.below hb)
 replace C3 := Lib.hid (C3.out.below hb)
 replace C4 := Lib.hid (C4.out.below hb)
 replace HM := Lib.hid (HM.out.below hb); clear h1 h2 h3 hb
 go_wp2_with (refine wpList_insert _ rfl _ _ _ 56 rfl 9 54 .string Tryz.underlying56 Tryz.underlying9 w.heap.size _ rfl HM.out.is _ _ rfl rfl (is_keyS _) (by kernel_rfl) ?_; intro w9 hm hg; replace C1 := Lib.hid (C1.out.grown hg); replace C2 := Lib.hid (C2.out.grown hg); replace C3 := Lib.hid (C3.out.grown hg); replace C4 := Lib.hid (C4.out.grown hg); replace C5 := Lib.hid (C5.out.grown hg); replace HM := Lib.hid (HM.out.step hm hg); clear hm hg)
 go_wp2_with fail
 refine (bitly_any (.func 62) #[] #[] _).mono ?_
 rintro e w6 ⟨g6, rfl, h1, h2, h3, hb⟩
 have C6 := Lib.hid (CloAt.mk (B := w.heap.size) (Nat.lt_of_lt_of_le HM.out.is.lt h1) h2 h3)
 replace C1 := Lib.hid (C1.out.below hb)
 replace C2 := Lib.hid (C2.out.below hb)
 replace C3 := Lib.hid (C3.out.below hb)
 replace C4 := Lib.hid (C4.out.below hb)
 replace C5 := Lib.hid (C5.out.below hb)
 replace HM := Lib.hid (HM.out.below hb); clear h1 h2 h3 hb
 go_wp2_with (refine wpList_insert _ rfl _ _ _ 56 rfl 9 54 .string Tryz.underlying56 Tryz.underlying9 w.heap.size _ rfl HM.out.is _ _ rfl rfl (is_keyS _) (by kernel_rfl) ?_; intro w9 hm hg; replace C1 := Lib.hid (C1.out.grown hg); replace C2 := Lib.hid (C2.out.grown hg); replace C3 := Lib.hid (C3.out.grown hg); replace C4 := Lib.hid (C4.out.grown hg); replace C5 := Lib.hid (C5.out.grown hg); replace C6 := Lib.hid (C6.out.grown hg); replace HM := Lib.hid (HM.out.step hm hg); clear hm hg)
 go_wp2
 go_ret
 exact ⟨_, _, _, _, _, _, _, rfl, HM.out.is, HM.out.old, C1.out.lt, C1.out.cell, C2.out.lt, C2.out.cell, C3.out.lt, C3.out.cell, C4.out.lt, C4.out.cell, C5.out.lt, C5.out.cell, C6.out.lt, C6.out.cell⟩
end
end Go.Proofs.YtmbbdjpnecjleaaGreat
namespace Go.Proofs.YtmbbdjpnecjleaaGreat
section
set_option maxRecDepth 100000
set_option maxHeartbeats 1000000

def val (b : Nat) : List Nat → Nat
 | [] => 0
 | x :: r => x + b * val b r
def digF (b : Nat) : Nat → Nat → List Nat
 | 0, _ => []
 | f + 1, n => if n = 0 then [] else n % b :: digF b f (n / b)
def digs (b n : Nat) : List Nat := digF b n n

theorem digF_fuel {b : Nat} (hb : 2 ≤ b) : ∀ f g n, n ≤ f → n ≤ g → digF b f n = digF b g n := by
 intro f
 induction f with
 | zero =>
  intro g n h _
  have : n = 0 := by omega
  subst this
  cases g <;> rfl
 | succ f ih =>
  intro g n h h'
  cases g with
  | zero =>
   have : n = 0 := by omega
   subst this
   rfl
  | succ g =>
   simp only [digF]
   by_cases h0 : n = 0
   · rw [if_pos h0, if_pos h0]
   · rw [if_neg h0, if_neg h0]
     have := Nat.div_lt_self (by omega : 0 < n) (by omega : 1 < b)
     rw [ih g (n / b) (by omega) (by omega)]
theorem digs_zero (b : Nat) : digs b 0 = [] := rfl
theorem digs_pos {b n : Nat} (hb : 2 ≤ b) (h : n ≠ 0) : digs b n = n % b :: digs b (n / b) := by
 unfold digs
 cases n with
 | zero => exact absurd rfl h
 | succ m =>
  simp only [digF]
  rw [if_neg h]
  have := Nat.div_lt_self (by omega : 0 < m + 1) (by omega : 1 < b)
  rw [digF_fuel hb m ((m + 1) / b) _ (by omega) (Nat.le_refl _)]
theorem digs_step {b x n : Nat} (hb : 2 ≤ b) (hx : x < b) (h : x + b * n ≠ 0) : digs b (x + b * n) = x :: digs b n := by
 rw [digs_pos hb h]
 have h1 : (x + b * n) % b = x := by rw [Nat.add_mul_mod_self_left, Nat.mod_eq_of_lt hx]
 have h2 : (x + b * n) / b = n := by rw [Nat.add_mul_div_left _ _ (by omega), Nat.div_eq_of_lt hx]; omega
 rw [h1, h2]
theorem val_digs {b : Nat} (hb : 2 ≤ b) (n : Nat) : val b (digs b n) = n := by
 induction n using Nat.strongRecOn with
 | ind n ih =>
  by_cases h : n = 0
  · subst h; rfl
  · rw [digs_pos hb h]
    simp only [val]
    rw [ih _ (Nat.div_lt_self (by omega) (by omega))]
    exact Nat.mod_add_div n b
theorem digs_lt {b : Nat} (hb : 2 ≤ b) (n : Nat) : ∀ x ∈ digs b n, x < b := by
 induction n using Nat.strongRecOn with
 | ind n ih =>
  by_cases h : n = 0
  · subst h; simp [digs_zero]
  · rw [digs_pos hb h]
    intro x hx
    rcases List.mem_cons.1 hx with rfl | hx
    · exact Nat.mod_lt _ (by omega)
    · exact ih _ (Nat.div_lt_self (by omega) (by omega)) x hx
theorem digs_val {b : Nat} (hb : 2 ≤ b) (xs : List Nat) (hx : ∀ x ∈ xs, x < b) (hl : ∀ h : xs ≠ [], xs.getLast h ≠ 0) : digs b (val b xs) = xs := by
 induction xs with
 | nil => rfl
 | cons x r ih =>
  have hr : digs b (val b r) = r := ih (fun y hy => hx y (List.mem_cons_of_mem _ hy)) (fun h => by have := hl (by simp); rwa [List.getLast_cons h] at this)
  have hne : x + b * val b r ≠ 0 := by
   intro h0
   have hx0 : x = 0 := by omega
   have hv0 : val b r = 0 := by
    have : b * val b r = 0 := by omega
    rcases Nat.mul_eq_zero.1 this with h | h
    · omega
    · exact h
   rw [hv0] at hr
   have hr' : r = [] := by rw [← hr]; rfl
   subst hr'
   have := hl (by simp)
   simp at this
   exact this hx0
  simp only [val]
  rw [digs_step hb (hx x (by simp)) hne, hr]
theorem val_app (b : Nat) (xs ys : List Nat) : val b (xs ++ ys) = val b xs + b ^ xs.length * val b ys := by
 induction xs with
 | nil => simp [val]
 | cons x r ih => simp only [List.cons_append, val, ih, List.length_cons, Nat.pow_succ]; rw [Nat.mul_add, Nat.add_assoc, ← Nat.mul_assoc, Nat.mul_comm b (b ^ r.length)]
theorem val_snoc (b : Nat) (xs : List Nat) (y : Nat) : val b (xs ++ [y]) = val b xs + b ^ xs.length * y := by rw [val_app]; simp [val]
theorem val_lt {b : Nat} (xs : List Nat) (hx : ∀ x ∈ xs, x < b) : val b xs < b ^ xs.length := by
 induction xs with
 | nil => simp [val]
 | cons x r ih =>
  have h1 := hx x (by simp)
  have h2 := ih (fun y hy => hx y (List.mem_cons_of_mem _ hy))
  simp only [val, List.length_cons, Nat.pow_succ]
  have h3 : b * (val b r + 1) ≤ b * b ^ r.length := Nat.mul_le_mul_left b h2
  rw [Nat.mul_add, Nat.mul_one] at h3
  rw [Nat.mul_comm (b ^ r.length) b]
  omega
theorem val_zeros (b : Nat) (xs : List Nat) (hx : ∀ x ∈ xs, x = 0) : val b xs = 0 := by
 induction xs with
 | nil => rfl
 | cons x r ih =>
  simp only [val]
  rw [ih (fun y hy => hx y (List.mem_cons_of_mem _ hy)), hx x (by simp)]
  simp
theorem digs_len_le {b n k : Nat} (hb : 2 ≤ b) : (digs b n).length ≤ k ↔ n < b ^ k := by
 constructor
 · intro h
   have := val_lt (digs b n) (digs_lt hb n)
   rw [val_digs hb] at this
   exact Nat.lt_of_lt_of_le this (Nat.pow_le_pow_right (by omega) h)
 · induction k generalizing n with
   | zero =>
    intro h
    have : n = 0 := by simpa using h
    subst this
    simp [digs_zero]
   | succ k ih =>
    intro h
    by_cases h0 : n = 0
    · subst h0; simp [digs_zero]
    · rw [digs_pos hb h0]
      have : n / b < b ^ k := by rw [Nat.div_lt_iff_lt_mul (by omega)]; rwa [Nat.pow_succ] at h
      have := ih this
      simp only [List.length_cons]
      omega
theorem digs_nil {b n : Nat} (hb : 2 ≤ b) : digs b n = [] ↔ n = 0 := by
 constructor
 · intro h
   have := val_digs hb n
   rw [h] at this
   exact this.symm
 · rintro rfl; rfl
theorem digs_len_pos {b n : Nat} (hb : 2 ≤ b) (h : n ≠ 0) : 0 < (digs b n).length := by
 rw [List.length_pos_iff]
 exact fun e => h ((digs_nil hb).1 e)
theorem digs_get {b : Nat} (hb : 2 ≤ b) (n i : Nat) : (digs b n).getD i 0 = n / b ^ i % b := by
 induction i generalizing n with
 | zero =>
  by_cases h : n = 0
  · subst h; simp [digs_zero]
  · rw [digs_pos hb h]; simp
 | succ i ih =>
  by_cases h : n = 0
  · subst h; simp [digs_zero]
  · rw [digs_pos hb h, List.getD_cons_succ, ih, Nat.pow_succ, Nat.mul_comm, ← Nat.div_div_eq_div_mul]
theorem div_pow_step {b : Nat} (n i : Nat) : n / b ^ i = n / b ^ i % b + b * (n / b ^ (i + 1)) := by
 rw [Nat.pow_succ, ← Nat.div_div_eq_div_mul]
 exact (Nat.mod_add_div _ _).symm
theorem val_take_zero {b : Nat} (xs : List Nat) (k : Nat) (hz : ∀ x ∈ xs.drop k, x = 0) : val b (xs.take k) = val b xs := by
 conv => rhs; rw [← List.take_append_drop k xs]
 rw [val_app, val_zeros b _ hz]
 simp
end
end Go.Proofs.YtmbbdjpnecjleaaGreat
namespace Go.Proofs.YtmbbdjpnecjleaaGreat
section
set_option maxRecDepth 100000
set_option maxHeartbeats 1000000
open Go.RowKit

def B32 : Nat := 4294967296
theorem B32_two : 2 ≤ B32 := by decide
theorem B32_eq : B32 = 4294967296 := rfl
def limbs (n : Nat) : List Nat := digs B32 n
def lval (xs : List Nat) : Nat := val B32 xs
def Lim (xs : List Nat) : Prop := ∀ x ∈ xs, x < B32
theorem lval_limbs (n : Nat) : lval (limbs n) = n := val_digs B32_two n
theorem limbs_lim (n : Nat) : Lim (limbs n) := digs_lt B32_two n
theorem Lim.get {xs : List Nat} (h : Lim xs) (k : Nat) : xs.getD k 0 < 4294967296 := by
 by_cases hk : k < xs.length
 · rw [List.getD_eq_getElem?_getD, List.getElem?_eq_getElem hk]
   exact h _ (List.getElem_mem hk)
 · rw [List.getD_eq_getElem?_getD, List.getElem?_eq_none (by omega)]
   decide
theorem limbs_get (n k : Nat) : (limbs n).getD k 0 = n / B32 ^ k % B32 := digs_get B32_two n k
theorem limbs_len {n k : Nat} : (limbs n).length ≤ k ↔ n < B32 ^ k := digs_len_le B32_two

def RdL (w : World) (A : Option Addr) (xs : List Nat) : Prop := Rd w A xs.length (fun k => .int .u32 (xs.getD k 0 : Nat))
theorem RdL.below {w w' : World} {A : Option Addr} {xs : List Nat} (h : RdL w A xs) (hb : Below w.heap.size w w') : RdL w' A xs := Rd.below h hb
theorem RdL.at_ {w : World} {A : Option Addr} {xs : List Nat} (h : RdL w A xs) {k : Nat} (hk : k < xs.length) :
 ∃ b off, A = some ⟨b, off, none⟩ ∧ b < w.heap.size ∧ w.cell? ⟨b, off + k, none⟩ = some (.int .u32 (xs.getD k 0 : Nat)) := by
 obtain ⟨b, off, e, hb, hc⟩ := h (by omega)
 exact ⟨b, off, e, hb, hc k hk⟩
theorem RdL.take {w : World} {A : Option Addr} {xs : List Nat} (h : RdL w A xs) (m : Nat) : RdL w A (xs.take m) := by
 refine Rd.congr (Rd.take h (m := (xs.take m).length) (List.length_take_le' ..)) fun k hk => ?_
 have : k < m := by rw [List.length_take] at hk; omega
 simp [this]
theorem RdL.nil {w : World} {A : Option Addr} : RdL w A [] := Rd.nil
theorem RdL.drewN {w : World} {A : Option Addr} {xs : List Nat} (h : RdL w A xs) (n : Nat) : RdL (w.drewN n) A xs := h

structure RdN (w : World) (v : Value) (n : Nat) : Prop where
 row : ∃ A cap, v = .slice A (limbs n).length cap ∧ (limbs n).length ≤ cap ∧ RdL w A (limbs n)
theorem RdN.below {w w' : World} {v : Value} {n : Nat} (h : RdN w v n) (hb : Below w.heap.size w w') : RdN w' v n := by
 obtain ⟨A, cap, e, hc, hr⟩ := h.row
 exact ⟨A, cap, e, hc, hr.below hb⟩
theorem RdN.zero {w : World} {A : Option Addr} {cap : Nat} : RdN w (.slice A 0 cap) 0 := ⟨A, cap, rfl, Nat.zero_le _, RdL.nil⟩

def rightL (xs : List Nat) : Bool := decide (xs.length ≤ 16) && (decide (xs.length = 0) || decide (xs.getD (xs.length - 1) 0 ≠ 0))
theorem getD_last {xs : List Nat} (h : xs ≠ []) : xs.getD (xs.length - 1) 0 = xs.getLast h := by
 rw [List.getD_eq_getElem?_getD, List.getLast_eq_getElem, List.getElem?_eq_getElem]
 rfl
theorem limbs_of {xs : List Nat} (hx : Lim xs) (h : xs.length = 0 ∨ xs.getD (xs.length - 1) 0 ≠ 0) : limbs (lval xs) = xs :=
 digs_val B32_two xs hx fun hne => by
  rcases h with h | h
  · exact absurd (List.length_eq_zero_iff.1 h) hne
  · rwa [getD_last hne] at h
theorem lval_lt {xs : List Nat} (hx : Lim xs) : lval xs < B32 ^ xs.length := val_lt xs hx
def Top : Nat := B32 ^ 16
theorem rightL_iff {xs : List Nat} (hx : Lim xs) : rightL xs = true ↔ limbs (lval xs) = xs ∧ lval xs < Top := by
 unfold rightL
 rw [Bool.and_eq_true, Bool.or_eq_true, decide_eq_true_eq, decide_eq_true_eq, decide_eq_true_eq]
 constructor
 · rintro ⟨h1, h2⟩
   refine ⟨limbs_of hx h2, Nat.lt_of_lt_of_le (lval_lt hx) (Nat.pow_le_pow_right (by decide) h1)⟩
 · rintro ⟨h1, h2⟩
   have h3 : (limbs (lval xs)).length ≤ 16 := limbs_len.2 h2
   rw [h1] at h3
   refine ⟨h3, ?_⟩
   by_cases h0 : xs.length = 0
   · exact .inl h0
   · refine .inr fun hz => ?_
     have hlt : lval xs < B32 ^ (xs.length - 1) := by
      have hne : xs ≠ [] := fun e => h0 (by rw [e]; rfl)
      have e : xs = xs.take (xs.length - 1) ++ [0] := by
       rw [getD_last hne] at hz
       rw [← hz, ← List.dropLast_eq_take, List.dropLast_concat_getLast hne]
      rw [e]
      show val B32 _ < _
      rw [val_snoc, Nat.mul_zero, Nat.add_zero]
      have h4 := val_lt (b := B32) (xs.take (xs.length - 1)) fun x h => hx x (List.mem_of_mem_take h)
      rw [List.length_take, Nat.min_eq_left (by omega)] at h4
      rw [← e]
      exact h4
     have := limbs_len.2 hlt
     rw [h1] at this
     omega
theorem rightL_limbs {n : Nat} (h : n < Top) : rightL (limbs n) = true := (rightL_iff (limbs_lim n)).2 ⟨by rw [lval_limbs], by rw [lval_limbs]; exact h⟩
theorem limbs_len16 {n : Nat} (h : n < Top) : (limbs n).length ≤ 16 := limbs_len.2 h
theorem hmR {w w' : World} {A : Option Addr} {xs : List Nat} (h : Hid (RdL w A xs)) (hb : Below w.heap.size w w') : Hid (RdL w' A xs) := Lib.hid (h.out.below hb)
theorem hmN {w w' : World} {v : Value} {n : Nat} (h : Hid (RdN w v n)) (hb : Below w.heap.size w w') : Hid (RdN w' v n) := Lib.hid (h.out.below hb)
end
end Go.Proofs.YtmbbdjpnecjleaaGreat
namespace Go.Proofs.YtmbbdjpnecjleaaGreat
section
set_option maxRecDepth 100000
set_option maxHeartbeats 1000000
open Go.RowKit

theorem own_below {w w' : World} {base : Nat} {e : TypeId} {size n : Nat} {v : Value} {xs : List Value} (h : w.ownsRow base e size v n xs) (hb : Below w.heap.size w w') : w'.ownsRow base e size v n xs :=
 h.kept (row := none) ⟨hb.os, hb.tape, hb.output, hb.size, fun k hk _ => hb.block k hk⟩ (by cases v.ownBlock <;> simp)

theorem own_read {w : World} {base : Nat} {e : TypeId} {size n : Nat} {v : Value} {xs : List Value} (h : w.ownsRow base e size v n xs) (hn : xs.length ≤ n * size) :
 ∃ A cap, v = .slice A n cap ∧ n ≤ cap ∧ cap ≤ maxLen ∧ Rd w A (n * size) (fun k => xs.getD k undef) := by
 rcases h.2 with ⟨rfl, rfl⟩ | ⟨g, cap, cur, rfl, hb, hh, hc, hm, hsz, htake⟩
 · exact ⟨none, 0, rfl, Nat.le_refl _, Nat.zero_le _, by rw [Nat.zero_mul]; exact Rd.nil⟩
 · exact ⟨some ⟨g, 0, none⟩, cap, rfl, hc, hm, Rd.of_own h⟩

theorem own_nil (w : World) (base : Nat) (e : TypeId) (size : Nat) : w.ownsRow base e size (.slice none 0 0) 0 [] := World.ownsRow_nil _ _ _ _

theorem own_form {w : World} {base : Nat} {e : TypeId} {size n : Nat} {v : Value} {xs : List Value} (h : w.ownsRow base e size v n xs) (hn : 0 < n) :
 ∃ g cap, v = .slice (some ⟨g, 0, none⟩) n cap ∧ base ≤ g ∧ g < w.heap.size ∧ n ≤ cap ∧ cap ≤ maxLen := by
 rcases h.2 with ⟨_, h0⟩ | ⟨g, cap, cur, rfl, hb, hh, hc, hm, _⟩
 · omega
 · exact ⟨g, cap, rfl, hb, (Array.getElem?_eq_some_iff.1 hh).1, hc, hm⟩

section
variable {w : World} {base g n cap : Nat} {e : TypeId} {xs : List Value}
theorem own_at (h : w.ownsRow base e 1 (.slice (some ⟨g, 0, none⟩) n cap) n xs) {k : Nat} (hk : k < n) :
 w.cell? ⟨g, k, none⟩ = some (xs.getD k undef) ∧ w.frozen? ⟨g, k, none⟩ = false ∧ base ≤ g ∧ g < w.heap.size := by
 rcases h.2 with ⟨h0, _⟩ | ⟨g', cap', cur, hv, hb, hh, hc, hm, hsz, htake⟩
 · cases h0
 · injection hv with hA
   injection hA with hA
   injection hA with hA
   subst hA
   refine ⟨?_, frozen_of_row w g k cur e hh, hb, (Array.getElem?_eq_some_iff.1 hh).1⟩
   rw [cell_of_row w g k cur e (0, 0) hh, ← htake]
   have : k < cur.size := by omega
   simp [this, hk]
theorem own_put (h : w.ownsRow base e 1 (.slice (some ⟨g, 0, none⟩) n cap) n xs) (k : Nat) (u : Value) :
 (w.setCell ⟨g, k, none⟩ u).ownsRow base e 1 (.slice (some ⟨g, 0, none⟩) n cap) n (xs.set k u) := by
 refine ⟨by rw [List.length_set]; exact h.1, ?_⟩
 rcases h.2 with ⟨h0, _⟩ | ⟨g', cap', cur, hv, hb, hh, hc, hm, hsz, htake⟩
 · cases h0
 · refine .inr ⟨g', cap', cur.setIfInBounds k u, hv, hb, ?_, hc, hm, by simpa using hsz, ?_⟩
   · injection hv with hA
     injection hA with hA
     injection hA with hA
     subst hA
     exact heap_setCell_same w g k cur e u hh
   · rw [← htake]
     simp [List.take_set]
end
theorem own_empty (w : World) (base : Nat) (e : TypeId) (size : Nat) (hb : base ≤ w.heap.size) : (w.alloc (.cells #[] e)).ownsRow base e size (.slice (some ⟨w.heap.size, 0, none⟩) 0 0) 0 [] :=
 World.ownsRow_made w #[] 0 hb (Nat.zero_le _) (by simp)
def ints (K : IntKind) (xs : List Int) : List Value := xs.map (Value.int K)
theorem ints_get (K : IntKind) (xs : List Int) {k : Nat} (h : k < xs.length) : (ints K xs).getD k undef = .int K (xs.getD k 0) := by simp [ints, h]
theorem RdI.src {w : World} {A : Option Addr} {K : IntKind} {xs : List Int} (h : RdI w A K xs) : Rd w A (xs.length * 1) (fun k => (ints K xs).getD k undef) := by
 rw [Nat.mul_one]
 exact Rd.congr h fun k hk => (ints_get K xs hk).symm

section
variable {P : Program}

theorem run_app_none (w : World) (base : Nat) (t ty e : TypeId) (i : TypeInfo) (size : Nat) (ht : P.underlying t = some (.slice e)) (hi : P.info? e = some i)
 (v : Value) (n : Nat) (xs : List Value) (hown : w.ownsRow base e size v n xs) (c : Nat) : (Builtin.append_ #[t, t] ty #[v, .slice none 0 c]).run P w = .ok v w := by
 rcases hown.2 with ⟨rfl, rfl⟩ | ⟨g, cap, cur, rfl, _, _, hnc, _⟩
 · simp [Builtin.append_, run_underlying ht, sizeOf, typeInfo, hi, Builtin.lenOf, Builtin.firstCells]
 · simp [Builtin.append_, run_underlying ht, sizeOf, typeInfo, hi, Builtin.lenOf, Builtin.firstCells, hnc, storeCells]

theorem run_app (w : World) (base : Nat) (t ty e : TypeId) (z : Value) (size bytes : Nat) (ht : P.underlying t = some (.slice e))
 (hinfo : (P.info? e).map (fun i => (i.zero, i.size, i.bytes)) = some (some z, size, bytes)) (hzs : z.cells.size = size) (hsz : 0 < size)
 (v : Value) (n : Nat) (xs : List Value) (hown : w.ownsRow base e size v n xs)
 (A : Option Addr) (m c : Nat) (news : List Value) (hl : news.length = m * size) (hrd : Rd w A (m * size) (fun k => news.getD k undef)) (h1 : ∀ u ∈ news, u.oneCell' = true)
 (h63 : n + m ≤ maxLen) (hbytes : (n + m) * bytes ≤ 140737488355328) (hbase : base ≤ w.heap.size) :
 ∃ v' w', (Builtin.append_ #[t, t] ty #[v, .slice A m c]).run P w = .ok v' w' ∧ w'.ownsRow base e size v' (n + m) (xs ++ news) ∧ w.grownBy w' v.ownBlock ∧ Below base w w' := by
 obtain ⟨i, hi, hz, hs, hb⟩ := info_parts hinfo
 have hbel : ∀ w', w.grownBy w' v.ownBlock → Below base w w' := fun w' hg => (Below.refl base w).grown hg hbase (fun k hk => (hown.lt k hk).1)
 rcases Nat.eq_zero_or_pos m with hm | hm
 · subst hm
   have hn : news = [] := List.eq_nil_of_length_eq_zero (by simpa using hl)
   subst hn
   cases A with
   | none => exact ⟨v, w, run_app_none w base t ty e i size ht hi v n xs hown c, by simpa using hown, World.grownBy.refl w _, Below.refl _ _⟩
   | some a =>
    obtain ⟨v', w', hr, ho, hg, _⟩ := run_append_own (P := P) w base t ty e i z size bytes ht hi hz hs hb hzs hsz v n xs hown a 0 c [] (by simp) (by simp) (by simp) h63 hbytes hbase
    exact ⟨v', w', hr, ho, hg, hbel _ hg⟩
 · obtain ⟨b, off, rfl, _, hc⟩ := hrd (Nat.mul_pos hm hsz)
   obtain ⟨v', w', hr, ho, hg, _⟩ := run_append_own (P := P) w base t ty e i z size bytes ht hi hz hs hb hzs hsz v n xs hown ⟨b, off, none⟩ m c news hl (fun j u hu => by
    have hj : j < news.length := (List.getElem?_eq_some_iff.1 hu).1
    have := hc j (by omega)
    have e : (⟨b, off, none⟩ : Addr).add j = ⟨b, off + j, none⟩ := by unfold Addr.add; split <;> simp_all
    rw [e, this]
    show some (news.getD j undef) = some u
    rw [List.getD_eq_getElem?_getD, hu]; rfl) h1 h63 hbytes hbase
   exact ⟨v', w', hr, ho, hg, hbel _ hg⟩

theorem wpList_app {ops : Array Oper} {rest : List Oper} {o : Oper} {a : Act} {Q : Exit → Act → World → Prop} (w : World) (hgd : o.guard = none) (s x : Operand) (t : TypeId)
 (ho : o.op = .call { callee := .builtin .append, args := #[s, x], argTypes := #[t, t] })
 (base : Nat) (e : TypeId) (z : Value) (size bytes : Nat) (ht : P.underlying t = some (.slice e))
 (hinfo : (P.info? e).map (fun i => (i.zero, i.size, i.bytes)) = some (some z, size, bytes)) (hzs : z.cells.size = size) (hsz : 0 < size)
 (v : Value) (n : Nat) (xs : List Value) (hs : a.eval s = v) (A : Option Addr) (m c : Nat) (news : List Value) (hx : a.eval x = .slice A m c)
 (hl : news.length = m * size) (h1 : ∀ u ∈ news, u.oneCell' = true)
 (hown : w.ownsRow base e size v n xs) (hrd : Rd w A (m * size) (fun k => news.getD k undef))
 (h63 : n + m ≤ maxLen) (hbytes : (n + m) * bytes ≤ 140737488355328) (hbase : base ≤ w.heap.size)
 (h : ∀ v' w', w'.ownsRow base e size v' (n + m) (xs ++ news) → w.grownBy w' v.ownBlock → Below base w w' → wpList P ops Q rest (a.put o.dst v') w') : wpList P ops Q (o :: rest) a w := by
 obtain ⟨v', w', hrun, h2, h3, h4⟩ := run_app w base t o.type e z size bytes ht hinfo hzs hsz v n xs hown A m c news hl hrd h1 h63 hbytes hbase
 refine wpList_plain hgd fun K hK => ?_
 unfold Oper.wp execOp
 simp only [ho, resolve, invoke, builtin, Sem.run_bind, Sem.run_pure, Result.andThen_ok, List.map_toArray, List.map_cons, List.map_nil, hs, hx, hrun]
 exact hK _ _ (h v' w' h2 h3 h4)
end

theorem Rd.newAt (w : World) (cs : List Value) (t : TypeId) (N n : Nat) (hN : w.heap.size = N) (hn : n ≤ cs.length) : Rd (w.alloc (.cells cs.toArray t)) (some ⟨N, 0, none⟩) n (fun k => cs.getD k undef) := fun _ =>
 ⟨N, 0, rfl, by subst hN; simp, fun k hk => by
  subst hN
  rw [cell_of_row _ _ _ _ t (0, 0) (heap_alloc_new w _)]
  have : k < cs.length := by omega
  simp [this]⟩
end
end Go.Proofs.YtmbbdjpnecjleaaGreat
namespace Go.Proofs.YtmbbdjpnecjleaaGreat
section
set_option maxRecDepth 100000
set_option maxHeartbeats 1000000
open Go.RowKit

theorem info_u32 : (Tryz.prog.info? 62).map (fun i => (i.zero, i.size, i.bytes)) = some (some (.int .u32 0), 1, 4) := by kernel_rfl
theorem info_u8 : (Tryz.prog.info? 5).map (fun i => (i.zero, i.size, i.bytes)) = some (some (.int .u8 0), 1, 1) := by kernel_rfl
theorem addr_map_zero (A : Option Addr) : A.map (·.add 0) = A := by cases A <;> simp [Addr.add]
theorem run_cut_to {P : Program} (t e : TypeId) (i : TypeInfo) (ht : P.underlying t = some (.slice e)) (hi : P.info? e = some i) (A : Option Addr) (len cap n : Nat) (hn : n ≤ cap) (W : World) :
 (Instr.slice t (.slice A len cap) none (some (.int .i64 (n : Int))) none).run P W = .ok (.slice A n cap) W := by
 have he : P.elem t = e := by simp [Program.elem, ht]
 rw [run_slice_h W t A len cap (by rw [he]; exact ht) .i64 n (by omega) (by omega), he]
 simp only [sizeOf, typeInfo]
 simp [hi, sliced]
 rw [show (fun x : Addr => x.add 0) = (·.add 0) from rfl, addr_map_zero]
 simp

def nums (K : IntKind) (xs : List Nat) : List Value := xs.map (fun x : Nat => Value.int K (x : Int))
theorem nums_len (K : IntKind) (xs : List Nat) : (nums K xs).length = xs.length := by simp [nums]
theorem nums_get (K : IntKind) (xs : List Nat) {k : Nat} (h : k < xs.length) : (nums K xs).getD k undef = .int K ((xs.getD k 0 : Nat) : Int) := by simp [nums, h]
theorem nums_set (K : IntKind) (xs : List Nat) (k x : Nat) : (nums K xs).set k (.int K (x : Int)) = nums K (xs.set k x) := by simp [nums, List.map_set]
theorem nums_app (K : IntKind) (xs : List Nat) (x : Nat) : nums K xs ++ [.int K (x : Int)] = nums K (xs ++ [x]) := by simp [nums]
theorem own_rdL {w : World} {base : Nat} {e : TypeId} {v : Value} {n : Nat} {xs : List Nat} (h : w.ownsRow base e 1 v n (nums .u32 xs)) (hn : n = xs.length) :
 ∃ A cap, v = .slice A xs.length cap ∧ xs.length ≤ cap ∧ cap ≤ maxLen ∧ RdL w A xs := by
 subst hn
 obtain ⟨A, cap, rfl, h1, h2, hr⟩ := own_read h (by rw [nums_len]; omega)
 refine ⟨A, cap, rfl, h1, h2, ?_⟩
 rw [Nat.mul_one] at hr
 exact Rd.congr hr fun k hk => nums_get .u32 xs hk

def FreshV (B : Nat) (v : Value) : Prop := ∀ a n c, v = .slice (some a) n c → B ≤ a.block
theorem FreshV.mono {B C : Nat} {v : Value} (h : FreshV C v) (hb : B ≤ C) : FreshV B v := fun a n c e => Nat.le_trans hb (h a n c e)
theorem own_rdF {w : World} {base : Nat} {e : TypeId} {v : Value} {n : Nat} {xs : List Nat} (h : w.ownsRow base e 1 v n (nums .u32 xs)) (hn : n = xs.length) :
 ∃ A cap, v = .slice A xs.length cap ∧ xs.length ≤ cap ∧ cap ≤ maxLen ∧ RdL w A xs ∧ ∀ a, A = some a → base ≤ a.block := by
 obtain ⟨A, cap, rfl, h1, h2, hr⟩ := own_rdL h hn
 refine ⟨A, cap, rfl, h1, h2, hr, fun a ha => ?_⟩
 rcases h.2 with ⟨h0, _⟩ | ⟨g, cap', cur, hv, hb, _⟩
 · injection h0 with h0; rw [h0] at ha; cases ha
 · injection hv with hA
   rw [ha] at hA
   injection hA with hA
   rw [hA]; exact hb
theorem Rd.setCell {w : World} {A : Option Addr} {n : Nat} {f : Nat → Value} (h : Rd w A n f) {p : Addr} {u : Value} (hp : ∀ a, A = some a → p.block ≠ a.block) : Rd (w.setCell p u) A n f := fun hn => by
 obtain ⟨b, off, e, hlt, hc⟩ := h hn
 refine ⟨b, off, e, by simpa using hlt, fun k hk => ?_⟩
 rw [World.cell?_setCell_other (h := fun e' => hp _ e (by rw [e']))]
 exact hc k hk
theorem RdN.setCell {w : World} {v : Value} {n B : Nat} (h : RdN w v n) {p : Addr} {u : Value} (hf : FreshV B v) (hp : p.block < B) : RdN (w.setCell p u) v n := by
 obtain ⟨A, cap, rfl, hc, hr⟩ := h.row
 exact ⟨A, cap, rfl, hc, Rd.setCell hr fun a ha e => by have := hf a _ _ (by rw [ha]); omega⟩

theorem wpList_push {P : Program} {ops : Array Oper} {rest : List Oper} {o : Oper} {a : Act} {Q : Exit → Act → World → Prop} (w : World) (hgd : o.guard = none) (s x : Operand) (t : TypeId)
 (ho : o.op = .call { callee := .builtin .append, args := #[s, x], argTypes := #[t, t] })
 (base : Nat) (e : TypeId) (z : Value) (bytes : Nat) (ht : P.underlying t = some (.slice e))
 (hinfo : (P.info? e).map (fun i => (i.zero, i.size, i.bytes)) = some (some z, 1, bytes)) (hzs : z.cells.size = 1)
 (v : Value) (n : Nat) (xs : List Value) (hs : a.eval s = v) (u : Value) (hx : a.eval x = .slice (some ⟨w.heap.size, 0, none⟩) 1 1) (h1 : u.oneCell' = true)
 (hown : w.ownsRow base e 1 v n xs)
 (h63 : n + 1 ≤ maxLen) (hbytes : (n + 1) * bytes ≤ 140737488355328) (hbase : base ≤ w.heap.size)
 (h : ∀ v' w', w'.ownsRow base e 1 v' (n + 1) (xs ++ [u]) → Below base w w' → wpList P ops Q rest (a.put o.dst v') w') : wpList P ops Q (o :: rest) a (w.alloc (.cells #[u] e)) := by
 refine wpList_app (w.alloc (.cells #[u] e)) hgd s x t ho base e z 1 bytes ht hinfo hzs (by decide) v n xs hs (some ⟨w.heap.size, 0, none⟩) 1 1 [u] hx rfl (fun y hy => by
  rw [List.mem_singleton.1 hy]; exact h1) (own_below hown (bel_alloc (bel_refl _) _)) (Rd.newAt w [u] e _ 1 rfl (Nat.le_refl _)) h63 hbytes (by simp; omega) ?_
 intro v' w' h2 _ h4
 refine h v' w' h2 ?_
 exact ((Below.refl base w).alloc hbase _).trans h4
end
end Go.Proofs.YtmbbdjpnecjleaaGreat
