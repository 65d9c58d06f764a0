/-
  Layer 5's reference: the token at a place; walked.
-/
import Derived.Test.YtkaafakodeeidaaDoorRefN
import Derived.Test.YtkaafakodeeidaaDoorRefQ
import Derived.Lib.Strings
namespace Go.Proofs.YtkaafakodeeidaaDoor
open Go.RowKit

theorem pre_is (t k : ByteArray) : Go.Lib.hasPrefix t.data.toList k.data.toList = true ↔ k.size ≤ t.size ∧ t.extract 0 k.size = k := by
  rw [← Go.Lib.hasPrefix_raw, Bool.and_eq_true, decide_eq_true_iff, str_beq, decide_eq_true_iff]
theorem opFrom_skip {t : ByteArray} {A B : List ByteArray} (h : ∀ k ∈ A, Go.Lib.hasPrefix t.data.toList k.data.toList = false) : opFrom t (A ++ B) = opFrom t B := by
  induction A with
  | nil => rfl
  | cons k A ih =>
    rw [List.cons_append, opFrom, if_neg (by rw [h k List.mem_cons_self]; decide)]
    exact ih fun x hx => h x (List.mem_cons_of_mem _ hx)
theorem opFrom_hit {t : ByteArray} {A B : List ByteArray} {n : Nat} (hn : ∀ k ∈ A, k.size = n) (h : ∃ k ∈ A, Go.Lib.hasPrefix t.data.toList k.data.toList = true) : opFrom t (A ++ B) = n := by
  induction A with
  | nil => obtain ⟨k, hk, _⟩ := h; cases hk
  | cons k A ih =>
    rw [List.cons_append, opFrom]
    by_cases hp : Go.Lib.hasPrefix t.data.toList k.data.toList = true
    · rw [if_pos hp]
      exact hn k List.mem_cons_self
    · rw [if_neg hp]
      refine ih (fun x hx => hn x (List.mem_cons_of_mem _ hx)) ?_
      obtain ⟨x, hx, hxp⟩ := h
      rcases List.mem_cons.1 hx with rfl | hx
      · exact absurd hxp hp
      · exact ⟨x, hx, hxp⟩
def ops3 : List ByteArray := opsL.take 1
def ops2 : List ByteArray := (opsL.drop 1).take 9
def ops1 : List ByteArray := opsL.drop 10
theorem ops_parts : opsL = ops3 ++ (ops2 ++ ops1) := rfl
theorem ops3_size : ∀ k ∈ ops3, k.size = 3 := by decide
theorem ops2_size : ∀ k ∈ ops2, k.size = 2 := by decide
theorem ops1_size : ∀ k ∈ ops1, k.size = 1 := by decide
theorem opB_is (x : ByteArray) : opB x = true ↔ x ∈ opsL := Go.Lib.containsS_iff _ _
/-- An operator of n bytes begins here. -/
def opAt (t : ByteArray) (n : Nat) : Prop := n ≤ t.size ∧ opB (t.extract 0 n) = true
theorem ext0_size (t : ByteArray) {n : Nat} (h : n ≤ t.size) : (t.extract 0 n).size = n := by rw [ByteArray.size_extract]; omega
theorem op_hit {t : ByteArray} {A : List ByteArray} {n : Nat} (hin : ∀ x, x ∈ opsL → x.size = n → x ∈ A) (h : opAt t n) : ∃ k ∈ A, Go.Lib.hasPrefix t.data.toList k.data.toList = true := by
  have hz := ext0_size t h.1
  refine ⟨t.extract 0 n, hin _ ((opB_is _).1 h.2) hz, ?_⟩
  rw [pre_is, hz]
  exact ⟨h.1, rfl⟩
theorem op_miss {t : ByteArray} {A : List ByteArray} {n : Nat} (hs : ∀ k ∈ A, k.size = n) (hsub : ∀ k ∈ A, k ∈ opsL) (h : ¬ opAt t n) : ∀ k ∈ A, Go.Lib.hasPrefix t.data.toList k.data.toList = false := by
  intro k hk
  cases hp : Go.Lib.hasPrefix t.data.toList k.data.toList
  · rfl
  · obtain ⟨h1, h2⟩ := (pre_is t k).1 hp
    rw [hs k hk] at h1 h2
    exact absurd ⟨h1, (opB_is _).2 (by rw [h2]; exact hsub k hk)⟩ h
theorem ops_mem {x : ByteArray} (h : x ∈ opsL) : x ∈ ops3 ∨ x ∈ ops2 ∨ x ∈ ops1 := by
  rw [ops_parts] at h
  rcases List.mem_append.1 h with h | h
  · exact .inl h
  · exact .inr (List.mem_append.1 h)
theorem in3 (x : ByteArray) (h : x ∈ opsL) (hz : x.size = 3) : x ∈ ops3 := by
  rcases ops_mem h with h | h | h
  · exact h
  · have := ops2_size x h; omega
  · have := ops1_size x h; omega
theorem in2 (x : ByteArray) (h : x ∈ opsL) (hz : x.size = 2) : x ∈ ops2 := by
  rcases ops_mem h with h | h | h
  · have := ops3_size x h; omega
  · exact h
  · have := ops1_size x h; omega
theorem in1 (x : ByteArray) (h : x ∈ opsL) (hz : x.size = 1) : x ∈ ops1 := by
  rcases ops_mem h with h | h | h
  · have := ops3_size x h; omega
  · have := ops2_size x h; omega
  · exact h
theorem sub3 : ∀ k ∈ ops3, k ∈ opsL := fun _ h => List.mem_of_mem_take h
theorem sub2 : ∀ k ∈ ops2, k ∈ opsL := fun _ h => List.mem_of_mem_drop (List.mem_of_mem_take h)
theorem sub1 : ∀ k ∈ ops1, k ∈ opsL := fun _ h => List.mem_of_mem_drop h
theorem opLen_3 {t : ByteArray} (h : opAt t 3) : opLen t = 3 := by unfold opLen; rw [ops_parts]; exact opFrom_hit ops3_size (op_hit in3 h)
theorem opLen_2 {t : ByteArray} (h3 : ¬ opAt t 3) (h : opAt t 2) : opLen t = 2 := by
  unfold opLen
  rw [ops_parts, opFrom_skip (op_miss ops3_size sub3 h3)]
  exact opFrom_hit ops2_size (op_hit in2 h)
theorem opLen_1 {t : ByteArray} (h3 : ¬ opAt t 3) (h2 : ¬ opAt t 2) (h : opAt t 1) : opLen t = 1 := by
  unfold opLen
  rw [ops_parts, opFrom_skip (op_miss ops3_size sub3 h3), opFrom_skip (op_miss ops2_size sub2 h2), ← List.append_nil ops1]
  exact opFrom_hit ops1_size (op_hit in1 h)
theorem opLen_0 {t : ByteArray} (h3 : ¬ opAt t 3) (h2 : ¬ opAt t 2) (h1 : ¬ opAt t 1) : opLen t = 0 := by
  unfold opLen
  rw [ops_parts, opFrom_skip (op_miss ops3_size sub3 h3), opFrom_skip (op_miss ops2_size sub2 h2), ← List.append_nil ops1, opFrom_skip (op_miss ops1_size sub1 h1)]
  rfl
theorem opLen_at {t : ByteArray} {n : Nat} (hn : n ≤ 3) (h0 : 0 < n) (h : opAt t n) (hm : ∀ m, n < m → m ≤ 3 → ¬ opAt t m) : opLen t = n := by
  match n, hn, h0 with
  | 1, _, _ => exact opLen_1 (hm 3 (by decide) (by decide)) (hm 2 (by decide) (by decide)) h
  | 2, _, _ => exact opLen_2 (hm 3 (by decide) (by decide)) h
  | 3, _, _ => exact opLen_3 h
theorem opLen_no {t : ByteArray} (hm : ∀ m, 0 < m → m ≤ 3 → ¬ opAt t m) : opLen t = 0 := opLen_0 (hm 3 (by decide) (by decide)) (hm 2 (by decide) (by decide)) (hm 1 (by decide) (by decide))
theorem op5_is {v : Bool} (s : ByteArray) (w : World) (h : opB s = v) : Calls Tryd.prog 11 #[.string s] w (fun e w' => e = .returned (.bool v) ∧ Below w.heap.size w w') := by
  rw [← h]
  exact refOp_any s w
set_option maxRecDepth 100000 in
set_option maxHeartbeats 2000000 in
theorem refToken_word (s : ByteArray) (i : Nat) (w : World) (hs : s.size ≤ 100000) (hi : i < s.size) (hc : letter (bt s i : Int) = true) : Calls Tryd.prog 19 #[.string s, .int .i64 (i : Int)] w (RetT (tokAt i (tokOf (tl s i))) w) := by
  have a0 : (i : Int) < (s.size : Int) := by omega
  have g0 := bt_get s (i := i) hi
  have t0 : bt (tl s i) 0 = bt s i := tl_bt s i 0
  have KN := Lib.hid (fun W => refName_any s i W hs hi hc)
  obtain ⟨b, hb⟩ : ∃ b, bt s i = b := ⟨_, rfl⟩
  rw [hb] at g0 hc
  have KL := Lib.hid (fun W => refLetter_is b W hc)
  obtain ⟨r, hr⟩ : ∃ r, tokAt i (tokOf (tl s i)) = r := ⟨_, rfl⟩
  rw [hr] at KN ⊢
  clear hr hc hb t0 hs
  obtain ⟨wa, hwa⟩ : ∃ wa, wa = w.alloc (.cells #[.int .i64 0, .int .i64 0, .int .i64 0] 47) := ⟨_, rfl⟩
  have hbl : Below w.heap.size w wa := by rw [hwa]; exact bel_alloc (bel_refl _) _
  have RES : Blk wa w.heap.size 47 #[.int .i64 0, .int .i64 0, .int .i64 0] := by
    have hz := Blk.new w 47 #[.int .i64 0, .int .i64 0, .int .i64 0]
    rw [hwa]
    exact hz
  have HW := Lib.hid hbl; clear hbl
  replace RES := Lib.hid RES
  go_enter Tryd.func19, Tryd.ntmps19
  go_wp2_with fail
  rw [← hwa]
  clear hwa
  refine (KL.out _).mono ?_
  rintro e w1 ⟨rfl, rfl⟩
  go_wp2_with fail
  refine (KN.out _).mono ?_
  rintro e w2 ⟨rfl, hbl⟩
  replace RES := Lib.hid (RES.out.below hbl RES.out.lt)
  replace HW := Lib.hid (bel_trans HW.out hbl); clear hbl
  obtain ⟨k, n, er⟩ := r
  have d0 : w2.cell? ⟨w.heap.size, 0, none⟩ = some (.int .i64 0) := RES.out.cell 0
  have f0 : w2.frozen? ⟨w.heap.size, 0, none⟩ = false := RES.out.frozen 0
  have d1 : w2.cell? ⟨w.heap.size, 1, none⟩ = some (.int .i64 0) := RES.out.cell 1
  have f1 : w2.frozen? ⟨w.heap.size, 1, none⟩ = false := RES.out.frozen 1
  have d2 : w2.cell? ⟨w.heap.size, 2, none⟩ = some (.int .i64 0) := RES.out.cell 2
  have f2 : w2.frozen? ⟨w.heap.size, 2, none⟩ = false := RES.out.frozen 2
  have hlw : w.heap.size < w2.heap.size := RES.out.lt
  have D := Lib.hid (And.intro (RES.out.put3 (.int .i64 (k : Int)) (.int .i64 (n : Int)) (.int .i64 (er : Int))) (bel_set3 (g := w.heap.size) HW.out (Nat.le_refl _) (.int .i64 (k : Int)) (.int .i64 (n : Int)) (.int .i64 (er : Int))))
  go_wp2
  refine bodyPost_ret (v := .agg #[.int .i64 (k : Int), .int .i64 (n : Int), .int .i64 (er : Int)]) ?hr rfl ?hR
  case hR => exact ⟨rfl, D.out.2⟩
  case hr => exact results_cell_row rfl _ _ w.heap.size 47 _ (0, 0) _ rfl D.out.1 Tryd.underlying47 rfl (by kernel_rfl)
set_option maxRecDepth 100000 in
set_option maxHeartbeats 2000000 in
theorem refToken_num (s : ByteArray) (i : Nat) (w : World) (hs : s.size ≤ 100000) (hi : i < s.size) (hc : letter (bt s i : Int) = false) (hd : digB (bt s i) = true) : Calls Tryd.prog 19 #[.string s, .int .i64 (i : Int)] w (RetT (tokAt i (tokOf (tl s i))) w) := by
  have a0 : (i : Int) < (s.size : Int) := by omega
  have g0 := bt_get s (i := i) hi
  have t0 : bt (tl s i) 0 = bt s i := tl_bt s i 0
  have he : tokAt i (tokOf (tl s i)) = (numKind (tl s i), i + numEnd (tl s i), 0) := by
    unfold tokOf
    rw [t0, if_neg (by rw [hc]; decide), if_pos (.inl hd)]
    rfl
  rw [he]
  have KN := Lib.hid (fun W => refNumber_any s i W hs hi)
  obtain ⟨b, hb⟩ : ∃ b, bt s i = b := ⟨_, rfl⟩
  rw [hb] at g0 hc hd
  have KL := Lib.hid (fun W => refLetter_is b W hc)
  have KD := Lib.hid (fun W => refDigit5_is b W hd)
  obtain ⟨K, hK⟩ : ∃ K, numKind (tl s i) = K := ⟨_, rfl⟩
  obtain ⟨E, hE⟩ : ∃ E, i + numEnd (tl s i) = E := ⟨_, rfl⟩
  rw [hK, hE] at KN ⊢
  clear he hc hd hb t0 hs hK hE
  obtain ⟨wa, hwa⟩ : ∃ wa, wa = w.alloc (.cells #[.int .i64 0, .int .i64 0, .int .i64 0] 47) := ⟨_, rfl⟩
  have hbl : Below w.heap.size w wa := by rw [hwa]; exact bel_alloc (bel_refl _) _
  have RES : Blk wa w.heap.size 47 #[.int .i64 0, .int .i64 0, .int .i64 0] := by
    have hz := Blk.new w 47 #[.int .i64 0, .int .i64 0, .int .i64 0]
    rw [hwa]
    exact hz
  have HW := Lib.hid hbl; clear hbl
  replace RES := Lib.hid RES
  go_enter Tryd.func19, Tryd.ntmps19
  go_wp2_with fail
  rw [← hwa]
  clear hwa
  refine (KL.out _).mono ?_
  rintro e w1 ⟨rfl, rfl⟩
  go_wp2_with fail
  refine (KD.out _).mono ?_
  rintro e w1 ⟨rfl, rfl⟩
  go_wp2_with fail
  refine (KN.out _).mono ?_
  rintro e w2 ⟨rfl, hbl⟩
  replace RES := Lib.hid (RES.out.below hbl RES.out.lt)
  replace HW := Lib.hid (bel_trans HW.out hbl); clear hbl
  have d0 : w2.cell? ⟨w.heap.size, 0, none⟩ = some (.int .i64 0) := RES.out.cell 0
  have f0 : w2.frozen? ⟨w.heap.size, 0, none⟩ = false := RES.out.frozen 0
  have d1 : w2.cell? ⟨w.heap.size, 1, none⟩ = some (.int .i64 0) := RES.out.cell 1
  have f1 : w2.frozen? ⟨w.heap.size, 1, none⟩ = false := RES.out.frozen 1
  have d2 : w2.cell? ⟨w.heap.size, 2, none⟩ = some (.int .i64 0) := RES.out.cell 2
  have f2 : w2.frozen? ⟨w.heap.size, 2, none⟩ = false := RES.out.frozen 2
  have hlw : w.heap.size < w2.heap.size := RES.out.lt
  have D := Lib.hid (And.intro (RES.out.put3 (.int .i64 (K : Int)) (.int .i64 (E : Int)) (.int .i64 0)) (bel_set3 (g := w.heap.size) HW.out (Nat.le_refl _) (.int .i64 (K : Int)) (.int .i64 (E : Int)) (.int .i64 0)))
  go_wp2
  refine bodyPost_ret (v := .agg #[.int .i64 (K : Int), .int .i64 (E : Int), .int .i64 0]) ?hr rfl ?hR
  case hR => exact ⟨rfl, D.out.2⟩
  case hr => exact results_cell_row rfl _ _ w.heap.size 47 _ (0, 0) _ rfl D.out.1 Tryd.underlying47 rfl (by kernel_rfl)
set_option maxRecDepth 100000 in
set_option maxHeartbeats 2000000 in
theorem refToken_dot (s : ByteArray) (i : Nat) (w : World) (hs : s.size ≤ 100000) (hi : i < s.size) (hc : bt s i = 46) (hd : digB (bt s (i + 1)) = true) : Calls Tryd.prog 19 #[.string s, .int .i64 (i : Int)] w (RetT (tokAt i (tokOf (tl s i))) w) := by
  have a0 : (i : Int) < (s.size : Int) := by omega
  have g0 := bt_get s (i := i) hi
  have t0 : bt (tl s i) 0 = bt s i := tl_bt s i 0
  have he : tokAt i (tokOf (tl s i)) = (numKind (tl s i), i + numEnd (tl s i), 0) := by
    unfold tokOf
    rw [t0, if_neg (by rw [hc]; decide), if_pos (.inr ⟨hc, by rw [tl_bt]; exact hd⟩)]
    rfl
  have sI : IntKind.i64.wrap ((i : Int) + 1) = ((i + 1 : Nat) : Int) := by rw [IntKind.wrap_i64]; omega
  have KA := Lib.hid (fun W => at_any s (i + 1) W)
  have KD2 := Lib.hid (fun W => refDigit5_is (bt s (i + 1)) W hd)
  obtain ⟨c, hcc⟩ : ∃ c, bt s (i + 1) = c := ⟨_, rfl⟩
  rw [hcc] at KA KD2
  rw [he]
  have KN := Lib.hid (fun W => refNumber_any s i W hs hi)
  obtain ⟨b, hb⟩ : ∃ b, bt s i = b := ⟨_, rfl⟩
  rw [hb] at g0 hc
  subst hc
  have KL : Hid (∀ W, Calls Tryd.prog 35 #[.int .u8 46] W (RetB false W)) := Lib.hid (fun W => refLetter_is 46 W (by decide))
  have KD : Hid (∀ W, Calls Tryd.prog 37 #[.int .u8 46] W (RetB false W)) := Lib.hid (fun W => refDigit5_is 46 W (by decide))
  obtain ⟨K, hK⟩ : ∃ K, numKind (tl s i) = K := ⟨_, rfl⟩
  obtain ⟨E, hE⟩ : ∃ E, i + numEnd (tl s i) = E := ⟨_, rfl⟩
  rw [hK, hE] at KN ⊢
  clear he hd hb t0 hs hK hE
  obtain ⟨wa, hwa⟩ : ∃ wa, wa = w.alloc (.cells #[.int .i64 0, .int .i64 0, .int .i64 0] 47) := ⟨_, rfl⟩
  have hbl : Below w.heap.size w wa := by rw [hwa]; exact bel_alloc (bel_refl _) _
  have RES : Blk wa w.heap.size 47 #[.int .i64 0, .int .i64 0, .int .i64 0] := by
    have hz := Blk.new w 47 #[.int .i64 0, .int .i64 0, .int .i64 0]
    rw [hwa]
    exact hz
  have HW := Lib.hid hbl; clear hbl
  replace RES := Lib.hid RES
  go_enter Tryd.func19, Tryd.ntmps19
  go_wp2_with fail
  rw [← hwa]
  clear hwa
  refine (KL.out _).mono ?_
  rintro e w1 ⟨rfl, rfl⟩
  go_wp2_with fail
  refine (KD.out _).mono ?_
  rintro e w1 ⟨rfl, rfl⟩
  go_wp2_with fail
  refine (KA.out _).mono ?_
  rintro e w1 ⟨rfl, rfl⟩
  go_wp2_with fail
  refine (KD2.out _).mono ?_
  rintro e w1 ⟨rfl, rfl⟩
  go_wp2_with fail
  refine (KN.out _).mono ?_
  rintro e w2 ⟨rfl, hbl⟩
  replace RES := Lib.hid (RES.out.below hbl RES.out.lt)
  replace HW := Lib.hid (bel_trans HW.out hbl); clear hbl
  have d0 : w2.cell? ⟨w.heap.size, 0, none⟩ = some (.int .i64 0) := RES.out.cell 0
  have f0 : w2.frozen? ⟨w.heap.size, 0, none⟩ = false := RES.out.frozen 0
  have d1 : w2.cell? ⟨w.heap.size, 1, none⟩ = some (.int .i64 0) := RES.out.cell 1
  have f1 : w2.frozen? ⟨w.heap.size, 1, none⟩ = false := RES.out.frozen 1
  have d2 : w2.cell? ⟨w.heap.size, 2, none⟩ = some (.int .i64 0) := RES.out.cell 2
  have f2 : w2.frozen? ⟨w.heap.size, 2, none⟩ = false := RES.out.frozen 2
  have hlw : w.heap.size < w2.heap.size := RES.out.lt
  have D := Lib.hid (And.intro (RES.out.put3 (.int .i64 (K : Int)) (.int .i64 (E : Int)) (.int .i64 0)) (bel_set3 (g := w.heap.size) HW.out (Nat.le_refl _) (.int .i64 (K : Int)) (.int .i64 (E : Int)) (.int .i64 0)))
  go_wp2
  refine bodyPost_ret (v := .agg #[.int .i64 (K : Int), .int .i64 (E : Int), .int .i64 0]) ?hr rfl ?hR
  case hR => exact ⟨rfl, D.out.2⟩
  case hr => exact results_cell_row rfl _ _ w.heap.size 47 _ (0, 0) _ rfl D.out.1 Tryd.underlying47 rfl (by kernel_rfl)
set_option maxRecDepth 100000 in
set_option maxHeartbeats 2000000 in
theorem refToken_quo (s : ByteArray) (i : Nat) (w : World) (hs : s.size ≤ 100000) (hi : i < s.size) (q : Nat) (hq : bt s i = q) (h3 : q = 39 ∨ q = 34 ∨ q = 96) : Calls Tryd.prog 19 #[.string s, .int .i64 (i : Int)] w (RetT (tokAt i (tokOf (tl s i))) w) := by
  have a0 : (i : Int) < (s.size : Int) := by omega
  have g0 := bt_get s (i := i) hi
  have t0 : bt (tl s i) 0 = bt s i := tl_bt s i 0
  have KL := Lib.hid (fun W => refLetter_is q W (v := false) (by rcases h3 with h | h | h <;> (subst h; decide)))
  have hD : digB q = false := by rcases h3 with h | h | h <;> (subst h; decide)
  have KD := Lib.hid (fun W => refDigit5_is q W hD)
  have he : tokAt i (tokOf (tl s i)) = quoT q i (quoEnd (tl s i) q 1) := by
    unfold tokOf quoT
    have hL : letter (q : Int) = false := by rcases h3 with h | h | h <;> (subst h; decide)
    rw [t0, hq, if_neg (by rw [hL]; decide), if_neg (by rintro (h | h); · rw [hD] at h; cases h
                                                        · omega), if_pos h3]
    by_cases hz : quoEnd (tl s i) q 1 = 0
    · rw [if_pos hz, if_pos hz]; rfl
    · rw [if_neg hz, if_neg hz]
      by_cases h39 : q = 39
      · rw [if_pos h39, if_pos h39]; rfl
      · rw [if_neg h39, if_neg h39]; rfl
  rw [he]
  have KQ := Lib.hid (fun W => refQuoted_any s i q W hs hi hq h3)
  rw [hq] at g0
  obtain ⟨r, hr⟩ : ∃ r, quoT q i (quoEnd (tl s i) q 1) = r := ⟨_, rfl⟩
  rw [hr] at KQ ⊢
  have f46 : ((q : Int) == 46) = false := by simp only [beq_eq_false_iff_ne, ne_eq]; omega
  have g46 : ¬ (q : Int) = 46 := by omega
  have H3 := Lib.hid h3
  clear he hr hq t0 hs hD h3
  obtain ⟨k, n, er⟩ := r
  rcases H3.out with h | h | h
  · subst h
    obtain ⟨wa, hwa⟩ : ∃ wa, wa = w.alloc (.cells #[.int .i64 0, .int .i64 0, .int .i64 0] 47) := ⟨_, rfl⟩
    have hbl : Below w.heap.size w wa := by rw [hwa]; exact bel_alloc (bel_refl _) _
    have RES : Blk wa w.heap.size 47 #[.int .i64 0, .int .i64 0, .int .i64 0] := by
      have hz := Blk.new w 47 #[.int .i64 0, .int .i64 0, .int .i64 0]
      rw [hwa]
      exact hz
    have HW := Lib.hid hbl; clear hbl
    replace RES := Lib.hid RES
    go_enter Tryd.func19, Tryd.ntmps19
    go_wp2_with fail
    rw [← hwa]
    clear hwa
    refine (KL.out _).mono ?_
    rintro e w1 ⟨rfl, rfl⟩
    go_wp2_with fail
    refine (KD.out _).mono ?_
    rintro e w1 ⟨rfl, rfl⟩
    go_wp2_with fail
    refine (KQ.out _).mono ?_
    rintro e w2 ⟨rfl, hbl⟩
    replace RES := Lib.hid (RES.out.below hbl RES.out.lt)
    replace HW := Lib.hid (bel_trans HW.out hbl); clear hbl
    have d0 : w2.cell? ⟨w.heap.size, 0, none⟩ = some (.int .i64 0) := RES.out.cell 0
    have f0 : w2.frozen? ⟨w.heap.size, 0, none⟩ = false := RES.out.frozen 0
    have d1 : w2.cell? ⟨w.heap.size, 1, none⟩ = some (.int .i64 0) := RES.out.cell 1
    have f1 : w2.frozen? ⟨w.heap.size, 1, none⟩ = false := RES.out.frozen 1
    have d2 : w2.cell? ⟨w.heap.size, 2, none⟩ = some (.int .i64 0) := RES.out.cell 2
    have f2 : w2.frozen? ⟨w.heap.size, 2, none⟩ = false := RES.out.frozen 2
    have hlw : w.heap.size < w2.heap.size := RES.out.lt
    have D := Lib.hid (And.intro (RES.out.put3 (.int .i64 (k : Int)) (.int .i64 (n : Int)) (.int .i64 (er : Int))) (bel_set3 (g := w.heap.size) HW.out (Nat.le_refl _) (.int .i64 (k : Int)) (.int .i64 (n : Int)) (.int .i64 (er : Int))))
    go_wp2
    refine bodyPost_ret (v := .agg #[.int .i64 (k : Int), .int .i64 (n : Int), .int .i64 (er : Int)]) ?hrq0 rfl ?hRq0
    case hRq0 => exact ⟨rfl, D.out.2⟩
    case hrq0 => exact results_cell_row rfl _ _ w.heap.size 47 _ (0, 0) _ rfl D.out.1 Tryd.underlying47 rfl (by kernel_rfl)
  · subst h
    obtain ⟨wa, hwa⟩ : ∃ wa, wa = w.alloc (.cells #[.int .i64 0, .int .i64 0, .int .i64 0] 47) := ⟨_, rfl⟩
    have hbl : Below w.heap.size w wa := by rw [hwa]; exact bel_alloc (bel_refl _) _
    have RES : Blk wa w.heap.size 47 #[.int .i64 0, .int .i64 0, .int .i64 0] := by
      have hz := Blk.new w 47 #[.int .i64 0, .int .i64 0, .int .i64 0]
      rw [hwa]
      exact hz
    have HW := Lib.hid hbl; clear hbl
    replace RES := Lib.hid RES
    go_enter Tryd.func19, Tryd.ntmps19
    go_wp2_with fail
    rw [← hwa]
    clear hwa
    refine (KL.out _).mono ?_
    rintro e w1 ⟨rfl, rfl⟩
    go_wp2_with fail
    refine (KD.out _).mono ?_
    rintro e w1 ⟨rfl, rfl⟩
    go_wp2_with fail
    refine (KQ.out _).mono ?_
    rintro e w2 ⟨rfl, hbl⟩
    replace RES := Lib.hid (RES.out.below hbl RES.out.lt)
    replace HW := Lib.hid (bel_trans HW.out hbl); clear hbl
    have d0 : w2.cell? ⟨w.heap.size, 0, none⟩ = some (.int .i64 0) := RES.out.cell 0
    have f0 : w2.frozen? ⟨w.heap.size, 0, none⟩ = false := RES.out.frozen 0
    have d1 : w2.cell? ⟨w.heap.size, 1, none⟩ = some (.int .i64 0) := RES.out.cell 1
    have f1 : w2.frozen? ⟨w.heap.size, 1, none⟩ = false := RES.out.frozen 1
    have d2 : w2.cell? ⟨w.heap.size, 2, none⟩ = some (.int .i64 0) := RES.out.cell 2
    have f2 : w2.frozen? ⟨w.heap.size, 2, none⟩ = false := RES.out.frozen 2
    have hlw : w.heap.size < w2.heap.size := RES.out.lt
    have D := Lib.hid (And.intro (RES.out.put3 (.int .i64 (k : Int)) (.int .i64 (n : Int)) (.int .i64 (er : Int))) (bel_set3 (g := w.heap.size) HW.out (Nat.le_refl _) (.int .i64 (k : Int)) (.int .i64 (n : Int)) (.int .i64 (er : Int))))
    go_wp2
    refine bodyPost_ret (v := .agg #[.int .i64 (k : Int), .int .i64 (n : Int), .int .i64 (er : Int)]) ?hrq1 rfl ?hRq1
    case hRq1 => exact ⟨rfl, D.out.2⟩
    case hrq1 => exact results_cell_row rfl _ _ w.heap.size 47 _ (0, 0) _ rfl D.out.1 Tryd.underlying47 rfl (by kernel_rfl)
  · subst h
    obtain ⟨wa, hwa⟩ : ∃ wa, wa = w.alloc (.cells #[.int .i64 0, .int .i64 0, .int .i64 0] 47) := ⟨_, rfl⟩
    have hbl : Below w.heap.size w wa := by rw [hwa]; exact bel_alloc (bel_refl _) _
    have RES : Blk wa w.heap.size 47 #[.int .i64 0, .int .i64 0, .int .i64 0] := by
      have hz := Blk.new w 47 #[.int .i64 0, .int .i64 0, .int .i64 0]
      rw [hwa]
      exact hz
    have HW := Lib.hid hbl; clear hbl
    replace RES := Lib.hid RES
    go_enter Tryd.func19, Tryd.ntmps19
    go_wp2_with fail
    rw [← hwa]
    clear hwa
    refine (KL.out _).mono ?_
    rintro e w1 ⟨rfl, rfl⟩
    go_wp2_with fail
    refine (KD.out _).mono ?_
    rintro e w1 ⟨rfl, rfl⟩
    go_wp2_with fail
    refine (KQ.out _).mono ?_
    rintro e w2 ⟨rfl, hbl⟩
    replace RES := Lib.hid (RES.out.below hbl RES.out.lt)
    replace HW := Lib.hid (bel_trans HW.out hbl); clear hbl
    have d0 : w2.cell? ⟨w.heap.size, 0, none⟩ = some (.int .i64 0) := RES.out.cell 0
    have f0 : w2.frozen? ⟨w.heap.size, 0, none⟩ = false := RES.out.frozen 0
    have d1 : w2.cell? ⟨w.heap.size, 1, none⟩ = some (.int .i64 0) := RES.out.cell 1
    have f1 : w2.frozen? ⟨w.heap.size, 1, none⟩ = false := RES.out.frozen 1
    have d2 : w2.cell? ⟨w.heap.size, 2, none⟩ = some (.int .i64 0) := RES.out.cell 2
    have f2 : w2.frozen? ⟨w.heap.size, 2, none⟩ = false := RES.out.frozen 2
    have hlw : w.heap.size < w2.heap.size := RES.out.lt
    have D := Lib.hid (And.intro (RES.out.put3 (.int .i64 (k : Int)) (.int .i64 (n : Int)) (.int .i64 (er : Int))) (bel_set3 (g := w.heap.size) HW.out (Nat.le_refl _) (.int .i64 (k : Int)) (.int .i64 (n : Int)) (.int .i64 (er : Int))))
    go_wp2
    refine bodyPost_ret (v := .agg #[.int .i64 (k : Int), .int .i64 (n : Int), .int .i64 (er : Int)]) ?hrq2 rfl ?hRq2
    case hRq2 => exact ⟨rfl, D.out.2⟩
    case hrq2 => exact results_cell_row rfl _ _ w.heap.size 47 _ (0, 0) _ rfl D.out.1 Tryd.underlying47 rfl (by kernel_rfl)
structure TkR (w wr : World) : Prop where
  old : Below w.heap.size w wr
  res : Blk wr w.heap.size 47 #[.int .i64 0, .int .i64 0, .int .i64 0]
set_option maxRecDepth 100000 in
set_option maxHeartbeats 2000000 in
theorem refToken_op (s : ByteArray) (i : Nat) (w : World) (hs : s.size ≤ 100000) (hi : i < s.size) (hp : Plain (tl s i)) : Calls Tryd.prog 19 #[.string s, .int .i64 (i : Int)] w (RetT (tokAt i (tokOf (tl s i))) w) := by
  have a0 : (i : Int) < (s.size : Int) := by omega
  have g0 := bt_get s (i := i) hi
  have t0 : bt (tl s i) 0 = bt s i := tl_bt s i 0
  have he : tokAt i (tokOf (tl s i)) = if opLen (tl s i) = 0 then (0, 0, 12) else (6, i + opLen (tl s i), 0) := by
    rw [hp.tok]
    by_cases h : opLen (tl s i) = 0
    · rw [if_pos h, if_pos h]; rfl
    · rw [if_neg h, if_neg h]; rfl
  obtain ⟨R, hR⟩ : ∃ R, tokAt i (tokOf (tl s i)) = R := ⟨_, rfl⟩
  rw [hR]
  rw [hR] at he
  have HR := Lib.hid he.symm
  clear he hR
  have sI : IntKind.i64.wrap ((i : Int) + 1) = ((i + 1 : Nat) : Int) := by rw [IntKind.wrap_i64]; omega
  have hq1 := hp.q1; have hq2 := hp.q2; have hq3 := hp.q3; have hdt := hp.dt; have hwd := hp.wd; have hdg := hp.dg
  rw [t0] at hq1 hq2 hq3 hdt hwd hdg
  rw [tl_bt] at hdt
  obtain ⟨b, hb⟩ : ∃ b, bt s i = b := ⟨_, rfl⟩
  rw [hb] at g0 hq1 hq2 hq3 hdt hwd hdg
  have KL := Lib.hid (fun W => refLetter_is b W hwd)
  have KD := Lib.hid (fun W => refDigit5_is b W hdg)
  have HP := Lib.hid hp
  clear hp hb t0 hwd hdg
  have f39 : ((b : Int) == 39) = false := by simp only [beq_eq_false_iff_ne, ne_eq]; omega
  have g39 : ¬ (b : Int) = 39 := by omega
  have f34 : ((b : Int) == 34) = false := by simp only [beq_eq_false_iff_ne, ne_eq]; omega
  have g34 : ¬ (b : Int) = 34 := by omega
  have f96 : ((b : Int) == 96) = false := by simp only [beq_eq_false_iff_ne, ne_eq]; omega
  have g96 : ¬ (b : Int) = 96 := by omega
  clear hq1 hq2 hq3
  by_cases h46 : b = 46
  · subst h46
    have KA := Lib.hid (fun W => at_any s (i + 1) W)
    have KD2 := Lib.hid (fun W => refDigit5_is (bt s (i + 1)) W (hdt rfl))
    obtain ⟨c, hcc⟩ : ∃ c, bt s (i + 1) = c := ⟨_, rfl⟩
    rw [hcc] at KA KD2
    clear hdt hcc
    obtain ⟨wa, hwa⟩ : ∃ wa, wa = w.alloc (.cells #[.int .i64 0, .int .i64 0, .int .i64 0] 47) := ⟨_, rfl⟩
    have hbl : Below w.heap.size w wa := by rw [hwa]; exact bel_alloc (bel_refl _) _
    have RES : Blk wa w.heap.size 47 #[.int .i64 0, .int .i64 0, .int .i64 0] := by
      have hz := Blk.new w 47 #[.int .i64 0, .int .i64 0, .int .i64 0]
      rw [hwa]
      exact hz
    have HW := Lib.hid hbl; clear hbl
    replace RES := Lib.hid RES
    go_enter Tryd.func19, Tryd.ntmps19
    go_wp2_with fail
    rw [← hwa]
    clear hwa
    refine (KL.out _).mono ?_
    rintro e w1 ⟨rfl, rfl⟩
    go_wp2_with fail
    refine (KD.out _).mono ?_
    rintro e w1 ⟨rfl, rfl⟩
    go_wp2_with fail
    refine (KA.out _).mono ?_
    rintro e w1 ⟨rfl, rfl⟩
    go_wp2_with fail
    refine (KD2.out _).mono ?_
    rintro e w1 ⟨rfl, rfl⟩
    go_wp2_with fail
    go_loopw [6] (fun nv wr => ∃ n : Nat, nv = .int .i64 (n : Int) ∧ n ≤ 3 ∧ TkR w wr ∧ ∀ m, n < m → m ≤ 3 → ¬ opAt (tl s i) m) (fun nv _ => (intOf nv).toNat)
    case atStart => exact ⟨3, rfl, Nat.le_refl _, ⟨HW.out, RES.out⟩, fun m h1 h2 => by omega⟩
    case round =>
      obtain ⟨n, rfl, hn3, hrel, hno⟩ := hrel
      clear RES HW
      have RES := Lib.hid hrel.res
      have HW := Lib.hid hrel.old
      have HN := Lib.hid hno; clear hrel hno
      by_cases hn0 : n = 0
      · subst hn0
        have h0 := opLen_no fun m h1 h2 => HN.out m h1 h2
        have H0 := Lib.hid h0; clear h0
        have d0 : wr.cell? ⟨w.heap.size, 0, none⟩ = some (.int .i64 0) := RES.out.cell 0
        have f0 : wr.frozen? ⟨w.heap.size, 0, none⟩ = false := RES.out.frozen 0
        have d1 : wr.cell? ⟨w.heap.size, 1, none⟩ = some (.int .i64 0) := RES.out.cell 1
        have f1 : wr.frozen? ⟨w.heap.size, 1, none⟩ = false := RES.out.frozen 1
        have d2 : wr.cell? ⟨w.heap.size, 2, none⟩ = some (.int .i64 0) := RES.out.cell 2
        have f2 : wr.frozen? ⟨w.heap.size, 2, none⟩ = false := RES.out.frozen 2
        have hlw : w.heap.size < wr.heap.size := RES.out.lt
        have D := Lib.hid (And.intro (RES.out.put3 (.int .i64 0) (.int .i64 0) (.int .i64 12)) (bel_set3 (g := w.heap.size) HW.out (Nat.le_refl _) (.int .i64 0) (.int .i64 0) (.int .i64 12)))
        go_wp2
        refine bodyPost_ret (v := .agg #[.int .i64 0, .int .i64 0, .int .i64 12]) ?hrl0 rfl ?hRl0
        case hRl0 => exact ⟨by rw [← HR.out, if_pos H0.out]; rfl, D.out.2⟩
        case hrl0 => exact results_cell_row rfl _ _ w.heap.size 47 _ (0, 0) _ rfl D.out.1 Tryd.underlying47 rfl (by kernel_rfl)
      · have n1 : (0 : Int) < (n : Int) := by omega
        have s1 : IntKind.i64.wrap ((i : Int) + (n : Int)) = ((i + n : Nat) : Int) := by rw [IntKind.wrap_i64]; omega
        have s2 : IntKind.i64.wrap ((n : Int) - 1) = ((n - 1 : Nat) : Int) := by rw [IntKind.wrap_i64]; omega
        by_cases hin : i + n ≤ s.size
        · have hin' : ((i + n : Nat) : Int) ≤ (s.size : Int) := by omega
          have hii : (i : Int) ≤ ((i + n : Nat) : Int) := by omega
          obtain ⟨v, hv⟩ : ∃ v, opB (s.extract i (i + n)) = v := ⟨_, rfl⟩
          have KO := Lib.hid (op5_is (s.extract i (i + n)) wr hv)
          have hat : opAt (tl s i) n ↔ v = true := by
            unfold opAt
            rw [tl_ext s i n hin, hv, tl_is]
            exact ⟨fun h => h.2, fun h => ⟨by omega, h⟩⟩
          have HAT := Lib.hid hat; clear hat hv
          obtain ⟨e9, he9⟩ : ∃ e9, i + n = e9 := ⟨_, rfl⟩
          rw [he9] at s1 hin' hii KO
          have HE9 := Lib.hid he9; clear he9 hin
          cases v
          · go_wp2_with fail
            refine KO.out.mono ?_
            rintro e w2 ⟨rfl, hbl⟩
            replace RES := Lib.hid (RES.out.below hbl RES.out.lt)
            replace HW := Lib.hid (bel_trans HW.out hbl); clear hbl
            go_wp2
            go_roundw
            case rel => exact ⟨n - 1, rfl, by omega, ⟨HW.out, RES.out⟩, fun m h1 h2 => by
              rcases Nat.lt_or_eq_of_le (show n ≤ m by omega) with h | rfl
              · exact HN.out m h h2
              · exact fun h => by have := HAT.out.1 h; cases this⟩
            case measure => simp [intOf]; omega
          · have hl := opLen_at hn3 (by omega) (HAT.out.2 rfl) (fun m h1 h2 => HN.out m h1 h2)
            have HL := Lib.hid hl; clear hl
            have HNZ := Lib.hid hn0
            go_wp2_with fail
            refine KO.out.mono ?_
            rintro e w2 ⟨rfl, hbl⟩
            replace RES := Lib.hid (RES.out.below hbl RES.out.lt)
            replace HW := Lib.hid (bel_trans HW.out hbl); clear hbl
            have d0 : w2.cell? ⟨w.heap.size, 0, none⟩ = some (.int .i64 0) := RES.out.cell 0
            have f0 : w2.frozen? ⟨w.heap.size, 0, none⟩ = false := RES.out.frozen 0
            have d1 : w2.cell? ⟨w.heap.size, 1, none⟩ = some (.int .i64 0) := RES.out.cell 1
            have f1 : w2.frozen? ⟨w.heap.size, 1, none⟩ = false := RES.out.frozen 1
            have d2 : w2.cell? ⟨w.heap.size, 2, none⟩ = some (.int .i64 0) := RES.out.cell 2
            have f2 : w2.frozen? ⟨w.heap.size, 2, none⟩ = false := RES.out.frozen 2
            have hlw : w.heap.size < w2.heap.size := RES.out.lt
            have D := Lib.hid (And.intro (RES.out.put3 (.int .i64 6) (.int .i64 (e9 : Int)) (.int .i64 0)) (bel_set3 (g := w.heap.size) HW.out (Nat.le_refl _) (.int .i64 6) (.int .i64 (e9 : Int)) (.int .i64 0)))
            go_wp2
            refine bodyPost_ret (v := .agg #[.int .i64 6, .int .i64 (e9 : Int), .int .i64 0]) ?hrl1 rfl ?hRl1
            case hRl1 => exact ⟨by rw [← HR.out, HL.out, if_neg HNZ.out, ← HE9.out]; rfl, D.out.2⟩
            case hrl1 => exact results_cell_row rfl _ _ w.heap.size 47 _ (0, 0) _ rfl D.out.1 Tryd.underlying47 rfl (by kernel_rfl)
        · have hin' : ¬ ((i + n : Nat) : Int) ≤ (s.size : Int) := by omega
          have HIN := Lib.hid hin
          go_wp2
          go_roundw
          case rel => exact ⟨n - 1, rfl, by omega, ⟨HW.out, RES.out⟩, fun m h1 h2 => by
            rcases Nat.lt_or_eq_of_le (show n ≤ m by omega) with h | rfl
            · exact HN.out m h h2
            · exact fun h => by have h8 := h.1; rw [tl_is] at h8; exact HIN.out (by omega)⟩
          case measure => simp [intOf]; omega
  · have f46 : ((b : Int) == 46) = false := by simp only [beq_eq_false_iff_ne, ne_eq]; omega
    have g46 : ¬ (b : Int) = 46 := by omega
    clear hdt h46
    obtain ⟨wa, hwa⟩ : ∃ wa, wa = w.alloc (.cells #[.int .i64 0, .int .i64 0, .int .i64 0] 47) := ⟨_, rfl⟩
    have hbl : Below w.heap.size w wa := by rw [hwa]; exact bel_alloc (bel_refl _) _
    have RES : Blk wa w.heap.size 47 #[.int .i64 0, .int .i64 0, .int .i64 0] := by
      have hz := Blk.new w 47 #[.int .i64 0, .int .i64 0, .int .i64 0]
      rw [hwa]
      exact hz
    have HW := Lib.hid hbl; clear hbl
    replace RES := Lib.hid RES
    go_enter Tryd.func19, Tryd.ntmps19
    go_wp2_with fail
    rw [← hwa]
    clear hwa
    refine (KL.out _).mono ?_
    rintro e w1 ⟨rfl, rfl⟩
    go_wp2_with fail
    refine (KD.out _).mono ?_
    rintro e w1 ⟨rfl, rfl⟩
    go_wp2_with fail
    go_loopw [6] (fun nv wr => ∃ n : Nat, nv = .int .i64 (n : Int) ∧ n ≤ 3 ∧ TkR w wr ∧ ∀ m, n < m → m ≤ 3 → ¬ opAt (tl s i) m) (fun nv _ => (intOf nv).toNat)
    case atStart => exact ⟨3, rfl, Nat.le_refl _, ⟨HW.out, RES.out⟩, fun m h1 h2 => by omega⟩
    case round =>
      obtain ⟨n, rfl, hn3, hrel, hno⟩ := hrel
      clear RES HW
      have RES := Lib.hid hrel.res
      have HW := Lib.hid hrel.old
      have HN := Lib.hid hno; clear hrel hno
      by_cases hn0 : n = 0
      · subst hn0
        have h0 := opLen_no fun m h1 h2 => HN.out m h1 h2
        have H0 := Lib.hid h0; clear h0
        have d0 : wr.cell? ⟨w.heap.size, 0, none⟩ = some (.int .i64 0) := RES.out.cell 0
        have f0 : wr.frozen? ⟨w.heap.size, 0, none⟩ = false := RES.out.frozen 0
        have d1 : wr.cell? ⟨w.heap.size, 1, none⟩ = some (.int .i64 0) := RES.out.cell 1
        have f1 : wr.frozen? ⟨w.heap.size, 1, none⟩ = false := RES.out.frozen 1
        have d2 : wr.cell? ⟨w.heap.size, 2, none⟩ = some (.int .i64 0) := RES.out.cell 2
        have f2 : wr.frozen? ⟨w.heap.size, 2, none⟩ = false := RES.out.frozen 2
        have hlw : w.heap.size < wr.heap.size := RES.out.lt
        have D := Lib.hid (And.intro (RES.out.put3 (.int .i64 0) (.int .i64 0) (.int .i64 12)) (bel_set3 (g := w.heap.size) HW.out (Nat.le_refl _) (.int .i64 0) (.int .i64 0) (.int .i64 12)))
        go_wp2
        refine bodyPost_ret (v := .agg #[.int .i64 0, .int .i64 0, .int .i64 12]) ?hrl0 rfl ?hRl0
        case hRl0 => exact ⟨by rw [← HR.out, if_pos H0.out]; rfl, D.out.2⟩
        case hrl0 => exact results_cell_row rfl _ _ w.heap.size 47 _ (0, 0) _ rfl D.out.1 Tryd.underlying47 rfl (by kernel_rfl)
      · have n1 : (0 : Int) < (n : Int) := by omega
        have s1 : IntKind.i64.wrap ((i : Int) + (n : Int)) = ((i + n : Nat) : Int) := by rw [IntKind.wrap_i64]; omega
        have s2 : IntKind.i64.wrap ((n : Int) - 1) = ((n - 1 : Nat) : Int) := by rw [IntKind.wrap_i64]; omega
        by_cases hin : i + n ≤ s.size
        · have hin' : ((i + n : Nat) : Int) ≤ (s.size : Int) := by omega
          have hii : (i : Int) ≤ ((i + n : Nat) : Int) := by omega
          obtain ⟨v, hv⟩ : ∃ v, opB (s.extract i (i + n)) = v := ⟨_, rfl⟩
          have KO := Lib.hid (op5_is (s.extract i (i + n)) wr hv)
          have hat : opAt (tl s i) n ↔ v = true := by
            unfold opAt
            rw [tl_ext s i n hin, hv, tl_is]
            exact ⟨fun h => h.2, fun h => ⟨by omega, h⟩⟩
          have HAT := Lib.hid hat; clear hat hv
          obtain ⟨e9, he9⟩ : ∃ e9, i + n = e9 := ⟨_, rfl⟩
          rw [he9] at s1 hin' hii KO
          have HE9 := Lib.hid he9; clear he9 hin
          cases v
          · go_wp2_with fail
            refine KO.out.mono ?_
            rintro e w2 ⟨rfl, hbl⟩
            replace RES := Lib.hid (RES.out.below hbl RES.out.lt)
            replace HW := Lib.hid (bel_trans HW.out hbl); clear hbl
            go_wp2
            go_roundw
            case rel => exact ⟨n - 1, rfl, by omega, ⟨HW.out, RES.out⟩, fun m h1 h2 => by
              rcases Nat.lt_or_eq_of_le (show n ≤ m by omega) with h | rfl
              · exact HN.out m h h2
              · exact fun h => by have := HAT.out.1 h; cases this⟩
            case measure => simp [intOf]; omega
          · have hl := opLen_at hn3 (by omega) (HAT.out.2 rfl) (fun m h1 h2 => HN.out m h1 h2)
            have HL := Lib.hid hl; clear hl
            have HNZ := Lib.hid hn0
            go_wp2_with fail
            refine KO.out.mono ?_
            rintro e w2 ⟨rfl, hbl⟩
            replace RES := Lib.hid (RES.out.below hbl RES.out.lt)
            replace HW := Lib.hid (bel_trans HW.out hbl); clear hbl
            have d0 : w2.cell? ⟨w.heap.size, 0, none⟩ = some (.int .i64 0) := RES.out.cell 0
            have f0 : w2.frozen? ⟨w.heap.size, 0, none⟩ = false := RES.out.frozen 0
            have d1 : w2.cell? ⟨w.heap.size, 1, none⟩ = some (.int .i64 0) := RES.out.cell 1
            have f1 : w2.frozen? ⟨w.heap.size, 1, none⟩ = false := RES.out.frozen 1
            have d2 : w2.cell? ⟨w.heap.size, 2, none⟩ = some (.int .i64 0) := RES.out.cell 2
            have f2 : w2.frozen? ⟨w.heap.size, 2, none⟩ = false := RES.out.frozen 2
            have hlw : w.heap.size < w2.heap.size := RES.out.lt
            have D := Lib.hid (And.intro (RES.out.put3 (.int .i64 6) (.int .i64 (e9 : Int)) (.int .i64 0)) (bel_set3 (g := w.heap.size) HW.out (Nat.le_refl _) (.int .i64 6) (.int .i64 (e9 : Int)) (.int .i64 0)))
            go_wp2
            refine bodyPost_ret (v := .agg #[.int .i64 6, .int .i64 (e9 : Int), .int .i64 0]) ?hrl1 rfl ?hRl1
            case hRl1 => exact ⟨by rw [← HR.out, HL.out, if_neg HNZ.out, ← HE9.out]; rfl, D.out.2⟩
            case hrl1 => exact results_cell_row rfl _ _ w.heap.size 47 _ (0, 0) _ rfl D.out.1 Tryd.underlying47 rfl (by kernel_rfl)
        · have hin' : ¬ ((i + n : Nat) : Int) ≤ (s.size : Int) := by omega
          have HIN := Lib.hid hin
          go_wp2
          go_roundw
          case rel => exact ⟨n - 1, rfl, by omega, ⟨HW.out, RES.out⟩, fun m h1 h2 => by
            rcases Nat.lt_or_eq_of_le (show n ≤ m by omega) with h | rfl
            · exact HN.out m h h2
            · exact fun h => by have h8 := h.1; rw [tl_is] at h8; exact HIN.out (by omega)⟩
          case measure => simp [intOf]; omega
theorem refToken_any (s : ByteArray) (i : Nat) (w : World) (hs : s.size ≤ 100000) (hi : i < s.size) : Calls Tryd.prog 19 #[.string s, .int .i64 (i : Int)] w (RetT (tokAt i (tokOf (tl s i))) w) := by
  have t0 : bt (tl s i) 0 = bt s i := tl_bt s i 0
  have t1 : bt (tl s i) 1 = bt s (i + 1) := tl_bt s i 1
  cases hc : letter (bt s i : Int)
  · cases hd : digB (bt s i)
    · by_cases hdot : bt s i = 46 ∧ digB (bt s (i + 1)) = true
      · exact refToken_dot s i w hs hi hdot.1 hdot.2
      · by_cases hq : bt s i = 39 ∨ bt s i = 34 ∨ bt s i = 96
        · exact refToken_quo s i w hs hi _ rfl hq
        · refine refToken_op s i w hs hi ⟨by rw [t0]; exact hc, by rw [t0]; exact hd, fun h => ?_, by rw [t0]; exact fun h => hq (.inl h), by rw [t0]; exact fun h => hq (.inr (.inl h)), by rw [t0]; exact fun h => hq (.inr (.inr h))⟩
          rw [t0] at h
          rw [t1]
          cases h2 : digB (bt s (i + 1))
          · rfl
          · exact absurd ⟨h, h2⟩ hdot
    · exact refToken_num s i w hs hi hc hd
  · exact refToken_word s i w hs hi hc
end Go.Proofs.YtkaafakodeeidaaDoor
