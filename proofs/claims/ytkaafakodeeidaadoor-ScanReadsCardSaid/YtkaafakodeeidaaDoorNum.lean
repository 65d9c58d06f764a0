/-
  Layer 5's numbers: of another base, kind and end; walked.
-/
import Derived.Test.YtkaafakodeeidaaDoorWhile
import Derived.Deep.CutRange
namespace Go.Proofs.YtkaafakodeeidaaDoor
open Go.RowKit

theorem idx_base : ∀ b : Fin 256, decide (0 ≤ Go.Lib.indexByte (⟨#[120, 88, 98, 66, 111, 79]⟩ : ByteArray).data.toList ((b.val : Int).toNat.toUInt8)) = (decide (b.val = 120) || decide (b.val = 88) || decide (b.val = 98) || decide (b.val = 66) || decide (b.val = 111) || decide (b.val = 79)) := by decide +kernel
def baseC (b : Nat) : Bool := decide (b = 120) || decide (b = 88) || decide (b = 98) || decide (b = 66) || decide (b = 111) || decide (b = 79)
theorem basedB_is (s : ByteArray) : basedB s = (decide (1 < s.size) && (decide (bt s 0 = 48) && baseC (bt s 1))) := rfl
set_option maxHeartbeats 1000000 in
theorem based_any (s : ByteArray) (w : World) : Calls Tryd.prog 45 #[.string s] w (RetB (basedB s) w) := by
  rw [basedB_is]
  by_cases h1 : 1 < s.size
  · have a1 : (1 : Int) < (s.size : Int) := by omega
    have a0 : (0 : Int) < (s.size : Int) := by omega
    have g0 := bt_get s (i := 0) (by omega)
    have g1 := bt_get s (i := 1) h1
    obtain ⟨b0, hb0⟩ : ∃ b, bt s 0 = b := ⟨_, rfl⟩
    obtain ⟨b1, hb1⟩ : ∃ b, bt s 1 = b := ⟨_, rfl⟩
    have hlt : b1 < 256 := by rw [← hb1]; exact bt_lt s 1
    rw [hb0] at g0
    rw [hb1] at g1
    rw [hb0, hb1]
    clear hb0 hb1
    rw [decide_eq_true h1, Bool.true_and]
    by_cases h48 : b0 = 48
    · rw [decide_eq_true h48, Bool.true_and]
      have a2 : ((b0 : Int) == 48) = true := by simp [h48]
      obtain ⟨v, hv⟩ : ∃ v, Go.Lib.indexByte (⟨#[120, 88, 98, 66, 111, 79]⟩ : ByteArray).data.toList ((b1 : Int).toNat.toUInt8) = v := ⟨_, rfl⟩
      have hc := idx_base ⟨b1, hlt⟩
      simp only at hc
      rw [hv] at hc
      have HC := Lib.hid (show decide (0 ≤ v) = baseC b1 from hc)
      have hcall := Tryd.strings_IndexByte ⟨#[120, 88, 98, 66, 111, 79]⟩ (b1 : Int) w
      rw [hv] at hcall
      have HK := Lib.hid hcall; clear hcall hv hc hlt h48
      go_enter Tryd.func45, Tryd.ntmps45
      go_wp2_with fail
      refine HK.out.mono ?_
      rintro e w1 ⟨rfl, rfl⟩
      go_wp2
      go_ret
      exact ⟨by rw [← HC.out]; rfl, rfl⟩
    · rw [decide_eq_false h48, Bool.false_and]
      have a2 : ((b0 : Int) == 48) = false := by simp only [beq_eq_false_iff_ne, ne_eq]; omega
      clear hlt h48
      go_enter Tryd.func45, Tryd.ntmps45
      go_wp2
      go_ret
      exact ⟨rfl, rfl⟩
  · have a1 : ¬ (1 : Int) < (s.size : Int) := by omega
    rw [decide_eq_false h1, Bool.false_and]
    clear h1
    go_enter Tryd.func45, Tryd.ntmps45
    go_wp2
    go_ret
    exact ⟨rfl, rfl⟩
theorem bt_data (s : ByteArray) (i : Nat) : (s.data[i]!).toNat = bt s i := rfl

theorem cut_bt (s : ByteArray) {n i : Nat} (hn : n ≤ s.size) (h : i < n) : bt (s.extract 0 n) i = bt s i := by
  have h1 : i < (s.extract 0 n).size := by simp; omega
  rw [← bt_get _ h1, ← bt_get s (by omega)]
  congr 1
  have h2 : i < s.data.size := Nat.lt_of_lt_of_le h hn
  show (s.extract 0 n).data[i] = s.data[i]
  simp

theorem based_is {v : Bool} (s : ByteArray) (w : World) (h : basedB s = v) : Calls Tryd.prog 45 #[.string s] w (RetB v w) := by
  rw [← h]
  exact based_any s w
def RetKN (k n : Nat) (w : World) (e : Ending) (w' : World) : Prop := e = .returned (.tuple #[.int .i64 (k : Int), .int .i64 (n : Int)]) ∧ Below w.heap.size w w'
theorem RetKN.is {k k' n : Nat} {w : World} {e : Ending} {w' : World} (h : RetKN k n w e w') (hk : k = k') : RetKN k' n w e w' := by subst hk; exact h
theorem numEnd_le (s : ByteArray) : numEnd s ≤ s.size := run_le _ (Nat.zero_le _)
theorem word_ascii {c : Nat} (h : wordB c = true) : c < 128 := by
  unfold wordB letter digB at h
  simp only [Bool.or_eq_true, Bool.and_eq_true, decide_eq_true_eq] at h
  omega
theorem numP_ascii {s : ByteArray} {j : Nat} (h : numP s j = true) : bt s j < 128 := by
  unfold numP at h
  simp only [Bool.or_eq_true, Bool.and_eq_true, decide_eq_true_eq] at h
  rcases h with (h | h) | h
  · exact word_ascii h
  · omega
  · omega
theorem ext_get {s : ByteArray} {n j : Nat} {b : UInt8} (hn : n ≤ s.size) (h : (s.extract 0 n).data.toList[j]? = some b) : j < n ∧ b.toNat = bt s j := by
  have h1 : j < (s.extract 0 n).data.toList.length := (List.getElem?_eq_some_iff.1 h).1
  have hj : j < n := by
    have h2 : (s.extract 0 n).data.toList.length = (s.extract 0 n).size := rfl
    rw [h2, ByteArray.size_extract] at h1
    omega
  refine ⟨hj, ?_⟩
  rw [← cut_bt s hn hj]
  have h3 := bt_get (s.extract 0 n) (i := j) (by rw [ByteArray.size_extract]; omega)
  rw [← h3]
  have h4 := (List.getElem?_eq_some_iff.1 h).2
  rw [← h4]
  rfl
theorem num_ascii (s : ByteArray) (j : Nat) (b : UInt8) (h : (s.extract 0 (numEnd s)).data.toList[j]? = some b) : b.toNat < 128 := by
  obtain ⟨h1, h2⟩ := ext_get (numEnd_le s) h
  rw [h2]
  exact numP_ascii ((run_spec (numP s) s.size _ 0 rfl).2.2.1 j (Nat.zero_le _) h1)
theorem pt_ascii (j : Nat) (b : UInt8) (h : (⟨#[46, 101, 69]⟩ : ByteArray).data.toList[j]? = some b) : b.toNat < 128 := by
  match j, h with
  | 0, h => cases h; decide
  | 1, h => cases h; decide
  | 2, h => cases h; decide
  | j + 3, h => simp at h
theorem any_mem (chars : List UInt8) : ∀ l : List UInt8, (0 ≤ Go.Lib.indexAny l chars) ↔ ∃ b ∈ l, chars.contains b = true
  | [] => by simp [Go.Lib.indexAny]
  | b :: l => by
    have ih := any_mem chars l
    have hg := Go.Lib.indexAny_ge chars l
    unfold Go.Lib.indexAny
    cases hb : chars.contains b
    · simp only [List.mem_cons, exists_eq_or_imp, hb, Bool.false_eq_true, false_or, if_false]
      rw [← ih]
      by_cases h : Go.Lib.indexAny l chars = -1
      · rw [h]; simp
      · rw [if_neg (by simpa using h)]; omega
    · rw [if_pos rfl]
      exact ⟨fun _ => ⟨b, List.mem_cons_self, hb⟩, fun _ => Int.le_refl _⟩
theorem pt_mem (b : UInt8) : ([46, 101, 69] : List UInt8).contains b = pointB b.toNat := by
  unfold pointB
  rw [Bool.eq_iff_iff]
  simp only [List.contains_iff_mem, List.mem_cons, List.not_mem_nil, or_false, Bool.or_eq_true, decide_eq_true_eq]
  constructor
  · rintro (rfl | rfl | rfl) <;> decide
  · intro h
    rcases h with (h | h) | h
    · exact .inl (UInt8.toNat_inj.1 h)
    · exact .inr (.inl (UInt8.toNat_inj.1 h))
    · exact .inr (.inr (UInt8.toNat_inj.1 h))
theorem num_points (s : ByteArray) : Go.Lib.containsAny (s.extract 0 (numEnd s)).data.toList [46, 101, 69] = true ↔ ∃ j, j < numEnd s ∧ pointB (bt s j) = true := by
  unfold Go.Lib.containsAny
  rw [decide_eq_true_iff, any_mem]
  constructor
  · rintro ⟨b, hb, hc⟩
    obtain ⟨j, hj⟩ := List.mem_iff_getElem?.1 hb
    obtain ⟨h1, h2⟩ := ext_get (numEnd_le s) hj
    exact ⟨j, h1, by rw [← h2, ← pt_mem]; exact hc⟩
  · rintro ⟨j, h1, h2⟩
    have hlt : j < (s.extract 0 (numEnd s)).data.toList.length := by
      show j < (s.extract 0 (numEnd s)).size
      rw [ByteArray.size_extract]
      have := numEnd_le s
      omega
    refine ⟨(s.extract 0 (numEnd s)).data.toList[j], List.getElem_mem hlt, ?_⟩
    obtain ⟨_, h3⟩ := ext_get (numEnd_le s) (List.getElem?_eq_getElem hlt)
    rw [pt_mem, h3]
    exact h2
theorem kind_based {s : ByteArray} (h : basedB s = true) : numKind s = 2 := by
  unfold numKind
  rw [if_neg (by rw [h]; simp)]
theorem kind_free {s : ByteArray} {v : Bool} (h : basedB s = false) (hv : Go.Lib.containsAny (s.extract 0 (numEnd s)).data.toList [46, 101, 69] = v) : numKind s = if v then 3 else 2 := by
  unfold numKind
  cases v
  · rw [if_neg]
    · rfl
    · rintro ⟨_, h2⟩
      rw [(num_points s).2 h2] at hv
      cases hv
  · rw [if_pos ⟨h, (num_points s).1 hv⟩]
    rfl
set_option maxRecDepth 100000 in
set_option maxHeartbeats 1000000 in
theorem number_f (s : ByteArray) (w : World) (hs : s.size ≤ 100000) (hb : basedB s = false) :
    Calls Tryd.prog 31 #[.string s] w (RetKN (numKind s) (numEnd s) w) := by
  have hx : hexB s = false := by unfold hexB; rw [hb]; rfl
  obtain ⟨n, hn⟩ : ∃ n, numEnd s = n := ⟨_, rfl⟩
  have hle := numEnd_le s
  rw [hn] at hle ⊢
  have HB := Lib.hid hb
  have HX := Lib.hid hx; clear hx
  have HN := Lib.hid hn; clear hn
  have HS := Lib.hid hs
  obtain ⟨v, hv⟩ : ∃ v, Go.Lib.containsAny (s.extract 0 n).data.toList [46, 101, 69] = v := ⟨_, rfl⟩
  have HV := Lib.hid hv; clear hv
  clear hb
  have hmf : ∀ (fn : Fn) (first cap : Array Value) (w : World), (Instr.makeFunc fn first cap).run Tryd.prog w = .ok (.func fn first cap) w := fun _ _ _ _ => rfl
  obtain ⟨wa, hwa⟩ : ∃ wa, wa = w.alloc (.cells #[.string s] 9) := ⟨_, rfl⟩
  have hbl : Below w.heap.size w wa := by rw [hwa]; exact bel_alloc (bel_refl _) _
  have CS : Blk wa (w.heap.size) 9 #[.string s] := by
    have hz := Blk.new (w) 9 #[.string s]
    rw [hwa]
    exact hz
  have HW := Lib.hid hbl; clear hbl
  replace CS := Lib.hid CS
  go_enter Tryd.func31, Tryd.ntmps31
  go_wp2_with fail
  rw [← hwa]
  clear hwa
  have CS0 : wa.cell? ⟨w.heap.size, 0, none⟩ = some (.string s) := CS.out.cell 0
  refine (based_is s _ HB.out).mono ?_
  rintro e w1 ⟨rfl, rfl⟩
  go_upto_region 2 with fail
  obtain ⟨wh, hwh⟩ : ∃ wh, wh = w1.alloc (.cells #[.bool false] 4) := ⟨_, rfl⟩
  rw [← hwh]
  have hbl : Below w1.heap.size w1 wh := by rw [hwh]; exact bel_alloc (bel_refl _) _
  have CH : Blk wh (w1.heap.size) 4 #[.bool false] := by
    have hz := Blk.new (w1) 4 #[.bool false]
    rw [hwh]
    exact hz
  clear hwh
  replace CS := Lib.hid (CS.out.below hbl CS.out.lt)
  replace HW := Lib.hid (bel_trans HW.out hbl); clear hbl
  replace CH := Lib.hid CH
  clear CS0
  have CS0 : wh.cell? ⟨w.heap.size, 0, none⟩ = some (.string s) := CS.out.cell 0
  have CH0 : wh.cell? ⟨w1.heap.size, 0, none⟩ = some (.bool false) := CH.out.cell 0
  have hw := while_num s wh HS.out w.heap.size w1.heap.size CS0 (by rw [HX.out]; exact CH0)
  rw [show run (numP s) s.size 0 = n from HN.out] at hw
  go_wp2_with fail
  refine hw.mono ?_
  rintro e w2 ⟨rfl, rfl⟩
  clear hw
  go_wp2_with fail
  refine (based_is s _ HB.out).mono ?_
  rintro e w3 ⟨rfl, rfl⟩
  have a3 : (n : Int) ≤ (s.size : Int) := by omega
  have a4 : (0 : Int) ≤ (n : Int) := by omega
  go_wp2_with fail
  have hca := Tryd.strings_ContainsAny_laid (s.extract 0 n) ⟨#[46, 101, 69]⟩ w3 (by rw [ByteArray.size_extract]; have := HS.out; omega) (by decide) (fun j b h => num_ascii s j b (by rw [HN.out]; exact h)) (fun j b h => pt_ascii j b h)
  rw [show (⟨#[46, 101, 69]⟩ : ByteArray).data.toList = [46, 101, 69] from rfl, HV.out] at hca
  refine hca.mono ?_
  rintro e w4 ⟨rfl, hbl⟩
  replace HW := Lib.hid (bel_trans HW.out hbl); clear hbl hca
  cases v
  · go_wp2
    go_ret2
    exact ⟨by rw [kind_free (v := false) HB.out (by rw [HN.out]; exact HV.out)]; rfl, HW.out⟩
  · go_wp2
    go_ret2
    exact ⟨by rw [kind_free (v := true) HB.out (by rw [HN.out]; exact HV.out)]; rfl, HW.out⟩

set_option maxRecDepth 100000 in
set_option maxHeartbeats 1000000 in
theorem number_p (s : ByteArray) (w : World) (hs : s.size ≤ 100000) (hb : basedB s = true) (h1 : bt s 1 = 120) :
    Calls Tryd.prog 31 #[.string s] w (RetKN (numKind s) (numEnd s) w) := by
  have hx : hexB s = true := by unfold hexB; rw [hb]; simp [h1]
  have hsz : 1 < s.size := by
    unfold basedB at hb
    simp only [Bool.and_eq_true, decide_eq_true_eq] at hb
    exact hb.1
  have a1 : (1 : Int) < (s.size : Int) := by omega
  have g1 := bt_get s (i := 1) hsz
  obtain ⟨b1, hb1⟩ : ∃ b, bt s 1 = b := ⟨_, rfl⟩
  rw [hb1] at g1 h1
  clear hb1
  subst h1
  obtain ⟨n, hn⟩ : ∃ n, numEnd s = n := ⟨_, rfl⟩
  have hle := numEnd_le s
  rw [hn] at hle ⊢
  have HB := Lib.hid hb
  have HX := Lib.hid hx; clear hx
  have HN := Lib.hid hn; clear hn
  have HS := Lib.hid hs
  clear hb
  have hmf : ∀ (fn : Fn) (first cap : Array Value) (w : World), (Instr.makeFunc fn first cap).run Tryd.prog w = .ok (.func fn first cap) w := fun _ _ _ _ => rfl
  obtain ⟨wa, hwa⟩ : ∃ wa, wa = w.alloc (.cells #[.string s] 9) := ⟨_, rfl⟩
  have hbl : Below w.heap.size w wa := by rw [hwa]; exact bel_alloc (bel_refl _) _
  have CS : Blk wa (w.heap.size) 9 #[.string s] := by
    have hz := Blk.new (w) 9 #[.string s]
    rw [hwa]
    exact hz
  have HW := Lib.hid hbl; clear hbl
  replace CS := Lib.hid CS
  go_enter Tryd.func31, Tryd.ntmps31
  go_wp2_with fail
  rw [← hwa]
  clear hwa
  have CS0 : wa.cell? ⟨w.heap.size, 0, none⟩ = some (.string s) := CS.out.cell 0
  refine (based_is s _ HB.out).mono ?_
  rintro e w1 ⟨rfl, rfl⟩
  go_upto_region 2 with fail
  obtain ⟨wh, hwh⟩ : ∃ wh, wh = w1.alloc (.cells #[.bool true] 4) := ⟨_, rfl⟩
  rw [← hwh]
  have hbl : Below w1.heap.size w1 wh := by rw [hwh]; exact bel_alloc (bel_refl _) _
  have CH : Blk wh (w1.heap.size) 4 #[.bool true] := by
    have hz := Blk.new (w1) 4 #[.bool true]
    rw [hwh]
    exact hz
  clear hwh
  replace CS := Lib.hid (CS.out.below hbl CS.out.lt)
  replace HW := Lib.hid (bel_trans HW.out hbl); clear hbl
  replace CH := Lib.hid CH
  clear CS0
  have CS0 : wh.cell? ⟨w.heap.size, 0, none⟩ = some (.string s) := CS.out.cell 0
  have CH0 : wh.cell? ⟨w1.heap.size, 0, none⟩ = some (.bool true) := CH.out.cell 0
  have hw := while_num s wh HS.out w.heap.size w1.heap.size CS0 (by rw [HX.out]; exact CH0)
  rw [show run (numP s) s.size 0 = n from HN.out] at hw
  go_wp2_with fail
  refine hw.mono ?_
  rintro e w2 ⟨rfl, rfl⟩
  clear hw
  go_wp2_with fail
  refine (based_is s _ HB.out).mono ?_
  rintro e w3 ⟨rfl, rfl⟩
  go_wp2
  go_ret2
  exact ⟨by rw [kind_based HB.out]; rfl, HW.out⟩

set_option maxRecDepth 100000 in
set_option maxHeartbeats 1000000 in
theorem number_q (s : ByteArray) (w : World) (hs : s.size ≤ 100000) (hb : basedB s = true) (h1 : bt s 1 = 88) :
    Calls Tryd.prog 31 #[.string s] w (RetKN (numKind s) (numEnd s) w) := by
  have hx : hexB s = true := by unfold hexB; rw [hb]; simp [h1]
  have hsz : 1 < s.size := by
    unfold basedB at hb
    simp only [Bool.and_eq_true, decide_eq_true_eq] at hb
    exact hb.1
  have a1 : (1 : Int) < (s.size : Int) := by omega
  have g1 := bt_get s (i := 1) hsz
  obtain ⟨b1, hb1⟩ : ∃ b, bt s 1 = b := ⟨_, rfl⟩
  rw [hb1] at g1 h1
  clear hb1
  subst h1
  obtain ⟨n, hn⟩ : ∃ n, numEnd s = n := ⟨_, rfl⟩
  have hle := numEnd_le s
  rw [hn] at hle ⊢
  have HB := Lib.hid hb
  have HX := Lib.hid hx; clear hx
  have HN := Lib.hid hn; clear hn
  have HS := Lib.hid hs
  clear hb
  have hmf : ∀ (fn : Fn) (first cap : Array Value) (w : World), (Instr.makeFunc fn first cap).run Tryd.prog w = .ok (.func fn first cap) w := fun _ _ _ _ => rfl
  obtain ⟨wa, hwa⟩ : ∃ wa, wa = w.alloc (.cells #[.string s] 9) := ⟨_, rfl⟩
  have hbl : Below w.heap.size w wa := by rw [hwa]; exact bel_alloc (bel_refl _) _
  have CS : Blk wa (w.heap.size) 9 #[.string s] := by
    have hz := Blk.new (w) 9 #[.string s]
    rw [hwa]
    exact hz
  have HW := Lib.hid hbl; clear hbl
  replace CS := Lib.hid CS
  go_enter Tryd.func31, Tryd.ntmps31
  go_wp2_with fail
  rw [← hwa]
  clear hwa
  have CS0 : wa.cell? ⟨w.heap.size, 0, none⟩ = some (.string s) := CS.out.cell 0
  refine (based_is s _ HB.out).mono ?_
  rintro e w1 ⟨rfl, rfl⟩
  go_upto_region 2 with fail
  obtain ⟨wh, hwh⟩ : ∃ wh, wh = w1.alloc (.cells #[.bool true] 4) := ⟨_, rfl⟩
  rw [← hwh]
  have hbl : Below w1.heap.size w1 wh := by rw [hwh]; exact bel_alloc (bel_refl _) _
  have CH : Blk wh (w1.heap.size) 4 #[.bool true] := by
    have hz := Blk.new (w1) 4 #[.bool true]
    rw [hwh]
    exact hz
  clear hwh
  replace CS := Lib.hid (CS.out.below hbl CS.out.lt)
  replace HW := Lib.hid (bel_trans HW.out hbl); clear hbl
  replace CH := Lib.hid CH
  clear CS0
  have CS0 : wh.cell? ⟨w.heap.size, 0, none⟩ = some (.string s) := CS.out.cell 0
  have CH0 : wh.cell? ⟨w1.heap.size, 0, none⟩ = some (.bool true) := CH.out.cell 0
  have hw := while_num s wh HS.out w.heap.size w1.heap.size CS0 (by rw [HX.out]; exact CH0)
  rw [show run (numP s) s.size 0 = n from HN.out] at hw
  go_wp2_with fail
  refine hw.mono ?_
  rintro e w2 ⟨rfl, rfl⟩
  clear hw
  go_wp2_with fail
  refine (based_is s _ HB.out).mono ?_
  rintro e w3 ⟨rfl, rfl⟩
  go_wp2
  go_ret2
  exact ⟨by rw [kind_based HB.out]; rfl, HW.out⟩

set_option maxRecDepth 100000 in
set_option maxHeartbeats 1000000 in
theorem number_n (s : ByteArray) (w : World) (hs : s.size ≤ 100000) (hb : basedB s = true) (h1 : bt s 1 ≠ 120) (h2 : bt s 1 ≠ 88) :
    Calls Tryd.prog 31 #[.string s] w (RetKN (numKind s) (numEnd s) w) := by
  have hx : hexB s = false := by unfold hexB; rw [hb]; simp [h1, h2]
  have hsz : 1 < s.size := by
    unfold basedB at hb
    simp only [Bool.and_eq_true, decide_eq_true_eq] at hb
    exact hb.1
  have a1 : (1 : Int) < (s.size : Int) := by omega
  have g1 := bt_get s (i := 1) hsz
  obtain ⟨b1, hb1⟩ : ∃ b, bt s 1 = b := ⟨_, rfl⟩
  rw [hb1] at g1 h1 h2
  clear hb1
  have q1 : ((b1 : Int) == 120) = false := by simp only [beq_eq_false_iff_ne, ne_eq]; omega
  have q2 : ((b1 : Int) == 88) = false := by simp only [beq_eq_false_iff_ne, ne_eq]; omega
  clear h1 h2
  obtain ⟨n, hn⟩ : ∃ n, numEnd s = n := ⟨_, rfl⟩
  have hle := numEnd_le s
  rw [hn] at hle ⊢
  have HB := Lib.hid hb
  have HX := Lib.hid hx; clear hx
  have HN := Lib.hid hn; clear hn
  have HS := Lib.hid hs
  clear hb
  have hmf : ∀ (fn : Fn) (first cap : Array Value) (w : World), (Instr.makeFunc fn first cap).run Tryd.prog w = .ok (.func fn first cap) w := fun _ _ _ _ => rfl
  obtain ⟨wa, hwa⟩ : ∃ wa, wa = w.alloc (.cells #[.string s] 9) := ⟨_, rfl⟩
  have hbl : Below w.heap.size w wa := by rw [hwa]; exact bel_alloc (bel_refl _) _
  have CS : Blk wa (w.heap.size) 9 #[.string s] := by
    have hz := Blk.new (w) 9 #[.string s]
    rw [hwa]
    exact hz
  have HW := Lib.hid hbl; clear hbl
  replace CS := Lib.hid CS
  go_enter Tryd.func31, Tryd.ntmps31
  go_wp2_with fail
  rw [← hwa]
  clear hwa
  have CS0 : wa.cell? ⟨w.heap.size, 0, none⟩ = some (.string s) := CS.out.cell 0
  refine (based_is s _ HB.out).mono ?_
  rintro e w1 ⟨rfl, rfl⟩
  go_upto_region 2 with fail
  obtain ⟨wh, hwh⟩ : ∃ wh, wh = w1.alloc (.cells #[.bool false] 4) := ⟨_, rfl⟩
  rw [← hwh]
  have hbl : Below w1.heap.size w1 wh := by rw [hwh]; exact bel_alloc (bel_refl _) _
  have CH : Blk wh (w1.heap.size) 4 #[.bool false] := by
    have hz := Blk.new (w1) 4 #[.bool false]
    rw [hwh]
    exact hz
  clear hwh
  replace CS := Lib.hid (CS.out.below hbl CS.out.lt)
  replace HW := Lib.hid (bel_trans HW.out hbl); clear hbl
  replace CH := Lib.hid CH
  clear CS0
  have CS0 : wh.cell? ⟨w.heap.size, 0, none⟩ = some (.string s) := CS.out.cell 0
  have CH0 : wh.cell? ⟨w1.heap.size, 0, none⟩ = some (.bool false) := CH.out.cell 0
  have hw := while_num s wh HS.out w.heap.size w1.heap.size CS0 (by rw [HX.out]; exact CH0)
  rw [show run (numP s) s.size 0 = n from HN.out] at hw
  go_wp2_with fail
  refine hw.mono ?_
  rintro e w2 ⟨rfl, rfl⟩
  clear hw
  go_wp2_with fail
  refine (based_is s _ HB.out).mono ?_
  rintro e w3 ⟨rfl, rfl⟩
  go_wp2
  go_ret2
  exact ⟨by rw [kind_based HB.out]; rfl, HW.out⟩

theorem number_any (s : ByteArray) (w : World) (hs : s.size ≤ 100000) : Calls Tryd.prog 31 #[.string s] w (RetKN (numKind s) (numEnd s) w) := by
  cases hb : basedB s
  · exact number_f s w hs hb
  · by_cases h1 : bt s 1 = 120
    · exact number_p s w hs hb h1
    · by_cases h2 : bt s 1 = 88
      · exact number_q s w hs hb h2
      · exact number_n s w hs hb h1 h2
end Go.Proofs.YtkaafakodeeidaaDoor
