/-
 Parts: K10.
-/
import Derived.Test.YtmbbdjpnecjleaaGreatH21
import Derived.Test.YtmbbdjpnecjleaaGreatH22
namespace Go.Proofs.YtmbbdjpnecjleaaGreat
section
set_option maxRecDepth 100000
set_option maxHeartbeats 1000000
open Go.RowKit

def OpsAt (w : World) (g1 g2 g3 g4 g5 g6 : Nat) : Prop := w.cell? ⟨g1, 0, none⟩ = some (.func (.func 54) #[] #[]) ∧ w.cell? ⟨g2, 0, none⟩ = some (.func (.func 55) #[] #[]) ∧ w.cell? ⟨g3, 0, none⟩ = some (.func (.func 56) #[] #[]) ∧ w.cell? ⟨g4, 0, none⟩ = some (.func (.func 60) #[] #[]) ∧ w.cell? ⟨g5, 0, none⟩ = some (.func (.func 61) #[] #[]) ∧ w.cell? ⟨g6, 0, none⟩ = some (.func (.func 62) #[] #[])
theorem OpsAt.below {w w' : World} {g1 g2 g3 g4 g5 g6 : Nat} (h : OpsAt w g1 g2 g3 g4 g5 g6) (hb : Below w.heap.size w w') : OpsAt w' g1 g2 g3 g4 g5 g6 := by
 have hc : ∀ (g : Nat) (v : Value), w.cell? ⟨g, 0, none⟩ = some v → w'.cell? ⟨g, 0, none⟩ = some v := fun g v hv => (hb.cell (p := ⟨g, 0, none⟩) (World.block_lt_of_cell? w _ hv)).trans hv
 obtain ⟨h1, h2, h3, h4, h5, h6⟩ := h
 exact ⟨hc _ _ h1, hc _ _ h2, hc _ _ h3, hc _ _ h4, hc _ _ h5, hc _ _ h6⟩
theorem operators_at (w : World) : Calls Tryz.prog 24 #[] w (fun e w' => ∃ b g1 g2 g3 g4 g5 g6, e = .returned (.map (some b)) ∧ MapIs w' b (opsTab g1 g2 g3 g4 g5 g6) ∧ OpsAt w' g1 g2 g3 g4 g5 g6 ∧ Below w.heap.size w w') :=
 (operators_any w).mono fun _ _ ⟨b, g1, g2, g3, g4, g5, g6, h, hm, hb, _, c1, _, c2, _, c3, _, c4, _, c5, _, c6⟩ => ⟨b, g1, g2, g3, g4, g5, g6, h, hm, ⟨c1, c2, c3, c4, c5, c6⟩, hb⟩
theorem str_ne {s t : ByteArray} (h : s ≠ t) : ¬ s.toList = t.toList := fun e => h (by
 rw [ByteArray.toList_eq, ByteArray.toList_eq] at e
 exact ByteArray.ext (Array.ext' e))
theorem str_no {s t : ByteArray} {l : List UInt8} (ht : t.toList = l) (h : s ≠ t) : (s.toList == l) = false ∧ ¬ s.toList = l := by
 have h1 := str_ne h
 rw [ht] at h1
 exact ⟨by simpa using h1, h1⟩
theorem str_or (s : ByteArray) (l : List UInt8) : ((s.toList == l) = true ∧ s.toList = l) ∨ ((s.toList == l) = false ∧ ¬ s.toList = l) := by
 by_cases h : s.toList = l
 · exact .inl ⟨by simpa using h, h⟩
 · exact .inr ⟨by simpa using h, h⟩
theorem zero_opr (w : World) : (zeroValue 54).run Tryz.prog w = .ok (.agg #[.bool false, .nilFunc]) w := by kernel_rfl
theorem rightV_num {q : Q} (hn : q.n < Top) (hd : q.d < Top) (hq : QR q) : rightV 3 false ⟨#[]⟩ q.s (limbs q.n) (limbs q.d) = true := by
 unfold rightV
 rw [if_neg (by decide), if_neg (by decide), if_pos rfl, (rightB_q (s := q.s) hn hd).2 hq]
 rfl
theorem run_look {W : World} {b : Nat} {L : List (Value × Value)} {op : ByteArray} {v : Value} (h : MapIs W b L) (hl : lookL .string (.string op) L = some (some v)) :
 (Instr.lookup 56 (.map (some b)) (.string op) true).run Tryz.prog W = .ok (.tuple #[v, .bool true]) W := by
 obtain ⟨es, clock, hb, rfl⟩ := h
 obtain ⟨s, hs, hr⟩ := find_look .string (.string op) es.toList 0 _ hl
 cases s with
 | none => cases hr
 | some y =>
  obtain ⟨i, y⟩ := y
  simp only [Option.map_some, Option.some.injEq] at hr
  subst hr
  unfold Instr.lookup
  simp only [Sem.run_bind, run_underlying Tryz.underlying56, Result.andThen_ok, Go.MapKept.run_getObj_map hb, Sem.run_pure, Go.MapKept.run_checkKey Tryz.underlying9 (is_keyS op), Go.MapKept.run_findKey Tryz.underlying9 hs]
  rfl
def DoesQ (F : FuncId) (cp : Nat → Nat → Nat → Nat → Nat → Nat → Array Value) (a b : Q) (t : Int) (q : Q) (e : Int) : Prop :=
 ∀ W g1 g2 g3 g4 g5 g6 A B A' B' c d c' d', OpsAt W g1 g2 g3 g4 g5 g6 → RdL W A (limbs a.n) → RdL W B (limbs a.d) → RdL W A' (limbs b.n) → RdL W B' (limbs b.d) → (limbs a.n).length ≤ c → (limbs a.d).length ≤ d → (limbs b.n).length ≤ c' → (limbs b.d).length ≤ d' →
  Calls Tryz.prog F (#[.agg #[.bool a.s, .slice A (limbs a.n).length c, .slice B (limbs a.d).length d], .agg #[.bool b.s, .slice A' (limbs b.n).length c', .slice B' (limbs b.d).length d'], .int .i64 t] ++ cp g1 g2 g3 g4 g5 g6) W (RetQE q e W)
theorem kBin_any {q v : Q} {e r k : Int} (op : ByteArray) (F : FuncId) (cp : Nat → Nat → Nat → Nat → Nat → Nat → Array Value) (t : Int) (a b : Q) (A B A' B' : Option Addr) (c d c' d' : Nat) (w : World) (h1 : RdL w A (limbs a.n)) (h2 : RdL w B (limbs a.d)) (h3 : RdL w A' (limbs b.n)) (h4 : RdL w B' (limbs b.d)) (k1 : (limbs a.n).length ≤ c) (k2 : (limbs a.d).length ≤ d) (k3 : (limbs b.n).length ≤ c') (k4 : (limbs b.d).length ≤ d') (ha : a.n < Top ∧ a.d < Top ∧ QR a) (hb : b.n < Top ∧ b.d < Top ∧ QR b) (hE : ∀ vs w, (callFunc F vs).run Tryz.prog w = .ok (.enter F vs) w) (n1 : op ≠ ⟨#[38, 38]⟩) (n2 : op ≠ ⟨#[124, 124]⟩)
 (hL : ∀ g1 g2 g3 g4 g5 g6, lookL .string (.string op) (opsTab g1 g2 g3 g4 g5 g6) = some (some (.agg #[.bool false, .func (.func F) #[] (cp g1 g2 g3 g4 g5 g6)]))) (hD : DoesQ F cp a b t q e) (hbas : basB t = true) (hnum : numB t = true) (hq : e = 0 → q.n < Top ∧ q.d < Top ∧ QR q) (hF : e = 0 → FitsR q t v r ∧ k = if r = 0 then 3 else 0) (hF2 : e ≠ 0 → v = noQ ∧ r = e ∧ k = 0) :
 Calls Tryz.prog 6 #[.string op, .agg #[.int .i64 3, .bool false, .string ⟨#[]⟩, .bool a.s, .slice A (limbs a.n).length c, .slice B (limbs a.d).length d], .agg #[.int .i64 3, .bool false, .string ⟨#[]⟩, .bool b.s, .slice A' (limbs b.n).length c', .slice B' (limbs b.d).length d'], .int .i64 t] w (RetV k false ⟨#[]⟩ v r w) := by
 have R1 := Lib.hid h1; clear h1
 have R2 := Lib.hid h2; clear h2
 have R3 := Lib.hid h3; clear h3
 have R4 := Lib.hid h4; clear h4
 have K4 := Lib.hid (And.intro k1 (And.intro k2 (And.intro k3 k4))); clear k1 k2 k3 k4
 have LA := Lib.hid ha; clear ha
 have LB := Lib.hid hb; clear hb
 have HD := Lib.hid hD; clear hD
 have HLK := Lib.hid hL; clear hL
 have HFI := Lib.hid hF; clear hF
 have KN := Lib.hid (fun W => kNum_is t W hnum); clear hnum
 have KB := Lib.hid (fun W => kBas_is t W hbas); clear hbas
 obtain ⟨s1, u1⟩ := str_no (l := [38, 38]) (t := ⟨#[38, 38]⟩) (by rw [ByteArray.toList_eq]) n1
 obtain ⟨s2, u2⟩ := str_no (l := [124, 124]) (t := ⟨#[124, 124]⟩) (by rw [ByteArray.toList_eq]) n2
 have HSN := Lib.hid (And.intro n1 n2); clear n1 n2
 rcases str_or op [43] with ⟨p1, p2⟩ | ⟨p1, p2⟩
 all_goals
  obtain ⟨wa, hwa⟩ : ∃ wa, wa = ((w.alloc (.cells #[.int .i64 3, .bool false, .string ⟨#[]⟩, .bool a.s, .slice A (limbs a.n).length c, .slice B (limbs a.d).length d] 27)).alloc (.cells #[.int .i64 3, .bool false, .string ⟨#[]⟩, .bool b.s, .slice A' (limbs b.n).length c', .slice B' (limbs b.d).length d'] 27)).alloc (.cells #[.int .i64 0, .bool false, .string ⟨#[]⟩, .bool false, .slice none 0 0, .slice none 0 0] 27) := ⟨_, rfl⟩
  obtain ⟨hbl, CX, CY, RES⟩ := kal3 hwa
  replace R1 := hmR R1 hbl
  replace R2 := hmR R2 hbl
  replace R3 := hmR R3 hbl
  replace R4 := hmR R4 hbl
  have HW := Lib.hid hbl; clear hbl
  replace CX := Lib.hid CX
  replace CY := Lib.hid CY
  replace RES := Lib.hid RES
  go_enter Tryz.func6, Tryz.ntmps6
  go_wp2_with fail
  rw [← hwa]
  clear hwa
  obtain ⟨CX0, CX1, CX2, CX3, CX4, CX5⟩ := CX.out.cs6
  obtain ⟨CY0, CY1, CY2, CY3, CY4, CY5⟩ := CY.out.cs6
  refine (kRight_any 3 false ⟨#[]⟩ a.s A B c d (limbs a.n) (limbs a.d) _ R1.out R2.out (limbs_lim _) (limbs_lim _) (len18 LA.out.1) (len18 LA.out.2.1) K4.out.1 K4.out.2.1).mono ?_
  rintro e w1 ⟨rfl, hbl⟩
  replace R1 := hmR R1 hbl
  replace R2 := hmR R2 hbl
  replace R3 := hmR R3 hbl
  replace R4 := hmR R4 hbl
  replace CX := hmB CX hbl
  replace CY := hmB CY hbl
  replace RES := hmB RES hbl
  replace HW := hmW HW hbl; clear hbl
  clear CX0 CX1 CX2 CX3 CX4 CX5 CY0 CY1 CY2 CY3 CY4 CY5
  obtain ⟨CX0, CX1, CX2, CX3, CX4, CX5⟩ := CX.out.cs6
  obtain ⟨CY0, CY1, CY2, CY3, CY4, CY5⟩ := CY.out.cs6
  rw [rightV_num LA.out.1 LA.out.2.1 LA.out.2.2]
  go_wp2_with fail
  refine (kRight_any 3 false ⟨#[]⟩ b.s A' B' c' d' (limbs b.n) (limbs b.d) _ R3.out R4.out (limbs_lim _) (limbs_lim _) (len18 LB.out.1) (len18 LB.out.2.1) K4.out.2.2.1 K4.out.2.2.2).mono ?_
  rintro e w2 ⟨rfl, hbl⟩
  replace R1 := hmR R1 hbl
  replace R2 := hmR R2 hbl
  replace R3 := hmR R3 hbl
  replace R4 := hmR R4 hbl
  replace CX := hmB CX hbl
  replace CY := hmB CY hbl
  replace RES := hmB RES hbl
  replace HW := hmW HW hbl; clear hbl
  clear CX0 CX1 CX2 CX3 CX4 CX5 CY0 CY1 CY2 CY3 CY4 CY5
  obtain ⟨CX0, CX1, CX2, CX3, CX4, CX5⟩ := CX.out.cs6
  obtain ⟨CY0, CY1, CY2, CY3, CY4, CY5⟩ := CY.out.cs6
  rw [rightV_num LB.out.1 LB.out.2.1 LB.out.2.2]
  go_wp2_with fail
  refine (KB.out _).mono ?_
  rintro e wv ⟨rfl, hwv⟩
  obtain rfl := hwv.symm
  clear hwv
  go_wp2_with fail
  refine (operators_at _).mono ?_
  rintro e w3 ⟨bm, g1, g2, g3, g4, g5, g6, rfl, hmp, hop, hbl⟩
  replace R1 := hmR R1 hbl
  replace R2 := hmR R2 hbl
  replace R3 := hmR R3 hbl
  replace R4 := hmR R4 hbl
  replace CX := hmB CX hbl
  replace CY := hmB CY hbl
  replace RES := hmB RES hbl
  replace HW := hmW HW hbl; clear hbl
  clear CX0 CX1 CX2 CX3 CX4 CX5 CY0 CY1 CY2 CY3 CY4 CY5
  obtain ⟨CX0, CX1, CX2, CX3, CX4, CX5⟩ := CX.out.cs6
  obtain ⟨CY0, CY1, CY2, CY3, CY4, CY5⟩ := CY.out.cs6
  have HMP := Lib.hid hmp; clear hmp
  have HOP := Lib.hid hop; clear hop
  have hlk : ∀ W, MapIs W bm (opsTab g1 g2 g3 g4 g5 g6) → (Instr.lookup 56 (.map (some bm)) (.string op) true).run Tryz.prog W = .ok (.tuple #[.agg #[.bool false, .func (.func F) #[] (cp g1 g2 g3 g4 g5 g6)], .bool true]) W := fun W h => run_look h (HLK.out g1 g2 g3 g4 g5 g6)
  have hlk2 := hlk _ HMP.out
  clear hlk
  obtain ⟨wo, hwo⟩ : ∃ wo, wo = w3.alloc (.cells #[.bool false, .func (.func F) #[] (cp g1 g2 g3 g4 g5 g6)] 54) := ⟨_, rfl⟩
  have hbl : Below w3.heap.size w3 wo := by rw [hwo]; exact bel_alloc (bel_refl _) _
  have CO : Blk wo w3.heap.size 54 #[.bool false, .func (.func F) #[] (cp g1 g2 g3 g4 g5 g6)] := by rw [hwo]; exact Blk.new _ _ _
  replace CO := Lib.hid CO
  replace HOP := Lib.hid (HOP.out.below hbl)
  go_upto_region 6 with fail
  rw [← hwo]
  clear hwo hlk2
  replace R1 := hmR R1 hbl
  replace R2 := hmR R2 hbl
  replace R3 := hmR R3 hbl
  replace R4 := hmR R4 hbl
  replace CX := hmB CX hbl
  replace CY := hmB CY hbl
  replace RES := hmB RES hbl
  replace HW := hmW HW hbl; clear hbl
  clear CX0 CX1 CX2 CX3 CX4 CX5 CY0 CY1 CY2 CY3 CY4 CY5
  obtain ⟨CX0, CX1, CX2, CX3, CX4, CX5⟩ := CX.out.cs6
  obtain ⟨CY0, CY1, CY2, CY3, CY4, CY5⟩ := CY.out.cs6
  clear CX0 CX1 CX2 CX3 CX4 CX5 CY0 CY1 CY2 CY3 CY4 CY5
  obtain ⟨CX0, CX1, CX2, CX3, CX4, CX5⟩ := CX.out.cs6
  obtain ⟨CY0, CY1, CY2, CY3, CY4, CY5⟩ := CY.out.cs6
  obtain ⟨CO0, CO1⟩ := CO.out.cs2
  go_wp2_with fail
  refine (KN.out _).mono ?_
  rintro e wv ⟨rfl, hwv⟩
  obtain rfl := hwv.symm
  clear hwv
  go_wp2_with fail
  refine (HD.out _ g1 g2 g3 g4 g5 g6 A B A' B' c d c' d' HOP.out R1.out R2.out R3.out R4.out K4.out.1 K4.out.2.1 K4.out.2.2.1 K4.out.2.2.2).mono ?_
  rintro e w4 ⟨vx, vy, rfl, hnx, hny, hbl⟩
  replace R1 := hmR R1 hbl
  replace R2 := hmR R2 hbl
  replace R3 := hmR R3 hbl
  replace R4 := hmR R4 hbl
  replace HOP := Lib.hid (HOP.out.below hbl)
  replace CX := hmB CX hbl
  replace CY := hmB CY hbl
  replace RES := hmB RES hbl
  replace CO := hmB CO hbl
  replace HW := hmW HW hbl; clear hbl
  clear CX0 CX1 CX2 CX3 CX4 CX5 CY0 CY1 CY2 CY3 CY4 CY5 CO0 CO1
  obtain ⟨CX0, CX1, CX2, CX3, CX4, CX5⟩ := CX.out.cs6
  obtain ⟨CY0, CY1, CY2, CY3, CY4, CY5⟩ := CY.out.cs6
  obtain ⟨CO0, CO1⟩ := CO.out.cs2
  have HNx := Lib.hid hnx; clear hnx
  obtain ⟨Ax, cx, rfl, hcx, hrx⟩ := HNx.out.row
  have Rx := Lib.hid hrx; have HCx := Lib.hid hcx; clear hrx hcx
  have HNy := Lib.hid hny; clear hny
  obtain ⟨Ay, cy, rfl, hcy, hry⟩ := HNy.out.row
  have Ry := Lib.hid hry; have HCy := Lib.hid hcy; clear hry hcy
  obtain ⟨wr, hwr⟩ : ∃ wr, wr = w4.alloc (.cells #[.bool q.s, .slice Ax (limbs q.n).length cx, .slice Ay (limbs q.d).length cy] 25) := ⟨_, rfl⟩
  have hbl : Below w4.heap.size w4 wr := by rw [hwr]; exact bel_alloc (bel_refl _) _
  have CR : Blk wr w4.heap.size 25 #[.bool q.s, .slice Ax (limbs q.n).length cx, .slice Ay (limbs q.d).length cy] := by rw [hwr]; exact Blk.new _ _ _
  replace CR := Lib.hid CR
  go_upto_region 17 with fail
  rw [← hwr]
  clear hwr
  replace R1 := hmR R1 hbl
  replace R2 := hmR R2 hbl
  replace R3 := hmR R3 hbl
  replace R4 := hmR R4 hbl
  replace HOP := Lib.hid (HOP.out.below hbl)
  replace Rx := hmR Rx hbl
  replace HNx := hmN HNx hbl
  replace Ry := hmR Ry hbl
  replace HNy := hmN HNy hbl
  replace CX := hmB CX hbl
  replace CY := hmB CY hbl
  replace RES := hmB RES hbl
  replace CO := hmB CO hbl
  replace HW := hmW HW hbl; clear hbl
  clear CX0 CX1 CX2 CX3 CX4 CX5 CY0 CY1 CY2 CY3 CY4 CY5 CO0 CO1
  obtain ⟨CX0, CX1, CX2, CX3, CX4, CX5⟩ := CX.out.cs6
  obtain ⟨CY0, CY1, CY2, CY3, CY4, CY5⟩ := CY.out.cs6
  obtain ⟨CO0, CO1⟩ := CO.out.cs2
  clear CX0 CX1 CX2 CX3 CX4 CX5 CY0 CY1 CY2 CY3 CY4 CY5 CO0 CO1
  obtain ⟨CX0, CX1, CX2, CX3, CX4, CX5⟩ := CX.out.cs6
  obtain ⟨CY0, CY1, CY2, CY3, CY4, CY5⟩ := CY.out.cs6
  obtain ⟨CO0, CO1⟩ := CO.out.cs2
  obtain ⟨CR0, CR1, CR2⟩ := CR.out.cs3
  by_cases he : e = 0
  · subst he
    obtain ⟨q1, q2, q3⟩ := hq rfl
    obtain ⟨f1, f2⟩ := HFI.out rfl
    have HQ := Lib.hid (And.intro q1 (And.intro q2 (And.intro q3 (And.intro f1 f2)))); clear q1 q2 q3 f1 f2
    go_wp2_with fail
    refine (kNum_any q Ax Ay cx cy _ Rx.out Ry.out HCx.out HCy.out).mono ?_
    rintro e w5 ⟨vz, vu, rfl, hnz, hnu, hbl⟩
    replace R1 := hmR R1 hbl
    replace R2 := hmR R2 hbl
    replace R3 := hmR R3 hbl
    replace R4 := hmR R4 hbl
    replace HOP := Lib.hid (HOP.out.below hbl)
    replace Rx := hmR Rx hbl
    replace HNx := hmN HNx hbl
    replace Ry := hmR Ry hbl
    replace HNy := hmN HNy hbl
    replace CX := hmB CX hbl
    replace CY := hmB CY hbl
    replace RES := hmB RES hbl
    replace CO := hmB CO hbl
    replace CR := hmB CR hbl
    replace HW := hmW HW hbl; clear hbl
    clear CX0 CX1 CX2 CX3 CX4 CX5 CY0 CY1 CY2 CY3 CY4 CY5 CO0 CO1 CR0 CR1 CR2
    obtain ⟨CX0, CX1, CX2, CX3, CX4, CX5⟩ := CX.out.cs6
    obtain ⟨CY0, CY1, CY2, CY3, CY4, CY5⟩ := CY.out.cs6
    obtain ⟨CO0, CO1⟩ := CO.out.cs2
    obtain ⟨CR0, CR1, CR2⟩ := CR.out.cs3
    have HNz := Lib.hid hnz; clear hnz
    obtain ⟨Az, cz, rfl, hcz, hrz⟩ := HNz.out.row
    have Rz := Lib.hid hrz; have HCz := Lib.hid hcz; clear hrz hcz
    have HNu := Lib.hid hnu; clear hnu
    obtain ⟨Au, cu, rfl, hcu, hru⟩ := HNu.out.row
    have Ru := Lib.hid hru; have HCu := Lib.hid hcu; clear hru hcu
    go_wp2_with fail
    refine (kFits_is (e := r) (k := k) t q Az Au cz cu _ Rz.out Ru.out HCz.out HCu.out HQ.out.1 HQ.out.2.1 HQ.out.2.2.1 HQ.out.2.2.2.1 HQ.out.2.2.2.2).mono ?_
    rintro e w6 ⟨vs, vt, rfl, hns, hnt, hbl⟩
    replace R1 := hmR R1 hbl
    replace R2 := hmR R2 hbl
    replace R3 := hmR R3 hbl
    replace R4 := hmR R4 hbl
    replace HOP := Lib.hid (HOP.out.below hbl)
    replace Rx := hmR Rx hbl
    replace HNx := hmN HNx hbl
    replace Ry := hmR Ry hbl
    replace HNy := hmN HNy hbl
    replace CX := hmB CX hbl
    replace CY := hmB CY hbl
    replace RES := hmB RES hbl
    replace CO := hmB CO hbl
    replace CR := hmB CR hbl
    replace HW := hmW HW hbl; clear hbl
    clear CX0 CX1 CX2 CX3 CX4 CX5 CY0 CY1 CY2 CY3 CY4 CY5 CO0 CO1 CR0 CR1 CR2
    obtain ⟨CX0, CX1, CX2, CX3, CX4, CX5⟩ := CX.out.cs6
    obtain ⟨CY0, CY1, CY2, CY3, CY4, CY5⟩ := CY.out.cs6
    obtain ⟨CO0, CO1⟩ := CO.out.cs2
    obtain ⟨CR0, CR1, CR2⟩ := CR.out.cs3
    have HNs := Lib.hid hns; clear hns
    obtain ⟨As, cs, rfl, hcs, hrs⟩ := HNs.out.row
    clear hrs hcs
    have HNt := Lib.hid hnt; clear hnt
    obtain ⟨At, ct, rfl, hct, hrt⟩ := HNt.out.row
    clear hrt hct
    obtain ⟨d0, d1, d2, d3, d4, d5⟩ := RES.out.cs6
    obtain ⟨f0, f1, f2, f3, f4, f5⟩ := RES.out.fz6
    go_wp2
    exact bodyPost_ret (results_row_tmp rfl _ _ (w.heap.size + 2) 27 _ (0, 0) _ _ rfl rfl (RES.out.put6 _ _ _ _ _ _) Tryz.underlying27 rfl (by kernel_rfl)) rfl ⟨_, _, rfl, (RdN.set6 RES.out rfl (HNs.out) _ _ _ _ _ _), (RdN.set6 RES.out rfl (HNt.out) _ _ _ _ _ _), (bel_set6 (g := w.heap.size + 2) HW.out (by omega) _ _ _ _ _ _)⟩
  · obtain ⟨rfl, rfl, rfl⟩ := hF2 he
    have e1 : (r != 0) = true := by simpa using he
    have HE := Lib.hid he
    obtain ⟨d0, d1, d2, d3, d4, d5⟩ := RES.out.cs6
    obtain ⟨f0, f1, f2, f3, f4, f5⟩ := RES.out.fz6
    go_wp2
    exact bodyPost_ret (results_row_tmp rfl _ _ (w.heap.size + 2) 27 _ (0, 0) _ _ rfl rfl (RES.out.put6 _ _ _ _ _ _) Tryz.underlying27 rfl (by kernel_rfl)) rfl ⟨_, _, rfl, (RdN.set6 RES.out rfl (RdN.none0 _) _ _ _ _ _ _), (RdN.set6 RES.out rfl (RdN.none0 _) _ _ _ _ _ _), (bel_set6 (g := w.heap.size + 2) HW.out (by omega) _ _ _ _ _ _)⟩
theorem kBin_whole {q v : Q} {e r k : Int} (op : ByteArray) (F : FuncId) (cp : Nat → Nat → Nat → Nat → Nat → Nat → Array Value) (t : Int) (a b : Q) (A B A' B' : Option Addr) (c d c' d' : Nat) (w : World) (h1 : RdL w A (limbs a.n)) (h2 : RdL w B (limbs a.d)) (h3 : RdL w A' (limbs b.n)) (h4 : RdL w B' (limbs b.d)) (k1 : (limbs a.n).length ≤ c) (k2 : (limbs a.d).length ≤ d) (k3 : (limbs b.n).length ≤ c') (k4 : (limbs b.d).length ≤ d') (ha : a.n < Top ∧ a.d < Top ∧ QR a) (hb : b.n < Top ∧ b.d < Top ∧ QR b) (hE : ∀ vs w, (callFunc F vs).run Tryz.prog w = .ok (.enter F vs) w) (n1 : op ≠ ⟨#[38, 38]⟩) (n2 : op ≠ ⟨#[124, 124]⟩)
 (hL : ∀ g1 g2 g3 g4 g5 g6, lookL .string (.string op) (opsTab g1 g2 g3 g4 g5 g6) = some (some (.agg #[.bool true, .func (.func F) #[] (cp g1 g2 g3 g4 g5 g6)]))) (hD : DoesQ F cp a b t q e) (hbas : basB t = true) (hnum : numB t = true) (hw : wholeB t = true) (hda : a.d = 1) (hdb : b.d = 1) (hq : e = 0 → q.n < Top ∧ q.d < Top ∧ QR q) (hF : e = 0 → FitsR q t v r ∧ k = if r = 0 then 3 else 0) (hF2 : e ≠ 0 → v = noQ ∧ r = e ∧ k = 0) :
 Calls Tryz.prog 6 #[.string op, .agg #[.int .i64 3, .bool false, .string ⟨#[]⟩, .bool a.s, .slice A (limbs a.n).length c, .slice B (limbs a.d).length d], .agg #[.int .i64 3, .bool false, .string ⟨#[]⟩, .bool b.s, .slice A' (limbs b.n).length c', .slice B' (limbs b.d).length d'], .int .i64 t] w (RetV k false ⟨#[]⟩ v r w) := by
 have R1 := Lib.hid h1; clear h1
 have R2 := Lib.hid h2; clear h2
 have R3 := Lib.hid h3; clear h3
 have R4 := Lib.hid h4; clear h4
 have K4 := Lib.hid (And.intro k1 (And.intro k2 (And.intro k3 k4))); clear k1 k2 k3 k4
 have LA := Lib.hid ha; clear ha
 have LB := Lib.hid hb; clear hb
 have HD := Lib.hid hD; clear hD
 have HLK := Lib.hid hL; clear hL
 have HFI := Lib.hid hF; clear hF
 have KN := Lib.hid (fun W => kNum_is t W hnum); clear hnum
 have KB := Lib.hid (fun W => kBas_is t W hbas); clear hbas
 obtain ⟨s1, u1⟩ := str_no (l := [38, 38]) (t := ⟨#[38, 38]⟩) (by rw [ByteArray.toList_eq]) n1
 obtain ⟨s2, u2⟩ := str_no (l := [124, 124]) (t := ⟨#[124, 124]⟩) (by rw [ByteArray.toList_eq]) n2
 have HSN := Lib.hid (And.intro n1 n2); clear n1 n2
 rcases str_or op [43] with ⟨p1, p2⟩ | ⟨p1, p2⟩
 all_goals
  have KW := Lib.hid (fun W => kWhole_is t W hw); clear hw
  have HDA := Lib.hid (decide_eq_true hda); clear hda
  have HDB := Lib.hid (decide_eq_true hdb); clear hdb
  obtain ⟨wa, hwa⟩ : ∃ wa, wa = ((w.alloc (.cells #[.int .i64 3, .bool false, .string ⟨#[]⟩, .bool a.s, .slice A (limbs a.n).length c, .slice B (limbs a.d).length d] 27)).alloc (.cells #[.int .i64 3, .bool false, .string ⟨#[]⟩, .bool b.s, .slice A' (limbs b.n).length c', .slice B' (limbs b.d).length d'] 27)).alloc (.cells #[.int .i64 0, .bool false, .string ⟨#[]⟩, .bool false, .slice none 0 0, .slice none 0 0] 27) := ⟨_, rfl⟩
  obtain ⟨hbl, CX, CY, RES⟩ := kal3 hwa
  replace R1 := hmR R1 hbl
  replace R2 := hmR R2 hbl
  replace R3 := hmR R3 hbl
  replace R4 := hmR R4 hbl
  have HW := Lib.hid hbl; clear hbl
  replace CX := Lib.hid CX
  replace CY := Lib.hid CY
  replace RES := Lib.hid RES
  go_enter Tryz.func6, Tryz.ntmps6
  go_wp2_with fail
  rw [← hwa]
  clear hwa
  obtain ⟨CX0, CX1, CX2, CX3, CX4, CX5⟩ := CX.out.cs6
  obtain ⟨CY0, CY1, CY2, CY3, CY4, CY5⟩ := CY.out.cs6
  refine (kRight_any 3 false ⟨#[]⟩ a.s A B c d (limbs a.n) (limbs a.d) _ R1.out R2.out (limbs_lim _) (limbs_lim _) (len18 LA.out.1) (len18 LA.out.2.1) K4.out.1 K4.out.2.1).mono ?_
  rintro e w1 ⟨rfl, hbl⟩
  replace R1 := hmR R1 hbl
  replace R2 := hmR R2 hbl
  replace R3 := hmR R3 hbl
  replace R4 := hmR R4 hbl
  replace CX := hmB CX hbl
  replace CY := hmB CY hbl
  replace RES := hmB RES hbl
  replace HW := hmW HW hbl; clear hbl
  clear CX0 CX1 CX2 CX3 CX4 CX5 CY0 CY1 CY2 CY3 CY4 CY5
  obtain ⟨CX0, CX1, CX2, CX3, CX4, CX5⟩ := CX.out.cs6
  obtain ⟨CY0, CY1, CY2, CY3, CY4, CY5⟩ := CY.out.cs6
  rw [rightV_num LA.out.1 LA.out.2.1 LA.out.2.2]
  go_wp2_with fail
  refine (kRight_any 3 false ⟨#[]⟩ b.s A' B' c' d' (limbs b.n) (limbs b.d) _ R3.out R4.out (limbs_lim _) (limbs_lim _) (len18 LB.out.1) (len18 LB.out.2.1) K4.out.2.2.1 K4.out.2.2.2).mono ?_
  rintro e w2 ⟨rfl, hbl⟩
  replace R1 := hmR R1 hbl
  replace R2 := hmR R2 hbl
  replace R3 := hmR R3 hbl
  replace R4 := hmR R4 hbl
  replace CX := hmB CX hbl
  replace CY := hmB CY hbl
  replace RES := hmB RES hbl
  replace HW := hmW HW hbl; clear hbl
  clear CX0 CX1 CX2 CX3 CX4 CX5 CY0 CY1 CY2 CY3 CY4 CY5
  obtain ⟨CX0, CX1, CX2, CX3, CX4, CX5⟩ := CX.out.cs6
  obtain ⟨CY0, CY1, CY2, CY3, CY4, CY5⟩ := CY.out.cs6
  rw [rightV_num LB.out.1 LB.out.2.1 LB.out.2.2]
  go_wp2_with fail
  refine (KB.out _).mono ?_
  rintro e wv ⟨rfl, hwv⟩
  obtain rfl := hwv.symm
  clear hwv
  go_wp2_with fail
  refine (operators_at _).mono ?_
  rintro e w3 ⟨bm, g1, g2, g3, g4, g5, g6, rfl, hmp, hop, hbl⟩
  replace R1 := hmR R1 hbl
  replace R2 := hmR R2 hbl
  replace R3 := hmR R3 hbl
  replace R4 := hmR R4 hbl
  replace CX := hmB CX hbl
  replace CY := hmB CY hbl
  replace RES := hmB RES hbl
  replace HW := hmW HW hbl; clear hbl
  clear CX0 CX1 CX2 CX3 CX4 CX5 CY0 CY1 CY2 CY3 CY4 CY5
  obtain ⟨CX0, CX1, CX2, CX3, CX4, CX5⟩ := CX.out.cs6
  obtain ⟨CY0, CY1, CY2, CY3, CY4, CY5⟩ := CY.out.cs6
  have HMP := Lib.hid hmp; clear hmp
  have HOP := Lib.hid hop; clear hop
  have hlk : ∀ W, MapIs W bm (opsTab g1 g2 g3 g4 g5 g6) → (Instr.lookup 56 (.map (some bm)) (.string op) true).run Tryz.prog W = .ok (.tuple #[.agg #[.bool true, .func (.func F) #[] (cp g1 g2 g3 g4 g5 g6)], .bool true]) W := fun W h => run_look h (HLK.out g1 g2 g3 g4 g5 g6)
  have hlk2 := hlk _ HMP.out
  clear hlk
  obtain ⟨wo, hwo⟩ : ∃ wo, wo = w3.alloc (.cells #[.bool true, .func (.func F) #[] (cp g1 g2 g3 g4 g5 g6)] 54) := ⟨_, rfl⟩
  have hbl : Below w3.heap.size w3 wo := by rw [hwo]; exact bel_alloc (bel_refl _) _
  have CO : Blk wo w3.heap.size 54 #[.bool true, .func (.func F) #[] (cp g1 g2 g3 g4 g5 g6)] := by rw [hwo]; exact Blk.new _ _ _
  replace CO := Lib.hid CO
  replace HOP := Lib.hid (HOP.out.below hbl)
  go_upto_region 6 with fail
  rw [← hwo]
  clear hwo hlk2
  replace R1 := hmR R1 hbl
  replace R2 := hmR R2 hbl
  replace R3 := hmR R3 hbl
  replace R4 := hmR R4 hbl
  replace CX := hmB CX hbl
  replace CY := hmB CY hbl
  replace RES := hmB RES hbl
  replace HW := hmW HW hbl; clear hbl
  clear CX0 CX1 CX2 CX3 CX4 CX5 CY0 CY1 CY2 CY3 CY4 CY5
  obtain ⟨CX0, CX1, CX2, CX3, CX4, CX5⟩ := CX.out.cs6
  obtain ⟨CY0, CY1, CY2, CY3, CY4, CY5⟩ := CY.out.cs6
  clear CX0 CX1 CX2 CX3 CX4 CX5 CY0 CY1 CY2 CY3 CY4 CY5
  obtain ⟨CX0, CX1, CX2, CX3, CX4, CX5⟩ := CX.out.cs6
  obtain ⟨CY0, CY1, CY2, CY3, CY4, CY5⟩ := CY.out.cs6
  obtain ⟨CO0, CO1⟩ := CO.out.cs2
  go_wp2_with fail
  refine (KN.out _).mono ?_
  rintro e wv ⟨rfl, hwv⟩
  obtain rfl := hwv.symm
  clear hwv
  go_wp2_with fail
  refine (kIsW_num a A B c d _ R1.out R2.out K4.out.1 K4.out.2.1 LA.out.1 LA.out.2.1).mono ?_
  rintro e w4 ⟨rfl, hbl⟩
  replace R1 := hmR R1 hbl
  replace R2 := hmR R2 hbl
  replace R3 := hmR R3 hbl
  replace R4 := hmR R4 hbl
  replace HOP := Lib.hid (HOP.out.below hbl)
  replace CX := hmB CX hbl
  replace CY := hmB CY hbl
  replace RES := hmB RES hbl
  replace CO := hmB CO hbl
  replace HW := hmW HW hbl; clear hbl
  clear CX0 CX1 CX2 CX3 CX4 CX5 CY0 CY1 CY2 CY3 CY4 CY5 CO0 CO1
  obtain ⟨CX0, CX1, CX2, CX3, CX4, CX5⟩ := CX.out.cs6
  obtain ⟨CY0, CY1, CY2, CY3, CY4, CY5⟩ := CY.out.cs6
  obtain ⟨CO0, CO1⟩ := CO.out.cs2
  rw [HDA.out]
  go_wp2_with fail
  refine (kIsW_num b A' B' c' d' _ R3.out R4.out K4.out.2.2.1 K4.out.2.2.2 LB.out.1 LB.out.2.1).mono ?_
  rintro e w5 ⟨rfl, hbl⟩
  replace R1 := hmR R1 hbl
  replace R2 := hmR R2 hbl
  replace R3 := hmR R3 hbl
  replace R4 := hmR R4 hbl
  replace HOP := Lib.hid (HOP.out.below hbl)
  replace CX := hmB CX hbl
  replace CY := hmB CY hbl
  replace RES := hmB RES hbl
  replace CO := hmB CO hbl
  replace HW := hmW HW hbl; clear hbl
  clear CX0 CX1 CX2 CX3 CX4 CX5 CY0 CY1 CY2 CY3 CY4 CY5 CO0 CO1
  obtain ⟨CX0, CX1, CX2, CX3, CX4, CX5⟩ := CX.out.cs6
  obtain ⟨CY0, CY1, CY2, CY3, CY4, CY5⟩ := CY.out.cs6
  obtain ⟨CO0, CO1⟩ := CO.out.cs2
  rw [HDB.out]
  go_wp2_with fail
  refine (KW.out _).mono ?_
  rintro e wv ⟨rfl, hwv⟩
  obtain rfl := hwv.symm
  clear hwv
  go_wp2_with fail
  refine (HD.out _ g1 g2 g3 g4 g5 g6 A B A' B' c d c' d' HOP.out R1.out R2.out R3.out R4.out K4.out.1 K4.out.2.1 K4.out.2.2.1 K4.out.2.2.2).mono ?_
  rintro e w6 ⟨vx, vy, rfl, hnx, hny, hbl⟩
  replace R1 := hmR R1 hbl
  replace R2 := hmR R2 hbl
  replace R3 := hmR R3 hbl
  replace R4 := hmR R4 hbl
  replace HOP := Lib.hid (HOP.out.below hbl)
  replace CX := hmB CX hbl
  replace CY := hmB CY hbl
  replace RES := hmB RES hbl
  replace CO := hmB CO hbl
  replace HW := hmW HW hbl; clear hbl
  clear CX0 CX1 CX2 CX3 CX4 CX5 CY0 CY1 CY2 CY3 CY4 CY5 CO0 CO1
  obtain ⟨CX0, CX1, CX2, CX3, CX4, CX5⟩ := CX.out.cs6
  obtain ⟨CY0, CY1, CY2, CY3, CY4, CY5⟩ := CY.out.cs6
  obtain ⟨CO0, CO1⟩ := CO.out.cs2
  have HNx := Lib.hid hnx; clear hnx
  obtain ⟨Ax, cx, rfl, hcx, hrx⟩ := HNx.out.row
  have Rx := Lib.hid hrx; have HCx := Lib.hid hcx; clear hrx hcx
  have HNy := Lib.hid hny; clear hny
  obtain ⟨Ay, cy, rfl, hcy, hry⟩ := HNy.out.row
  have Ry := Lib.hid hry; have HCy := Lib.hid hcy; clear hry hcy
  obtain ⟨wr, hwr⟩ : ∃ wr, wr = w6.alloc (.cells #[.bool q.s, .slice Ax (limbs q.n).length cx, .slice Ay (limbs q.d).length cy] 25) := ⟨_, rfl⟩
  have hbl : Below w6.heap.size w6 wr := by rw [hwr]; exact bel_alloc (bel_refl _) _
  have CR : Blk wr w6.heap.size 25 #[.bool q.s, .slice Ax (limbs q.n).length cx, .slice Ay (limbs q.d).length cy] := by rw [hwr]; exact Blk.new _ _ _
  replace CR := Lib.hid CR
  go_upto_region 17 with fail
  rw [← hwr]
  clear hwr
  replace R1 := hmR R1 hbl
  replace R2 := hmR R2 hbl
  replace R3 := hmR R3 hbl
  replace R4 := hmR R4 hbl
  replace HOP := Lib.hid (HOP.out.below hbl)
  replace Rx := hmR Rx hbl
  replace HNx := hmN HNx hbl
  replace Ry := hmR Ry hbl
  replace HNy := hmN HNy hbl
  replace CX := hmB CX hbl
  replace CY := hmB CY hbl
  replace RES := hmB RES hbl
  replace CO := hmB CO hbl
  replace HW := hmW HW hbl; clear hbl
  clear CX0 CX1 CX2 CX3 CX4 CX5 CY0 CY1 CY2 CY3 CY4 CY5 CO0 CO1
  obtain ⟨CX0, CX1, CX2, CX3, CX4, CX5⟩ := CX.out.cs6
  obtain ⟨CY0, CY1, CY2, CY3, CY4, CY5⟩ := CY.out.cs6
  obtain ⟨CO0, CO1⟩ := CO.out.cs2
  clear CX0 CX1 CX2 CX3 CX4 CX5 CY0 CY1 CY2 CY3 CY4 CY5 CO0 CO1
  obtain ⟨CX0, CX1, CX2, CX3, CX4, CX5⟩ := CX.out.cs6
  obtain ⟨CY0, CY1, CY2, CY3, CY4, CY5⟩ := CY.out.cs6
  obtain ⟨CO0, CO1⟩ := CO.out.cs2
  obtain ⟨CR0, CR1, CR2⟩ := CR.out.cs3
  by_cases he : e = 0
  · subst he
    obtain ⟨q1, q2, q3⟩ := hq rfl
    obtain ⟨f1, f2⟩ := HFI.out rfl
    have HQ := Lib.hid (And.intro q1 (And.intro q2 (And.intro q3 (And.intro f1 f2)))); clear q1 q2 q3 f1 f2
    go_wp2_with fail
    refine (kNum_any q Ax Ay cx cy _ Rx.out Ry.out HCx.out HCy.out).mono ?_
    rintro e w7 ⟨vz, vu, rfl, hnz, hnu, hbl⟩
    replace R1 := hmR R1 hbl
    replace R2 := hmR R2 hbl
    replace R3 := hmR R3 hbl
    replace R4 := hmR R4 hbl
    replace HOP := Lib.hid (HOP.out.below hbl)
    replace Rx := hmR Rx hbl
    replace HNx := hmN HNx hbl
    replace Ry := hmR Ry hbl
    replace HNy := hmN HNy hbl
    replace CX := hmB CX hbl
    replace CY := hmB CY hbl
    replace RES := hmB RES hbl
    replace CO := hmB CO hbl
    replace CR := hmB CR hbl
    replace HW := hmW HW hbl; clear hbl
    clear CX0 CX1 CX2 CX3 CX4 CX5 CY0 CY1 CY2 CY3 CY4 CY5 CO0 CO1 CR0 CR1 CR2
    obtain ⟨CX0, CX1, CX2, CX3, CX4, CX5⟩ := CX.out.cs6
    obtain ⟨CY0, CY1, CY2, CY3, CY4, CY5⟩ := CY.out.cs6
    obtain ⟨CO0, CO1⟩ := CO.out.cs2
    obtain ⟨CR0, CR1, CR2⟩ := CR.out.cs3
    have HNz := Lib.hid hnz; clear hnz
    obtain ⟨Az, cz, rfl, hcz, hrz⟩ := HNz.out.row
    have Rz := Lib.hid hrz; have HCz := Lib.hid hcz; clear hrz hcz
    have HNu := Lib.hid hnu; clear hnu
    obtain ⟨Au, cu, rfl, hcu, hru⟩ := HNu.out.row
    have Ru := Lib.hid hru; have HCu := Lib.hid hcu; clear hru hcu
    go_wp2_with fail
    refine (kFits_is (e := r) (k := k) t q Az Au cz cu _ Rz.out Ru.out HCz.out HCu.out HQ.out.1 HQ.out.2.1 HQ.out.2.2.1 HQ.out.2.2.2.1 HQ.out.2.2.2.2).mono ?_
    rintro e w8 ⟨vs, vt, rfl, hns, hnt, hbl⟩
    replace R1 := hmR R1 hbl
    replace R2 := hmR R2 hbl
    replace R3 := hmR R3 hbl
    replace R4 := hmR R4 hbl
    replace HOP := Lib.hid (HOP.out.below hbl)
    replace Rx := hmR Rx hbl
    replace HNx := hmN HNx hbl
    replace Ry := hmR Ry hbl
    replace HNy := hmN HNy hbl
    replace CX := hmB CX hbl
    replace CY := hmB CY hbl
    replace RES := hmB RES hbl
    replace CO := hmB CO hbl
    replace CR := hmB CR hbl
    replace HW := hmW HW hbl; clear hbl
    clear CX0 CX1 CX2 CX3 CX4 CX5 CY0 CY1 CY2 CY3 CY4 CY5 CO0 CO1 CR0 CR1 CR2
    obtain ⟨CX0, CX1, CX2, CX3, CX4, CX5⟩ := CX.out.cs6
    obtain ⟨CY0, CY1, CY2, CY3, CY4, CY5⟩ := CY.out.cs6
    obtain ⟨CO0, CO1⟩ := CO.out.cs2
    obtain ⟨CR0, CR1, CR2⟩ := CR.out.cs3
    have HNs := Lib.hid hns; clear hns
    obtain ⟨As, cs, rfl, hcs, hrs⟩ := HNs.out.row
    clear hrs hcs
    have HNt := Lib.hid hnt; clear hnt
    obtain ⟨At, ct, rfl, hct, hrt⟩ := HNt.out.row
    clear hrt hct
    obtain ⟨d0, d1, d2, d3, d4, d5⟩ := RES.out.cs6
    obtain ⟨f0, f1, f2, f3, f4, f5⟩ := RES.out.fz6
    go_wp2
    exact bodyPost_ret (results_row_tmp rfl _ _ (w.heap.size + 2) 27 _ (0, 0) _ _ rfl rfl (RES.out.put6 _ _ _ _ _ _) Tryz.underlying27 rfl (by kernel_rfl)) rfl ⟨_, _, rfl, (RdN.set6 RES.out rfl (HNs.out) _ _ _ _ _ _), (RdN.set6 RES.out rfl (HNt.out) _ _ _ _ _ _), (bel_set6 (g := w.heap.size + 2) HW.out (by omega) _ _ _ _ _ _)⟩
  · obtain ⟨rfl, rfl, rfl⟩ := hF2 he
    have e1 : (r != 0) = true := by simpa using he
    have HE := Lib.hid he
    obtain ⟨d0, d1, d2, d3, d4, d5⟩ := RES.out.cs6
    obtain ⟨f0, f1, f2, f3, f4, f5⟩ := RES.out.fz6
    go_wp2
    exact bodyPost_ret (results_row_tmp rfl _ _ (w.heap.size + 2) 27 _ (0, 0) _ _ rfl rfl (RES.out.put6 _ _ _ _ _ _) Tryz.underlying27 rfl (by kernel_rfl)) rfl ⟨_, _, rfl, (RdN.set6 RES.out rfl (RdN.none0 _) _ _ _ _ _ _), (RdN.set6 RES.out rfl (RdN.none0 _) _ _ _ _ _ _), (bel_set6 (g := w.heap.size + 2) HW.out (by omega) _ _ _ _ _ _)⟩
end
end Go.Proofs.YtmbbdjpnecjleaaGreat
