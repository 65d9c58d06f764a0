/-
  ast.spans: the table of how many kids a kind has.
-/
import Derived.Test.YtlijfkallnomnaaRows
import Derived.Test.YtlijfkallnomnaaLib
namespace Go.Proofs.Ytlijfkallnomnaa
open Go.RowKit

def zero66 : Array Value := (List.replicate 66 (Value.int .i64 0)).toArray
/-- One span laid at place k. -/
def spPut (a b : Int) (cs : Array Value) (k : Int) : Array Value := (cs.setIfInBounds (k.toNat * 2) (.int .i64 a)).setIfInBounds (k.toNat * 2 + 1) (.int .i64 b)
def spFill (a b : Int) (ks : List Int) (cs : Array Value) : Array Value := ks.foldl (spPut a b) cs
def sp1 : List Int := [6,9,11,12,18,19,20,22,27,29,30]
def sp2 : List Int := [10,13,14,23,24,25]
def sp3 : List Int := [7,15,21]
def sp4 : List Int := [16,17,26,32]
def spA1 : Array Value := spFill 1 1 sp1 zero66
def spA2 : Array Value := spFill 2 2 sp2 spA1
def spA3 : Array Value := spFill 1 (-1) sp3 spA2
def spA4 : Array Value := spFill 0 (-1) sp4 spA3
def spAll : Array Value := spPut 2 (-1) (spPut 4 4 spA4 28) 8

theorem zero40 (w : World) : (zeroValue 40).run Try.prog w = .ok (.agg zero66) w := by kernel_rfl

theorem spPut_size (a b : Int) (cs : Array Value) (k : Int) : (spPut a b cs k).size = cs.size := by simp [spPut]

/-- What holds at the head of each of the four loops: l is gone through from its place k on; what is left to be laid comes to 'fin'. -/
structure SpRel (w wr : World) (g2 : Nat) (a b : Int) (l : List Int) (fin : Array Value) (k : Nat) : Prop where
  le : k ≤ l.length
  old : Below w.heap.size w wr
  zero : Blk wr w.heap.size 40 zero66
  lst : Blk wr g2 3 (l.map (Value.int .i64)).toArray
  far : w.heap.size + 1 < g2
  arr : ∃ C, Blk wr (w.heap.size + 1) 40 C ∧ C.size = 66 ∧ spFill a b (l.drop k) C = fin

theorem sp_get (l : List Int) (k : Nat) (h : k < l.length) : (l.map (Value.int .i64)).toArray[k]? = some (.int .i64 (l.getD k 0)) := by
  simp [h]

theorem spFill_step (a b : Int) (l : List Int) (C : Array Value) (k : Nat) (h : k < l.length) :
    spFill a b (l.drop k) C = spFill a b (l.drop (k + 1)) (spPut a b C (l.getD k 0)) := by
  rw [List.drop_eq_getElem_cons h, List.getD_eq_getElem?_getD, List.getElem?_eq_getElem h]
  rfl

theorem SpRel.step {w wr : World} {g2 k : Nat} {a b s : Int} {l : List Int} {fin : Array Value} (h : SpRel w wr g2 a b l fin k) (hk : k < l.length) (hs : s = l.getD k 0) :
    SpRel w ((wr.setCell ⟨w.heap.size + 1, s.toNat * 2, none⟩ (.int .i64 a)).setCell ⟨w.heap.size + 1, s.toNat * 2 + 1, none⟩ (.int .i64 b)) g2 a b l fin (k + 1) := by
  obtain ⟨C, hC, hn, hF⟩ := h.arr
  have hf := h.far
  refine ⟨hk, (h.old.setCell (by simp) _).setCell (by simp) _, (h.zero.far (by simp) _).far (by simp) _, (h.lst.far (by simp; omega) _).far (by simp; omega) _, h.far,
    spPut a b C s, (hC.put _ _).put _ _, by rw [spPut_size, hn], ?_⟩
  rw [← hF, spFill_step a b l C k hk, hs]

theorem SpRel.done {w wr : World} {g2 k : Nat} {a b : Int} {l : List Int} {fin : Array Value} (h : SpRel w wr g2 a b l fin k) (hk : ¬ k < l.length) : Blk wr (w.heap.size + 1) 40 fin := by
  obtain ⟨C, hC, hn, hF⟩ := h.arr
  rw [List.drop_of_length_le (by omega)] at hF
  subst hF
  exact hC

/-- The cells that a round reads and writes. -/
theorem SpRel.cells {w wr : World} {g2 k : Nat} {a b : Int} {l : List Int} {fin : Array Value} (h : SpRel w wr g2 a b l fin k) (hk : k < l.length) (hr : ∀ x ∈ l, 0 ≤ x ∧ x < 33) :
    ∃ s, s = l.getD k 0 ∧ 0 ≤ s ∧ s < 33 ∧ wr.cell? ⟨g2, k, none⟩ = some (.int .i64 s) ∧ (∃ v, wr.cell? ⟨w.heap.size + 1, s.toNat * 2, none⟩ = some v) ∧
      (∃ v, wr.cell? ⟨w.heap.size + 1, s.toNat * 2 + 1, none⟩ = some v) ∧ wr.frozen? ⟨w.heap.size + 1, s.toNat * 2, none⟩ = false ∧ wr.frozen? ⟨w.heap.size + 1, s.toNat * 2 + 1, none⟩ = false := by
  obtain ⟨C, hC, hn, _⟩ := h.arr
  have hm := hr (l.getD k 0) (by rw [List.getD_eq_getElem?_getD, List.getElem?_eq_getElem hk]; exact List.getElem_mem hk)
  refine ⟨_, rfl, hm.1, hm.2, by rw [h.lst.cell, sp_get l k hk], ⟨C[(l.getD k 0).toNat * 2]'(by omega), ?_⟩, ⟨C[(l.getD k 0).toNat * 2 + 1]'(by omega), ?_⟩, hC.frozen _, hC.frozen _⟩
  · rw [hC.cell]; exact Array.getElem?_eq_getElem _
  · rw [hC.cell]; exact Array.getElem?_eq_getElem _

theorem spA1_size : spA1.size = 66 := by decide +kernel
theorem spA2_size : spA2.size = 66 := by decide +kernel
theorem spA3_size : spA3.size = 66 := by decide +kernel
theorem spA4_size : spA4.size = 66 := by decide +kernel
theorem spAll_size : spAll.size = 66 := by decide +kernel
theorem zero66_size : zero66.size = spAll.size := by rw [spAll_size]; decide +kernel
theorem spAll_info : (Try.prog.info? 40).map (·.size) = some spAll.size := by rw [spAll_size]; kernel_rfl
theorem spA4_cell {w : World} {g : Nat} (h : Blk w g 40 spA4) (i : Nat) (hi : i < 66) : ∃ v, w.cell? ⟨g, i, none⟩ = some v :=
  ⟨spA4[i]'(by rw [spA4_size]; exact hi), by rw [h.cell]; exact Array.getElem?_eq_getElem _⟩
theorem spAll_blk {w : World} {g : Nat} (h : Blk w g 40 spA4) :
    Blk ((((w.setCell ⟨g, 56, none⟩ (.int .i64 4)).setCell ⟨g, 57, none⟩ (.int .i64 4)).setCell ⟨g, 16, none⟩ (.int .i64 2)).setCell ⟨g, 17, none⟩ (.int .i64 (-1))) g 40 spAll :=
  (((h.put _ _).put _ _).put _ _).put _ _
theorem spZ_blk {w : World} {g : Nat} (h : Blk w g 40 zero66) :
    Blk ((((w.setCell ⟨g + 1, 56, none⟩ (.int .i64 4)).setCell ⟨g + 1, 57, none⟩ (.int .i64 4)).setCell ⟨g + 1, 16, none⟩ (.int .i64 2)).setCell ⟨g + 1, 17, none⟩ (.int .i64 (-1))) g 40 zero66 := by
  refine (((h.far ?_ _).far ?_ _).far ?_ _).far ?_ _ <;> simp
theorem spB_blk {w W : World} {g : Nat} (h : Below g W w) :
    Below g W (((((w.setCell ⟨g + 1, 56, none⟩ (.int .i64 4)).setCell ⟨g + 1, 57, none⟩ (.int .i64 4)).setCell ⟨g + 1, 16, none⟩ (.int .i64 2)).setCell ⟨g + 1, 17, none⟩ (.int .i64 (-1))).setRow g spAll) := by
  refine below_setRow (((((h.setCell ?_ _).setCell ?_ _).setCell ?_ _).setCell ?_ _)) (Nat.le_refl _) _ <;> simp
theorem spAll_one : spAll.all (·.oneCell') = true := by decide +kernel

def SpPost (w : World) (e : Ending) (w' : World) : Prop := e = .returned (.agg spAll) ∧ Below w.heap.size w w'

set_option maxRecDepth 100000 in
set_option maxHeartbeats 1000000 in
theorem spans_any (w : World) : Calls Try.prog 17 #[] w (SpPost w) := by
  have hz := zero40
  go_enter Try.func17, Try.ntmps17
  go_wp2_with (refine wpList_buildFlat rfl 35 3 11 _ rfl .i64 sp1 (by kernel_rfl) (by kernel_rfl) (by kernel_rfl) rfl (by decide) (by decide) rfl ?_)
  go_loopw [3, 12] (fun _ i w1 => ∃ k : Nat, i = .int .i64 k ∧ SpRel w w1 (w.heap.size + 1 + 1) (1) (1) sp1 spA1 k) (fun _ i _ => 11 - (intOf i).toNat)
  case atStart =>
    refine ⟨0, rfl, Nat.zero_le _, (((Below.refl _ _).alloc (Nat.le_refl _) _).alloc (by simp) _).alloc (by simp; omega) _, ?_, ?_, by omega, zero66, ?_, by simp [zero66], rfl⟩
    · exact ((Blk.new w 40 zero66).alloc _).alloc _
    · have h := Blk.new ((w.alloc (.cells zero66 40)).alloc (.cells zero66 40)) 3 (sp1.map (Value.int .i64)).toArray
      simpa using h
    · have h := (Blk.new (w.alloc (.cells zero66 40)) 40 zero66).alloc (.cells (sp1.map (Value.int .i64)).toArray 3)
      simpa using h
  case round =>
    obtain ⟨w1, hw⟩ : ∃ x, x = wr := ⟨_, rfl⟩
    subst hw
    obtain ⟨k, rfl, hrel⟩ := hrel
    have HR := Lib.hid hrel; clear hrel
    by_cases hlt : k < 11
    · obtain ⟨s, hs, hr1, hr2, hc, ⟨v0, hv0⟩, ⟨v1, hv1⟩, hf0, hf1⟩ := HR.out.cells (by exact hlt) (by decide)
      have Hs := Lib.hid hs; clear hs
      go_wp2
      go_roundw
      case rel => exact ⟨k + 1, by go_num, HR.out.step hlt Hs.out⟩
      case measure => simp [intOf]; omega
    have hd := HR.out.done (by exact hlt)
    have H1 := Lib.hid (And.intro HR.out.old (And.intro HR.out.zero (And.intro hd HR.out.old.size))); clear hd HR
    go_wp2_with (refine wpList_buildFlat rfl 35 3 6 _ rfl .i64 sp2 (by kernel_rfl) (by kernel_rfl) (by kernel_rfl) rfl (by decide) (by decide) rfl ?_)
    go_loopw [5, 22] (fun _ i w2 => ∃ k : Nat, i = .int .i64 k ∧ SpRel w w2 (w1.heap.size) (2) (2) sp2 spA2 k) (fun _ i _ => 6 - (intOf i).toNat)
    case atStart =>
      refine ⟨0, rfl, Nat.zero_le _, H1.out.1.alloc H1.out.2.2.2 _, H1.out.2.1.alloc _, Blk.new _ _ _, H1.out.2.2.1.lt, spA1, H1.out.2.2.1.alloc _, spA1_size, rfl⟩
    case round =>
      obtain ⟨w2, hw⟩ : ∃ x, x = wr := ⟨_, rfl⟩
      subst hw
      obtain ⟨k, rfl, hrel⟩ := hrel
      have HR := Lib.hid hrel; clear hrel
      by_cases hlt : k < 6
      · obtain ⟨s, hs, hr1, hr2, hc, ⟨v0, hv0⟩, ⟨v1, hv1⟩, hf0, hf1⟩ := HR.out.cells (by exact hlt) (by decide)
        have Hs := Lib.hid hs; clear hs
        go_wp2
        go_roundw
        case rel => exact ⟨k + 1, by go_num, HR.out.step hlt Hs.out⟩
        case measure => simp [intOf]; omega
      have hd := HR.out.done (by exact hlt)
      have H2 := Lib.hid (And.intro HR.out.old (And.intro HR.out.zero (And.intro hd HR.out.old.size))); clear hd HR
      go_wp2_with (refine wpList_buildFlat rfl 35 3 3 _ rfl .i64 sp3 (by kernel_rfl) (by kernel_rfl) (by kernel_rfl) rfl (by decide) (by decide) rfl ?_)
      go_loopw [7, 32] (fun _ i w3 => ∃ k : Nat, i = .int .i64 k ∧ SpRel w w3 (w2.heap.size) (1) (-1) sp3 spA3 k) (fun _ i _ => 3 - (intOf i).toNat)
      case atStart =>
        refine ⟨0, rfl, Nat.zero_le _, H2.out.1.alloc H2.out.2.2.2 _, H2.out.2.1.alloc _, Blk.new _ _ _, H2.out.2.2.1.lt, spA2, H2.out.2.2.1.alloc _, spA2_size, rfl⟩
      case round =>
        obtain ⟨w3, hw⟩ : ∃ x, x = wr := ⟨_, rfl⟩
        subst hw
        obtain ⟨k, rfl, hrel⟩ := hrel
        have HR := Lib.hid hrel; clear hrel
        by_cases hlt : k < 3
        · obtain ⟨s, hs, hr1, hr2, hc, ⟨v0, hv0⟩, ⟨v1, hv1⟩, hf0, hf1⟩ := HR.out.cells (by exact hlt) (by decide)
          have Hs := Lib.hid hs; clear hs
          go_wp2
          go_roundw
          case rel => exact ⟨k + 1, by go_num, HR.out.step hlt Hs.out⟩
          case measure => simp [intOf]; omega
        have hd := HR.out.done (by exact hlt)
        have H3 := Lib.hid (And.intro HR.out.old (And.intro HR.out.zero (And.intro hd HR.out.old.size))); clear hd HR
        go_wp2_with (refine wpList_buildFlat rfl 35 3 4 _ rfl .i64 sp4 (by kernel_rfl) (by kernel_rfl) (by kernel_rfl) rfl (by decide) (by decide) rfl ?_)
        go_loopw [9, 42] (fun _ i w4 => ∃ k : Nat, i = .int .i64 k ∧ SpRel w w4 (w3.heap.size) (0) (-1) sp4 spA4 k) (fun _ i _ => 4 - (intOf i).toNat)
        case atStart =>
          refine ⟨0, rfl, Nat.zero_le _, H3.out.1.alloc H3.out.2.2.2 _, H3.out.2.1.alloc _, Blk.new _ _ _, H3.out.2.2.1.lt, spA3, H3.out.2.2.1.alloc _, spA3_size, rfl⟩
        case round =>
          obtain ⟨w4, hw⟩ : ∃ x, x = wr := ⟨_, rfl⟩
          subst hw
          obtain ⟨k, rfl, hrel⟩ := hrel
          have HR := Lib.hid hrel; clear hrel
          by_cases hlt : k < 4
          · obtain ⟨s, hs, hr1, hr2, hc, ⟨v0, hv0⟩, ⟨v1, hv1⟩, hf0, hf1⟩ := HR.out.cells (by exact hlt) (by decide)
            have Hs := Lib.hid hs; clear hs
            go_wp2
            go_roundw
            case rel => exact ⟨k + 1, by go_num, HR.out.step hlt Hs.out⟩
            case measure => simp [intOf]; omega
          have hd := HR.out.done (by exact hlt)
          have H4 := Lib.hid (And.intro HR.out.old (And.intro HR.out.zero (And.intro hd HR.out.old.size))); clear hd HR
          have hA := H4.out.2.2.1
          obtain ⟨v0, hv0⟩ := spA4_cell hA 56 (by omega)
          obtain ⟨v1, hv1⟩ := spA4_cell hA 57 (by omega)
          obtain ⟨v2, hv2⟩ := spA4_cell hA 16 (by omega)
          obtain ⟨v3, hv3⟩ := spA4_cell hA 17 (by omega)
          have hf0 := hA.frozen 56
          have hf1 := hA.frozen 57
          have hf2 := hA.frozen 16
          have hf3 := hA.frozen 17
          have hAll := Lib.hid (spAll_blk hA)
          have hZ := Lib.hid (spZ_blk H4.out.2.1)
          clear hA
          go_wp2_with (first | (refine wpList_load_row rfl 40 (.tmp 1) rfl (w.heap.size + 1) rfl 40 spAll (0, 0) (.array 33 39) ?hx (by kernel_rfl) rfl spAll_info ?_) | (refine wpList_store_row rfl 40 (.tmp 0) (.tmp 54) rfl w.heap.size spAll rfl rfl 40 zero66 ?hy spAll_info zero66_size spAll_one ?_))
          case hx => exact hAll.out
          case hy => exact hZ.out
          refine bodyPost_ret (v := .agg spAll) (results_cell_row rfl _ _ w.heap.size 40 spAll (0, 0) (.array 33 39) rfl (setRow_heap _ _ _ _ _ _ hZ.out) (by kernel_rfl) rfl spAll_info) rfl ⟨rfl, spB_blk H4.out.1⟩
end Go.Proofs.Ytlijfkallnomnaa
