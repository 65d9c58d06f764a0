/-
  Place and its reference, walked.
-/
import Derived.Test.YtfcjliiemiahkaaCheck
import Derived.Test.YtfcjliiemiahkaaShelf
namespace Go.Proofs.Ytfcjliiemiahkaa
open Go.RowKit

/-- The line and the column behind the first k bytes. -/
def lineOf (s : ByteArray) : Nat → Nat
  | 0 => 1
  | k + 1 => if bt s k = 10 then lineOf s k + 1 else lineOf s k
def colOf (s : ByteArray) : Nat → Nat
  | 0 => 1
  | k + 1 => if bt s k = 10 then 1 else colOf s k + 1

theorem lineOf_le (s : ByteArray) : ∀ k, lineOf s k ≤ k + 1
  | 0 => Nat.le_refl _
  | k + 1 => by have := lineOf_le s k; unfold lineOf; split <;> omega
theorem colOf_le (s : ByteArray) : ∀ k, colOf s k ≤ k + 1
  | 0 => Nat.le_refl _
  | k + 1 => by have := colOf_le s k; unfold colOf; split <;> omega

theorem bt_data (s : ByteArray) (i : Nat) : (s.data[i]!).toNat = bt s i := rfl

theorem cut_bt (s : ByteArray) {n i : Nat} (hn : n ≤ s.size) (h : i < n) : bt (s.extract 0 n) i = bt s i := by
  have h1 : i < (s.extract 0 n).size := by simp; omega
  rw [← bt_get _ h1, ← bt_get s (by omega)]
  congr 1
  have h2 : i < s.data.size := Nat.lt_of_lt_of_le h hn
  show (s.extract 0 n).data[i] = s.data[i]
  simp

theorem count_eq (s : ByteArray) : ∀ k, k ≤ s.size → 1 + Go.Lib.countByte (s.data.toList.take k) 10 = lineOf s k
  | 0, _ => rfl
  | k + 1, h => by
    have ih := count_eq s k (by omega)
    have hk : k < s.data.toList.length := by simp; exact h
    have e : (s.data.toList[k]'hk).toNat = bt s k := bt_get s (i := k) h
    unfold lineOf
    rw [← ih, List.take_succ_eq_append_getElem hk]
    unfold Go.Lib.countByte
    rw [List.count_append, List.count_singleton]
    by_cases hc : bt s k = 10
    · have : s.data.toList[k]'hk = 10 := by apply UInt8.toNat.inj; rw [e, hc]; rfl
      rw [if_pos hc, this]
      simp; omega
    · have : ¬ s.data.toList[k]'hk = 10 := fun h => hc (by rw [← e, h]; rfl)
      rw [if_neg hc]
      have h2 : (s.data.toList[k]'hk == 10) = false := by simpa using this
      rw [h2]
      simp

theorem count_cut (s : ByteArray) {n : Nat} (hn : n ≤ s.size) : 1 + Go.Lib.countByte (s.extract 0 n).data.toList 10 = lineOf s n := by
  rw [← count_eq s n hn]
  congr 2
  simp

theorem last_eq (s : ByteArray) {n : Nat} (hn : n ≤ s.size) : ∀ k, k ≤ n → (k : Int) - Go.Lib.lastIdx (s.extract 0 n) 10 k = (colOf s k : Int)
  | 0, _ => rfl
  | k + 1, h => by
    have ih := last_eq s hn k (by omega)
    unfold Go.Lib.lastIdx colOf
    rw [bt_data, cut_bt s hn h]
    by_cases hc : bt s k = 10
    · rw [if_pos (by omega), if_pos hc]; omega
    · rw [if_neg (by omega), if_neg hc]; omega
theorem last_cut (s : ByteArray) {n : Nat} (hn : n ≤ s.size) : (n : Int) - Go.Lib.lastIndexByte (s.extract 0 n) 10 = (colOf s n : Int) := by
  unfold Go.Lib.lastIndexByte
  have : (s.extract 0 n).size = n := by simp; omega
  rw [this]
  exact last_eq s hn n (Nat.le_refl _)

def RetP (l c x : Int) (w : World) (e : Ending) (w' : World) : Prop := e = .returned (.tuple #[.int .i64 l, .int .i64 c, .int .i64 x]) ∧ w' = w

set_option maxHeartbeats 400000 in
theorem place_out (s : ByteArray) (i : Int) (w : World) (h : i < 0 ∨ (0 ≤ i ∧ (s.size : Int) < i)) : Calls Try.prog 6 #[.string s, .int .i64 i] w (RetP 0 0 1 w) := by
  rcases h with h | ⟨h0, h⟩
  all_goals
    go_enter Try.func6, Try.ntmps6
    go_wp2
    go_ret3
    exact ⟨rfl, rfl⟩

set_option maxHeartbeats 400000 in
theorem place_in (s : ByteArray) (k : Nat) (w : World) (h : k ≤ s.size) (hs : s.size ≤ 4611686018427387900) :
    Calls Try.prog 6 #[.string s, .int .i64 k] w (RetP (lineOf s k) (colOf s k) 0 w) := by
  have h' : (k : Int) ≤ (s.size : Int) := by omega
  have hc := count_cut s h
  have hl := last_cut s h
  have hlb := lineOf_le s k
  have hcb := colOf_le s k
  obtain ⟨n, hn⟩ : ∃ n, n = Go.Lib.countByte (s.extract 0 k).data.toList 10 := ⟨_, rfl⟩
  obtain ⟨m, hm⟩ : ∃ m, m = Go.Lib.lastIndexByte (s.extract 0 k) 10 := ⟨_, rfl⟩
  rw [← hn] at hc
  rw [← hm] at hl
  have s1 : IntKind.i64.wrap (1 + (n : Int)) = (lineOf s k : Int) := by rw [IntKind.wrap_i64]; omega
  have s2 : IntKind.i64.wrap ((k : Int) - m) = (colOf s k : Int) := by rw [IntKind.wrap_i64]; omega
  have HN := Lib.hid hn; clear hn
  have HM := Lib.hid hm; clear hm
  have HS := Lib.hid hs; clear hs
  clear hc hl hlb hcb
  go_enter Try.func6, Try.ntmps6
  go_wp2_with first
    | (go_at_call 16; (with_reducible refine (Try.strings_Count_one _ 10 _).mono ?_); rintro e w' ⟨rfl, rfl⟩; rw [← HN.out])
    | (go_at_call 17; (with_reducible refine (Try.strings_LastIndexByte _ 10 ?_ _).mono ?_); (have := HS.out; simp; omega); rintro e w' ⟨rfl, rfl⟩; rw [← HM.out])
  go_ret3
  exact ⟨rfl, rfl⟩

theorem results_cell {fn : Func} {p : Tmp} {ty : TypeId} (h : fn.results = #[.cell p ty]) (tmps : Array Value) (P : Program) (w : World) :
    (results fn tmps).run P w = ((asAddr (tmps.getD p undef)).run P w).andThen fun a w1 => (loadVar ty a).run P w1 := by
  simp only [results, h]
  simp [Sem.run_bind, Result.andThen]

def RetCell2 (a b : Int) (w : World) (e : Ending) (w' : World) : Prop := e = .returned (.agg #[.int .i64 a, .int .i64 b]) ∧ Below w.heap.size w w'

structure PlRel (w wr : World) (s : ByteArray) (n k : Nat) : Prop where
  le : k ≤ n
  old : Below w.heap.size w wr
  blk : Blk wr (w.heap.size + 1) 29 #[.int .i64 (lineOf s k), .int .i64 (colOf s k)]
  res : Blk wr w.heap.size 29 #[.int .i64 0, .int .i64 0]

set_option maxRecDepth 100000 in
set_option maxHeartbeats 400000 in
theorem refPlace_any (s : ByteArray) (n : Nat) (w : World) (h : n ≤ s.size) (hs : s.size ≤ 4611686018427387900) :
    Calls Try.prog 13 #[.string s, .int .i64 n] w (RetCell2 (lineOf s n) (colOf s n) w) := by
  have HS := Lib.hid hs; clear hs
  go_enter Try.func13, Try.ntmps13
  go_wp2
  go_loopw [6] (fun i wr => ∃ k : Nat, i = .int .i64 k ∧ PlRel w wr s n k) (fun i _ => n - (intOf i).toNat)
  case atStart => exact ⟨0, rfl, Nat.zero_le _, bel_alloc (bel_alloc (bel_refl _) _) _, by have := Blk.new (w.alloc (Obj.cells #[Value.int IntKind.i64 0, Value.int IntKind.i64 0] 29)) 29 #[Value.int IntKind.i64 1, Value.int IntKind.i64 1]; rwa [World.size_alloc] at this, (Blk.new _ _ _).alloc _⟩
  case round =>
    obtain ⟨k, rfl, hrel⟩ := hrel
    have HR := Lib.hid hrel; clear hrel
    by_cases hlt : k < n
    · have hlt' : (k : Int) < (s.size : Int) := by omega
      have hb := bt_get s (Nat.lt_of_lt_of_le hlt h)
      obtain ⟨b, hbt⟩ : ∃ b, b = bt s k := ⟨_, rfl⟩
      rw [← hbt] at hb
      have HB := Lib.hid hbt; clear hbt
      have hl1 := lineOf_le s k
      have hl2 := colOf_le s k
      obtain ⟨l, hl⟩ : ∃ l, l = lineOf s k := ⟨_, rfl⟩
      obtain ⟨c, hc⟩ : ∃ c, c = colOf s k := ⟨_, rfl⟩
      rw [← hl] at hl1
      rw [← hc] at hl2
      have hlast := HS.out
      have hk9 : (k : Int) ≤ 4611686018427387899 := by omega
      have s1 : IntKind.i64.wrap ((l : Int) + 1) = ((l + 1 : Nat) : Int) := by rw [IntKind.wrap_i64]; omega
      have s2 : IntKind.i64.wrap ((c : Int) + 1) = ((c + 1 : Nat) : Int) := by rw [IntKind.wrap_i64]; omega
      clear hl1 hl2 hlast
      have HL := Lib.hid hl; clear hl
      have HC := Lib.hid hc; clear hc
      have c0 : wr.cell? ⟨w.heap.size + 1, 0, none⟩ = some (.int .i64 l) := by rw [HR.out.blk.cell, HL.out]; rfl
      have c1 : wr.cell? ⟨w.heap.size + 1, 1, none⟩ = some (.int .i64 c) := by rw [HR.out.blk.cell, HC.out]; rfl
      have f0 : wr.frozen? ⟨w.heap.size + 1, 0, none⟩ = false := HR.out.blk.frozen 0
      have f1 : wr.frozen? ⟨w.heap.size + 1, 1, none⟩ = false := HR.out.blk.frozen 1
      go_wp2
      · have h10 : ((b : Int) == 10) = true := by assumption
        have h10' : bt s k = 10 := by rw [← HB.out]; simp at h10; omega
        go_roundw
        case rel =>
          refine ⟨k + 1, by go_num, hlt, ((HR.out.old.setCell (by simp) _).setCell (by simp) _).setCell (by simp) _, ?_, ((HR.out.res.far (by simp) _).far (by simp) _).far (by simp) _⟩
          have := ((HR.out.blk.put 1 (.int .i64 ((c : Int) + 1))).put 0 (.int .i64 ((l : Int) + 1))).put 1 (.int .i64 1)
          unfold lineOf colOf
          rw [if_pos h10', if_pos h10', ← HL.out]
          exact this
        case measure => simp [intOf]; omega
      · have h10 : ((b : Int) == 10) = false := by assumption
        have h10' : ¬ bt s k = 10 := by rw [← HB.out]; simp at h10; omega
        go_roundw
        case rel =>
          refine ⟨k + 1, by go_num, hlt, HR.out.old.setCell (by simp) _, ?_, HR.out.res.far (by simp) _⟩
          have := HR.out.blk.put 1 (.int .i64 ((c : Int) + 1))
          unfold lineOf colOf
          rw [if_neg h10', if_neg h10', ← HC.out]
          exact this
        case measure => simp [intOf]; omega
    · have e : k = n := by have := HR.out.le; omega
      subst e
      have c0 : wr.cell? ⟨w.heap.size + 1, 0, none⟩ = some (.int .i64 (lineOf s k)) := by rw [HR.out.blk.cell]; rfl
      have c1 : wr.cell? ⟨w.heap.size + 1, 1, none⟩ = some (.int .i64 (colOf s k)) := by rw [HR.out.blk.cell]; rfl
      have f0 : wr.frozen? ⟨w.heap.size, 0, none⟩ = false := HR.out.res.frozen 0
      have f1 : wr.frozen? ⟨w.heap.size, 1, none⟩ = false := HR.out.res.frozen 1
      have d0 : wr.cell? ⟨w.heap.size, 0, none⟩ = some (.int .i64 0) := by rw [HR.out.res.cell]; rfl
      have d1 : wr.cell? ⟨w.heap.size, 1, none⟩ = some (.int .i64 0) := by rw [HR.out.res.cell]; rfl
      have hbel : Below w.heap.size w ((wr.setCell ⟨w.heap.size, 0, none⟩ (.int .i64 (lineOf s k))).setCell ⟨w.heap.size, 1, none⟩ (.int .i64 (colOf s k))) := (HR.out.old.setCell (by simp) _).setCell (by simp) _
      have hres : Blk ((wr.setCell ⟨w.heap.size, 0, none⟩ (.int .i64 (lineOf s k))).setCell ⟨w.heap.size, 1, none⟩ (.int .i64 (colOf s k))) w.heap.size 29 #[.int .i64 (lineOf s k), .int .i64 (colOf s k)] := (HR.out.res.put 0 _).put 1 _
      have D := Lib.hid (And.intro hres hbel); clear hres hbel
      go_wp2
      refine bodyPost_ret (v := .agg #[.int .i64 (lineOf s k), .int .i64 (colOf s k)]) ?hr ?hd ?hR
      case hd => rfl
      case hR => exact ⟨rfl, D.out.2⟩
      case hr => exact results_cell_row rfl _ _ w.heap.size 29 _ (0, 0) _ rfl D.out.1 Try.underlying29 rfl (by kernel_rfl)
end Go.Proofs.Ytfcjliiemiahkaa
