/-
  Words for memory, and small facts on worlds, for every function of this seat: my own; no Go text, no program.
-/
import Derived.WalkKit
import Derived.WalkSpells
import Derived.WalkLawsBesides
import Derived.Lib.Hide
import Derived.BigQuiet
import Derived.Deep.QuietTactic
import Derived.Laws.Tables
import Derived.Great.BuildSlice
namespace Go.Proofs.YtkaafakodeeidaaDoor
open Go.RowKit

theorem bel_drewN {B : Nat} {a w : World} (h : Below B a w) (n : Nat) : Below B a (w.drewN n) := ⟨h.os, h.tape, h.output, h.size, h.block⟩
theorem bel_trans {a w w' : World} (h : Below a.heap.size a w) (k : Below w.heap.size w w') : Below a.heap.size a w' := h.trans (k.mono h.size)
theorem bel_alloc {a w : World} (h : Below a.heap.size a w) (o : Obj) : Below a.heap.size a (w.alloc o) := h.alloc h.size o
theorem bel_refl (a : World) : Below a.heap.size a a := Below.refl _ _
theorem draws1 (w : World) (n : Nat) : ∃ m, w.drewN n = w.drewN m := ⟨n, rfl⟩
theorem draws2 (w : World) (n k : Nat) : ∃ m, (w.drewN n).drewN k = w.drewN m := ⟨n + k, World.drewN_drewN _ _ _⟩
theorem ret_bool {a b : Bool} (h : a = b) : Ending.returned (.bool a) = .returned (.bool b) := by rw [h]
theorem ret_int {k : IntKind} {a b : Int} (h : a = b) : Ending.returned (.int k a) = .returned (.int k b) := by rw [h]

/-- The letter 'A' leads to a row whose cells 0 .. n-1 are 'f 0' .. 'f (n-1)'. -/
def Rd (w : World) (A : Option Addr) (n : Nat) (f : Nat → Value) : Prop :=
  0 < n → ∃ b off, A = some ⟨b, off, none⟩ ∧ b < w.heap.size ∧ ∀ k, k < n → w.cell? ⟨b, off + k, none⟩ = some (f k)

/-- A row of integers of kind K. -/
def RdI (w : World) (A : Option Addr) (K : IntKind) (xs : List Int) : Prop :=
  Rd w A xs.length (fun k => .int K (xs.getD k 0))

/-- A row of bools. -/
def RdB (w : World) (A : Option Addr) (xs : List Bool) : Prop :=
  Rd w A xs.length (fun k => .bool (xs.getD k false))

section
variable {w w' : World} {n : Nat} {A : Option Addr} {f : Nat → Value}
theorem Rd.below (h : Rd w A n f) (hb : Below w.heap.size w w') : Rd w' A n f := fun hn => by
  obtain ⟨b, off, e, hlt, hc⟩ := h hn
  exact ⟨b, off, e, Nat.lt_of_lt_of_le hlt hb.size, fun k hk => (hb.cell (p := ⟨b, off + k, none⟩) hlt).trans (hc k hk)⟩
theorem Rd.drewN (h : Rd w A n f) (m : Nat) : Rd (w.drewN m) A n f := h
theorem Rd.alloc (h : Rd w A n f) (o : Obj) : Rd (w.alloc o) A n f := h.below ((Below.refl _ _).alloc (Nat.le_refl _) _)
theorem Rd.nil : Rd w A 0 f := fun h => absurd h (by omega)
theorem Rd.congr {g : Nat → Value} (h : Rd w A n f) (hfg : ∀ k, k < n → f k = g k) : Rd w A n g := fun hn => by
  obtain ⟨b, off, e, hlt, hc⟩ := h hn
  exact ⟨b, off, e, hlt, fun k hk => (hc k hk).trans (by rw [hfg k hk])⟩
theorem Rd.take {m : Nat} (h : Rd w A n f) (hm : m ≤ n) : Rd w A m f := fun hn => by
  obtain ⟨b, off, e, hlt, hc⟩ := h (by omega)
  exact ⟨b, off, e, hlt, fun k hk => hc k (by omega)⟩
theorem RdI.below {K : IntKind} {xs : List Int} (h : RdI w A K xs) (hb : Below w.heap.size w w') : RdI w' A K xs := Rd.below h hb
theorem RdB.below {xs : List Bool} (h : RdB w A xs) (hb : Below w.heap.size w w') : RdB w' A xs := Rd.below h hb
theorem RdI.take {K : IntKind} {xs : List Int} (h : RdI w A K xs) (m : Nat) : RdI w A K (xs.take m) := by
  refine Rd.congr (Rd.take h (m := (xs.take m).length) (List.length_take_le' ..)) fun k hk => ?_
  have : k < m := by rw [List.length_take] at hk; omega
  simp [this]
theorem RdB.take {xs : List Bool} (h : RdB w A xs) (m : Nat) : RdB w A (xs.take m) := by
  refine Rd.congr (Rd.take h (m := (xs.take m).length) (List.length_take_le' ..)) fun k hk => ?_
  have : k < m := by rw [List.length_take] at hk; omega
  simp [this]

theorem RdI.at_ {K : IntKind} {xs : List Int} (h : RdI w A K xs) {k : Nat} (hk : k < xs.length) :
    ∃ b off, A = some ⟨b, off, none⟩ ∧ b < w.heap.size ∧ w.cell? ⟨b, off + k, none⟩ = some (.int K (xs.getD k 0)) := by
  obtain ⟨b, off, e, hb, hc⟩ := h (by omega)
  exact ⟨b, off, e, hb, hc k hk⟩
theorem RdB.at_ {xs : List Bool} (h : RdB w A xs) {k : Nat} (hk : k < xs.length) :
    ∃ b off, A = some ⟨b, off, none⟩ ∧ b < w.heap.size ∧ w.cell? ⟨b, off + k, none⟩ = some (.bool (xs.getD k false)) := by
  obtain ⟨b, off, e, hb, hc⟩ := h (by omega)
  exact ⟨b, off, e, hb, hc k hk⟩

/-- A row of integers that was just laid. -/
theorem RdI.newAt (w : World) (K : IntKind) (xs : List Int) (t : TypeId) (N : Nat) (hN : w.heap.size = N) : RdI (w.alloc (.cells (xs.map (Value.int K)).toArray t)) (some ⟨N, 0, none⟩) K xs := fun _ =>
  ⟨N, 0, rfl, by subst hN; simp, fun k hk => by
    subst hN
    rw [cell_of_row _ _ _ _ t (0, 0) (heap_alloc_new w _)]
    simp [hk]⟩
end

/-- A block that is known whole. -/
def Blk (w : World) (g : Nat) (t : TypeId) (cs : Array Value) : Prop := w.heap[g]? = some (.cells cs t (0, 0))

section
variable {w w' : World} {g : Nat} {t : TypeId} {cs : Array Value}
theorem Blk.lt (h : Blk w g t cs) : g < w.heap.size := (Array.getElem?_eq_some_iff.1 h).1
theorem Blk.cell (h : Blk w g t cs) (i : Nat) : w.cell? ⟨g, i, none⟩ = cs[i]? := cell_of_row w g i cs t (0, 0) h
theorem Blk.frozen (h : Blk w g t cs) (i : Nat) : w.frozen? ⟨g, i, none⟩ = false := by
  unfold Blk at h
  simp [World.frozen?, h]
theorem Blk.new (w : World) (t : TypeId) (cs : Array Value) : Blk (w.alloc (.cells cs t)) w.heap.size t cs := heap_alloc_new w _
theorem Blk.drew (h : Blk w g t cs) : Blk w.drew g t cs := h
theorem Blk.alloc (h : Blk w g t cs) (o : Obj) : Blk (w.alloc o) g t cs := (Below.heap_alloc w o g h.lt).trans h
theorem Blk.put (h : Blk w g t cs) (i : Nat) (u : Value) : Blk (w.setCell ⟨g, i, none⟩ u) g t (cs.setIfInBounds i u) := by
  unfold Blk at h ⊢
  simp [World.setCell, Array.getElem?_modify, h]
theorem Blk.far (h : Blk w g t cs) {p : Addr} (hp : g ≠ p.block) (u : Value) : Blk (w.setCell p u) g t cs := (Below.heap_setCell w p u g hp).trans h
theorem Blk.below {B : Nat} (h : Blk w g t cs) (hb : Below B w w') (hg : g < B) : Blk w' g t cs := (hb.block g hg).trans h
theorem Blk.grown {row : Option Nat} (h : Blk w g t cs) (hb : w.grownBy w' row) (hg : some g ≠ row) : Blk w' g t cs := (hb.block g h.lt hg).trans h
end

/-- A list as the cells of a row. -/
def arr {α : Type} (f : α → Value) (u : List α) : Array Value := (u.map f).toArray
theorem arr_size {α : Type} (f : α → Value) (u : List α) : (arr f u).size = u.length := by simp [arr]
theorem arr_get {α : Type} (f : α → Value) (u : List α) (d : α) (k : Nat) (h : k < u.length) : (arr f u)[k]? = some (f (u.getD k d)) := by simp [arr, h]
theorem arr_put {α : Type} (f : α → Value) (u : List α) (k : Nat) (x : α) : (arr f u).setIfInBounds k (f x) = arr f (u.set k x) := by
  apply Array.ext_getElem?
  intro i
  simp [arr, List.getElem?_set]
section
variable {w : World} {g : Nat} {t : TypeId} {α : Type} {f : α → Value} {u : List α}
theorem Blk.at_ (h : Blk w g t (arr f u)) (d : α) {k : Nat} (hk : k < u.length) : w.cell? ⟨g, k, none⟩ = some (f (u.getD k d)) := by rw [h.cell, arr_get f u d k hk]
theorem Blk.set_ (h : Blk w g t (arr f u)) (k : Nat) (x : α) : Blk (w.setCell ⟨g, k, none⟩ (f x)) g t (arr f (u.set k x)) := by
  rw [← arr_put]; exact h.put k (f x)
theorem Blk.rd (h : Blk w g t (arr f u)) (d : α) (n : Nat) (hn : n ≤ u.length) : Rd w (some ⟨g, 0, none⟩) n (fun k => f (u.getD k d)) := fun _ =>
  ⟨g, 0, rfl, h.lt, fun k hk => by rw [Nat.zero_add]; exact h.at_ d (by omega)⟩
end
theorem Blk.rdI {w : World} {g : Nat} {t : TypeId} {K : IntKind} {u : List Int} (h : Blk w g t (arr (Value.int K) u)) : RdI w (some ⟨g, 0, none⟩) K u := h.rd 0 _ (Nat.le_refl _)
theorem Blk.rdB {w : World} {g : Nat} {t : TypeId} {u : List Bool} (h : Blk w g t (arr Value.bool u)) : RdB w (some ⟨g, 0, none⟩) u := h.rd false _ (Nat.le_refl _)

/-- 'make([]T, n)' where T has one cell. -/
theorem run_mk {P : Program} {α : Type} (f : α → Value) (x : α) (t e : TypeId) (bytes : Nat) (ht : P.underlying t = some (.slice e)) (hi : (P.info? e).map (fun i => (i.zero, i.size, i.bytes)) = some (some (f x), 1, bytes))
    (h1 : (f x).cells = #[f x]) (n : Nat) (hb : bytes * n ≤ 281474976710656) (hn : n ≤ 9223372036854775807) (W : World) :
    (Instr.makeSlice t (.int .i64 (n : Int)) (.int .i64 (n : Int))).run P W = .ok (.slice (some ⟨W.heap.size, 0, none⟩) n n) (W.alloc (.cells (arr f (List.replicate n x)) e)) := by
  obtain ⟨i, hi', hz, hs, hby⟩ := info_parts hi
  have hb' : (i.bytes : Int) * (n : Int) ≤ 281474976710656 := by
    rw [hby]
    have h : ((bytes * n : Nat) : Int) ≤ 281474976710656 := by omega
    rwa [Int.natCast_mul] at h
  have hr := run_make (P := P) W t e i (f x) ht hi' hz .i64 .i64 n n (by omega) (Int.le_refl _) hb' (by omega)
  simp only [Int.toNat_natCast, hs, Nat.mul_one] at hr
  rw [hr]
  congr 3
  rw [h1]
  apply Array.ext_getElem?
  intro j
  by_cases hj : j < n <;> simp [madeCells, arr, hj, Nat.mod_one]

/-- A row written whole, from B on. -/
theorem below_setRow {B : Nat} {a w : World} (h : Below B a w) {g : Nat} (hg : B ≤ g) (cs : Array Value) : Below B a (w.setRow g cs) :=
  h.trans ⟨rfl, rfl, rfl, by simp, fun k hk => setRow_other w g k cs (by omega)⟩

/-- A row of the call's own is a row that reads. -/
theorem Rd.of_own {w : World} {base : Nat} {e : TypeId} {A : Option Addr} {n c size : Nat} {xs : List Value} (h : w.ownsRow base e size (.slice A n c) n xs) :
    Rd w A (n * size) (fun k => xs.getD k undef) := by
  intro hn
  rcases h.2 with ⟨_, h0⟩ | ⟨g, cap, cur, hv, hb, hh, _⟩
  · subst h0; simp at hn
  · injection hv with hA
    subst hA
    refine ⟨g, 0, rfl, (Array.getElem?_eq_some_iff.1 hh).1, fun k hk => ?_⟩
    have hx : xs[k]? = some (xs.getD k undef) := by
      rw [List.getD_eq_getElem?_getD, List.getElem?_eq_getElem (by rw [h.1]; exact hk)]; rfl
    have := h.cells (g := g) rfl k _ hx
    rw [Addr.add] at this
    split at this
    · rename_i h0; subst h0; simpa using this
    · simpa using this

end Go.Proofs.YtkaafakodeeidaaDoor
