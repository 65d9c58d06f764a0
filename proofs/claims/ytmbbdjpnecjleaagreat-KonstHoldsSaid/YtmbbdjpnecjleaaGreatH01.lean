/-
 Parts: Lib K0 KMap.
-/
import Derived.WalkKit
import Derived.WalkSpells
import Derived.WalkLawsBesides
import Derived.Lib.Hide
import Derived.BigQuiet
import Derived.Deep.QuietTactic
import Derived.Laws.Tables
import Derived.Great.BuildSlice
import Derived.Test.YtmbbdjpnecjleaaGreatRows
import Derived.Maps.Own
namespace Go.Proofs.YtmbbdjpnecjleaaGreat
section
set_option maxRecDepth 100000
set_option maxHeartbeats 1000000
open Go.RowKit

theorem bel_drewN {B : Nat} {a w : World} (h : Below B a w) (n : Nat) : Below B a (w.drewN n) := ⟨h.os, h.tape, h.output, h.size, h.block⟩
theorem bel_trans {a w w' : World} (h : Below a.heap.size a w) (k : Below w.heap.size w w') : Below a.heap.size a w' := h.trans (k.mono h.size)
theorem bel_alloc {a w : World} (h : Below a.heap.size a w) (o : Obj) : Below a.heap.size a (w.alloc o) := h.alloc h.size o
theorem bel_refl (a : World) : Below a.heap.size a a := Below.refl _ _
theorem ret_bool {a b : Bool} (h : a = b) : Ending.returned (.bool a) = .returned (.bool b) := by rw [h]
theorem ret_int {k : IntKind} {a b : Int} (h : a = b) : Ending.returned (.int k a) = .returned (.int k b) := by rw [h]

def Rd (w : World) (A : Option Addr) (n : Nat) (f : Nat → Value) : Prop :=
 0 < n → ∃ b off, A = some ⟨b, off, none⟩ ∧ b < w.heap.size ∧ ∀ k, k < n → w.cell? ⟨b, off + k, none⟩ = some (f k)

def RdI (w : World) (A : Option Addr) (K : IntKind) (xs : List Int) : Prop :=
 Rd w A xs.length (fun k => .int K (xs.getD k 0))

def RdB (w : World) (A : Option Addr) (xs : List Bool) : Prop :=
 Rd w A xs.length (fun k => .bool (xs.getD k false))

section
variable {w w' : World} {n : Nat} {A : Option Addr} {f : Nat → Value}
theorem Rd.below (h : Rd w A n f) (hb : Below w.heap.size w w') : Rd w' A n f := fun hn => by
 obtain ⟨b, off, e, hlt, hc⟩ := h hn
 exact ⟨b, off, e, Nat.lt_of_lt_of_le hlt hb.size, fun k hk => (hb.cell (p := ⟨b, off + k, none⟩) hlt).trans (hc k hk)⟩
theorem Rd.drewN (h : Rd w A n f) (m : Nat) : Rd (w.drewN m) A n f := h
theorem Rd.alloc (h : Rd w A n f) (o : Obj) : Rd (w.alloc o) A n f := h.below ((Below.refl _ _).alloc (Nat.le_refl _) _)
theorem Rd.nil : Rd w A 0 f := fun h => absurd h (by omega)
theorem Rd.congr {g : Nat → Value} (h : Rd w A n f) (hfg : ∀ k, k < n → f k = g k) : Rd w A n g := fun hn => by
 obtain ⟨b, off, e, hlt, hc⟩ := h hn
 exact ⟨b, off, e, hlt, fun k hk => (hc k hk).trans (by rw [hfg k hk])⟩
theorem Rd.take {m : Nat} (h : Rd w A n f) (hm : m ≤ n) : Rd w A m f := fun hn => by
 obtain ⟨b, off, e, hlt, hc⟩ := h (by omega)
 exact ⟨b, off, e, hlt, fun k hk => hc k (by omega)⟩
theorem RdI.below {K : IntKind} {xs : List Int} (h : RdI w A K xs) (hb : Below w.heap.size w w') : RdI w' A K xs := Rd.below h hb
theorem RdB.below {xs : List Bool} (h : RdB w A xs) (hb : Below w.heap.size w w') : RdB w' A xs := Rd.below h hb
theorem RdI.take {K : IntKind} {xs : List Int} (h : RdI w A K xs) (m : Nat) : RdI w A K (xs.take m) := by
 refine Rd.congr (Rd.take h (m := (xs.take m).length) (List.length_take_le' ..)) fun k hk => ?_
 have : k < m := by rw [List.length_take] at hk; omega
 simp [this]
theorem RdB.take {xs : List Bool} (h : RdB w A xs) (m : Nat) : RdB w A (xs.take m) := by
 refine Rd.congr (Rd.take h (m := (xs.take m).length) (List.length_take_le' ..)) fun k hk => ?_
 have : k < m := by rw [List.length_take] at hk; omega
 simp [this]

theorem RdI.at_ {K : IntKind} {xs : List Int} (h : RdI w A K xs) {k : Nat} (hk : k < xs.length) :
 ∃ b off, A = some ⟨b, off, none⟩ ∧ b < w.heap.size ∧ w.cell? ⟨b, off + k, none⟩ = some (.int K (xs.getD k 0)) := by
 obtain ⟨b, off, e, hb, hc⟩ := h (by omega)
 exact ⟨b, off, e, hb, hc k hk⟩
theorem RdB.at_ {xs : List Bool} (h : RdB w A xs) {k : Nat} (hk : k < xs.length) :
 ∃ b off, A = some ⟨b, off, none⟩ ∧ b < w.heap.size ∧ w.cell? ⟨b, off + k, none⟩ = some (.bool (xs.getD k false)) := by
 obtain ⟨b, off, e, hb, hc⟩ := h (by omega)
 exact ⟨b, off, e, hb, hc k hk⟩

theorem RdI.newAt (w : World) (K : IntKind) (xs : List Int) (t : TypeId) (N : Nat) (hN : w.heap.size = N) : RdI (w.alloc (.cells (xs.map (Value.int K)).toArray t)) (some ⟨N, 0, none⟩) K xs := fun _ =>
 ⟨N, 0, rfl, by subst hN; simp, fun k hk => by
  subst hN
  rw [cell_of_row _ _ _ _ t (0, 0) (heap_alloc_new w _)]
  simp [hk]⟩
end

def Blk (w : World) (g : Nat) (t : TypeId) (cs : Array Value) : Prop := w.heap[g]? = some (.cells cs t (0, 0))

section
variable {w w' : World} {g : Nat} {t : TypeId} {cs : Array Value}
theorem Blk.lt (h : Blk w g t cs) : g < w.heap.size := (Array.getElem?_eq_some_iff.1 h).1
theorem Blk.cell (h : Blk w g t cs) (i : Nat) : w.cell? ⟨g, i, none⟩ = cs[i]? := cell_of_row w g i cs t (0, 0) h
theorem Blk.frozen (h : Blk w g t cs) (i : Nat) : w.frozen? ⟨g, i, none⟩ = false := by
 unfold Blk at h
 simp [World.frozen?, h]
theorem Blk.new (w : World) (t : TypeId) (cs : Array Value) : Blk (w.alloc (.cells cs t)) w.heap.size t cs := heap_alloc_new w _
theorem Blk.drew (h : Blk w g t cs) : Blk w.drew g t cs := h
theorem Blk.alloc (h : Blk w g t cs) (o : Obj) : Blk (w.alloc o) g t cs := (Below.heap_alloc w o g h.lt).trans h
theorem Blk.put (h : Blk w g t cs) (i : Nat) (u : Value) : Blk (w.setCell ⟨g, i, none⟩ u) g t (cs.setIfInBounds i u) := by
 unfold Blk at h ⊢
 simp [World.setCell, Array.getElem?_modify, h]
theorem Blk.far (h : Blk w g t cs) {p : Addr} (hp : g ≠ p.block) (u : Value) : Blk (w.setCell p u) g t cs := (Below.heap_setCell w p u g hp).trans h
theorem Blk.below {B : Nat} (h : Blk w g t cs) (hb : Below B w w') (hg : g < B) : Blk w' g t cs := (hb.block g hg).trans h
theorem Blk.grown {row : Option Nat} (h : Blk w g t cs) (hb : w.grownBy w' row) (hg : some g ≠ row) : Blk w' g t cs := (hb.block g h.lt hg).trans h
end

def arr {α : Type} (f : α → Value) (u : List α) : Array Value := (u.map f).toArray
theorem arr_get {α : Type} (f : α → Value) (u : List α) (d : α) (k : Nat) (h : k < u.length) : (arr f u)[k]? = some (f (u.getD k d)) := by simp [arr, h]
theorem arr_put {α : Type} (f : α → Value) (u : List α) (k : Nat) (x : α) : (arr f u).setIfInBounds k (f x) = arr f (u.set k x) := by
 apply Array.ext_getElem?
 intro i
 simp [arr, List.getElem?_set]
section
variable {w : World} {g : Nat} {t : TypeId} {α : Type} {f : α → Value} {u : List α}
theorem Blk.at_ (h : Blk w g t (arr f u)) (d : α) {k : Nat} (hk : k < u.length) : w.cell? ⟨g, k, none⟩ = some (f (u.getD k d)) := by rw [h.cell, arr_get f u d k hk]
theorem Blk.set_ (h : Blk w g t (arr f u)) (k : Nat) (x : α) : Blk (w.setCell ⟨g, k, none⟩ (f x)) g t (arr f (u.set k x)) := by
 rw [← arr_put]; exact h.put k (f x)
theorem Blk.rd (h : Blk w g t (arr f u)) (d : α) (n : Nat) (hn : n ≤ u.length) : Rd w (some ⟨g, 0, none⟩) n (fun k => f (u.getD k d)) := fun _ =>
 ⟨g, 0, rfl, h.lt, fun k hk => by rw [Nat.zero_add]; exact h.at_ d (by omega)⟩
end
theorem run_mk {P : Program} {α : Type} (f : α → Value) (x : α) (t e : TypeId) (bytes : Nat) (ht : P.underlying t = some (.slice e)) (hi : (P.info? e).map (fun i => (i.zero, i.size, i.bytes)) = some (some (f x), 1, bytes))
 (h1 : (f x).cells = #[f x]) (n : Nat) (hb : bytes * n ≤ 281474976710656) (hn : n ≤ 9223372036854775807) (W : World) :
 (Instr.makeSlice t (.int .i64 (n : Int)) (.int .i64 (n : Int))).run P W = .ok (.slice (some ⟨W.heap.size, 0, none⟩) n n) (W.alloc (.cells (arr f (List.replicate n x)) e)) := by
 obtain ⟨i, hi', hz, hs, hby⟩ := info_parts hi
 have hb' : (i.bytes : Int) * (n : Int) ≤ 281474976710656 := by
  rw [hby]
  have h : ((bytes * n : Nat) : Int) ≤ 281474976710656 := by omega
  rwa [Int.natCast_mul] at h
 have hr := run_make (P := P) W t e i (f x) ht hi' hz .i64 .i64 n n (by omega) (Int.le_refl _) hb' (by omega)
 simp only [Int.toNat_natCast, hs, Nat.mul_one] at hr
 rw [hr]
 congr 3
 rw [h1]
 apply Array.ext_getElem?
 intro j
 by_cases hj : j < n <;> simp [madeCells, arr, hj, Nat.mod_one]

theorem Rd.of_own {w : World} {base : Nat} {e : TypeId} {A : Option Addr} {n c size : Nat} {xs : List Value} (h : w.ownsRow base e size (.slice A n c) n xs) :
 Rd w A (n * size) (fun k => xs.getD k undef) := by
 intro hn
 rcases h.2 with ⟨_, h0⟩ | ⟨g, cap, cur, hv, hb, hh, _⟩
 · subst h0; simp at hn
 · injection hv with hA
   subst hA
   refine ⟨g, 0, rfl, (Array.getElem?_eq_some_iff.1 hh).1, fun k hk => ?_⟩
   have hx : xs[k]? = some (xs.getD k undef) := by
    rw [List.getD_eq_getElem?_getD, List.getElem?_eq_getElem (by rw [h.1]; exact hk)]; rfl
   have := h.cells (g := g) rfl k _ hx
   rw [Addr.add] at this
   split at this
   · rename_i h0; subst h0; simpa using this
   · simpa using this

theorem hmB {w w' : World} {g : Nat} {t : TypeId} {cs : Array Value} (h : Hid (Blk w g t cs)) (hb : Below w.heap.size w w') : Hid (Blk w' g t cs) := Lib.hid (h.out.below hb h.out.lt)
theorem hmW {a w w' : World} (h : Hid (Below a.heap.size a w)) (hb : Below w.heap.size w w') : Hid (Below a.heap.size a w') := Lib.hid (bel_trans h.out hb)
theorem Blk.fz {w : World} {g : Nat} {t : TypeId} {cs : Array Value} (h : Blk w g t cs) (i : Nat) : w.frozen? ⟨g, i, none⟩ = false := h.frozen i
theorem Blk.c0 {w : World} {n : Nat} {t : TypeId} {a : Value} {r : List Value} (h : Blk w n t (List.toArray (a :: r))) : w.cell? ⟨n, 0, none⟩ = some a := h.cell 0
theorem Blk.c1 {w : World} {n : Nat} {t : TypeId} {a b : Value} {r : List Value} (h : Blk w n t (List.toArray (a :: b :: r))) : w.cell? ⟨n, 1, none⟩ = some b := h.cell 1
theorem Blk.c2 {w : World} {n : Nat} {t : TypeId} {a b c : Value} {r : List Value} (h : Blk w n t (List.toArray (a :: b :: c :: r))) : w.cell? ⟨n, 2, none⟩ = some c := h.cell 2
theorem Blk.c3 {w : World} {n : Nat} {t : TypeId} {a b c d : Value} {r : List Value} (h : Blk w n t (List.toArray (a :: b :: c :: d :: r))) : w.cell? ⟨n, 3, none⟩ = some d := h.cell 3
theorem Blk.c4 {w : World} {n : Nat} {t : TypeId} {a b c d e : Value} {r : List Value} (h : Blk w n t (List.toArray (a :: b :: c :: d :: e :: r))) : w.cell? ⟨n, 4, none⟩ = some e := h.cell 4
theorem Blk.c5 {w : World} {n : Nat} {t : TypeId} {a b c d e f : Value} {r : List Value} (h : Blk w n t (List.toArray (a :: b :: c :: d :: e :: f :: r))) : w.cell? ⟨n, 5, none⟩ = some f := h.cell 5
theorem Blk.c6 {w : World} {n : Nat} {t : TypeId} {a b c d e f o : Value} {r : List Value} (h : Blk w n t (List.toArray (a :: b :: c :: d :: e :: f :: o :: r))) : w.cell? ⟨n, 6, none⟩ = some o := h.cell 6
theorem Blk.c7 {w : World} {n : Nat} {t : TypeId} {a b c d e f o p : Value} {r : List Value} (h : Blk w n t (List.toArray (a :: b :: c :: d :: e :: f :: o :: p :: r))) : w.cell? ⟨n, 7, none⟩ = some p := h.cell 7
theorem sal1 {w wa : World} {t0 : TypeId} {c0 : Array Value} (h : wa = w.alloc (.cells c0 t0)) : Below w.heap.size w wa ∧ Hid (Blk wa (w.heap.size) t0 c0) := by
 subst h
 exact ⟨bel_alloc (bel_refl w) _, Lib.hid (Blk.new (w) t0 c0)⟩
theorem sal2 {w wa : World} {t0 : TypeId} {c0 : Array Value} {t1 : TypeId} {c1 : Array Value} (h : wa = (w.alloc (.cells c0 t0)).alloc (.cells c1 t1)) : Below w.heap.size w wa ∧ Hid (Blk wa (w.heap.size) t0 c0) ∧ Hid (Blk wa (w.heap.size + 1) t1 c1) := by
 subst h
 exact ⟨bel_alloc (bel_alloc (bel_refl w) _) _, Lib.hid ((Blk.new (w) t0 c0).alloc _), Lib.hid (show Blk _ (w.heap.size + 1) t1 c1 from by have hz := Blk.new (w.alloc (.cells c0 t0)) t1 c1; rw [World.size_alloc] at hz; exact hz)⟩
theorem sal3 {w wa : World} {t0 : TypeId} {c0 : Array Value} {t1 : TypeId} {c1 : Array Value} {t2 : TypeId} {c2 : Array Value} (h : wa = ((w.alloc (.cells c0 t0)).alloc (.cells c1 t1)).alloc (.cells c2 t2)) : Below w.heap.size w wa ∧ Hid (Blk wa (w.heap.size) t0 c0) ∧ Hid (Blk wa (w.heap.size + 1) t1 c1) ∧ Hid (Blk wa (w.heap.size + 2) t2 c2) := by
 subst h
 exact ⟨bel_alloc (bel_alloc (bel_alloc (bel_refl w) _) _) _, Lib.hid (((Blk.new (w) t0 c0).alloc _).alloc _), Lib.hid ((show Blk _ (w.heap.size + 1) t1 c1 from by have hz := Blk.new (w.alloc (.cells c0 t0)) t1 c1; rw [World.size_alloc] at hz; exact hz).alloc _), Lib.hid (show Blk _ (w.heap.size + 2) t2 c2 from by have hz := Blk.new ((w.alloc (.cells c0 t0)).alloc (.cells c1 t1)) t2 c2; rw [World.size_alloc, World.size_alloc] at hz; exact hz)⟩
theorem sal4 {w wa : World} {t0 : TypeId} {c0 : Array Value} {t1 : TypeId} {c1 : Array Value} {t2 : TypeId} {c2 : Array Value} {t3 : TypeId} {c3 : Array Value} (h : wa = (((w.alloc (.cells c0 t0)).alloc (.cells c1 t1)).alloc (.cells c2 t2)).alloc (.cells c3 t3)) : Below w.heap.size w wa ∧ Hid (Blk wa (w.heap.size) t0 c0) ∧ Hid (Blk wa (w.heap.size + 1) t1 c1) ∧ Hid (Blk wa (w.heap.size + 2) t2 c2) ∧ Hid (Blk wa (w.heap.size + 3) t3 c3) := by
 subst h
 exact ⟨bel_alloc (bel_alloc (bel_alloc (bel_alloc (bel_refl w) _) _) _) _, Lib.hid ((((Blk.new (w) t0 c0).alloc _).alloc _).alloc _), Lib.hid (((show Blk _ (w.heap.size + 1) t1 c1 from by have hz := Blk.new (w.alloc (.cells c0 t0)) t1 c1; rw [World.size_alloc] at hz; exact hz).alloc _).alloc _), Lib.hid ((show Blk _ (w.heap.size + 2) t2 c2 from by have hz := Blk.new ((w.alloc (.cells c0 t0)).alloc (.cells c1 t1)) t2 c2; rw [World.size_alloc, World.size_alloc] at hz; exact hz).alloc _), Lib.hid (show Blk _ (w.heap.size + 3) t3 c3 from by have hz := Blk.new (((w.alloc (.cells c0 t0)).alloc (.cells c1 t1)).alloc (.cells c2 t2)) t3 c3; rw [World.size_alloc, World.size_alloc, World.size_alloc] at hz; exact hz)⟩
theorem sal5 {w wa : World} {t0 : TypeId} {c0 : Array Value} {t1 : TypeId} {c1 : Array Value} {t2 : TypeId} {c2 : Array Value} {t3 : TypeId} {c3 : Array Value} {t4 : TypeId} {c4 : Array Value} (h : wa = ((((w.alloc (.cells c0 t0)).alloc (.cells c1 t1)).alloc (.cells c2 t2)).alloc (.cells c3 t3)).alloc (.cells c4 t4)) : Below w.heap.size w wa ∧ Hid (Blk wa (w.heap.size) t0 c0) ∧ Hid (Blk wa (w.heap.size + 1) t1 c1) ∧ Hid (Blk wa (w.heap.size + 2) t2 c2) ∧ Hid (Blk wa (w.heap.size + 3) t3 c3) ∧ Hid (Blk wa (w.heap.size + 4) t4 c4) := by
 subst h
 exact ⟨bel_alloc (bel_alloc (bel_alloc (bel_alloc (bel_alloc (bel_refl w) _) _) _) _) _, Lib.hid (((((Blk.new (w) t0 c0).alloc _).alloc _).alloc _).alloc _), Lib.hid ((((show Blk _ (w.heap.size + 1) t1 c1 from by have hz := Blk.new (w.alloc (.cells c0 t0)) t1 c1; rw [World.size_alloc] at hz; exact hz).alloc _).alloc _).alloc _), Lib.hid (((show Blk _ (w.heap.size + 2) t2 c2 from by have hz := Blk.new ((w.alloc (.cells c0 t0)).alloc (.cells c1 t1)) t2 c2; rw [World.size_alloc, World.size_alloc] at hz; exact hz).alloc _).alloc _), Lib.hid ((show Blk _ (w.heap.size + 3) t3 c3 from by have hz := Blk.new (((w.alloc (.cells c0 t0)).alloc (.cells c1 t1)).alloc (.cells c2 t2)) t3 c3; rw [World.size_alloc, World.size_alloc, World.size_alloc] at hz; exact hz).alloc _), Lib.hid (show Blk _ (w.heap.size + 4) t4 c4 from by have hz := Blk.new ((((w.alloc (.cells c0 t0)).alloc (.cells c1 t1)).alloc (.cells c2 t2)).alloc (.cells c3 t3)) t4 c4; rw [World.size_alloc, World.size_alloc, World.size_alloc, World.size_alloc] at hz; exact hz)⟩
theorem sal6 {w wa : World} {t0 : TypeId} {c0 : Array Value} {t1 : TypeId} {c1 : Array Value} {t2 : TypeId} {c2 : Array Value} {t3 : TypeId} {c3 : Array Value} {t4 : TypeId} {c4 : Array Value} {t5 : TypeId} {c5 : Array Value} (h : wa = (((((w.alloc (.cells c0 t0)).alloc (.cells c1 t1)).alloc (.cells c2 t2)).alloc (.cells c3 t3)).alloc (.cells c4 t4)).alloc (.cells c5 t5)) : Below w.heap.size w wa ∧ Hid (Blk wa (w.heap.size) t0 c0) ∧ Hid (Blk wa (w.heap.size + 1) t1 c1) ∧ Hid (Blk wa (w.heap.size + 2) t2 c2) ∧ Hid (Blk wa (w.heap.size + 3) t3 c3) ∧ Hid (Blk wa (w.heap.size + 4) t4 c4) ∧ Hid (Blk wa (w.heap.size + 5) t5 c5) := by
 subst h
 exact ⟨bel_alloc (bel_alloc (bel_alloc (bel_alloc (bel_alloc (bel_alloc (bel_refl w) _) _) _) _) _) _, Lib.hid ((((((Blk.new (w) t0 c0).alloc _).alloc _).alloc _).alloc _).alloc _), Lib.hid (((((show Blk _ (w.heap.size + 1) t1 c1 from by have hz := Blk.new (w.alloc (.cells c0 t0)) t1 c1; rw [World.size_alloc] at hz; exact hz).alloc _).alloc _).alloc _).alloc _), Lib.hid ((((show Blk _ (w.heap.size + 2) t2 c2 from by have hz := Blk.new ((w.alloc (.cells c0 t0)).alloc (.cells c1 t1)) t2 c2; rw [World.size_alloc, World.size_alloc] at hz; exact hz).alloc _).alloc _).alloc _), Lib.hid (((show Blk _ (w.heap.size + 3) t3 c3 from by have hz := Blk.new (((w.alloc (.cells c0 t0)).alloc (.cells c1 t1)).alloc (.cells c2 t2)) t3 c3; rw [World.size_alloc, World.size_alloc, World.size_alloc] at hz; exact hz).alloc _).alloc _), Lib.hid ((show Blk _ (w.heap.size + 4) t4 c4 from by have hz := Blk.new ((((w.alloc (.cells c0 t0)).alloc (.cells c1 t1)).alloc (.cells c2 t2)).alloc (.cells c3 t3)) t4 c4; rw [World.size_alloc, World.size_alloc, World.size_alloc, World.size_alloc] at hz; exact hz).alloc _), Lib.hid (show Blk _ (w.heap.size + 5) t5 c5 from by have hz := Blk.new (((((w.alloc (.cells c0 t0)).alloc (.cells c1 t1)).alloc (.cells c2 t2)).alloc (.cells c3 t3)).alloc (.cells c4 t4)) t5 c5; rw [World.size_alloc, World.size_alloc, World.size_alloc, World.size_alloc, World.size_alloc] at hz; exact hz)⟩
theorem sal7 {w wa : World} {t0 : TypeId} {c0 : Array Value} {t1 : TypeId} {c1 : Array Value} {t2 : TypeId} {c2 : Array Value} {t3 : TypeId} {c3 : Array Value} {t4 : TypeId} {c4 : Array Value} {t5 : TypeId} {c5 : Array Value} {t6 : TypeId} {c6 : Array Value} (h : wa = ((((((w.alloc (.cells c0 t0)).alloc (.cells c1 t1)).alloc (.cells c2 t2)).alloc (.cells c3 t3)).alloc (.cells c4 t4)).alloc (.cells c5 t5)).alloc (.cells c6 t6)) : Below w.heap.size w wa ∧ Hid (Blk wa (w.heap.size) t0 c0) ∧ Hid (Blk wa (w.heap.size + 1) t1 c1) ∧ Hid (Blk wa (w.heap.size + 2) t2 c2) ∧ Hid (Blk wa (w.heap.size + 3) t3 c3) ∧ Hid (Blk wa (w.heap.size + 4) t4 c4) ∧ Hid (Blk wa (w.heap.size + 5) t5 c5) ∧ Hid (Blk wa (w.heap.size + 6) t6 c6) := by
 subst h
 exact ⟨bel_alloc (bel_alloc (bel_alloc (bel_alloc (bel_alloc (bel_alloc (bel_alloc (bel_refl w) _) _) _) _) _) _) _, Lib.hid (((((((Blk.new (w) t0 c0).alloc _).alloc _).alloc _).alloc _).alloc _).alloc _), Lib.hid ((((((show Blk _ (w.heap.size + 1) t1 c1 from by have hz := Blk.new (w.alloc (.cells c0 t0)) t1 c1; rw [World.size_alloc] at hz; exact hz).alloc _).alloc _).alloc _).alloc _).alloc _), Lib.hid (((((show Blk _ (w.heap.size + 2) t2 c2 from by have hz := Blk.new ((w.alloc (.cells c0 t0)).alloc (.cells c1 t1)) t2 c2; rw [World.size_alloc, World.size_alloc] at hz; exact hz).alloc _).alloc _).alloc _).alloc _), Lib.hid ((((show Blk _ (w.heap.size + 3) t3 c3 from by have hz := Blk.new (((w.alloc (.cells c0 t0)).alloc (.cells c1 t1)).alloc (.cells c2 t2)) t3 c3; rw [World.size_alloc, World.size_alloc, World.size_alloc] at hz; exact hz).alloc _).alloc _).alloc _), Lib.hid (((show Blk _ (w.heap.size + 4) t4 c4 from by have hz := Blk.new ((((w.alloc (.cells c0 t0)).alloc (.cells c1 t1)).alloc (.cells c2 t2)).alloc (.cells c3 t3)) t4 c4; rw [World.size_alloc, World.size_alloc, World.size_alloc, World.size_alloc] at hz; exact hz).alloc _).alloc _), Lib.hid ((show Blk _ (w.heap.size + 5) t5 c5 from by have hz := Blk.new (((((w.alloc (.cells c0 t0)).alloc (.cells c1 t1)).alloc (.cells c2 t2)).alloc (.cells c3 t3)).alloc (.cells c4 t4)) t5 c5; rw [World.size_alloc, World.size_alloc, World.size_alloc, World.size_alloc, World.size_alloc] at hz; exact hz).alloc _), Lib.hid (show Blk _ (w.heap.size + 6) t6 c6 from by have hz := Blk.new ((((((w.alloc (.cells c0 t0)).alloc (.cells c1 t1)).alloc (.cells c2 t2)).alloc (.cells c3 t3)).alloc (.cells c4 t4)).alloc (.cells c5 t5)) t6 c6; rw [World.size_alloc, World.size_alloc, World.size_alloc, World.size_alloc, World.size_alloc, World.size_alloc] at hz; exact hz)⟩
end
end Go.Proofs.YtmbbdjpnecjleaaGreat
namespace Go.Proofs.YtmbbdjpnecjleaaGreat
section
set_option maxRecDepth 100000
set_option maxHeartbeats 1000000
open Go.RowKit

def RetB0 (b : Bool) (w : World) (e : Ending) (w' : World) : Prop := e = .returned (.bool b) ∧ w' = w
def RetI0 (n : Int) (w : World) (e : Ending) (w' : World) : Prop := e = .returned (.int .i64 n) ∧ w' = w
theorem ret_b0 {a b : Bool} (h : a = b) : Ending.returned (.bool a) = .returned (.bool b) := by rw [h]
def truthB (t : Int) : Bool := decide (t = 0) || decide (t = 14)
def wordsB (t : Int) : Bool := decide (t = 1) || decide (t = 15)
def wholeB (t : Int) : Bool := (decide (2 ≤ t) && decide (t ≤ 11)) || decide (t = 16) || decide (t = 17)
def unsB (t : Int) : Bool := decide (7 ≤ t) && decide (t ≤ 11)
def basB (t : Int) : Bool := decide (0 ≤ t) && decide (t ≤ 18)
def numB (t : Int) : Bool := basB t && !truthB t && !wordsB t
def kindI (t : Int) : Int := if truthB t then 1 else if wordsB t then 2 else 3
theorem kTruth_is {v : Bool} (t : Int) (w : World) (hv : truthB t = v) : Calls Tryz.prog 45 #[.int .i64 t] w (RetB0 v w) := by
 subst hv
 go_enter Tryz.func45, Tryz.ntmps45
 go_wp2
 all_goals
  go_ret
  refine ⟨ret_b0 ?_, rfl⟩
  rw [Bool.eq_iff_iff]
  simp [truthB]
  try omega
theorem kText_is {v : Bool} (t : Int) (w : World) (hv : wordsB t = v) : Calls Tryz.prog 25 #[.int .i64 t] w (RetB0 v w) := by
 subst hv
 go_enter Tryz.func25, Tryz.ntmps25
 go_wp2
 all_goals
  go_ret
  refine ⟨ret_b0 ?_, rfl⟩
  rw [Bool.eq_iff_iff]
  simp [wordsB]
  try omega
theorem kWhole_is {v : Bool} (t : Int) (w : World) (hv : wholeB t = v) : Calls Tryz.prog 28 #[.int .i64 t] w (RetB0 v w) := by
 subst hv
 go_enter Tryz.func28, Tryz.ntmps28
 go_wp2
 all_goals
  go_ret
  refine ⟨ret_b0 ?_, rfl⟩
  rw [Bool.eq_iff_iff]
  simp [wholeB]
  try omega
theorem kUns_is {v : Bool} (t : Int) (w : World) (hv : unsB t = v) : Calls Tryz.prog 83 #[.int .i64 t] w (RetB0 v w) := by
 subst hv
 go_enter Tryz.func83, Tryz.ntmps83
 go_wp2
 all_goals
  go_ret
  refine ⟨ret_b0 ?_, rfl⟩
  rw [Bool.eq_iff_iff]
  simp [unsB]
  try omega
theorem kBas_is {v : Bool} (t : Int) (w : World) (hv : basB t = v) : Calls Tryz.prog 22 #[.int .i64 t] w (RetB0 v w) := by
 subst hv
 go_enter Tryz.func22, Tryz.ntmps22
 go_wp2
 all_goals
  go_ret
  refine ⟨ret_b0 ?_, rfl⟩
  rw [Bool.eq_iff_iff]
  simp [basB]
  try omega
theorem rWhole_is {v : Bool} (t : Int) (w : World) (hv : wholeB t = v) : Calls Tryz.prog 18 #[.int .i64 t] w (RetB0 v w) := by
 subst hv
 go_enter Tryz.func18, Tryz.ntmps18
 go_wp2
 all_goals
  go_ret
  refine ⟨ret_b0 ?_, rfl⟩
  rw [Bool.eq_iff_iff]
  simp [wholeB]
  try omega
theorem kNum_is {v : Bool} (t : Int) (w : World) (hv : numB t = v) : Calls Tryz.prog 26 #[.int .i64 t] w (RetB0 v w) := by
 unfold numB at hv
 obtain ⟨x, hx⟩ : ∃ x, basB t = x := ⟨_, rfl⟩
 obtain ⟨y, hy⟩ : ∃ y, truthB t = y := ⟨_, rfl⟩
 obtain ⟨z, hz⟩ : ∃ z, wordsB t = z := ⟨_, rfl⟩
 rw [hx, hy, hz] at hv
 have K1 := Lib.hid (fun W => kBas_is t W hx)
 have K2 := Lib.hid (fun W => kTruth_is t W hy)
 have K3 := Lib.hid (fun W => kText_is t W hz)
 subst hv
 clear hx hy hz
 go_enter Tryz.func26, Tryz.ntmps26
 go_wp2_with fail
 refine (K1.out _).mono ?_
 rintro e w1 ⟨rfl, rfl⟩
 cases x
 · go_wp2
   go_ret
   exact ⟨rfl, rfl⟩
 · go_wp2_with fail
   refine (K2.out _).mono ?_
   rintro e w1 ⟨rfl, rfl⟩
   cases y
   · go_wp2_with fail
     refine (K3.out _).mono ?_
     rintro e w1 ⟨rfl, rfl⟩
     cases z
     all_goals
      go_wp2
      go_ret
      exact ⟨rfl, rfl⟩
   · go_wp2
     go_ret
     exact ⟨rfl, rfl⟩
theorem kKind_is {v : Int} (t : Int) (w : World) (hv : kindI t = v) : Calls Tryz.prog 65 #[.int .i64 t] w (RetI0 v w) := by
 unfold kindI at hv
 obtain ⟨y, hy⟩ : ∃ y, truthB t = y := ⟨_, rfl⟩
 obtain ⟨z, hz⟩ : ∃ z, wordsB t = z := ⟨_, rfl⟩
 rw [hy, hz] at hv
 have K2 := Lib.hid (fun W => kTruth_is t W hy)
 have K3 := Lib.hid (fun W => kText_is t W hz)
 have HV := Lib.hid hv; clear hv
 clear hy hz
 go_enter Tryz.func65, Tryz.ntmps65
 go_wp2_with fail
 refine (K2.out _).mono ?_
 rintro e w1 ⟨rfl, rfl⟩
 cases y
 · go_wp2_with fail
   refine (K3.out _).mono ?_
   rintro e w1 ⟨rfl, rfl⟩
   cases z
   all_goals
    go_wp2
    go_ret
    exact ⟨by rw [← HV.out]; rfl, rfl⟩
 · go_wp2
   go_ret
   exact ⟨by rw [← HV.out]; rfl, rfl⟩
end
end Go.Proofs.YtmbbdjpnecjleaaGreat
namespace Go.Proofs.YtmbbdjpnecjleaaGreat
section
set_option maxRecDepth 100000
set_option maxHeartbeats 1000000
open Go.RowKit Go.MapKept

def lookL (d : TypeDesc) (k : Value) : List (Value × Value) → Option (Option Value)
 | [] => some none
 | x :: r => match Instr.sameNow d k x.1 with
  | some true => some (some x.2)
  | some false => lookL d k r
  | none => none
theorem find_look (d : TypeDesc) (k : Value) : ∀ (es : List MapEntry) (i : Nat) (r : Option Value), lookL d k (es.map fun e => (e.key, e.val)) = some r →
 ∃ s, Instr.findNow d k es i = some s ∧ s.map (·.2) = r
 | [], i, r, h => by
  simp only [List.map_nil, lookL, Option.some.injEq] at h
  exact ⟨none, rfl, h⟩
 | e :: es, i, r, h => by
  simp only [List.map_cons, lookL] at h
  unfold Instr.findNow
  cases hs : Instr.sameNow d k e.key with
  | none => rw [hs] at h; cases h
  | some b =>
   rw [hs] at h
   cases b with
   | true =>
    simp only [Option.some.injEq] at h
    exact ⟨_, rfl, h⟩
   | false => exact find_look d k es (i + 1) r h
def MapIs (w : World) (b : Nat) (L : List (Value × Value)) : Prop := ∃ es clock, w.heap[b]? = some (.map es clock) ∧ es.toList.map (fun e => (e.key, e.val)) = L
theorem MapIs.made (w : World) : MapIs (w.alloc (.map #[] 0)) w.heap.size [] := ⟨#[], 0, (heap_alloc w _).1, rfl⟩
theorem MapIs.lt {w : World} {b : Nat} {L : List (Value × Value)} (h : MapIs w b L) : b < w.heap.size := by
 obtain ⟨es, clock, hb, _⟩ := h
 exact (Array.getElem?_eq_some_iff.1 hb).1
theorem MapIs.below {w w' : World} {b : Nat} {L : List (Value × Value)} (h : MapIs w b L) (hb : Below w.heap.size w w') : MapIs w' b L := by
 have hl := h.lt
 obtain ⟨es, clock, h1, h2⟩ := h
 exact ⟨es, clock, (hb.block b hl).trans h1, h2⟩
section
variable {P : Program} (w : World) {ops : Array Oper} {rest : List Oper} {o : Oper} {a : Act} {Q : Exit → Act → World → Prop}
theorem wpList_insert (hg : o.guard = none) (m x v : Operand) (t : TypeId) (hop : o.op = Op.insert t m x v) (k e : TypeId) (d : TypeDesc) (ht : P.underlying t = some (.map k e)) (hd : P.underlying k = some d)
 (b : Nat) (L : List (Value × Value)) (hm : a.eval m = .map (some b)) (hown : MapIs w b L) (key val : Value) (hx : a.eval x = key) (hv : a.eval v = val) (hk : IsKey d key) (hf : lookL d key L = some none)
 (hK : ∀ w', MapIs w' b (L ++ [(key, val)]) → w.grownBy w' (some b) → wpList P ops Q rest (a.put o.dst undef) w') :
 wpList P ops Q (o :: rest) a w := by
 refine wpList_plain hg fun K' hK' => ?_
 obtain ⟨es, clock, hb, rfl⟩ := hown
 obtain ⟨s, hs, hr⟩ := find_look d key es.toList 0 none hf
 have hs0 : s = none := by cases s with
  | none => rfl
  | some y => cases hr
 subst hs0
 have hrun : (Instr.mapUpdate t (.map (some b)) key val).run P w = .ok () { w with heap := w.heap.setIfInBounds b (.map (es.push { key := key, val := val, born := clock }) (clock + 1)) } := by
  unfold Instr.mapUpdate
  simp only [Sem.run_bind, run_underlying ht, Result.andThen_ok, Go.MapKept.run_getObj_map hb, run_checkKey hd hk, run_findKey hd hs, run_setObj_map _ hb]
 unfold Oper.wp
 simp [execOp, hop, hm, hx, hv, hrun, Result.andThen]
 refine hK' _ _ (hK _ ⟨_, _, (heap_set hb).1, by simp⟩ ⟨rfl, rfl, rfl, by simp, fun i _ hi => (heap_set hb).2 i (fun q => hi (by rw [q]))⟩)
theorem wpList_look (hg : o.guard = none) (m x : Operand) (t : TypeId) (c : Bool) (hop : o.op = Op.lookup t m x c) (k e : TypeId) (d : TypeDesc) (ht : P.underlying t = some (.map k e)) (hd : P.underlying k = some d)
 (b : Nat) (L : List (Value × Value)) (hm : a.eval m = .map (some b)) (hown : MapIs w b L) (key : Value) (hx : a.eval x = key) (hk : IsKey d key) (z : Value) (hz : (zeroValue e).run P w = .ok z w) (r : Option Value) (hl : lookL d key L = some r)
 (u : Value) (hu : (if c then Value.tuple #[r.getD z, .bool r.isSome] else r.getD z) = u) (hK : wpList P ops Q rest (a.put o.dst u) w) :
 wpList P ops Q (o :: rest) a w := by
 subst hu
 refine wpList_plain hg fun K' hK' => ?_
 obtain ⟨es, clock, hb, rfl⟩ := hown
 obtain ⟨s, hs, hr⟩ := find_look d key es.toList 0 r hl
 subst hr
 have hrun : (Instr.lookup t (.map (some b)) key c).run P w = .ok (if c then Value.tuple #[(s.map (·.2)).getD z, .bool (s.map (·.2)).isSome] else (s.map (·.2)).getD z) w := by
  unfold Instr.lookup
  simp only [Sem.run_bind, run_underlying ht, Result.andThen_ok, Go.MapKept.run_getObj_map hb, Sem.run_pure, run_checkKey hd hk, run_findKey hd hs]
  cases s with
  | none =>
   simp only [Sem.run_bind, hz, Result.andThen_ok, Sem.run_pure]
   cases c <;> rfl
  | some y =>
   obtain ⟨i, y⟩ := y
   cases c <;> rfl
 unfold Oper.wp
 simp [execOp, hop, hm, hx, hrun, Result.andThen]
 simp only [Option.isSome_map] at hK
 exact hK' _ _ hK
end
end
end Go.Proofs.YtmbbdjpnecjleaaGreat
