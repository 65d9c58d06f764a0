/-
  Rows of the call's own: append, whatever the source; my own.
-/
import Derived.Test.YtkaafakodeeidaaDoorLib
namespace Go.Proofs.YtkaafakodeeidaaDoor
open Go.RowKit

theorem own_below {w w' : World} {base : Nat} {e : TypeId} {size n : Nat} {v : Value} {xs : List Value} (h : w.ownsRow base e size v n xs) (hb : Below w.heap.size w w') : w'.ownsRow base e size v n xs :=
  h.kept (row := none) ⟨hb.os, hb.tape, hb.output, hb.size, fun k hk _ => hb.block k hk⟩ (by cases v.ownBlock <;> simp)

/-- What is own is a slice, and reads. -/
theorem own_read {w : World} {base : Nat} {e : TypeId} {size n : Nat} {v : Value} {xs : List Value} (h : w.ownsRow base e size v n xs) (hn : xs.length ≤ n * size) :
    ∃ A cap, v = .slice A n cap ∧ n ≤ cap ∧ cap ≤ maxLen ∧ Rd w A (n * size) (fun k => xs.getD k undef) := by
  rcases h.2 with ⟨rfl, rfl⟩ | ⟨g, cap, cur, rfl, hb, hh, hc, hm, hsz, htake⟩
  · exact ⟨none, 0, rfl, Nat.le_refl _, Nat.zero_le _, by rw [Nat.zero_mul]; exact Rd.nil⟩
  · exact ⟨some ⟨g, 0, none⟩, cap, rfl, hc, hm, Rd.of_own h⟩

theorem own_nil (w : World) (base : Nat) (e : TypeId) (size : Nat) : w.ownsRow base e size (.slice none 0 0) 0 [] := World.ownsRow_nil _ _ _ _

/-- Where something is owned, it lies at a row's head. -/
theorem own_form {w : World} {base : Nat} {e : TypeId} {size n : Nat} {v : Value} {xs : List Value} (h : w.ownsRow base e size v n xs) (hn : 0 < n) :
    ∃ g cap, v = .slice (some ⟨g, 0, none⟩) n cap ∧ base ≤ g ∧ g < w.heap.size ∧ n ≤ cap ∧ cap ≤ maxLen := by
  rcases h.2 with ⟨_, h0⟩ | ⟨g, cap, cur, rfl, hb, hh, hc, hm, _⟩
  · omega
  · exact ⟨g, cap, rfl, hb, (Array.getElem?_eq_some_iff.1 hh).1, hc, hm⟩

section
variable {w : World} {base g n cap : Nat} {e : TypeId} {xs : List Value}
/-- A cell of a row of one-cell elements. -/
theorem own_at (h : w.ownsRow base e 1 (.slice (some ⟨g, 0, none⟩) n cap) n xs) {k : Nat} (hk : k < n) :
    w.cell? ⟨g, k, none⟩ = some (xs.getD k undef) ∧ w.frozen? ⟨g, k, none⟩ = false ∧ base ≤ g ∧ g < w.heap.size := by
  rcases h.2 with ⟨h0, _⟩ | ⟨g', cap', cur, hv, hb, hh, hc, hm, hsz, htake⟩
  · cases h0
  · injection hv with hA
    injection hA with hA
    injection hA with hA
    subst hA
    refine ⟨?_, frozen_of_row w g k cur e hh, hb, (Array.getElem?_eq_some_iff.1 hh).1⟩
    rw [cell_of_row w g k cur e (0, 0) hh, ← htake]
    have : k < cur.size := by omega
    simp [this, hk]
/-- A store into it. -/
theorem own_put (h : w.ownsRow base e 1 (.slice (some ⟨g, 0, none⟩) n cap) n xs) (k : Nat) (u : Value) :
    (w.setCell ⟨g, k, none⟩ u).ownsRow base e 1 (.slice (some ⟨g, 0, none⟩) n cap) n (xs.set k u) := by
  refine ⟨by rw [List.length_set]; exact h.1, ?_⟩
  rcases h.2 with ⟨h0, _⟩ | ⟨g', cap', cur, hv, hb, hh, hc, hm, hsz, htake⟩
  · cases h0
  · refine .inr ⟨g', cap', cur.setIfInBounds k u, hv, hb, ?_, hc, hm, by simpa using hsz, ?_⟩
    · injection hv with hA
      injection hA with hA
      injection hA with hA
      subst hA
      exact heap_setCell_same w g k cur e u hh
    · rw [← htake]
      simp [List.take_set]
end
/-- A literal of no elements. -/
theorem own_empty (w : World) (base : Nat) (e : TypeId) (size : Nat) (hb : base ≤ w.heap.size) : (w.alloc (.cells #[] e)).ownsRow base e size (.slice (some ⟨w.heap.size, 0, none⟩) 0 0) 0 [] :=
  World.ownsRow_made w #[] 0 hb (Nat.zero_le _) (by simp)
/-- A list of integers as cells. -/
def ints (K : IntKind) (xs : List Int) : List Value := xs.map (Value.int K)
theorem ints_len (K : IntKind) (xs : List Int) : (ints K xs).length = xs.length := by simp [ints]
theorem ints_get (K : IntKind) (xs : List Int) {k : Nat} (h : k < xs.length) : (ints K xs).getD k undef = .int K (xs.getD k 0) := by simp [ints, h]
theorem ints_set (K : IntKind) (xs : List Int) (k : Nat) (x : Int) : (ints K xs).set k (.int K x) = ints K (xs.set k x) := by simp [ints, List.map_set]
theorem ints_app (K : IntKind) (xs ys : List Int) : ints K xs ++ ints K ys = ints K (xs ++ ys) := by simp [ints]
theorem ints_one (K : IntKind) (xs : List Int) : ∀ u ∈ ints K xs, u.oneCell' = true := by
  intro u hu
  obtain ⟨x, _, rfl⟩ := List.mem_map.1 hu
  rfl
/-- What is owned as integers reads as integers. -/
theorem own_rdI {w : World} {base : Nat} {e : TypeId} {v : Value} {n : Nat} {K : IntKind} {xs : List Int} (h : w.ownsRow base e 1 v n (ints K xs)) (hn : n = xs.length) :
    ∃ A cap, v = .slice A xs.length cap ∧ xs.length ≤ cap ∧ cap ≤ maxLen ∧ RdI w A K xs := by
  subst hn
  obtain ⟨A, cap, rfl, h1, h2, hr⟩ := own_read h (by rw [ints_len]; omega)
  refine ⟨A, cap, rfl, h1, h2, ?_⟩
  rw [Nat.mul_one] at hr
  exact Rd.congr hr fun k hk => ints_get K xs hk
/-- Integers that read are a source for append. -/
theorem RdI.src {w : World} {A : Option Addr} {K : IntKind} {xs : List Int} (h : RdI w A K xs) : Rd w A (xs.length * 1) (fun k => (ints K xs).getD k undef) := by
  rw [Nat.mul_one]
  exact Rd.congr h fun k hk => (ints_get K xs hk).symm

section
variable {P : Program}

theorem run_app_none (w : World) (base : Nat) (t ty e : TypeId) (i : TypeInfo) (size : Nat) (ht : P.underlying t = some (.slice e)) (hi : P.info? e = some i)
    (v : Value) (n : Nat) (xs : List Value) (hown : w.ownsRow base e size v n xs) (c : Nat) : (Builtin.append_ #[t, t] ty #[v, .slice none 0 c]).run P w = .ok v w := by
  rcases hown.2 with ⟨rfl, rfl⟩ | ⟨g, cap, cur, rfl, _, _, hnc, _⟩
  · simp [Builtin.append_, run_underlying ht, sizeOf, typeInfo, hi, Builtin.lenOf, Builtin.firstCells]
  · simp [Builtin.append_, run_underlying ht, sizeOf, typeInfo, hi, Builtin.lenOf, Builtin.firstCells, hnc, storeCells]

/-- 'append(s, x...)': s the call's own, x whatever reads. -/
theorem run_app (w : World) (base : Nat) (t ty e : TypeId) (z : Value) (size bytes : Nat) (ht : P.underlying t = some (.slice e))
    (hinfo : (P.info? e).map (fun i => (i.zero, i.size, i.bytes)) = some (some z, size, bytes)) (hzs : z.cells.size = size) (hsz : 0 < size)
    (v : Value) (n : Nat) (xs : List Value) (hown : w.ownsRow base e size v n xs)
    (A : Option Addr) (m c : Nat) (news : List Value) (hl : news.length = m * size) (hrd : Rd w A (m * size) (fun k => news.getD k undef)) (h1 : ∀ u ∈ news, u.oneCell' = true)
    (h63 : n + m ≤ maxLen) (hbytes : (n + m) * bytes ≤ 140737488355328) (hbase : base ≤ w.heap.size) :
    ∃ v' w', (Builtin.append_ #[t, t] ty #[v, .slice A m c]).run P w = .ok v' w' ∧ w'.ownsRow base e size v' (n + m) (xs ++ news) ∧ w.grownBy w' v.ownBlock ∧ Below base w w' := by
  obtain ⟨i, hi, hz, hs, hb⟩ := info_parts hinfo
  have hbel : ∀ w', w.grownBy w' v.ownBlock → Below base w w' := fun w' hg => (Below.refl base w).grown hg hbase (fun k hk => (hown.lt k hk).1)
  rcases Nat.eq_zero_or_pos m with hm | hm
  · subst hm
    have hn : news = [] := List.eq_nil_of_length_eq_zero (by simpa using hl)
    subst hn
    cases A with
    | none => exact ⟨v, w, run_app_none w base t ty e i size ht hi v n xs hown c, by simpa using hown, World.grownBy.refl w _, Below.refl _ _⟩
    | some a =>
      obtain ⟨v', w', hr, ho, hg, _⟩ := run_append_own (P := P) w base t ty e i z size bytes ht hi hz hs hb hzs hsz v n xs hown a 0 c [] (by simp) (by simp) (by simp) h63 hbytes hbase
      exact ⟨v', w', hr, ho, hg, hbel _ hg⟩
  · obtain ⟨b, off, rfl, _, hc⟩ := hrd (Nat.mul_pos hm hsz)
    obtain ⟨v', w', hr, ho, hg, _⟩ := run_append_own (P := P) w base t ty e i z size bytes ht hi hz hs hb hzs hsz v n xs hown ⟨b, off, none⟩ m c news hl (fun j u hu => by
      have hj : j < news.length := (List.getElem?_eq_some_iff.1 hu).1
      have := hc j (by omega)
      have e : (⟨b, off, none⟩ : Addr).add j = ⟨b, off + j, none⟩ := by unfold Addr.add; split <;> simp_all
      rw [e, this]
      show some (news.getD j undef) = some u
      rw [List.getD_eq_getElem?_getD, hu]; rfl) h1 h63 hbytes hbase
    exact ⟨v', w', hr, ho, hg, hbel _ hg⟩

theorem wpList_app {ops : Array Oper} {rest : List Oper} {o : Oper} {a : Act} {Q : Exit → Act → World → Prop} (w : World) (hgd : o.guard = none) (s x : Operand) (t : TypeId)
    (ho : o.op = .call { callee := .builtin .append, args := #[s, x], argTypes := #[t, t] })
    (base : Nat) (e : TypeId) (z : Value) (size bytes : Nat) (ht : P.underlying t = some (.slice e))
    (hinfo : (P.info? e).map (fun i => (i.zero, i.size, i.bytes)) = some (some z, size, bytes)) (hzs : z.cells.size = size) (hsz : 0 < size)
    (v : Value) (n : Nat) (xs : List Value) (hs : a.eval s = v) (A : Option Addr) (m c : Nat) (news : List Value) (hx : a.eval x = .slice A m c)
    (hl : news.length = m * size) (h1 : ∀ u ∈ news, u.oneCell' = true)
    (hown : w.ownsRow base e size v n xs) (hrd : Rd w A (m * size) (fun k => news.getD k undef))
    (h63 : n + m ≤ maxLen) (hbytes : (n + m) * bytes ≤ 140737488355328) (hbase : base ≤ w.heap.size)
    (h : ∀ v' w', w'.ownsRow base e size v' (n + m) (xs ++ news) → w.grownBy w' v.ownBlock → Below base w w' → wpList P ops Q rest (a.put o.dst v') w') : wpList P ops Q (o :: rest) a w := by
  obtain ⟨v', w', hrun, h2, h3, h4⟩ := run_app w base t o.type e z size bytes ht hinfo hzs hsz v n xs hown A m c news hl hrd h1 h63 hbytes hbase
  refine wpList_plain hgd fun K hK => ?_
  unfold Oper.wp execOp
  simp only [ho, resolve, invoke, builtin, Sem.run_bind, Sem.run_pure, Result.andThen_ok, List.map_toArray, List.map_cons, List.map_nil, hs, hx, hrun]
  exact hK _ _ (h v' w' h2 h3 h4)
end

/-- A row that was just laid reads. -/
theorem Rd.newAt (w : World) (cs : List Value) (t : TypeId) (N n : Nat) (hN : w.heap.size = N) (hn : n ≤ cs.length) : Rd (w.alloc (.cells cs.toArray t)) (some ⟨N, 0, none⟩) n (fun k => cs.getD k undef) := fun _ =>
  ⟨N, 0, rfl, by subst hN; simp, fun k hk => by
    subst hN
    rw [cell_of_row _ _ _ _ t (0, 0) (heap_alloc_new w _)]
    have : k < cs.length := by omega
    simp [this]⟩
end Go.Proofs.YtkaafakodeeidaaDoor
