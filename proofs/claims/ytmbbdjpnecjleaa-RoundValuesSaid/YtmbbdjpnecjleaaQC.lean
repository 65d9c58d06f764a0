/-
  A law for regions that draw their order: each operation is looked at once, whatever the order: what each yields is told by a fact of its own. No program.
  Lists of so many values, written out.
-/
import Derived.Test.YtmbbdjpnecjleaaQB
import Derived.StillTail
import Derived.RegionTactic
namespace Go.Proofs.Ytmbbdjpnecjleaa
section
open Go.RowKit

section
variable {P : Program} {Q : Exit → Act → World → Prop}

/-- What the first n operations must be: each with a slot of its own or none, each waiting for earlier ones alone. -/
def headB (l : List Oper) (n N : Nat) : Bool :=
  decide (n ≤ l.length) && (List.range n).all fun i => match l[i]? with
    | some o => (match o.dst with
        | some k => decide (k < N) && (List.range n).all (fun j => i == j || (match l[j]? with | some o' => o'.dst != some k | none => true))
        | none => true) && o.after.all (fun e => !Region.binds .any e || decide (e.on < i))
    | none => false
/-- What comes behind them has one order. -/
def tailB (l : List Oper) (n : Nat) : Bool :=
  decide (n = l.length) || (Region.sinkB .any l.toArray n && Region.chainB .any l.toArray n && decide (n < l.length) && Region.seqB .any l.toArray (l.length - n) n (Array.replicate n true ++ Array.replicate (l.length - n) false))
structure TFr (l : List Oper) (n : Nat) (a0 a : Act) : Prop where
  defers : a.defers = a0.defers
  size : a.tmps.size = a0.tmps.size
  keep : ∀ k, (∀ i o, i < n → l[i]? = some o → o.dst ≠ some k) → a.tmps[k]? = a0.tmps[k]?
def TKn (l : List Oper) (T : Nat → World → Value → Prop) (i : Nat) (a : Act) (w : World) : Prop := ∀ o k, l[i]? = some o → o.dst = some k → ∃ v, a.tmps[k]? = some v ∧ T i w v
def cnt (n : Nat) (listed : Array Bool) : Nat := ((List.range n).filter fun i => !listed.getD i true).length

theorem headB_at {l : List Oper} {n N i : Nat} (h : headB l n N = true) (hi : i < n) : ∃ o, l[i]? = some o ∧ (∀ k, o.dst = some k → k < N ∧ ∀ j o', j < n → i ≠ j → l[j]? = some o' → o'.dst ≠ some k) ∧ ∀ e ∈ o.after, Region.binds .any e = true → e.on < i := by
  unfold headB at h
  rw [Bool.and_eq_true] at h
  have h1 := List.all_eq_true.1 h.2 i (List.mem_range.2 hi)
  cases ho : l[i]? with
  | none => rw [ho] at h1; cases h1
  | some o =>
    rw [ho] at h1
    simp only [Bool.and_eq_true] at h1
    refine ⟨o, rfl, fun k hk => ?_, fun e he hb => ?_⟩
    · have h2 := h1.1
      rw [hk] at h2
      simp only [Bool.and_eq_true, decide_eq_true_eq] at h2
      refine ⟨h2.1, fun j o' hj hij ho' => ?_⟩
      have h3 := List.all_eq_true.1 h2.2 j (List.mem_range.2 hj)
      rw [ho'] at h3
      simp [hij] at h3
      exact h3
    · have h2 := Array.all_eq_true_iff_forall_mem.1 h1.2 e he
      simpa [hb] using h2
theorem cnt_pos {n i : Nat} {listed : Array Bool} (hi : i < n) (h : listed.getD i true = false) : 0 < cnt n listed := by
  unfold cnt
  apply List.length_pos_of_mem (a := i)
  rw [List.mem_filter, List.mem_range]
  exact ⟨hi, by simp [h]⟩
theorem cnt_zero {n i : Nat} {listed : Array Bool} (h : cnt n listed = 0) (hi : i < n) : listed.getD i true = true := by
  cases hl : listed.getD i true with
  | true => rfl
  | false => have := cnt_pos hi hl; omega
theorem cnt_some {n : Nat} {listed : Array Bool} (h : cnt n listed ≠ 0) : ∃ i, i < n ∧ listed.getD i true = false := by
  unfold cnt at h
  obtain ⟨i, hi⟩ := List.exists_mem_of_length_pos (Nat.pos_of_ne_zero h)
  rw [List.mem_filter, List.mem_range] at hi
  exact ⟨i, hi.1, by simpa using hi.2⟩
theorem cnt_set : ∀ (n : Nat) {i : Nat} {listed : Array Bool}, i < n → listed.getD i true = false → cnt n (listed.setIfInBounds i true) + 1 = cnt n listed
  | 0, _, _, h, _ => absurd h (by omega)
  | n + 1, i, listed, hi, hl => by
    unfold cnt
    rw [List.range_succ, List.filter_append, List.filter_append, List.length_append, List.length_append]
    by_cases hin : i = n
    · subst hin
      have h1 : ∀ j ∈ List.range i, (!(listed.setIfInBounds i true).getD j true) = !listed.getD j true := fun j hj => by
        rw [getD_set_ne true (by have := List.mem_range.1 hj; omega)]
      have hlt : i < listed.size := by
        rcases Nat.lt_or_ge i listed.size with h' | h'
        · exact h'
        · simp [h'] at hl
      rw [List.filter_congr h1]
      have h4 : (listed.setIfInBounds i true).getD i true = true := by simp [hlt]
      simp only [List.filter, h4, hl]
      simp
    · have h1 := cnt_set n (i := i) (listed := listed) (by omega) hl
      unfold cnt at h1
      have h2 : (listed.setIfInBounds i true).getD n true = listed.getD n true := getD_set_ne true hin
      have h3 : List.filter (fun j => !(listed.setIfInBounds i true).getD j true) [n] = List.filter (fun j => !listed.getD j true) [n] := by simp only [List.filter, h2]
      rw [h3, ← h1]
      omega
theorem cnt_new (n m : Nat) : cnt n (Array.replicate (n + m) false) = n := by
  unfold cnt
  rw [List.filter_eq_self.2]
  · simp
  · intro i hi
    have := List.mem_range.1 hi
    simp [show i < n + m by omega]

structure TInv (l : List Oper) (n : Nat) (T : Nat → World → Value → Prop) (a0 : Act) (w0 : World) (listed : Array Bool) (a : Act) (w : World) : Prop where
  head : HeadInv .any l.toArray n listed
  fr : TFr l n a0 a
  old : Below w0.heap.size w0 w
  known : ∀ i, i < n → listed.getD i false = true → TKn l T i a w

theorem typed_main {l : List Oper} {a0 : Act} {w0 : World} (n : Nat) (T : Nat → World → Value → Prop)
    (hB : headB l n a0.tmps.size = true) (hC : tailB l n = true)
    (lift : ∀ i w w' v, T i w v → Below w.heap.size w w' → T i w' v)
    (step : ∀ i o, i < n → l[i]? = some o → ∀ (a : Act) (w : World) (K : Act → World → Prop), TFr l n a0 a → Below w0.heap.size w0 w →
      (∀ e ∈ o.after, Region.binds .any e = true → TKn l T e.on a w) →
      (∀ v w', Below w.heap.size w w' → (∀ k, o.dst = some k → T i w' v) → K (a.put o.dst v) w') → if Region.wanted o (yielded l.toArray a.tmps) = true then o.wp P a w K Q else K (a.put o.dst undef) w)
    (finish : ∀ a w, TFr l n a0 a → Below w0.heap.size w0 w → (∀ i, i < n → TKn l T i a w) → wpList P l.toArray Q (l.drop n) a w) :
    ∀ (f : Nat) (listed : Array Bool) (a : Act) (w : World), f = cnt n listed + (l.length - n) → TInv l n T a0 w0 listed a w → wpAny P .any l.toArray Q f listed a w := by
  have hnl : n ≤ l.length := by unfold headB at hB; rw [Bool.and_eq_true] at hB; simpa using hB.1
  intro f
  induction f with
  | zero =>
    intro listed a w hf inv
    have hc : cnt n listed = 0 := by omega
    have hn : n = l.length := by omega
    have h := finish a w inv.fr inv.old fun i hi => inv.known i hi (by
      have := cnt_zero hc hi
      have hs : i < listed.size := by rw [inv.head.size]; simpa [← hn] using hi
      simpa [hs] using this)
    rw [hn, List.drop_length] at h
    refine ⟨?_, h⟩
    refine List.eq_nil_iff_forall_not_mem.2 fun i hi => ?_
    obtain ⟨h0, o, ho, _⟩ := mem_ready.1 hi
    have hlt : i < l.toArray.size := (Array.getElem?_eq_some_iff.1 ho).1
    have := cnt_zero hc (i := i) (by rw [hn]; simpa using hlt)
    rw [h0] at this
    cases this
  | succ f ih =>
    intro listed a w hf inv
    by_cases hc : cnt n listed = 0
    · have hl : ∀ i, i < n → listed.getD i false = true := fun i hi => by
        have := cnt_zero hc hi
        have hs : i < listed.size := by rw [inv.head.size]; simp; omega
        simpa [hs] using this
      have h := finish a w inv.fr inv.old fun i hi => inv.known i hi (hl i hi)
      have hcan : listed = Array.replicate n true ++ Array.replicate (l.length - n) false := by
        apply Array.ext (by rw [inv.head.size]; simp; omega)
        intro i h1 h2
        by_cases hi : i < n
        · have := hl i hi
          rw [Array.getElem_append_left (by simpa using hi)]
          simpa [h1] using this
        · have := inv.head.tail i (by omega) (by rw [← inv.head.size]; exact h1)
          rw [Array.getElem_append_right (by simpa using hi)]
          simpa [h1] using this
      have hlen : n ≠ l.length := by omega
      unfold tailB at hC
      simp only [Bool.or_eq_true, Bool.and_eq_true, decide_eq_true_eq] at hC
      have hC' := hC.resolve_left hlen
      have hf' : f + 1 = (l.drop n).length := by rw [List.length_drop]; omega
      rw [hf']
      refine wpAny_of_seq (l.drop n) n listed a w (fun j => by simp [List.getElem?_drop]) ?_ h
      rw [hcan, List.length_drop]
      exact hC'.2
    · have hrn : ∀ i ∈ Region.ready .any l.toArray listed, i < n := by
        intro i hi
        rcases Nat.lt_or_ge i n with h | h
        · exact h
        · obtain ⟨_, o, ho, _⟩ := mem_ready.1 hi
          have hlt : i < l.toArray.size := (Array.getElem?_eq_some_iff.1 ho).1
          have hlt' : i < l.length := by simpa using hlt
          unfold tailB at hC
          simp only [Bool.or_eq_true, Bool.and_eq_true, decide_eq_true_eq] at hC
          have hC' := hC.resolve_left (by omega)
          obtain ⟨j, hj, hj2⟩ := cnt_some hc
          exact absurd hi (tail_waits hC'.1.1.1 hC'.1.1.2 (by simpa using hC'.1.2) inv.head (n - j) j rfl hj hj2 i h)
      have hne : Region.ready .any l.toArray listed ≠ [] := by
        obtain ⟨j, hj, hj2⟩ := cnt_some hc
        have : ∀ d j, j = d → j < n → listed.getD j true = false → ∃ i, i ∈ Region.ready .any l.toArray listed := by
          intro d
          induction d using Nat.strongRecOn with
          | _ d ihd =>
            intro j hd hj hun
            obtain ⟨o, ho, _, ha⟩ := headB_at hB hj
            by_cases hex : ∃ e ∈ o.after, Region.binds .any e = true ∧ listed.getD e.on false = false
            · obtain ⟨e, he, hb, hl⟩ := hex
              have hlt := ha e he hb
              have hs : e.on < listed.size := by rw [inv.head.size]; simp; omega
              exact ihd e.on (by omega) e.on rfl (by omega) (getD_in hs hl)
            · refine ⟨j, mem_ready.2 ⟨hun, o, by simpa using ho, fun e he hb => ?_⟩⟩
              cases hl : listed.getD e.on false with
              | true => rfl
              | false => exact absurd ⟨e, he, hb, hl⟩ hex
        obtain ⟨i, hi⟩ := this j j rfl hj hj2
        exact fun h => by rw [h] at hi; cases hi
      refine ⟨fun h => absurd h hne, fun i hi => ?_⟩
      have hin := hrn i hi
      obtain ⟨hun, o, ho, hall⟩ := mem_ready.1 hi
      have ho' : l[i]? = some o := by simpa using ho
      obtain ⟨o2, ho2, hd, haft⟩ := headB_at hB hin
      obtain rfl : o2 = o := Option.some.inj (ho2.symm.trans ho')
      refine wpOp_step ho fun K hK => ?_
      refine step i o2 hin ho' a w K inv.fr inv.old (fun e he hb => inv.known e.on (by have := haft e he hb; omega) (hall e he hb)) fun v w' hbel hT => hK _ _ ?_
      refine ih _ _ _ (by have := cnt_set n hin hun; omega) ⟨inv.head.set hi hin, ?_, inv.old.trans (hbel.mono inv.old.size), fun j hj hlj o k hoj hk => ?_⟩
      · refine ⟨?_, ?_, fun k hk => ?_⟩
        · rw [← inv.fr.defers]; cases o2.dst <;> rfl
        · rw [← inv.fr.size]; cases o2.dst <;> simp [Act.put]
        · rw [← inv.fr.keep k hk]
          have hne := hk i o2 hin ho'
          cases hdst : o2.dst with
          | none => rfl
          | some m =>
            have hmk : m ≠ k := fun e => hne (by rw [hdst, e])
            simp [Act.put, hmk]
      · by_cases hij : i = j
        · subst hij
          obtain rfl : o2 = o := Option.some.inj (ho'.symm.trans hoj)
          have hkN := (hd k hk).1
          rw [← inv.fr.size] at hkN
          exact ⟨v, by simp [Act.put, hk, hkN], hT k hk⟩
        · rw [getD_set_ne false hij] at hlj
          obtain ⟨u, hu, hTu⟩ := inv.known j hj hlj o k hoj hk
          refine ⟨u, ?_, lift j w w' u hTu hbel⟩
          rw [← hu]
          cases hdst : o2.dst with
          | none => rfl
          | some m =>
            have hmk : m ≠ k := fun e => by
              obtain ⟨o3, ho3, hd3, _⟩ := headB_at hB hj
              obtain rfl : o3 = o := Option.some.inj (ho3.symm.trans hoj)
              exact (hd3 k hk).2 i o2 hin (Ne.symm hij) ho' (by rw [hdst, e])
            simp [Act.put, hmk]

/-- The law. -/
theorem wp_region_typedG {id : Nat} {l : List Oper} {a0 : Act} {w0 : World} (n : Nat) (T : Nat → World → Value → Prop) (hm : P.follows .mixedOrders = true)
    (hB : headB l n a0.tmps.size = true) (hC : tailB l n = true)
    (lift : ∀ i w w' v, T i w v → Below w.heap.size w w' → T i w' v)
    (step : ∀ i o, i < n → l[i]? = some o → ∀ (a : Act) (w : World) (K : Act → World → Prop), TFr l n a0 a → Below w0.heap.size w0 w →
      (∀ e ∈ o.after, Region.binds .any e = true → TKn l T e.on a w) →
      (∀ v w', Below w.heap.size w w' → (∀ k, o.dst = some k → T i w' v) → K (a.put o.dst v) w') → if Region.wanted o (yielded l.toArray a.tmps) = true then o.wp P a w K Q else K (a.put o.dst undef) w)
    (finish : ∀ a w, TFr l n a0 a → Below w0.heap.size w0 w → (∀ i, i < n → TKn l T i a w) → wpList P l.toArray Q (l.drop n) a w) :
    (Code.region id l.toArray true).wp P Q a0 w0 := by
  have hnl : n ≤ l.length := by unfold headB at hB; rw [Bool.and_eq_true] at hB; simpa using hB.1
  refine wp_region_any hm ?_
  refine typed_main (P := P) (Q := Q) n T hB hC lift step finish _ _ _ _ ?_ ⟨⟨by simp, fun j oj _ hl => ?_, fun t _ ht => ?_⟩, ⟨rfl, rfl, fun _ _ => rfl⟩, ?_, fun i _ hl => ?_⟩
  · have := cnt_new n (l.length - n)
    rw [show n + (l.length - n) = l.length by omega] at this
    simp only [List.size_toArray]
    omega
  · rw [getD_replicate_false] at hl; cases hl
  · exact getD_in (by simpa using ht) (getD_replicate_false _ _)
  · exact bel_drewN (bel_refl w0) 1
  · rw [getD_replicate_false] at hl; cases hl
/-- Where no operation of the head is guarded. -/
theorem wp_region_typed {id : Nat} {l : List Oper} {a0 : Act} {w0 : World} (n : Nat) (T : Nat → World → Value → Prop) (hm : P.follows .mixedOrders = true)
    (hB : (headB l n a0.tmps.size && (l.take n).all fun o => o.guard.isNone) = true) (hC : tailB l n = true)
    (lift : ∀ i w w' v, T i w v → Below w.heap.size w w' → T i w' v)
    (step : ∀ i o, i < n → l[i]? = some o → ∀ (a : Act) (w : World) (K : Act → World → Prop), TFr l n a0 a → Below w0.heap.size w0 w →
      (∀ e ∈ o.after, Region.binds .any e = true → TKn l T e.on a w) →
      (∀ v w', Below w.heap.size w w' → (∀ k, o.dst = some k → T i w' v) → K (a.put o.dst v) w') → o.wp P a w K Q)
    (finish : ∀ a w, TFr l n a0 a → Below w0.heap.size w0 w → (∀ i, i < n → TKn l T i a w) → wpList P l.toArray Q (l.drop n) a w) :
    (Code.region id l.toArray true).wp P Q a0 w0 := by
  rw [Bool.and_eq_true] at hB
  refine wp_region_typedG n T hm hB.1 hC lift (fun i o hi ho a w K h1 h2 h3 h4 => ?_) finish
  have hg := List.all_eq_true.1 hB.2 o (List.mem_iff_getElem?.2 ⟨i, by rw [List.getElem?_take_of_lt hi]; exact ho⟩)
  rw [if_pos (by cases hgd : o.guard with | none => simp [Region.wanted, hgd] | some x => rw [hgd] at hg; cases hg)]
  exact step i o hi ho a w K h1 h2 h3 h4
end

theorem results_row_cell {P : Program} {fn : Func} {p u : Tmp} {ty ty2 : TypeId} (h : fn.results = #[.cell p ty, .cell u ty2]) (tmps : Array Value) (w : World) (g g' : Nat) (t : TypeId) (cs : Array Value) (fr : Nat × Nat) (d : TypeDesc) (v : Value)
    (hp : tmps.getD p undef = .pointer (some ⟨g, 0, none⟩)) (hv : tmps.getD u undef = .pointer (some ⟨g', 0, none⟩)) (hg : w.heap[g]? = some (.cells cs t fr))
    (hu : P.underlying ty = some d) (hd : (match d with | .struct _ | .array _ _ => true | _ => false) = true) (hi : (P.info? ty).map (·.size) = some cs.size)
    (h2 : (loadVar ty2 ⟨g', 0, none⟩).run P w = .ok v w) : (results fn tmps).run P w = .ok (.tuple #[.agg cs, v]) w := by
  have hp' : tmps[p]?.getD undef = .pointer (some ⟨g, 0, none⟩) := by simpa using hp
  have hv' : tmps[u]?.getD undef = .pointer (some ⟨g', 0, none⟩) := by simpa using hv
  simp [results, h, hp', hv', asAddr, run_loadVar_row w g t ty cs fr d hg hu hd hi, h2, Sem.run_bind, Result.andThen]
theorem load_errno (w : World) (g : Nat) (v : Value) (h : w.cell? ⟨g, 0, none⟩ = some v) : (loadVar 28 ⟨g, 0, none⟩).run Try.prog w = .ok v w := by
  simp [loadVar, go_sem, h]
/-- Where the two results of such a function lie. -/
structure Outs (fn : Func) (p u : Tmp) (tmps : Array Value) (g g' : Nat) (w0 w : World) (cs : Array Value) (b : Value) : Prop where
  res : fn.results = #[.cell p 25, .cell u 28]
  hp : tmps.getD p undef = .pointer (some ⟨g, 0, none⟩)
  hu : tmps.getD u undef = .pointer (some ⟨g', 0, none⟩)
  old : Below w0.heap.size w0 w
  ge : w0.heap.size ≤ g
  ge' : w0.heap.size ≤ g'
  ne : g' ≠ g
  out : Blk w g 25 cs
  err : Blk w g' 28 #[b]
theorem Outs.run {fn : Func} {p u : Tmp} {tmps : Array Value} {g g' : Nat} {w0 w : World} {x y z b : Value} (h : Outs fn p u tmps g g' w0 w #[x, y, z] b) : (results fn tmps).run Try.prog w = .ok (.tuple #[.agg #[x, y, z], b]) w :=
  results_row_cell h.res tmps w g g' _ _ _ _ b h.hp h.hu h.out Try.underlying25 rfl (by kernel_rfl) (load_errno w g' b (h.err.cell 0))
/-- The deferred call. -/
def toldAt (g g' : Nat) : Deferred := { target := .fn (.func 64) #[], args := #[.pointer (some ⟨g, 0, none⟩), .pointer (some ⟨g', 0, none⟩)] }
theorem leave_plain {fn : Func} {p u : Tmp} {tmps : Array Value} {g g' : Nat} {w0 w : World} {q : Q} {x y : Value} {c : Int} (h : Outs fn p u tmps g g' w0 w #[.bool q.s, x, y] (.int .i64 c)) (hx : RdN w x q.n) (hy : RdN w y q.d) :
    Leaves Try.prog fn tmps (RetQE q c w0) [] .returning w := ⟨_, h.run, _, _, rfl, hx, hy, h.old⟩
theorem leave_done {fn : Func} {p u : Tmp} {tmps : Array Value} {g g' : Nat} {w0 w : World} {q : Q} {x y : Value} {c : Int} (h : Outs fn p u tmps g g' w0 w #[.bool q.s, x, y] (.int .i64 c)) (hx : RdN w x q.n) (hy : RdN w y q.d) :
    Leaves Try.prog fn tmps (RetQE q c w0) [toldAt g g'] .returning w := by
  refine leaves_cons (f := 64) (args := #[.pointer (some ⟨g, 0, none⟩), .pointer (some ⟨g', 0, none⟩)]) (by simp) (by simp [go_sem]) ?_
  refine (told_idle _ _ _).mono ?_
  rintro e u' w'' ⟨rfl, rfl, rfl⟩
  exact leave_plain h hx hy
theorem leave_caught {fn : Func} {p u : Tmp} {tmps : Array Value} {g g' : Nat} {w0 w : World} {x y z b : Value} {c : Int} (h : Outs fn p u tmps g g' w0 w #[x, y, z] b) :
    Leaves Try.prog fn tmps (RetQE noQ c w0) [toldAt g g'] (.panicking [bad c]) w := by
  refine leaves_cons (f := 64) (args := #[.pointer (some ⟨g, 0, none⟩), .pointer (some ⟨g', 0, none⟩)]) (by simp) (by simp [go_sem]) ?_
  refine (told_caught g g' c [] x y z b w (h.out.cell 0) (h.out.cell 1) (h.out.cell 2) (h.err.cell 0) (h.out.frozen 0) (h.out.frozen 1) (h.out.frozen 2) (h.err.frozen 0) h.ne).mono ?_
  rintro e u' w'' ⟨rfl, rfl, rfl⟩
  refine leave_plain (q := noQ) (p := p) (u := u) (g := g) (g' := g') ⟨h.res, h.hp, h.hu, bel_set (bel_set3 h.old h.ge _ _ _) h.ge' _, h.ge, h.ge', h.ne, ?_, ?_⟩ (RdN.none0 _) (RdN.none0 _)
  · exact (h.out.put3 _ _ _).far (p := ⟨g', 0, none⟩) (fun e => h.ne e.symm) _
  · exact (((h.err.far (p := ⟨g, 0, none⟩) h.ne _).far (p := ⟨g, 1, none⟩) h.ne _).far (p := ⟨g, 2, none⟩) h.ne _).put 0 _

/-- No number lies in an error's block. -/
theorem RdN.setE {w : World} {g : Nat} {t : TypeId} {c : Int} {v : Value} {n : Nat} (hB : Blk w g t #[.int .i64 c]) (h : RdN w v n) (x : Value) : RdN (w.setCell ⟨g, 0, none⟩ x) v n := by
  obtain ⟨E, cap, rfl, hcap, hr⟩ := h
  refine ⟨E, cap, rfl, hcap, ?_⟩
  intro hx
  obtain ⟨b, off, e, hb, hc⟩ := hr hx
  have hbg : b ≠ g := by
    rintro rfl
    have h0 := hc 0 hx
    rw [hB.cell] at h0
    rcases Nat.eq_zero_or_pos (off + 0) with e | e
    · rw [e] at h0; simp at h0
    · rw [Array.getElem?_eq_none (by simp; omega)] at h0; simp at h0
  refine ⟨b, off, e, by simpa using hb, fun k hk => ?_⟩
  rw [cell_far hbg]
  exact hc k hk
/-- The two stores ahead of a return. -/
theorem leave_stored {fn : Func} {p u : Tmp} {tmps : Array Value} {g g' : Nat} {w0 w : World} {q : Q} {E F : Option Addr} {m m' c c' : Nat} {b k : Int} (hres : fn.results = #[.cell p 25, .cell u 28])
    (hp : tmps.getD p undef = .pointer (some ⟨g, 0, none⟩)) (hu : tmps.getD u undef = .pointer (some ⟨g', 0, none⟩)) (old : Below w0.heap.size w0 w) (ge : w0.heap.size ≤ g) (ge' : w0.heap.size ≤ g') (ne : g' ≠ g)
    (out : Blk w g 25 #[.bool false, .slice none 0 0, .slice none 0 0]) (err : Blk w g' 28 #[.int .i64 b]) (hx : RdN w (.slice E m c) q.n) (hy : RdN w (.slice F m' c') q.d) :
    Leaves Try.prog fn tmps (RetQE q k w0) [toldAt g g'] .returning ((((w.setCell ⟨g, 0, none⟩ (.bool q.s)).setCell ⟨g, 1, none⟩ (.slice E m c)).setCell ⟨g, 2, none⟩ (.slice F m' c')).setCell ⟨g', 0, none⟩ (.int .i64 k)) := by
  have E3 := (((err.far (p := ⟨g, 0, none⟩) ne (.bool q.s)).far (p := ⟨g, 1, none⟩) ne (.slice E m c)).far (p := ⟨g, 2, none⟩) ne (.slice F m' c'))
  exact leave_done ⟨hres, hp, hu, bel_set (bel_set3 old ge _ _ _) ge' _, ge, ge', ne, (out.put3 _ _ _).far (p := ⟨g', 0, none⟩) (fun e => ne e.symm) _, E3.put 0 _⟩ ((RdN.set3 out hx _ _ _).setE E3 _) ((RdN.set3 out hy _ _ _).setE E3 _)
theorem leave_refused {fn : Func} {p u : Tmp} {tmps : Array Value} {g g' : Nat} {w0 w : World} {x y z : Value} {b : Value} {k : Int} (hres : fn.results = #[.cell p 25, .cell u 28])
    (hp : tmps.getD p undef = .pointer (some ⟨g, 0, none⟩)) (hu : tmps.getD u undef = .pointer (some ⟨g', 0, none⟩)) (old : Below w0.heap.size w0 w) (ge : w0.heap.size ≤ g) (ge' : w0.heap.size ≤ g') (ne : g' ≠ g)
    (out : Blk w g 25 #[x, y, z]) (err : Blk w g' 28 #[b]) :
    Leaves Try.prog fn tmps (RetQE noQ k w0) [] .returning ((((w.setCell ⟨g, 0, none⟩ (.bool false)).setCell ⟨g, 1, none⟩ (.slice none 0 0)).setCell ⟨g, 2, none⟩ (.slice none 0 0)).setCell ⟨g', 0, none⟩ (.int .i64 k)) := by
  have E3 := (((err.far (p := ⟨g, 0, none⟩) ne (.bool false)).far (p := ⟨g, 1, none⟩) ne (.slice none 0 0)).far (p := ⟨g, 2, none⟩) ne (.slice none 0 0))
  exact leave_plain (q := noQ) ⟨hres, hp, hu, bel_set (bel_set3 old ge _ _ _) ge' _, ge, ge', ne, (out.put3 _ _ _).far (p := ⟨g', 0, none⟩) (fun e => ne e.symm) _, E3.put 0 _⟩ (RdN.none0 _) (RdN.none0 _)

section
variable {P : Program} {Q : Exit → Act → World → Prop}
def Step1 (P : Program) (Q : Exit → Act → World → Prop) (l : List Oper) (n : Nat) (T : Nat → World → Value → Prop) (a0 : Act) (w0 : World) (i : Nat) (o : Oper) : Prop :=
  ∀ (a : Act) (w : World) (K : Act → World → Prop), TFr l n a0 a → Below w0.heap.size w0 w → (∀ e ∈ o.after, Region.binds .any e = true → TKn l T e.on a w) →
    (∀ v w', Below w.heap.size w w' → (∀ k, o.dst = some k → T i w' v) → K (a.put o.dst v) w') → o.wp P a w K Q
def Steps (P : Program) (Q : Exit → Act → World → Prop) (l : List Oper) (n : Nat) (T : Nat → World → Value → Prop) (a0 : Act) (w0 : World) : Nat → Nat → List Oper → Prop
  | 0, _, _ => True
  | _ + 1, _, [] => True
  | m + 1, i, o :: rest => Step1 P Q l n T a0 w0 i o ∧ Steps P Q l n T a0 w0 m (i + 1) rest
variable {l : List Oper} {n : Nat} {T : Nat → World → Value → Prop} {a0 : Act} {w0 : World}
theorem steps_zero {i : Nat} {r : List Oper} : Steps P Q l n T a0 w0 0 i r := trivial
theorem steps_cons {m i : Nat} {o : Oper} {r : List Oper} (h : Step1 P Q l n T a0 w0 i o) (hr : Steps P Q l n T a0 w0 m (i + 1) r) : Steps P Q l n T a0 w0 (m + 1) i (o :: r) := ⟨h, hr⟩
theorem steps_at : ∀ (m i : Nat) (r : List Oper), Steps P Q l n T a0 w0 m i r → ∀ j o, j < m → r[j]? = some o → Step1 P Q l n T a0 w0 (i + j) o
  | 0, _, _, _, _, _, h, _ => absurd h (by omega)
  | _ + 1, _, [], _, _, _, _, h => by simp at h
  | m + 1, i, o :: r, ⟨h1, h2⟩, j, o', hj, ho => by
    cases j with
    | zero => simp at ho; subst ho; exact h1
    | succ j =>
      have := steps_at m (i + 1) r h2 j o' (by omega) (by simpa using ho)
      rwa [show i + 1 + j = i + (j + 1) by omega] at this
theorem steps_all (h : Steps P Q l n T a0 w0 n 0 l) : ∀ i o, i < n → l[i]? = some o → Step1 P Q l n T a0 w0 i o := fun i o hi ho => by
  have := steps_at n 0 l h i o hi ho
  rwa [Nat.zero_add] at this
/-- The same where operations are guarded. -/
def StepG (P : Program) (Q : Exit → Act → World → Prop) (l : List Oper) (n : Nat) (T : Nat → World → Value → Prop) (a0 : Act) (w0 : World) (i : Nat) (o : Oper) : Prop :=
  ∀ (a : Act) (w : World) (K : Act → World → Prop), TFr l n a0 a → Below w0.heap.size w0 w → (∀ e ∈ o.after, Region.binds .any e = true → TKn l T e.on a w) →
    (∀ v w', Below w.heap.size w w' → (∀ k, o.dst = some k → T i w' v) → K (a.put o.dst v) w') → if Region.wanted o (yielded l.toArray a.tmps) = true then o.wp P a w K Q else K (a.put o.dst undef) w
theorem stepG_plain {i : Nat} {o : Oper} (hg : o.guard = none) (h : Step1 P Q l n T a0 w0 i o) : StepG P Q l n T a0 w0 i o := fun a w K h1 h2 h3 h4 => by
  rw [if_pos (by simp [Region.wanted, hg])]
  exact h a w K h1 h2 h3 h4
def StepsG (P : Program) (Q : Exit → Act → World → Prop) (l : List Oper) (n : Nat) (T : Nat → World → Value → Prop) (a0 : Act) (w0 : World) : Nat → Nat → List Oper → Prop
  | 0, _, _ => True
  | _ + 1, _, [] => True
  | m + 1, i, o :: rest => StepG P Q l n T a0 w0 i o ∧ StepsG P Q l n T a0 w0 m (i + 1) rest
theorem stepsG_zero {i : Nat} {r : List Oper} : StepsG P Q l n T a0 w0 0 i r := trivial
theorem stepsG_cons {m i : Nat} {o : Oper} {r : List Oper} (h : StepG P Q l n T a0 w0 i o) (hr : StepsG P Q l n T a0 w0 m (i + 1) r) : StepsG P Q l n T a0 w0 (m + 1) i (o :: r) := ⟨h, hr⟩
theorem stepsG_at : ∀ (m i : Nat) (r : List Oper), StepsG P Q l n T a0 w0 m i r → ∀ j o, j < m → r[j]? = some o → StepG P Q l n T a0 w0 (i + j) o
  | 0, _, _, _, _, _, h, _ => absurd h (by omega)
  | _ + 1, _, [], _, _, _, _, h => by simp at h
  | m + 1, i, o :: r, ⟨h1, h2⟩, j, o', hj, ho => by
    cases j with
    | zero => simp at ho; subst ho; exact h1
    | succ j =>
      have := stepsG_at m (i + 1) r h2 j o' (by omega) (by simpa using ho)
      rwa [show i + 1 + j = i + (j + 1) by omega] at this
theorem stepsG_all (h : StepsG P Q l n T a0 w0 n 0 l) : ∀ i o, i < n → l[i]? = some o → StepG P Q l n T a0 w0 i o := fun i o hi ho => by
  have := stepsG_at n 0 l h i o hi ho
  rwa [Nat.zero_add] at this
theorem wanted_is {o : Oper} {a : Act} {j k : Nat} {want b : Bool} (hg : o.guard = some (j, want)) (hd : (l[j]?).bind (·.dst) = some k) (hv : a.tmps[k]? = some (.bool b)) : Region.wanted o (yielded l.toArray a.tmps) = (b == want) := by
  have h : (l.toArray[j]?).bind (·.dst) = some k := by simpa using hd
  simp only [Region.wanted, hg, yielded, h, Option.bind_some, hv]
  cases b <;> cases want <;> rfl
theorem wanted_not {o : Oper} {a : Act} {j k : Nat} {want : Bool} (hg : o.guard = some (j, want)) (hd : (l[j]?).bind (·.dst) = some k) (hv : a.tmps[k]? = some undef) : Region.wanted o (yielded l.toArray a.tmps) = false := by
  have h : (l.toArray[j]?).bind (·.dst) = some k := by simpa using hd
  simp only [Region.wanted, hg, yielded, h, Option.bind_some, hv]
  cases want <;> rfl
section
variable {o : Oper} {a : Act} {w : World} {K : Act → World → Prop} {j k : Nat} {want b : Bool}
theorem guard_in (hg : o.guard = some (j, want)) (hd : (l[j]?).bind (·.dst) = some k) (hv : a.tmps[k]? = some (.bool b)) (hb : (b == want) = true) (h : o.wp P a w K Q) : if Region.wanted o (yielded l.toArray a.tmps) = true then o.wp P a w K Q else K (a.put o.dst undef) w := by
  rw [if_pos ((wanted_is hg hd hv).trans hb)]
  exact h
theorem guard_out (hg : o.guard = some (j, want)) (hd : (l[j]?).bind (·.dst) = some k) (hv : a.tmps[k]? = some (.bool b)) (hb : (b == want) = false) (h : K (a.put o.dst undef) w) : if Region.wanted o (yielded l.toArray a.tmps) = true then o.wp P a w K Q else K (a.put o.dst undef) w := by
  rw [if_neg (by rw [wanted_is hg hd hv, hb]; decide)]
  exact h
theorem guard_not (hg : o.guard = some (j, want)) (hd : (l[j]?).bind (·.dst) = some k) (hv : a.tmps[k]? = some undef) (h : K (a.put o.dst undef) w) : if Region.wanted o (yielded l.toArray a.tmps) = true then o.wp P a w K Q else K (a.put o.dst undef) w := by
  rw [if_neg (by rw [wanted_not hg hd hv]; decide)]
  exact h
end
/-- A slot that the head does not write. -/
def baseB (l : List Oper) (n k : Nat) : Bool := (List.range n).all fun i => match l[i]? with | some o => o.dst != some k | none => true
theorem TFr.base {a : Act} (h : TFr l n a0 a) {k : Nat} {v : Value} (hb : baseB l n k = true) (hv : a0.tmps[k]? = some v) : a.tmps[k]? = some v := by
  rw [h.keep k, hv]
  intro i o hi ho
  have := List.all_eq_true.1 hb i (List.mem_range.2 hi)
  rw [ho] at this
  simpa using this
/-- Facts that outlive whatever is made. -/
def LiftP (p : World → Value → Prop) : Prop := ∀ w w' v, p w v → Below w.heap.size w w' → p w' v
def VIs (x : Value) : World → Value → Prop := fun _ v => v = x
def VFit (X : Nat) : World → Value → Prop := fun w v => RdN w v (fitN X)
def VMul (X : Nat) : World → Value → Prop := fun w v => ∃ u, v = .tuple #[u, .int .i64 (fitC X)] ∧ RdN w u (fitN X)
def VOk (X : Nat) : World → Value → Prop := fun w v => X < Top ∧ RdN w v X
theorem VIs.lift (x : Value) : LiftP (VIs x) := fun _ _ _ h _ => h
theorem VFit.lift (X : Nat) : LiftP (VFit X) := fun _ _ _ h hb => RdN.below h hb
theorem VMul.lift (X : Nat) : LiftP (VMul X) := fun _ _ _ ⟨u, h, hr⟩ hb => ⟨u, h, hr.below hb⟩
theorem VOk.lift (X : Nat) : LiftP (VOk X) := fun _ _ _ ⟨h, hr⟩ hb => ⟨h, hr.below hb⟩
def TOf (ps : List (World → Value → Prop)) (i : Nat) (w : World) (v : Value) : Prop := (ps.getD i fun _ _ => True) w v
inductive LiftAll : List (World → Value → Prop) → Prop
  | nil : LiftAll []
  | cons {p : World → Value → Prop} {ps : List (World → Value → Prop)} : LiftP p → LiftAll ps → LiftAll (p :: ps)
theorem LiftAll.at_ {ps : List (World → Value → Prop)} (h : LiftAll ps) : ∀ i w w' v, TOf ps i w v → Below w.heap.size w w' → TOf ps i w' v := by
  induction h with
  | nil => intro i w w' v _ _; exact trivial
  | cons h1 _ ih =>
    intro i w w' v ht hb
    cases i with
    | zero => exact h1 w w' v ht hb
    | succ i => exact ih i w w' v ht hb
end
theorem getD_of {xs : Array Value} {k : Nat} {v : Value} (h : xs[k]? = some v) : xs.getD k undef = v := by simp [h]
theorem cons_of {α : Type} {l : List α} {n : Nat} (h : l.length = n + 1) : ∃ a l', l = a :: l' ∧ l'.length = n := by
  cases l with
  | nil => simp at h
  | cons a l' => exact ⟨a, l', rfl, by simpa using h⟩
def dstAt (l : List Oper) (i : Nat) : Option Nat := (l[i]?).bind (·.dst)
theorem dep {l : List Oper} {T : Nat → World → Value → Prop} {o : Oper} {a : Act} {w : World} (hK : ∀ e ∈ o.after, Region.binds .any e = true → TKn l T e.on a w) (m : Nat) {g : Ground} {j k : Nat} (h1 : o.after[m]? = some ⟨j, g⟩) (h2 : Region.binds .any ⟨j, g⟩ = true) (h3 : dstAt l j = some k) :
    ∃ v, a.tmps[k]? = some v ∧ T j w v := by
  obtain ⟨o', ho', hk⟩ := Option.bind_eq_some_iff.1 h3
  exact hK ⟨j, g⟩ (Array.mem_of_getElem? h1) h2 o' k ho' hk
theorem known {l : List Oper} {n : Nat} {T : Nat → World → Value → Prop} {a : Act} {w : World} (hK : ∀ i, i < n → TKn l T i a w) (j : Nat) {k : Nat} (hj : j < n) (h3 : dstAt l j = some k) : ∃ v, a.tmps[k]? = some v ∧ T j w v := by
  obtain ⟨o', ho', hk⟩ := Option.bind_eq_some_iff.1 h3
  exact hK j hj o' k ho' hk
def VQ (q : Q) : World → Value → Prop := fun w v => ∃ x y, v = .agg #[.bool q.s, x, y] ∧ RdN w x q.n ∧ RdN w y q.d
theorem VQ.lift (q : Q) : LiftP (VQ q) := fun _ _ _ ⟨x, y, h, hx, hy⟩ hb => ⟨x, y, h, hx.below hb, hy.below hb⟩
end
section
theorem lits_12 {l0 : List Value} (hs0 : l0.length = 12) : ∃ u : Nat → Value, l0 = [u 0, u 1, u 2, u 3, u 4, u 5, u 6, u 7, u 8, u 9, u 10, u 11] := by
  refine ⟨fun k => l0.getD k undef, ?_⟩
  obtain ⟨u0, l1, rfl, hs1⟩ := cons_of (n := 11) hs0; clear hs0
  obtain ⟨u1, l2, rfl, hs2⟩ := cons_of (n := 10) hs1; clear hs1
  obtain ⟨u2, l3, rfl, hs3⟩ := cons_of (n := 9) hs2; clear hs2
  obtain ⟨u3, l4, rfl, hs4⟩ := cons_of (n := 8) hs3; clear hs3
  obtain ⟨u4, l5, rfl, hs5⟩ := cons_of (n := 7) hs4; clear hs4
  obtain ⟨u5, l6, rfl, hs6⟩ := cons_of (n := 6) hs5; clear hs5
  obtain ⟨u6, l7, rfl, hs7⟩ := cons_of (n := 5) hs6; clear hs6
  obtain ⟨u7, l8, rfl, hs8⟩ := cons_of (n := 4) hs7; clear hs7
  obtain ⟨u8, l9, rfl, hs9⟩ := cons_of (n := 3) hs8; clear hs8
  obtain ⟨u9, l10, rfl, hs10⟩ := cons_of (n := 2) hs9; clear hs9
  obtain ⟨u10, l11, rfl, hs11⟩ := cons_of (n := 1) hs10; clear hs10
  obtain ⟨u11, l12, rfl, hs12⟩ := cons_of (n := 0) hs11; clear hs11
  obtain rfl := List.eq_nil_of_length_eq_zero hs12
  rfl
theorem lits_16 {l0 : List Value} (hs0 : l0.length = 16) : ∃ u : Nat → Value, l0 = [u 0, u 1, u 2, u 3, u 4, u 5, u 6, u 7, u 8, u 9, u 10, u 11, u 12, u 13, u 14, u 15] := by
  refine ⟨fun k => l0.getD k undef, ?_⟩
  obtain ⟨u0, l1, rfl, hs1⟩ := cons_of (n := 15) hs0; clear hs0
  obtain ⟨u1, l2, rfl, hs2⟩ := cons_of (n := 14) hs1; clear hs1
  obtain ⟨u2, l3, rfl, hs3⟩ := cons_of (n := 13) hs2; clear hs2
  obtain ⟨u3, l4, rfl, hs4⟩ := cons_of (n := 12) hs3; clear hs3
  obtain ⟨u4, l5, rfl, hs5⟩ := cons_of (n := 11) hs4; clear hs4
  obtain ⟨u5, l6, rfl, hs6⟩ := cons_of (n := 10) hs5; clear hs5
  obtain ⟨u6, l7, rfl, hs7⟩ := cons_of (n := 9) hs6; clear hs6
  obtain ⟨u7, l8, rfl, hs8⟩ := cons_of (n := 8) hs7; clear hs7
  obtain ⟨u8, l9, rfl, hs9⟩ := cons_of (n := 7) hs8; clear hs8
  obtain ⟨u9, l10, rfl, hs10⟩ := cons_of (n := 6) hs9; clear hs9
  obtain ⟨u10, l11, rfl, hs11⟩ := cons_of (n := 5) hs10; clear hs10
  obtain ⟨u11, l12, rfl, hs12⟩ := cons_of (n := 4) hs11; clear hs11
  obtain ⟨u12, l13, rfl, hs13⟩ := cons_of (n := 3) hs12; clear hs12
  obtain ⟨u13, l14, rfl, hs14⟩ := cons_of (n := 2) hs13; clear hs13
  obtain ⟨u14, l15, rfl, hs15⟩ := cons_of (n := 1) hs14; clear hs14
  obtain ⟨u15, l16, rfl, hs16⟩ := cons_of (n := 0) hs15; clear hs15
  obtain rfl := List.eq_nil_of_length_eq_zero hs16
  rfl
theorem lits_20 {l0 : List Value} (hs0 : l0.length = 20) : ∃ u : Nat → Value, l0 = [u 0, u 1, u 2, u 3, u 4, u 5, u 6, u 7, u 8, u 9, u 10, u 11, u 12, u 13, u 14, u 15, u 16, u 17, u 18, u 19] := by
  refine ⟨fun k => l0.getD k undef, ?_⟩
  obtain ⟨u0, l1, rfl, hs1⟩ := cons_of (n := 19) hs0; clear hs0
  obtain ⟨u1, l2, rfl, hs2⟩ := cons_of (n := 18) hs1; clear hs1
  obtain ⟨u2, l3, rfl, hs3⟩ := cons_of (n := 17) hs2; clear hs2
  obtain ⟨u3, l4, rfl, hs4⟩ := cons_of (n := 16) hs3; clear hs3
  obtain ⟨u4, l5, rfl, hs5⟩ := cons_of (n := 15) hs4; clear hs4
  obtain ⟨u5, l6, rfl, hs6⟩ := cons_of (n := 14) hs5; clear hs5
  obtain ⟨u6, l7, rfl, hs7⟩ := cons_of (n := 13) hs6; clear hs6
  obtain ⟨u7, l8, rfl, hs8⟩ := cons_of (n := 12) hs7; clear hs7
  obtain ⟨u8, l9, rfl, hs9⟩ := cons_of (n := 11) hs8; clear hs8
  obtain ⟨u9, l10, rfl, hs10⟩ := cons_of (n := 10) hs9; clear hs9
  obtain ⟨u10, l11, rfl, hs11⟩ := cons_of (n := 9) hs10; clear hs10
  obtain ⟨u11, l12, rfl, hs12⟩ := cons_of (n := 8) hs11; clear hs11
  obtain ⟨u12, l13, rfl, hs13⟩ := cons_of (n := 7) hs12; clear hs12
  obtain ⟨u13, l14, rfl, hs14⟩ := cons_of (n := 6) hs13; clear hs13
  obtain ⟨u14, l15, rfl, hs15⟩ := cons_of (n := 5) hs14; clear hs14
  obtain ⟨u15, l16, rfl, hs16⟩ := cons_of (n := 4) hs15; clear hs15
  obtain ⟨u16, l17, rfl, hs17⟩ := cons_of (n := 3) hs16; clear hs16
  obtain ⟨u17, l18, rfl, hs18⟩ := cons_of (n := 2) hs17; clear hs17
  obtain ⟨u18, l19, rfl, hs19⟩ := cons_of (n := 1) hs18; clear hs18
  obtain ⟨u19, l20, rfl, hs20⟩ := cons_of (n := 0) hs19; clear hs19
  obtain rfl := List.eq_nil_of_length_eq_zero hs20
  rfl
theorem lits_22 {l0 : List Value} (hs0 : l0.length = 22) : ∃ u : Nat → Value, l0 = [u 0, u 1, u 2, u 3, u 4, u 5, u 6, u 7, u 8, u 9, u 10, u 11, u 12, u 13, u 14, u 15, u 16, u 17, u 18, u 19, u 20, u 21] := by
  refine ⟨fun k => l0.getD k undef, ?_⟩
  obtain ⟨u0, l1, rfl, hs1⟩ := cons_of (n := 21) hs0; clear hs0
  obtain ⟨u1, l2, rfl, hs2⟩ := cons_of (n := 20) hs1; clear hs1
  obtain ⟨u2, l3, rfl, hs3⟩ := cons_of (n := 19) hs2; clear hs2
  obtain ⟨u3, l4, rfl, hs4⟩ := cons_of (n := 18) hs3; clear hs3
  obtain ⟨u4, l5, rfl, hs5⟩ := cons_of (n := 17) hs4; clear hs4
  obtain ⟨u5, l6, rfl, hs6⟩ := cons_of (n := 16) hs5; clear hs5
  obtain ⟨u6, l7, rfl, hs7⟩ := cons_of (n := 15) hs6; clear hs6
  obtain ⟨u7, l8, rfl, hs8⟩ := cons_of (n := 14) hs7; clear hs7
  obtain ⟨u8, l9, rfl, hs9⟩ := cons_of (n := 13) hs8; clear hs8
  obtain ⟨u9, l10, rfl, hs10⟩ := cons_of (n := 12) hs9; clear hs9
  obtain ⟨u10, l11, rfl, hs11⟩ := cons_of (n := 11) hs10; clear hs10
  obtain ⟨u11, l12, rfl, hs12⟩ := cons_of (n := 10) hs11; clear hs11
  obtain ⟨u12, l13, rfl, hs13⟩ := cons_of (n := 9) hs12; clear hs12
  obtain ⟨u13, l14, rfl, hs14⟩ := cons_of (n := 8) hs13; clear hs13
  obtain ⟨u14, l15, rfl, hs15⟩ := cons_of (n := 7) hs14; clear hs14
  obtain ⟨u15, l16, rfl, hs16⟩ := cons_of (n := 6) hs15; clear hs15
  obtain ⟨u16, l17, rfl, hs17⟩ := cons_of (n := 5) hs16; clear hs16
  obtain ⟨u17, l18, rfl, hs18⟩ := cons_of (n := 4) hs17; clear hs17
  obtain ⟨u18, l19, rfl, hs19⟩ := cons_of (n := 3) hs18; clear hs18
  obtain ⟨u19, l20, rfl, hs20⟩ := cons_of (n := 2) hs19; clear hs19
  obtain ⟨u20, l21, rfl, hs21⟩ := cons_of (n := 1) hs20; clear hs20
  obtain ⟨u21, l22, rfl, hs22⟩ := cons_of (n := 0) hs21; clear hs21
  obtain rfl := List.eq_nil_of_length_eq_zero hs22
  rfl
theorem lits_25 {l0 : List Value} (hs0 : l0.length = 25) : ∃ u : Nat → Value, l0 = [u 0, u 1, u 2, u 3, u 4, u 5, u 6, u 7, u 8, u 9, u 10, u 11, u 12, u 13, u 14, u 15, u 16, u 17, u 18, u 19, u 20, u 21, u 22, u 23, u 24] := by
  refine ⟨fun k => l0.getD k undef, ?_⟩
  obtain ⟨u0, l1, rfl, hs1⟩ := cons_of (n := 24) hs0; clear hs0
  obtain ⟨u1, l2, rfl, hs2⟩ := cons_of (n := 23) hs1; clear hs1
  obtain ⟨u2, l3, rfl, hs3⟩ := cons_of (n := 22) hs2; clear hs2
  obtain ⟨u3, l4, rfl, hs4⟩ := cons_of (n := 21) hs3; clear hs3
  obtain ⟨u4, l5, rfl, hs5⟩ := cons_of (n := 20) hs4; clear hs4
  obtain ⟨u5, l6, rfl, hs6⟩ := cons_of (n := 19) hs5; clear hs5
  obtain ⟨u6, l7, rfl, hs7⟩ := cons_of (n := 18) hs6; clear hs6
  obtain ⟨u7, l8, rfl, hs8⟩ := cons_of (n := 17) hs7; clear hs7
  obtain ⟨u8, l9, rfl, hs9⟩ := cons_of (n := 16) hs8; clear hs8
  obtain ⟨u9, l10, rfl, hs10⟩ := cons_of (n := 15) hs9; clear hs9
  obtain ⟨u10, l11, rfl, hs11⟩ := cons_of (n := 14) hs10; clear hs10
  obtain ⟨u11, l12, rfl, hs12⟩ := cons_of (n := 13) hs11; clear hs11
  obtain ⟨u12, l13, rfl, hs13⟩ := cons_of (n := 12) hs12; clear hs12
  obtain ⟨u13, l14, rfl, hs14⟩ := cons_of (n := 11) hs13; clear hs13
  obtain ⟨u14, l15, rfl, hs15⟩ := cons_of (n := 10) hs14; clear hs14
  obtain ⟨u15, l16, rfl, hs16⟩ := cons_of (n := 9) hs15; clear hs15
  obtain ⟨u16, l17, rfl, hs17⟩ := cons_of (n := 8) hs16; clear hs16
  obtain ⟨u17, l18, rfl, hs18⟩ := cons_of (n := 7) hs17; clear hs17
  obtain ⟨u18, l19, rfl, hs19⟩ := cons_of (n := 6) hs18; clear hs18
  obtain ⟨u19, l20, rfl, hs20⟩ := cons_of (n := 5) hs19; clear hs19
  obtain ⟨u20, l21, rfl, hs21⟩ := cons_of (n := 4) hs20; clear hs20
  obtain ⟨u21, l22, rfl, hs22⟩ := cons_of (n := 3) hs21; clear hs21
  obtain ⟨u22, l23, rfl, hs23⟩ := cons_of (n := 2) hs22; clear hs22
  obtain ⟨u23, l24, rfl, hs24⟩ := cons_of (n := 1) hs23; clear hs23
  obtain ⟨u24, l25, rfl, hs25⟩ := cons_of (n := 0) hs24; clear hs24
  obtain rfl := List.eq_nil_of_length_eq_zero hs25
  rfl
theorem lits_37 {l0 : List Value} (hs0 : l0.length = 37) : ∃ u : Nat → Value, l0 = [u 0, u 1, u 2, u 3, u 4, u 5, u 6, u 7, u 8, u 9, u 10, u 11, u 12, u 13, u 14, u 15, u 16, u 17, u 18, u 19, u 20, u 21, u 22, u 23, u 24, u 25, u 26, u 27, u 28, u 29, u 30, u 31, u 32, u 33, u 34, u 35, u 36] := by
  refine ⟨fun k => l0.getD k undef, ?_⟩
  obtain ⟨u0, l1, rfl, hs1⟩ := cons_of (n := 36) hs0; clear hs0
  obtain ⟨u1, l2, rfl, hs2⟩ := cons_of (n := 35) hs1; clear hs1
  obtain ⟨u2, l3, rfl, hs3⟩ := cons_of (n := 34) hs2; clear hs2
  obtain ⟨u3, l4, rfl, hs4⟩ := cons_of (n := 33) hs3; clear hs3
  obtain ⟨u4, l5, rfl, hs5⟩ := cons_of (n := 32) hs4; clear hs4
  obtain ⟨u5, l6, rfl, hs6⟩ := cons_of (n := 31) hs5; clear hs5
  obtain ⟨u6, l7, rfl, hs7⟩ := cons_of (n := 30) hs6; clear hs6
  obtain ⟨u7, l8, rfl, hs8⟩ := cons_of (n := 29) hs7; clear hs7
  obtain ⟨u8, l9, rfl, hs9⟩ := cons_of (n := 28) hs8; clear hs8
  obtain ⟨u9, l10, rfl, hs10⟩ := cons_of (n := 27) hs9; clear hs9
  obtain ⟨u10, l11, rfl, hs11⟩ := cons_of (n := 26) hs10; clear hs10
  obtain ⟨u11, l12, rfl, hs12⟩ := cons_of (n := 25) hs11; clear hs11
  obtain ⟨u12, l13, rfl, hs13⟩ := cons_of (n := 24) hs12; clear hs12
  obtain ⟨u13, l14, rfl, hs14⟩ := cons_of (n := 23) hs13; clear hs13
  obtain ⟨u14, l15, rfl, hs15⟩ := cons_of (n := 22) hs14; clear hs14
  obtain ⟨u15, l16, rfl, hs16⟩ := cons_of (n := 21) hs15; clear hs15
  obtain ⟨u16, l17, rfl, hs17⟩ := cons_of (n := 20) hs16; clear hs16
  obtain ⟨u17, l18, rfl, hs18⟩ := cons_of (n := 19) hs17; clear hs17
  obtain ⟨u18, l19, rfl, hs19⟩ := cons_of (n := 18) hs18; clear hs18
  obtain ⟨u19, l20, rfl, hs20⟩ := cons_of (n := 17) hs19; clear hs19
  obtain ⟨u20, l21, rfl, hs21⟩ := cons_of (n := 16) hs20; clear hs20
  obtain ⟨u21, l22, rfl, hs22⟩ := cons_of (n := 15) hs21; clear hs21
  obtain ⟨u22, l23, rfl, hs23⟩ := cons_of (n := 14) hs22; clear hs22
  obtain ⟨u23, l24, rfl, hs24⟩ := cons_of (n := 13) hs23; clear hs23
  obtain ⟨u24, l25, rfl, hs25⟩ := cons_of (n := 12) hs24; clear hs24
  obtain ⟨u25, l26, rfl, hs26⟩ := cons_of (n := 11) hs25; clear hs25
  obtain ⟨u26, l27, rfl, hs27⟩ := cons_of (n := 10) hs26; clear hs26
  obtain ⟨u27, l28, rfl, hs28⟩ := cons_of (n := 9) hs27; clear hs27
  obtain ⟨u28, l29, rfl, hs29⟩ := cons_of (n := 8) hs28; clear hs28
  obtain ⟨u29, l30, rfl, hs30⟩ := cons_of (n := 7) hs29; clear hs29
  obtain ⟨u30, l31, rfl, hs31⟩ := cons_of (n := 6) hs30; clear hs30
  obtain ⟨u31, l32, rfl, hs32⟩ := cons_of (n := 5) hs31; clear hs31
  obtain ⟨u32, l33, rfl, hs33⟩ := cons_of (n := 4) hs32; clear hs32
  obtain ⟨u33, l34, rfl, hs34⟩ := cons_of (n := 3) hs33; clear hs33
  obtain ⟨u34, l35, rfl, hs35⟩ := cons_of (n := 2) hs34; clear hs34
  obtain ⟨u35, l36, rfl, hs36⟩ := cons_of (n := 1) hs35; clear hs35
  obtain ⟨u36, l37, rfl, hs37⟩ := cons_of (n := 0) hs36; clear hs36
  obtain rfl := List.eq_nil_of_length_eq_zero hs37
  rfl
theorem lits_39 {l0 : List Value} (hs0 : l0.length = 39) : ∃ u : Nat → Value, l0 = [u 0, u 1, u 2, u 3, u 4, u 5, u 6, u 7, u 8, u 9, u 10, u 11, u 12, u 13, u 14, u 15, u 16, u 17, u 18, u 19, u 20, u 21, u 22, u 23, u 24, u 25, u 26, u 27, u 28, u 29, u 30, u 31, u 32, u 33, u 34, u 35, u 36, u 37, u 38] := by
  refine ⟨fun k => l0.getD k undef, ?_⟩
  obtain ⟨u0, l1, rfl, hs1⟩ := cons_of (n := 38) hs0; clear hs0
  obtain ⟨u1, l2, rfl, hs2⟩ := cons_of (n := 37) hs1; clear hs1
  obtain ⟨u2, l3, rfl, hs3⟩ := cons_of (n := 36) hs2; clear hs2
  obtain ⟨u3, l4, rfl, hs4⟩ := cons_of (n := 35) hs3; clear hs3
  obtain ⟨u4, l5, rfl, hs5⟩ := cons_of (n := 34) hs4; clear hs4
  obtain ⟨u5, l6, rfl, hs6⟩ := cons_of (n := 33) hs5; clear hs5
  obtain ⟨u6, l7, rfl, hs7⟩ := cons_of (n := 32) hs6; clear hs6
  obtain ⟨u7, l8, rfl, hs8⟩ := cons_of (n := 31) hs7; clear hs7
  obtain ⟨u8, l9, rfl, hs9⟩ := cons_of (n := 30) hs8; clear hs8
  obtain ⟨u9, l10, rfl, hs10⟩ := cons_of (n := 29) hs9; clear hs9
  obtain ⟨u10, l11, rfl, hs11⟩ := cons_of (n := 28) hs10; clear hs10
  obtain ⟨u11, l12, rfl, hs12⟩ := cons_of (n := 27) hs11; clear hs11
  obtain ⟨u12, l13, rfl, hs13⟩ := cons_of (n := 26) hs12; clear hs12
  obtain ⟨u13, l14, rfl, hs14⟩ := cons_of (n := 25) hs13; clear hs13
  obtain ⟨u14, l15, rfl, hs15⟩ := cons_of (n := 24) hs14; clear hs14
  obtain ⟨u15, l16, rfl, hs16⟩ := cons_of (n := 23) hs15; clear hs15
  obtain ⟨u16, l17, rfl, hs17⟩ := cons_of (n := 22) hs16; clear hs16
  obtain ⟨u17, l18, rfl, hs18⟩ := cons_of (n := 21) hs17; clear hs17
  obtain ⟨u18, l19, rfl, hs19⟩ := cons_of (n := 20) hs18; clear hs18
  obtain ⟨u19, l20, rfl, hs20⟩ := cons_of (n := 19) hs19; clear hs19
  obtain ⟨u20, l21, rfl, hs21⟩ := cons_of (n := 18) hs20; clear hs20
  obtain ⟨u21, l22, rfl, hs22⟩ := cons_of (n := 17) hs21; clear hs21
  obtain ⟨u22, l23, rfl, hs23⟩ := cons_of (n := 16) hs22; clear hs22
  obtain ⟨u23, l24, rfl, hs24⟩ := cons_of (n := 15) hs23; clear hs23
  obtain ⟨u24, l25, rfl, hs25⟩ := cons_of (n := 14) hs24; clear hs24
  obtain ⟨u25, l26, rfl, hs26⟩ := cons_of (n := 13) hs25; clear hs25
  obtain ⟨u26, l27, rfl, hs27⟩ := cons_of (n := 12) hs26; clear hs26
  obtain ⟨u27, l28, rfl, hs28⟩ := cons_of (n := 11) hs27; clear hs27
  obtain ⟨u28, l29, rfl, hs29⟩ := cons_of (n := 10) hs28; clear hs28
  obtain ⟨u29, l30, rfl, hs30⟩ := cons_of (n := 9) hs29; clear hs29
  obtain ⟨u30, l31, rfl, hs31⟩ := cons_of (n := 8) hs30; clear hs30
  obtain ⟨u31, l32, rfl, hs32⟩ := cons_of (n := 7) hs31; clear hs31
  obtain ⟨u32, l33, rfl, hs33⟩ := cons_of (n := 6) hs32; clear hs32
  obtain ⟨u33, l34, rfl, hs34⟩ := cons_of (n := 5) hs33; clear hs33
  obtain ⟨u34, l35, rfl, hs35⟩ := cons_of (n := 4) hs34; clear hs34
  obtain ⟨u35, l36, rfl, hs36⟩ := cons_of (n := 3) hs35; clear hs35
  obtain ⟨u36, l37, rfl, hs37⟩ := cons_of (n := 2) hs36; clear hs36
  obtain ⟨u37, l38, rfl, hs38⟩ := cons_of (n := 1) hs37; clear hs37
  obtain ⟨u38, l39, rfl, hs39⟩ := cons_of (n := 0) hs38; clear hs38
  obtain rfl := List.eq_nil_of_length_eq_zero hs39
  rfl
theorem lits_44 {l0 : List Value} (hs0 : l0.length = 44) : ∃ u : Nat → Value, l0 = [u 0, u 1, u 2, u 3, u 4, u 5, u 6, u 7, u 8, u 9, u 10, u 11, u 12, u 13, u 14, u 15, u 16, u 17, u 18, u 19, u 20, u 21, u 22, u 23, u 24, u 25, u 26, u 27, u 28, u 29, u 30, u 31, u 32, u 33, u 34, u 35, u 36, u 37, u 38, u 39, u 40, u 41, u 42, u 43] := by
  refine ⟨fun k => l0.getD k undef, ?_⟩
  obtain ⟨u0, l1, rfl, hs1⟩ := cons_of (n := 43) hs0; clear hs0
  obtain ⟨u1, l2, rfl, hs2⟩ := cons_of (n := 42) hs1; clear hs1
  obtain ⟨u2, l3, rfl, hs3⟩ := cons_of (n := 41) hs2; clear hs2
  obtain ⟨u3, l4, rfl, hs4⟩ := cons_of (n := 40) hs3; clear hs3
  obtain ⟨u4, l5, rfl, hs5⟩ := cons_of (n := 39) hs4; clear hs4
  obtain ⟨u5, l6, rfl, hs6⟩ := cons_of (n := 38) hs5; clear hs5
  obtain ⟨u6, l7, rfl, hs7⟩ := cons_of (n := 37) hs6; clear hs6
  obtain ⟨u7, l8, rfl, hs8⟩ := cons_of (n := 36) hs7; clear hs7
  obtain ⟨u8, l9, rfl, hs9⟩ := cons_of (n := 35) hs8; clear hs8
  obtain ⟨u9, l10, rfl, hs10⟩ := cons_of (n := 34) hs9; clear hs9
  obtain ⟨u10, l11, rfl, hs11⟩ := cons_of (n := 33) hs10; clear hs10
  obtain ⟨u11, l12, rfl, hs12⟩ := cons_of (n := 32) hs11; clear hs11
  obtain ⟨u12, l13, rfl, hs13⟩ := cons_of (n := 31) hs12; clear hs12
  obtain ⟨u13, l14, rfl, hs14⟩ := cons_of (n := 30) hs13; clear hs13
  obtain ⟨u14, l15, rfl, hs15⟩ := cons_of (n := 29) hs14; clear hs14
  obtain ⟨u15, l16, rfl, hs16⟩ := cons_of (n := 28) hs15; clear hs15
  obtain ⟨u16, l17, rfl, hs17⟩ := cons_of (n := 27) hs16; clear hs16
  obtain ⟨u17, l18, rfl, hs18⟩ := cons_of (n := 26) hs17; clear hs17
  obtain ⟨u18, l19, rfl, hs19⟩ := cons_of (n := 25) hs18; clear hs18
  obtain ⟨u19, l20, rfl, hs20⟩ := cons_of (n := 24) hs19; clear hs19
  obtain ⟨u20, l21, rfl, hs21⟩ := cons_of (n := 23) hs20; clear hs20
  obtain ⟨u21, l22, rfl, hs22⟩ := cons_of (n := 22) hs21; clear hs21
  obtain ⟨u22, l23, rfl, hs23⟩ := cons_of (n := 21) hs22; clear hs22
  obtain ⟨u23, l24, rfl, hs24⟩ := cons_of (n := 20) hs23; clear hs23
  obtain ⟨u24, l25, rfl, hs25⟩ := cons_of (n := 19) hs24; clear hs24
  obtain ⟨u25, l26, rfl, hs26⟩ := cons_of (n := 18) hs25; clear hs25
  obtain ⟨u26, l27, rfl, hs27⟩ := cons_of (n := 17) hs26; clear hs26
  obtain ⟨u27, l28, rfl, hs28⟩ := cons_of (n := 16) hs27; clear hs27
  obtain ⟨u28, l29, rfl, hs29⟩ := cons_of (n := 15) hs28; clear hs28
  obtain ⟨u29, l30, rfl, hs30⟩ := cons_of (n := 14) hs29; clear hs29
  obtain ⟨u30, l31, rfl, hs31⟩ := cons_of (n := 13) hs30; clear hs30
  obtain ⟨u31, l32, rfl, hs32⟩ := cons_of (n := 12) hs31; clear hs31
  obtain ⟨u32, l33, rfl, hs33⟩ := cons_of (n := 11) hs32; clear hs32
  obtain ⟨u33, l34, rfl, hs34⟩ := cons_of (n := 10) hs33; clear hs33
  obtain ⟨u34, l35, rfl, hs35⟩ := cons_of (n := 9) hs34; clear hs34
  obtain ⟨u35, l36, rfl, hs36⟩ := cons_of (n := 8) hs35; clear hs35
  obtain ⟨u36, l37, rfl, hs37⟩ := cons_of (n := 7) hs36; clear hs36
  obtain ⟨u37, l38, rfl, hs38⟩ := cons_of (n := 6) hs37; clear hs37
  obtain ⟨u38, l39, rfl, hs39⟩ := cons_of (n := 5) hs38; clear hs38
  obtain ⟨u39, l40, rfl, hs40⟩ := cons_of (n := 4) hs39; clear hs39
  obtain ⟨u40, l41, rfl, hs41⟩ := cons_of (n := 3) hs40; clear hs40
  obtain ⟨u41, l42, rfl, hs42⟩ := cons_of (n := 2) hs41; clear hs41
  obtain ⟨u42, l43, rfl, hs43⟩ := cons_of (n := 1) hs42; clear hs42
  obtain ⟨u43, l44, rfl, hs44⟩ := cons_of (n := 0) hs43; clear hs43
  obtain rfl := List.eq_nil_of_length_eq_zero hs44
  rfl
theorem lits_54 {l0 : List Value} (hs0 : l0.length = 54) : ∃ u : Nat → Value, l0 = [u 0, u 1, u 2, u 3, u 4, u 5, u 6, u 7, u 8, u 9, u 10, u 11, u 12, u 13, u 14, u 15, u 16, u 17, u 18, u 19, u 20, u 21, u 22, u 23, u 24, u 25, u 26, u 27, u 28, u 29, u 30, u 31, u 32, u 33, u 34, u 35, u 36, u 37, u 38, u 39, u 40, u 41, u 42, u 43, u 44, u 45, u 46, u 47, u 48, u 49, u 50, u 51, u 52, u 53] := by
  refine ⟨fun k => l0.getD k undef, ?_⟩
  obtain ⟨u0, l1, rfl, hs1⟩ := cons_of (n := 53) hs0; clear hs0
  obtain ⟨u1, l2, rfl, hs2⟩ := cons_of (n := 52) hs1; clear hs1
  obtain ⟨u2, l3, rfl, hs3⟩ := cons_of (n := 51) hs2; clear hs2
  obtain ⟨u3, l4, rfl, hs4⟩ := cons_of (n := 50) hs3; clear hs3
  obtain ⟨u4, l5, rfl, hs5⟩ := cons_of (n := 49) hs4; clear hs4
  obtain ⟨u5, l6, rfl, hs6⟩ := cons_of (n := 48) hs5; clear hs5
  obtain ⟨u6, l7, rfl, hs7⟩ := cons_of (n := 47) hs6; clear hs6
  obtain ⟨u7, l8, rfl, hs8⟩ := cons_of (n := 46) hs7; clear hs7
  obtain ⟨u8, l9, rfl, hs9⟩ := cons_of (n := 45) hs8; clear hs8
  obtain ⟨u9, l10, rfl, hs10⟩ := cons_of (n := 44) hs9; clear hs9
  obtain ⟨u10, l11, rfl, hs11⟩ := cons_of (n := 43) hs10; clear hs10
  obtain ⟨u11, l12, rfl, hs12⟩ := cons_of (n := 42) hs11; clear hs11
  obtain ⟨u12, l13, rfl, hs13⟩ := cons_of (n := 41) hs12; clear hs12
  obtain ⟨u13, l14, rfl, hs14⟩ := cons_of (n := 40) hs13; clear hs13
  obtain ⟨u14, l15, rfl, hs15⟩ := cons_of (n := 39) hs14; clear hs14
  obtain ⟨u15, l16, rfl, hs16⟩ := cons_of (n := 38) hs15; clear hs15
  obtain ⟨u16, l17, rfl, hs17⟩ := cons_of (n := 37) hs16; clear hs16
  obtain ⟨u17, l18, rfl, hs18⟩ := cons_of (n := 36) hs17; clear hs17
  obtain ⟨u18, l19, rfl, hs19⟩ := cons_of (n := 35) hs18; clear hs18
  obtain ⟨u19, l20, rfl, hs20⟩ := cons_of (n := 34) hs19; clear hs19
  obtain ⟨u20, l21, rfl, hs21⟩ := cons_of (n := 33) hs20; clear hs20
  obtain ⟨u21, l22, rfl, hs22⟩ := cons_of (n := 32) hs21; clear hs21
  obtain ⟨u22, l23, rfl, hs23⟩ := cons_of (n := 31) hs22; clear hs22
  obtain ⟨u23, l24, rfl, hs24⟩ := cons_of (n := 30) hs23; clear hs23
  obtain ⟨u24, l25, rfl, hs25⟩ := cons_of (n := 29) hs24; clear hs24
  obtain ⟨u25, l26, rfl, hs26⟩ := cons_of (n := 28) hs25; clear hs25
  obtain ⟨u26, l27, rfl, hs27⟩ := cons_of (n := 27) hs26; clear hs26
  obtain ⟨u27, l28, rfl, hs28⟩ := cons_of (n := 26) hs27; clear hs27
  obtain ⟨u28, l29, rfl, hs29⟩ := cons_of (n := 25) hs28; clear hs28
  obtain ⟨u29, l30, rfl, hs30⟩ := cons_of (n := 24) hs29; clear hs29
  obtain ⟨u30, l31, rfl, hs31⟩ := cons_of (n := 23) hs30; clear hs30
  obtain ⟨u31, l32, rfl, hs32⟩ := cons_of (n := 22) hs31; clear hs31
  obtain ⟨u32, l33, rfl, hs33⟩ := cons_of (n := 21) hs32; clear hs32
  obtain ⟨u33, l34, rfl, hs34⟩ := cons_of (n := 20) hs33; clear hs33
  obtain ⟨u34, l35, rfl, hs35⟩ := cons_of (n := 19) hs34; clear hs34
  obtain ⟨u35, l36, rfl, hs36⟩ := cons_of (n := 18) hs35; clear hs35
  obtain ⟨u36, l37, rfl, hs37⟩ := cons_of (n := 17) hs36; clear hs36
  obtain ⟨u37, l38, rfl, hs38⟩ := cons_of (n := 16) hs37; clear hs37
  obtain ⟨u38, l39, rfl, hs39⟩ := cons_of (n := 15) hs38; clear hs38
  obtain ⟨u39, l40, rfl, hs40⟩ := cons_of (n := 14) hs39; clear hs39
  obtain ⟨u40, l41, rfl, hs41⟩ := cons_of (n := 13) hs40; clear hs40
  obtain ⟨u41, l42, rfl, hs42⟩ := cons_of (n := 12) hs41; clear hs41
  obtain ⟨u42, l43, rfl, hs43⟩ := cons_of (n := 11) hs42; clear hs42
  obtain ⟨u43, l44, rfl, hs44⟩ := cons_of (n := 10) hs43; clear hs43
  obtain ⟨u44, l45, rfl, hs45⟩ := cons_of (n := 9) hs44; clear hs44
  obtain ⟨u45, l46, rfl, hs46⟩ := cons_of (n := 8) hs45; clear hs45
  obtain ⟨u46, l47, rfl, hs47⟩ := cons_of (n := 7) hs46; clear hs46
  obtain ⟨u47, l48, rfl, hs48⟩ := cons_of (n := 6) hs47; clear hs47
  obtain ⟨u48, l49, rfl, hs49⟩ := cons_of (n := 5) hs48; clear hs48
  obtain ⟨u49, l50, rfl, hs50⟩ := cons_of (n := 4) hs49; clear hs49
  obtain ⟨u50, l51, rfl, hs51⟩ := cons_of (n := 3) hs50; clear hs50
  obtain ⟨u51, l52, rfl, hs52⟩ := cons_of (n := 2) hs51; clear hs51
  obtain ⟨u52, l53, rfl, hs53⟩ := cons_of (n := 1) hs52; clear hs52
  obtain ⟨u53, l54, rfl, hs54⟩ := cons_of (n := 0) hs53; clear hs53
  obtain rfl := List.eq_nil_of_length_eq_zero hs54
  rfl
theorem lits_63 {l0 : List Value} (hs0 : l0.length = 63) : ∃ u : Nat → Value, l0 = [u 0, u 1, u 2, u 3, u 4, u 5, u 6, u 7, u 8, u 9, u 10, u 11, u 12, u 13, u 14, u 15, u 16, u 17, u 18, u 19, u 20, u 21, u 22, u 23, u 24, u 25, u 26, u 27, u 28, u 29, u 30, u 31, u 32, u 33, u 34, u 35, u 36, u 37, u 38, u 39, u 40, u 41, u 42, u 43, u 44, u 45, u 46, u 47, u 48, u 49, u 50, u 51, u 52, u 53, u 54, u 55, u 56, u 57, u 58, u 59, u 60, u 61, u 62] := by
  refine ⟨fun k => l0.getD k undef, ?_⟩
  obtain ⟨u0, l1, rfl, hs1⟩ := cons_of (n := 62) hs0; clear hs0
  obtain ⟨u1, l2, rfl, hs2⟩ := cons_of (n := 61) hs1; clear hs1
  obtain ⟨u2, l3, rfl, hs3⟩ := cons_of (n := 60) hs2; clear hs2
  obtain ⟨u3, l4, rfl, hs4⟩ := cons_of (n := 59) hs3; clear hs3
  obtain ⟨u4, l5, rfl, hs5⟩ := cons_of (n := 58) hs4; clear hs4
  obtain ⟨u5, l6, rfl, hs6⟩ := cons_of (n := 57) hs5; clear hs5
  obtain ⟨u6, l7, rfl, hs7⟩ := cons_of (n := 56) hs6; clear hs6
  obtain ⟨u7, l8, rfl, hs8⟩ := cons_of (n := 55) hs7; clear hs7
  obtain ⟨u8, l9, rfl, hs9⟩ := cons_of (n := 54) hs8; clear hs8
  obtain ⟨u9, l10, rfl, hs10⟩ := cons_of (n := 53) hs9; clear hs9
  obtain ⟨u10, l11, rfl, hs11⟩ := cons_of (n := 52) hs10; clear hs10
  obtain ⟨u11, l12, rfl, hs12⟩ := cons_of (n := 51) hs11; clear hs11
  obtain ⟨u12, l13, rfl, hs13⟩ := cons_of (n := 50) hs12; clear hs12
  obtain ⟨u13, l14, rfl, hs14⟩ := cons_of (n := 49) hs13; clear hs13
  obtain ⟨u14, l15, rfl, hs15⟩ := cons_of (n := 48) hs14; clear hs14
  obtain ⟨u15, l16, rfl, hs16⟩ := cons_of (n := 47) hs15; clear hs15
  obtain ⟨u16, l17, rfl, hs17⟩ := cons_of (n := 46) hs16; clear hs16
  obtain ⟨u17, l18, rfl, hs18⟩ := cons_of (n := 45) hs17; clear hs17
  obtain ⟨u18, l19, rfl, hs19⟩ := cons_of (n := 44) hs18; clear hs18
  obtain ⟨u19, l20, rfl, hs20⟩ := cons_of (n := 43) hs19; clear hs19
  obtain ⟨u20, l21, rfl, hs21⟩ := cons_of (n := 42) hs20; clear hs20
  obtain ⟨u21, l22, rfl, hs22⟩ := cons_of (n := 41) hs21; clear hs21
  obtain ⟨u22, l23, rfl, hs23⟩ := cons_of (n := 40) hs22; clear hs22
  obtain ⟨u23, l24, rfl, hs24⟩ := cons_of (n := 39) hs23; clear hs23
  obtain ⟨u24, l25, rfl, hs25⟩ := cons_of (n := 38) hs24; clear hs24
  obtain ⟨u25, l26, rfl, hs26⟩ := cons_of (n := 37) hs25; clear hs25
  obtain ⟨u26, l27, rfl, hs27⟩ := cons_of (n := 36) hs26; clear hs26
  obtain ⟨u27, l28, rfl, hs28⟩ := cons_of (n := 35) hs27; clear hs27
  obtain ⟨u28, l29, rfl, hs29⟩ := cons_of (n := 34) hs28; clear hs28
  obtain ⟨u29, l30, rfl, hs30⟩ := cons_of (n := 33) hs29; clear hs29
  obtain ⟨u30, l31, rfl, hs31⟩ := cons_of (n := 32) hs30; clear hs30
  obtain ⟨u31, l32, rfl, hs32⟩ := cons_of (n := 31) hs31; clear hs31
  obtain ⟨u32, l33, rfl, hs33⟩ := cons_of (n := 30) hs32; clear hs32
  obtain ⟨u33, l34, rfl, hs34⟩ := cons_of (n := 29) hs33; clear hs33
  obtain ⟨u34, l35, rfl, hs35⟩ := cons_of (n := 28) hs34; clear hs34
  obtain ⟨u35, l36, rfl, hs36⟩ := cons_of (n := 27) hs35; clear hs35
  obtain ⟨u36, l37, rfl, hs37⟩ := cons_of (n := 26) hs36; clear hs36
  obtain ⟨u37, l38, rfl, hs38⟩ := cons_of (n := 25) hs37; clear hs37
  obtain ⟨u38, l39, rfl, hs39⟩ := cons_of (n := 24) hs38; clear hs38
  obtain ⟨u39, l40, rfl, hs40⟩ := cons_of (n := 23) hs39; clear hs39
  obtain ⟨u40, l41, rfl, hs41⟩ := cons_of (n := 22) hs40; clear hs40
  obtain ⟨u41, l42, rfl, hs42⟩ := cons_of (n := 21) hs41; clear hs41
  obtain ⟨u42, l43, rfl, hs43⟩ := cons_of (n := 20) hs42; clear hs42
  obtain ⟨u43, l44, rfl, hs44⟩ := cons_of (n := 19) hs43; clear hs43
  obtain ⟨u44, l45, rfl, hs45⟩ := cons_of (n := 18) hs44; clear hs44
  obtain ⟨u45, l46, rfl, hs46⟩ := cons_of (n := 17) hs45; clear hs45
  obtain ⟨u46, l47, rfl, hs47⟩ := cons_of (n := 16) hs46; clear hs46
  obtain ⟨u47, l48, rfl, hs48⟩ := cons_of (n := 15) hs47; clear hs47
  obtain ⟨u48, l49, rfl, hs49⟩ := cons_of (n := 14) hs48; clear hs48
  obtain ⟨u49, l50, rfl, hs50⟩ := cons_of (n := 13) hs49; clear hs49
  obtain ⟨u50, l51, rfl, hs51⟩ := cons_of (n := 12) hs50; clear hs50
  obtain ⟨u51, l52, rfl, hs52⟩ := cons_of (n := 11) hs51; clear hs51
  obtain ⟨u52, l53, rfl, hs53⟩ := cons_of (n := 10) hs52; clear hs52
  obtain ⟨u53, l54, rfl, hs54⟩ := cons_of (n := 9) hs53; clear hs53
  obtain ⟨u54, l55, rfl, hs55⟩ := cons_of (n := 8) hs54; clear hs54
  obtain ⟨u55, l56, rfl, hs56⟩ := cons_of (n := 7) hs55; clear hs55
  obtain ⟨u56, l57, rfl, hs57⟩ := cons_of (n := 6) hs56; clear hs56
  obtain ⟨u57, l58, rfl, hs58⟩ := cons_of (n := 5) hs57; clear hs57
  obtain ⟨u58, l59, rfl, hs59⟩ := cons_of (n := 4) hs58; clear hs58
  obtain ⟨u59, l60, rfl, hs60⟩ := cons_of (n := 3) hs59; clear hs59
  obtain ⟨u60, l61, rfl, hs61⟩ := cons_of (n := 2) hs60; clear hs60
  obtain ⟨u61, l62, rfl, hs62⟩ := cons_of (n := 1) hs61; clear hs61
  obtain ⟨u62, l63, rfl, hs63⟩ := cons_of (n := 0) hs62; clear hs62
  obtain rfl := List.eq_nil_of_length_eq_zero hs63
  rfl
theorem lits_75 {l0 : List Value} (hs0 : l0.length = 75) : ∃ u : Nat → Value, l0 = [u 0, u 1, u 2, u 3, u 4, u 5, u 6, u 7, u 8, u 9, u 10, u 11, u 12, u 13, u 14, u 15, u 16, u 17, u 18, u 19, u 20, u 21, u 22, u 23, u 24, u 25, u 26, u 27, u 28, u 29, u 30, u 31, u 32, u 33, u 34, u 35, u 36, u 37, u 38, u 39, u 40, u 41, u 42, u 43, u 44, u 45, u 46, u 47, u 48, u 49, u 50, u 51, u 52, u 53, u 54, u 55, u 56, u 57, u 58, u 59, u 60, u 61, u 62, u 63, u 64, u 65, u 66, u 67, u 68, u 69, u 70, u 71, u 72, u 73, u 74] := by
  refine ⟨fun k => l0.getD k undef, ?_⟩
  obtain ⟨u0, l1, rfl, hs1⟩ := cons_of (n := 74) hs0; clear hs0
  obtain ⟨u1, l2, rfl, hs2⟩ := cons_of (n := 73) hs1; clear hs1
  obtain ⟨u2, l3, rfl, hs3⟩ := cons_of (n := 72) hs2; clear hs2
  obtain ⟨u3, l4, rfl, hs4⟩ := cons_of (n := 71) hs3; clear hs3
  obtain ⟨u4, l5, rfl, hs5⟩ := cons_of (n := 70) hs4; clear hs4
  obtain ⟨u5, l6, rfl, hs6⟩ := cons_of (n := 69) hs5; clear hs5
  obtain ⟨u6, l7, rfl, hs7⟩ := cons_of (n := 68) hs6; clear hs6
  obtain ⟨u7, l8, rfl, hs8⟩ := cons_of (n := 67) hs7; clear hs7
  obtain ⟨u8, l9, rfl, hs9⟩ := cons_of (n := 66) hs8; clear hs8
  obtain ⟨u9, l10, rfl, hs10⟩ := cons_of (n := 65) hs9; clear hs9
  obtain ⟨u10, l11, rfl, hs11⟩ := cons_of (n := 64) hs10; clear hs10
  obtain ⟨u11, l12, rfl, hs12⟩ := cons_of (n := 63) hs11; clear hs11
  obtain ⟨u12, l13, rfl, hs13⟩ := cons_of (n := 62) hs12; clear hs12
  obtain ⟨u13, l14, rfl, hs14⟩ := cons_of (n := 61) hs13; clear hs13
  obtain ⟨u14, l15, rfl, hs15⟩ := cons_of (n := 60) hs14; clear hs14
  obtain ⟨u15, l16, rfl, hs16⟩ := cons_of (n := 59) hs15; clear hs15
  obtain ⟨u16, l17, rfl, hs17⟩ := cons_of (n := 58) hs16; clear hs16
  obtain ⟨u17, l18, rfl, hs18⟩ := cons_of (n := 57) hs17; clear hs17
  obtain ⟨u18, l19, rfl, hs19⟩ := cons_of (n := 56) hs18; clear hs18
  obtain ⟨u19, l20, rfl, hs20⟩ := cons_of (n := 55) hs19; clear hs19
  obtain ⟨u20, l21, rfl, hs21⟩ := cons_of (n := 54) hs20; clear hs20
  obtain ⟨u21, l22, rfl, hs22⟩ := cons_of (n := 53) hs21; clear hs21
  obtain ⟨u22, l23, rfl, hs23⟩ := cons_of (n := 52) hs22; clear hs22
  obtain ⟨u23, l24, rfl, hs24⟩ := cons_of (n := 51) hs23; clear hs23
  obtain ⟨u24, l25, rfl, hs25⟩ := cons_of (n := 50) hs24; clear hs24
  obtain ⟨u25, l26, rfl, hs26⟩ := cons_of (n := 49) hs25; clear hs25
  obtain ⟨u26, l27, rfl, hs27⟩ := cons_of (n := 48) hs26; clear hs26
  obtain ⟨u27, l28, rfl, hs28⟩ := cons_of (n := 47) hs27; clear hs27
  obtain ⟨u28, l29, rfl, hs29⟩ := cons_of (n := 46) hs28; clear hs28
  obtain ⟨u29, l30, rfl, hs30⟩ := cons_of (n := 45) hs29; clear hs29
  obtain ⟨u30, l31, rfl, hs31⟩ := cons_of (n := 44) hs30; clear hs30
  obtain ⟨u31, l32, rfl, hs32⟩ := cons_of (n := 43) hs31; clear hs31
  obtain ⟨u32, l33, rfl, hs33⟩ := cons_of (n := 42) hs32; clear hs32
  obtain ⟨u33, l34, rfl, hs34⟩ := cons_of (n := 41) hs33; clear hs33
  obtain ⟨u34, l35, rfl, hs35⟩ := cons_of (n := 40) hs34; clear hs34
  obtain ⟨u35, l36, rfl, hs36⟩ := cons_of (n := 39) hs35; clear hs35
  obtain ⟨u36, l37, rfl, hs37⟩ := cons_of (n := 38) hs36; clear hs36
  obtain ⟨u37, l38, rfl, hs38⟩ := cons_of (n := 37) hs37; clear hs37
  obtain ⟨u38, l39, rfl, hs39⟩ := cons_of (n := 36) hs38; clear hs38
  obtain ⟨u39, l40, rfl, hs40⟩ := cons_of (n := 35) hs39; clear hs39
  obtain ⟨u40, l41, rfl, hs41⟩ := cons_of (n := 34) hs40; clear hs40
  obtain ⟨u41, l42, rfl, hs42⟩ := cons_of (n := 33) hs41; clear hs41
  obtain ⟨u42, l43, rfl, hs43⟩ := cons_of (n := 32) hs42; clear hs42
  obtain ⟨u43, l44, rfl, hs44⟩ := cons_of (n := 31) hs43; clear hs43
  obtain ⟨u44, l45, rfl, hs45⟩ := cons_of (n := 30) hs44; clear hs44
  obtain ⟨u45, l46, rfl, hs46⟩ := cons_of (n := 29) hs45; clear hs45
  obtain ⟨u46, l47, rfl, hs47⟩ := cons_of (n := 28) hs46; clear hs46
  obtain ⟨u47, l48, rfl, hs48⟩ := cons_of (n := 27) hs47; clear hs47
  obtain ⟨u48, l49, rfl, hs49⟩ := cons_of (n := 26) hs48; clear hs48
  obtain ⟨u49, l50, rfl, hs50⟩ := cons_of (n := 25) hs49; clear hs49
  obtain ⟨u50, l51, rfl, hs51⟩ := cons_of (n := 24) hs50; clear hs50
  obtain ⟨u51, l52, rfl, hs52⟩ := cons_of (n := 23) hs51; clear hs51
  obtain ⟨u52, l53, rfl, hs53⟩ := cons_of (n := 22) hs52; clear hs52
  obtain ⟨u53, l54, rfl, hs54⟩ := cons_of (n := 21) hs53; clear hs53
  obtain ⟨u54, l55, rfl, hs55⟩ := cons_of (n := 20) hs54; clear hs54
  obtain ⟨u55, l56, rfl, hs56⟩ := cons_of (n := 19) hs55; clear hs55
  obtain ⟨u56, l57, rfl, hs57⟩ := cons_of (n := 18) hs56; clear hs56
  obtain ⟨u57, l58, rfl, hs58⟩ := cons_of (n := 17) hs57; clear hs57
  obtain ⟨u58, l59, rfl, hs59⟩ := cons_of (n := 16) hs58; clear hs58
  obtain ⟨u59, l60, rfl, hs60⟩ := cons_of (n := 15) hs59; clear hs59
  obtain ⟨u60, l61, rfl, hs61⟩ := cons_of (n := 14) hs60; clear hs60
  obtain ⟨u61, l62, rfl, hs62⟩ := cons_of (n := 13) hs61; clear hs61
  obtain ⟨u62, l63, rfl, hs63⟩ := cons_of (n := 12) hs62; clear hs62
  obtain ⟨u63, l64, rfl, hs64⟩ := cons_of (n := 11) hs63; clear hs63
  obtain ⟨u64, l65, rfl, hs65⟩ := cons_of (n := 10) hs64; clear hs64
  obtain ⟨u65, l66, rfl, hs66⟩ := cons_of (n := 9) hs65; clear hs65
  obtain ⟨u66, l67, rfl, hs67⟩ := cons_of (n := 8) hs66; clear hs66
  obtain ⟨u67, l68, rfl, hs68⟩ := cons_of (n := 7) hs67; clear hs67
  obtain ⟨u68, l69, rfl, hs69⟩ := cons_of (n := 6) hs68; clear hs68
  obtain ⟨u69, l70, rfl, hs70⟩ := cons_of (n := 5) hs69; clear hs69
  obtain ⟨u70, l71, rfl, hs71⟩ := cons_of (n := 4) hs70; clear hs70
  obtain ⟨u71, l72, rfl, hs72⟩ := cons_of (n := 3) hs71; clear hs71
  obtain ⟨u72, l73, rfl, hs73⟩ := cons_of (n := 2) hs72; clear hs72
  obtain ⟨u73, l74, rfl, hs74⟩ := cons_of (n := 1) hs73; clear hs73
  obtain ⟨u74, l75, rfl, hs75⟩ := cons_of (n := 0) hs74; clear hs74
  obtain rfl := List.eq_nil_of_length_eq_zero hs75
  rfl
theorem lits_119 {l0 : List Value} (hs0 : l0.length = 119) : ∃ u : Nat → Value, l0 = [u 0, u 1, u 2, u 3, u 4, u 5, u 6, u 7, u 8, u 9, u 10, u 11, u 12, u 13, u 14, u 15, u 16, u 17, u 18, u 19, u 20, u 21, u 22, u 23, u 24, u 25, u 26, u 27, u 28, u 29, u 30, u 31, u 32, u 33, u 34, u 35, u 36, u 37, u 38, u 39, u 40, u 41, u 42, u 43, u 44, u 45, u 46, u 47, u 48, u 49, u 50, u 51, u 52, u 53, u 54, u 55, u 56, u 57, u 58, u 59, u 60, u 61, u 62, u 63, u 64, u 65, u 66, u 67, u 68, u 69, u 70, u 71, u 72, u 73, u 74, u 75, u 76, u 77, u 78, u 79, u 80, u 81, u 82, u 83, u 84, u 85, u 86, u 87, u 88, u 89, u 90, u 91, u 92, u 93, u 94, u 95, u 96, u 97, u 98, u 99, u 100, u 101, u 102, u 103, u 104, u 105, u 106, u 107, u 108, u 109, u 110, u 111, u 112, u 113, u 114, u 115, u 116, u 117, u 118] := by
  refine ⟨fun k => l0.getD k undef, ?_⟩
  obtain ⟨u0, l1, rfl, hs1⟩ := cons_of (n := 118) hs0; clear hs0
  obtain ⟨u1, l2, rfl, hs2⟩ := cons_of (n := 117) hs1; clear hs1
  obtain ⟨u2, l3, rfl, hs3⟩ := cons_of (n := 116) hs2; clear hs2
  obtain ⟨u3, l4, rfl, hs4⟩ := cons_of (n := 115) hs3; clear hs3
  obtain ⟨u4, l5, rfl, hs5⟩ := cons_of (n := 114) hs4; clear hs4
  obtain ⟨u5, l6, rfl, hs6⟩ := cons_of (n := 113) hs5; clear hs5
  obtain ⟨u6, l7, rfl, hs7⟩ := cons_of (n := 112) hs6; clear hs6
  obtain ⟨u7, l8, rfl, hs8⟩ := cons_of (n := 111) hs7; clear hs7
  obtain ⟨u8, l9, rfl, hs9⟩ := cons_of (n := 110) hs8; clear hs8
  obtain ⟨u9, l10, rfl, hs10⟩ := cons_of (n := 109) hs9; clear hs9
  obtain ⟨u10, l11, rfl, hs11⟩ := cons_of (n := 108) hs10; clear hs10
  obtain ⟨u11, l12, rfl, hs12⟩ := cons_of (n := 107) hs11; clear hs11
  obtain ⟨u12, l13, rfl, hs13⟩ := cons_of (n := 106) hs12; clear hs12
  obtain ⟨u13, l14, rfl, hs14⟩ := cons_of (n := 105) hs13; clear hs13
  obtain ⟨u14, l15, rfl, hs15⟩ := cons_of (n := 104) hs14; clear hs14
  obtain ⟨u15, l16, rfl, hs16⟩ := cons_of (n := 103) hs15; clear hs15
  obtain ⟨u16, l17, rfl, hs17⟩ := cons_of (n := 102) hs16; clear hs16
  obtain ⟨u17, l18, rfl, hs18⟩ := cons_of (n := 101) hs17; clear hs17
  obtain ⟨u18, l19, rfl, hs19⟩ := cons_of (n := 100) hs18; clear hs18
  obtain ⟨u19, l20, rfl, hs20⟩ := cons_of (n := 99) hs19; clear hs19
  obtain ⟨u20, l21, rfl, hs21⟩ := cons_of (n := 98) hs20; clear hs20
  obtain ⟨u21, l22, rfl, hs22⟩ := cons_of (n := 97) hs21; clear hs21
  obtain ⟨u22, l23, rfl, hs23⟩ := cons_of (n := 96) hs22; clear hs22
  obtain ⟨u23, l24, rfl, hs24⟩ := cons_of (n := 95) hs23; clear hs23
  obtain ⟨u24, l25, rfl, hs25⟩ := cons_of (n := 94) hs24; clear hs24
  obtain ⟨u25, l26, rfl, hs26⟩ := cons_of (n := 93) hs25; clear hs25
  obtain ⟨u26, l27, rfl, hs27⟩ := cons_of (n := 92) hs26; clear hs26
  obtain ⟨u27, l28, rfl, hs28⟩ := cons_of (n := 91) hs27; clear hs27
  obtain ⟨u28, l29, rfl, hs29⟩ := cons_of (n := 90) hs28; clear hs28
  obtain ⟨u29, l30, rfl, hs30⟩ := cons_of (n := 89) hs29; clear hs29
  obtain ⟨u30, l31, rfl, hs31⟩ := cons_of (n := 88) hs30; clear hs30
  obtain ⟨u31, l32, rfl, hs32⟩ := cons_of (n := 87) hs31; clear hs31
  obtain ⟨u32, l33, rfl, hs33⟩ := cons_of (n := 86) hs32; clear hs32
  obtain ⟨u33, l34, rfl, hs34⟩ := cons_of (n := 85) hs33; clear hs33
  obtain ⟨u34, l35, rfl, hs35⟩ := cons_of (n := 84) hs34; clear hs34
  obtain ⟨u35, l36, rfl, hs36⟩ := cons_of (n := 83) hs35; clear hs35
  obtain ⟨u36, l37, rfl, hs37⟩ := cons_of (n := 82) hs36; clear hs36
  obtain ⟨u37, l38, rfl, hs38⟩ := cons_of (n := 81) hs37; clear hs37
  obtain ⟨u38, l39, rfl, hs39⟩ := cons_of (n := 80) hs38; clear hs38
  obtain ⟨u39, l40, rfl, hs40⟩ := cons_of (n := 79) hs39; clear hs39
  obtain ⟨u40, l41, rfl, hs41⟩ := cons_of (n := 78) hs40; clear hs40
  obtain ⟨u41, l42, rfl, hs42⟩ := cons_of (n := 77) hs41; clear hs41
  obtain ⟨u42, l43, rfl, hs43⟩ := cons_of (n := 76) hs42; clear hs42
  obtain ⟨u43, l44, rfl, hs44⟩ := cons_of (n := 75) hs43; clear hs43
  obtain ⟨u44, l45, rfl, hs45⟩ := cons_of (n := 74) hs44; clear hs44
  obtain ⟨u45, l46, rfl, hs46⟩ := cons_of (n := 73) hs45; clear hs45
  obtain ⟨u46, l47, rfl, hs47⟩ := cons_of (n := 72) hs46; clear hs46
  obtain ⟨u47, l48, rfl, hs48⟩ := cons_of (n := 71) hs47; clear hs47
  obtain ⟨u48, l49, rfl, hs49⟩ := cons_of (n := 70) hs48; clear hs48
  obtain ⟨u49, l50, rfl, hs50⟩ := cons_of (n := 69) hs49; clear hs49
  obtain ⟨u50, l51, rfl, hs51⟩ := cons_of (n := 68) hs50; clear hs50
  obtain ⟨u51, l52, rfl, hs52⟩ := cons_of (n := 67) hs51; clear hs51
  obtain ⟨u52, l53, rfl, hs53⟩ := cons_of (n := 66) hs52; clear hs52
  obtain ⟨u53, l54, rfl, hs54⟩ := cons_of (n := 65) hs53; clear hs53
  obtain ⟨u54, l55, rfl, hs55⟩ := cons_of (n := 64) hs54; clear hs54
  obtain ⟨u55, l56, rfl, hs56⟩ := cons_of (n := 63) hs55; clear hs55
  obtain ⟨u56, l57, rfl, hs57⟩ := cons_of (n := 62) hs56; clear hs56
  obtain ⟨u57, l58, rfl, hs58⟩ := cons_of (n := 61) hs57; clear hs57
  obtain ⟨u58, l59, rfl, hs59⟩ := cons_of (n := 60) hs58; clear hs58
  obtain ⟨u59, l60, rfl, hs60⟩ := cons_of (n := 59) hs59; clear hs59
  obtain ⟨u60, l61, rfl, hs61⟩ := cons_of (n := 58) hs60; clear hs60
  obtain ⟨u61, l62, rfl, hs62⟩ := cons_of (n := 57) hs61; clear hs61
  obtain ⟨u62, l63, rfl, hs63⟩ := cons_of (n := 56) hs62; clear hs62
  obtain ⟨u63, l64, rfl, hs64⟩ := cons_of (n := 55) hs63; clear hs63
  obtain ⟨u64, l65, rfl, hs65⟩ := cons_of (n := 54) hs64; clear hs64
  obtain ⟨u65, l66, rfl, hs66⟩ := cons_of (n := 53) hs65; clear hs65
  obtain ⟨u66, l67, rfl, hs67⟩ := cons_of (n := 52) hs66; clear hs66
  obtain ⟨u67, l68, rfl, hs68⟩ := cons_of (n := 51) hs67; clear hs67
  obtain ⟨u68, l69, rfl, hs69⟩ := cons_of (n := 50) hs68; clear hs68
  obtain ⟨u69, l70, rfl, hs70⟩ := cons_of (n := 49) hs69; clear hs69
  obtain ⟨u70, l71, rfl, hs71⟩ := cons_of (n := 48) hs70; clear hs70
  obtain ⟨u71, l72, rfl, hs72⟩ := cons_of (n := 47) hs71; clear hs71
  obtain ⟨u72, l73, rfl, hs73⟩ := cons_of (n := 46) hs72; clear hs72
  obtain ⟨u73, l74, rfl, hs74⟩ := cons_of (n := 45) hs73; clear hs73
  obtain ⟨u74, l75, rfl, hs75⟩ := cons_of (n := 44) hs74; clear hs74
  obtain ⟨u75, l76, rfl, hs76⟩ := cons_of (n := 43) hs75; clear hs75
  obtain ⟨u76, l77, rfl, hs77⟩ := cons_of (n := 42) hs76; clear hs76
  obtain ⟨u77, l78, rfl, hs78⟩ := cons_of (n := 41) hs77; clear hs77
  obtain ⟨u78, l79, rfl, hs79⟩ := cons_of (n := 40) hs78; clear hs78
  obtain ⟨u79, l80, rfl, hs80⟩ := cons_of (n := 39) hs79; clear hs79
  obtain ⟨u80, l81, rfl, hs81⟩ := cons_of (n := 38) hs80; clear hs80
  obtain ⟨u81, l82, rfl, hs82⟩ := cons_of (n := 37) hs81; clear hs81
  obtain ⟨u82, l83, rfl, hs83⟩ := cons_of (n := 36) hs82; clear hs82
  obtain ⟨u83, l84, rfl, hs84⟩ := cons_of (n := 35) hs83; clear hs83
  obtain ⟨u84, l85, rfl, hs85⟩ := cons_of (n := 34) hs84; clear hs84
  obtain ⟨u85, l86, rfl, hs86⟩ := cons_of (n := 33) hs85; clear hs85
  obtain ⟨u86, l87, rfl, hs87⟩ := cons_of (n := 32) hs86; clear hs86
  obtain ⟨u87, l88, rfl, hs88⟩ := cons_of (n := 31) hs87; clear hs87
  obtain ⟨u88, l89, rfl, hs89⟩ := cons_of (n := 30) hs88; clear hs88
  obtain ⟨u89, l90, rfl, hs90⟩ := cons_of (n := 29) hs89; clear hs89
  obtain ⟨u90, l91, rfl, hs91⟩ := cons_of (n := 28) hs90; clear hs90
  obtain ⟨u91, l92, rfl, hs92⟩ := cons_of (n := 27) hs91; clear hs91
  obtain ⟨u92, l93, rfl, hs93⟩ := cons_of (n := 26) hs92; clear hs92
  obtain ⟨u93, l94, rfl, hs94⟩ := cons_of (n := 25) hs93; clear hs93
  obtain ⟨u94, l95, rfl, hs95⟩ := cons_of (n := 24) hs94; clear hs94
  obtain ⟨u95, l96, rfl, hs96⟩ := cons_of (n := 23) hs95; clear hs95
  obtain ⟨u96, l97, rfl, hs97⟩ := cons_of (n := 22) hs96; clear hs96
  obtain ⟨u97, l98, rfl, hs98⟩ := cons_of (n := 21) hs97; clear hs97
  obtain ⟨u98, l99, rfl, hs99⟩ := cons_of (n := 20) hs98; clear hs98
  obtain ⟨u99, l100, rfl, hs100⟩ := cons_of (n := 19) hs99; clear hs99
  obtain ⟨u100, l101, rfl, hs101⟩ := cons_of (n := 18) hs100; clear hs100
  obtain ⟨u101, l102, rfl, hs102⟩ := cons_of (n := 17) hs101; clear hs101
  obtain ⟨u102, l103, rfl, hs103⟩ := cons_of (n := 16) hs102; clear hs102
  obtain ⟨u103, l104, rfl, hs104⟩ := cons_of (n := 15) hs103; clear hs103
  obtain ⟨u104, l105, rfl, hs105⟩ := cons_of (n := 14) hs104; clear hs104
  obtain ⟨u105, l106, rfl, hs106⟩ := cons_of (n := 13) hs105; clear hs105
  obtain ⟨u106, l107, rfl, hs107⟩ := cons_of (n := 12) hs106; clear hs106
  obtain ⟨u107, l108, rfl, hs108⟩ := cons_of (n := 11) hs107; clear hs107
  obtain ⟨u108, l109, rfl, hs109⟩ := cons_of (n := 10) hs108; clear hs108
  obtain ⟨u109, l110, rfl, hs110⟩ := cons_of (n := 9) hs109; clear hs109
  obtain ⟨u110, l111, rfl, hs111⟩ := cons_of (n := 8) hs110; clear hs110
  obtain ⟨u111, l112, rfl, hs112⟩ := cons_of (n := 7) hs111; clear hs111
  obtain ⟨u112, l113, rfl, hs113⟩ := cons_of (n := 6) hs112; clear hs112
  obtain ⟨u113, l114, rfl, hs114⟩ := cons_of (n := 5) hs113; clear hs113
  obtain ⟨u114, l115, rfl, hs115⟩ := cons_of (n := 4) hs114; clear hs114
  obtain ⟨u115, l116, rfl, hs116⟩ := cons_of (n := 3) hs115; clear hs115
  obtain ⟨u116, l117, rfl, hs117⟩ := cons_of (n := 2) hs116; clear hs116
  obtain ⟨u117, l118, rfl, hs118⟩ := cons_of (n := 1) hs117; clear hs117
  obtain ⟨u118, l119, rfl, hs119⟩ := cons_of (n := 0) hs118; clear hs118
  obtain rfl := List.eq_nil_of_length_eq_zero hs119
  rfl
theorem lits_131 {l0 : List Value} (hs0 : l0.length = 131) : ∃ u : Nat → Value, l0 = [u 0, u 1, u 2, u 3, u 4, u 5, u 6, u 7, u 8, u 9, u 10, u 11, u 12, u 13, u 14, u 15, u 16, u 17, u 18, u 19, u 20, u 21, u 22, u 23, u 24, u 25, u 26, u 27, u 28, u 29, u 30, u 31, u 32, u 33, u 34, u 35, u 36, u 37, u 38, u 39, u 40, u 41, u 42, u 43, u 44, u 45, u 46, u 47, u 48, u 49, u 50, u 51, u 52, u 53, u 54, u 55, u 56, u 57, u 58, u 59, u 60, u 61, u 62, u 63, u 64, u 65, u 66, u 67, u 68, u 69, u 70, u 71, u 72, u 73, u 74, u 75, u 76, u 77, u 78, u 79, u 80, u 81, u 82, u 83, u 84, u 85, u 86, u 87, u 88, u 89, u 90, u 91, u 92, u 93, u 94, u 95, u 96, u 97, u 98, u 99, u 100, u 101, u 102, u 103, u 104, u 105, u 106, u 107, u 108, u 109, u 110, u 111, u 112, u 113, u 114, u 115, u 116, u 117, u 118, u 119, u 120, u 121, u 122, u 123, u 124, u 125, u 126, u 127, u 128, u 129, u 130] := by
  refine ⟨fun k => l0.getD k undef, ?_⟩
  obtain ⟨u0, l1, rfl, hs1⟩ := cons_of (n := 130) hs0; clear hs0
  obtain ⟨u1, l2, rfl, hs2⟩ := cons_of (n := 129) hs1; clear hs1
  obtain ⟨u2, l3, rfl, hs3⟩ := cons_of (n := 128) hs2; clear hs2
  obtain ⟨u3, l4, rfl, hs4⟩ := cons_of (n := 127) hs3; clear hs3
  obtain ⟨u4, l5, rfl, hs5⟩ := cons_of (n := 126) hs4; clear hs4
  obtain ⟨u5, l6, rfl, hs6⟩ := cons_of (n := 125) hs5; clear hs5
  obtain ⟨u6, l7, rfl, hs7⟩ := cons_of (n := 124) hs6; clear hs6
  obtain ⟨u7, l8, rfl, hs8⟩ := cons_of (n := 123) hs7; clear hs7
  obtain ⟨u8, l9, rfl, hs9⟩ := cons_of (n := 122) hs8; clear hs8
  obtain ⟨u9, l10, rfl, hs10⟩ := cons_of (n := 121) hs9; clear hs9
  obtain ⟨u10, l11, rfl, hs11⟩ := cons_of (n := 120) hs10; clear hs10
  obtain ⟨u11, l12, rfl, hs12⟩ := cons_of (n := 119) hs11; clear hs11
  obtain ⟨u12, l13, rfl, hs13⟩ := cons_of (n := 118) hs12; clear hs12
  obtain ⟨u13, l14, rfl, hs14⟩ := cons_of (n := 117) hs13; clear hs13
  obtain ⟨u14, l15, rfl, hs15⟩ := cons_of (n := 116) hs14; clear hs14
  obtain ⟨u15, l16, rfl, hs16⟩ := cons_of (n := 115) hs15; clear hs15
  obtain ⟨u16, l17, rfl, hs17⟩ := cons_of (n := 114) hs16; clear hs16
  obtain ⟨u17, l18, rfl, hs18⟩ := cons_of (n := 113) hs17; clear hs17
  obtain ⟨u18, l19, rfl, hs19⟩ := cons_of (n := 112) hs18; clear hs18
  obtain ⟨u19, l20, rfl, hs20⟩ := cons_of (n := 111) hs19; clear hs19
  obtain ⟨u20, l21, rfl, hs21⟩ := cons_of (n := 110) hs20; clear hs20
  obtain ⟨u21, l22, rfl, hs22⟩ := cons_of (n := 109) hs21; clear hs21
  obtain ⟨u22, l23, rfl, hs23⟩ := cons_of (n := 108) hs22; clear hs22
  obtain ⟨u23, l24, rfl, hs24⟩ := cons_of (n := 107) hs23; clear hs23
  obtain ⟨u24, l25, rfl, hs25⟩ := cons_of (n := 106) hs24; clear hs24
  obtain ⟨u25, l26, rfl, hs26⟩ := cons_of (n := 105) hs25; clear hs25
  obtain ⟨u26, l27, rfl, hs27⟩ := cons_of (n := 104) hs26; clear hs26
  obtain ⟨u27, l28, rfl, hs28⟩ := cons_of (n := 103) hs27; clear hs27
  obtain ⟨u28, l29, rfl, hs29⟩ := cons_of (n := 102) hs28; clear hs28
  obtain ⟨u29, l30, rfl, hs30⟩ := cons_of (n := 101) hs29; clear hs29
  obtain ⟨u30, l31, rfl, hs31⟩ := cons_of (n := 100) hs30; clear hs30
  obtain ⟨u31, l32, rfl, hs32⟩ := cons_of (n := 99) hs31; clear hs31
  obtain ⟨u32, l33, rfl, hs33⟩ := cons_of (n := 98) hs32; clear hs32
  obtain ⟨u33, l34, rfl, hs34⟩ := cons_of (n := 97) hs33; clear hs33
  obtain ⟨u34, l35, rfl, hs35⟩ := cons_of (n := 96) hs34; clear hs34
  obtain ⟨u35, l36, rfl, hs36⟩ := cons_of (n := 95) hs35; clear hs35
  obtain ⟨u36, l37, rfl, hs37⟩ := cons_of (n := 94) hs36; clear hs36
  obtain ⟨u37, l38, rfl, hs38⟩ := cons_of (n := 93) hs37; clear hs37
  obtain ⟨u38, l39, rfl, hs39⟩ := cons_of (n := 92) hs38; clear hs38
  obtain ⟨u39, l40, rfl, hs40⟩ := cons_of (n := 91) hs39; clear hs39
  obtain ⟨u40, l41, rfl, hs41⟩ := cons_of (n := 90) hs40; clear hs40
  obtain ⟨u41, l42, rfl, hs42⟩ := cons_of (n := 89) hs41; clear hs41
  obtain ⟨u42, l43, rfl, hs43⟩ := cons_of (n := 88) hs42; clear hs42
  obtain ⟨u43, l44, rfl, hs44⟩ := cons_of (n := 87) hs43; clear hs43
  obtain ⟨u44, l45, rfl, hs45⟩ := cons_of (n := 86) hs44; clear hs44
  obtain ⟨u45, l46, rfl, hs46⟩ := cons_of (n := 85) hs45; clear hs45
  obtain ⟨u46, l47, rfl, hs47⟩ := cons_of (n := 84) hs46; clear hs46
  obtain ⟨u47, l48, rfl, hs48⟩ := cons_of (n := 83) hs47; clear hs47
  obtain ⟨u48, l49, rfl, hs49⟩ := cons_of (n := 82) hs48; clear hs48
  obtain ⟨u49, l50, rfl, hs50⟩ := cons_of (n := 81) hs49; clear hs49
  obtain ⟨u50, l51, rfl, hs51⟩ := cons_of (n := 80) hs50; clear hs50
  obtain ⟨u51, l52, rfl, hs52⟩ := cons_of (n := 79) hs51; clear hs51
  obtain ⟨u52, l53, rfl, hs53⟩ := cons_of (n := 78) hs52; clear hs52
  obtain ⟨u53, l54, rfl, hs54⟩ := cons_of (n := 77) hs53; clear hs53
  obtain ⟨u54, l55, rfl, hs55⟩ := cons_of (n := 76) hs54; clear hs54
  obtain ⟨u55, l56, rfl, hs56⟩ := cons_of (n := 75) hs55; clear hs55
  obtain ⟨u56, l57, rfl, hs57⟩ := cons_of (n := 74) hs56; clear hs56
  obtain ⟨u57, l58, rfl, hs58⟩ := cons_of (n := 73) hs57; clear hs57
  obtain ⟨u58, l59, rfl, hs59⟩ := cons_of (n := 72) hs58; clear hs58
  obtain ⟨u59, l60, rfl, hs60⟩ := cons_of (n := 71) hs59; clear hs59
  obtain ⟨u60, l61, rfl, hs61⟩ := cons_of (n := 70) hs60; clear hs60
  obtain ⟨u61, l62, rfl, hs62⟩ := cons_of (n := 69) hs61; clear hs61
  obtain ⟨u62, l63, rfl, hs63⟩ := cons_of (n := 68) hs62; clear hs62
  obtain ⟨u63, l64, rfl, hs64⟩ := cons_of (n := 67) hs63; clear hs63
  obtain ⟨u64, l65, rfl, hs65⟩ := cons_of (n := 66) hs64; clear hs64
  obtain ⟨u65, l66, rfl, hs66⟩ := cons_of (n := 65) hs65; clear hs65
  obtain ⟨u66, l67, rfl, hs67⟩ := cons_of (n := 64) hs66; clear hs66
  obtain ⟨u67, l68, rfl, hs68⟩ := cons_of (n := 63) hs67; clear hs67
  obtain ⟨u68, l69, rfl, hs69⟩ := cons_of (n := 62) hs68; clear hs68
  obtain ⟨u69, l70, rfl, hs70⟩ := cons_of (n := 61) hs69; clear hs69
  obtain ⟨u70, l71, rfl, hs71⟩ := cons_of (n := 60) hs70; clear hs70
  obtain ⟨u71, l72, rfl, hs72⟩ := cons_of (n := 59) hs71; clear hs71
  obtain ⟨u72, l73, rfl, hs73⟩ := cons_of (n := 58) hs72; clear hs72
  obtain ⟨u73, l74, rfl, hs74⟩ := cons_of (n := 57) hs73; clear hs73
  obtain ⟨u74, l75, rfl, hs75⟩ := cons_of (n := 56) hs74; clear hs74
  obtain ⟨u75, l76, rfl, hs76⟩ := cons_of (n := 55) hs75; clear hs75
  obtain ⟨u76, l77, rfl, hs77⟩ := cons_of (n := 54) hs76; clear hs76
  obtain ⟨u77, l78, rfl, hs78⟩ := cons_of (n := 53) hs77; clear hs77
  obtain ⟨u78, l79, rfl, hs79⟩ := cons_of (n := 52) hs78; clear hs78
  obtain ⟨u79, l80, rfl, hs80⟩ := cons_of (n := 51) hs79; clear hs79
  obtain ⟨u80, l81, rfl, hs81⟩ := cons_of (n := 50) hs80; clear hs80
  obtain ⟨u81, l82, rfl, hs82⟩ := cons_of (n := 49) hs81; clear hs81
  obtain ⟨u82, l83, rfl, hs83⟩ := cons_of (n := 48) hs82; clear hs82
  obtain ⟨u83, l84, rfl, hs84⟩ := cons_of (n := 47) hs83; clear hs83
  obtain ⟨u84, l85, rfl, hs85⟩ := cons_of (n := 46) hs84; clear hs84
  obtain ⟨u85, l86, rfl, hs86⟩ := cons_of (n := 45) hs85; clear hs85
  obtain ⟨u86, l87, rfl, hs87⟩ := cons_of (n := 44) hs86; clear hs86
  obtain ⟨u87, l88, rfl, hs88⟩ := cons_of (n := 43) hs87; clear hs87
  obtain ⟨u88, l89, rfl, hs89⟩ := cons_of (n := 42) hs88; clear hs88
  obtain ⟨u89, l90, rfl, hs90⟩ := cons_of (n := 41) hs89; clear hs89
  obtain ⟨u90, l91, rfl, hs91⟩ := cons_of (n := 40) hs90; clear hs90
  obtain ⟨u91, l92, rfl, hs92⟩ := cons_of (n := 39) hs91; clear hs91
  obtain ⟨u92, l93, rfl, hs93⟩ := cons_of (n := 38) hs92; clear hs92
  obtain ⟨u93, l94, rfl, hs94⟩ := cons_of (n := 37) hs93; clear hs93
  obtain ⟨u94, l95, rfl, hs95⟩ := cons_of (n := 36) hs94; clear hs94
  obtain ⟨u95, l96, rfl, hs96⟩ := cons_of (n := 35) hs95; clear hs95
  obtain ⟨u96, l97, rfl, hs97⟩ := cons_of (n := 34) hs96; clear hs96
  obtain ⟨u97, l98, rfl, hs98⟩ := cons_of (n := 33) hs97; clear hs97
  obtain ⟨u98, l99, rfl, hs99⟩ := cons_of (n := 32) hs98; clear hs98
  obtain ⟨u99, l100, rfl, hs100⟩ := cons_of (n := 31) hs99; clear hs99
  obtain ⟨u100, l101, rfl, hs101⟩ := cons_of (n := 30) hs100; clear hs100
  obtain ⟨u101, l102, rfl, hs102⟩ := cons_of (n := 29) hs101; clear hs101
  obtain ⟨u102, l103, rfl, hs103⟩ := cons_of (n := 28) hs102; clear hs102
  obtain ⟨u103, l104, rfl, hs104⟩ := cons_of (n := 27) hs103; clear hs103
  obtain ⟨u104, l105, rfl, hs105⟩ := cons_of (n := 26) hs104; clear hs104
  obtain ⟨u105, l106, rfl, hs106⟩ := cons_of (n := 25) hs105; clear hs105
  obtain ⟨u106, l107, rfl, hs107⟩ := cons_of (n := 24) hs106; clear hs106
  obtain ⟨u107, l108, rfl, hs108⟩ := cons_of (n := 23) hs107; clear hs107
  obtain ⟨u108, l109, rfl, hs109⟩ := cons_of (n := 22) hs108; clear hs108
  obtain ⟨u109, l110, rfl, hs110⟩ := cons_of (n := 21) hs109; clear hs109
  obtain ⟨u110, l111, rfl, hs111⟩ := cons_of (n := 20) hs110; clear hs110
  obtain ⟨u111, l112, rfl, hs112⟩ := cons_of (n := 19) hs111; clear hs111
  obtain ⟨u112, l113, rfl, hs113⟩ := cons_of (n := 18) hs112; clear hs112
  obtain ⟨u113, l114, rfl, hs114⟩ := cons_of (n := 17) hs113; clear hs113
  obtain ⟨u114, l115, rfl, hs115⟩ := cons_of (n := 16) hs114; clear hs114
  obtain ⟨u115, l116, rfl, hs116⟩ := cons_of (n := 15) hs115; clear hs115
  obtain ⟨u116, l117, rfl, hs117⟩ := cons_of (n := 14) hs116; clear hs116
  obtain ⟨u117, l118, rfl, hs118⟩ := cons_of (n := 13) hs117; clear hs117
  obtain ⟨u118, l119, rfl, hs119⟩ := cons_of (n := 12) hs118; clear hs118
  obtain ⟨u119, l120, rfl, hs120⟩ := cons_of (n := 11) hs119; clear hs119
  obtain ⟨u120, l121, rfl, hs121⟩ := cons_of (n := 10) hs120; clear hs120
  obtain ⟨u121, l122, rfl, hs122⟩ := cons_of (n := 9) hs121; clear hs121
  obtain ⟨u122, l123, rfl, hs123⟩ := cons_of (n := 8) hs122; clear hs122
  obtain ⟨u123, l124, rfl, hs124⟩ := cons_of (n := 7) hs123; clear hs123
  obtain ⟨u124, l125, rfl, hs125⟩ := cons_of (n := 6) hs124; clear hs124
  obtain ⟨u125, l126, rfl, hs126⟩ := cons_of (n := 5) hs125; clear hs125
  obtain ⟨u126, l127, rfl, hs127⟩ := cons_of (n := 4) hs126; clear hs126
  obtain ⟨u127, l128, rfl, hs128⟩ := cons_of (n := 3) hs127; clear hs127
  obtain ⟨u128, l129, rfl, hs129⟩ := cons_of (n := 2) hs128; clear hs128
  obtain ⟨u129, l130, rfl, hs130⟩ := cons_of (n := 1) hs129; clear hs129
  obtain ⟨u130, l131, rfl, hs131⟩ := cons_of (n := 0) hs130; clear hs130
  obtain rfl := List.eq_nil_of_length_eq_zero hs131
  rfl
theorem lits_140 {l0 : List Value} (hs0 : l0.length = 140) : ∃ u : Nat → Value, l0 = [u 0, u 1, u 2, u 3, u 4, u 5, u 6, u 7, u 8, u 9, u 10, u 11, u 12, u 13, u 14, u 15, u 16, u 17, u 18, u 19, u 20, u 21, u 22, u 23, u 24, u 25, u 26, u 27, u 28, u 29, u 30, u 31, u 32, u 33, u 34, u 35, u 36, u 37, u 38, u 39, u 40, u 41, u 42, u 43, u 44, u 45, u 46, u 47, u 48, u 49, u 50, u 51, u 52, u 53, u 54, u 55, u 56, u 57, u 58, u 59, u 60, u 61, u 62, u 63, u 64, u 65, u 66, u 67, u 68, u 69, u 70, u 71, u 72, u 73, u 74, u 75, u 76, u 77, u 78, u 79, u 80, u 81, u 82, u 83, u 84, u 85, u 86, u 87, u 88, u 89, u 90, u 91, u 92, u 93, u 94, u 95, u 96, u 97, u 98, u 99, u 100, u 101, u 102, u 103, u 104, u 105, u 106, u 107, u 108, u 109, u 110, u 111, u 112, u 113, u 114, u 115, u 116, u 117, u 118, u 119, u 120, u 121, u 122, u 123, u 124, u 125, u 126, u 127, u 128, u 129, u 130, u 131, u 132, u 133, u 134, u 135, u 136, u 137, u 138, u 139] := by
  refine ⟨fun k => l0.getD k undef, ?_⟩
  obtain ⟨u0, l1, rfl, hs1⟩ := cons_of (n := 139) hs0; clear hs0
  obtain ⟨u1, l2, rfl, hs2⟩ := cons_of (n := 138) hs1; clear hs1
  obtain ⟨u2, l3, rfl, hs3⟩ := cons_of (n := 137) hs2; clear hs2
  obtain ⟨u3, l4, rfl, hs4⟩ := cons_of (n := 136) hs3; clear hs3
  obtain ⟨u4, l5, rfl, hs5⟩ := cons_of (n := 135) hs4; clear hs4
  obtain ⟨u5, l6, rfl, hs6⟩ := cons_of (n := 134) hs5; clear hs5
  obtain ⟨u6, l7, rfl, hs7⟩ := cons_of (n := 133) hs6; clear hs6
  obtain ⟨u7, l8, rfl, hs8⟩ := cons_of (n := 132) hs7; clear hs7
  obtain ⟨u8, l9, rfl, hs9⟩ := cons_of (n := 131) hs8; clear hs8
  obtain ⟨u9, l10, rfl, hs10⟩ := cons_of (n := 130) hs9; clear hs9
  obtain ⟨u10, l11, rfl, hs11⟩ := cons_of (n := 129) hs10; clear hs10
  obtain ⟨u11, l12, rfl, hs12⟩ := cons_of (n := 128) hs11; clear hs11
  obtain ⟨u12, l13, rfl, hs13⟩ := cons_of (n := 127) hs12; clear hs12
  obtain ⟨u13, l14, rfl, hs14⟩ := cons_of (n := 126) hs13; clear hs13
  obtain ⟨u14, l15, rfl, hs15⟩ := cons_of (n := 125) hs14; clear hs14
  obtain ⟨u15, l16, rfl, hs16⟩ := cons_of (n := 124) hs15; clear hs15
  obtain ⟨u16, l17, rfl, hs17⟩ := cons_of (n := 123) hs16; clear hs16
  obtain ⟨u17, l18, rfl, hs18⟩ := cons_of (n := 122) hs17; clear hs17
  obtain ⟨u18, l19, rfl, hs19⟩ := cons_of (n := 121) hs18; clear hs18
  obtain ⟨u19, l20, rfl, hs20⟩ := cons_of (n := 120) hs19; clear hs19
  obtain ⟨u20, l21, rfl, hs21⟩ := cons_of (n := 119) hs20; clear hs20
  obtain ⟨u21, l22, rfl, hs22⟩ := cons_of (n := 118) hs21; clear hs21
  obtain ⟨u22, l23, rfl, hs23⟩ := cons_of (n := 117) hs22; clear hs22
  obtain ⟨u23, l24, rfl, hs24⟩ := cons_of (n := 116) hs23; clear hs23
  obtain ⟨u24, l25, rfl, hs25⟩ := cons_of (n := 115) hs24; clear hs24
  obtain ⟨u25, l26, rfl, hs26⟩ := cons_of (n := 114) hs25; clear hs25
  obtain ⟨u26, l27, rfl, hs27⟩ := cons_of (n := 113) hs26; clear hs26
  obtain ⟨u27, l28, rfl, hs28⟩ := cons_of (n := 112) hs27; clear hs27
  obtain ⟨u28, l29, rfl, hs29⟩ := cons_of (n := 111) hs28; clear hs28
  obtain ⟨u29, l30, rfl, hs30⟩ := cons_of (n := 110) hs29; clear hs29
  obtain ⟨u30, l31, rfl, hs31⟩ := cons_of (n := 109) hs30; clear hs30
  obtain ⟨u31, l32, rfl, hs32⟩ := cons_of (n := 108) hs31; clear hs31
  obtain ⟨u32, l33, rfl, hs33⟩ := cons_of (n := 107) hs32; clear hs32
  obtain ⟨u33, l34, rfl, hs34⟩ := cons_of (n := 106) hs33; clear hs33
  obtain ⟨u34, l35, rfl, hs35⟩ := cons_of (n := 105) hs34; clear hs34
  obtain ⟨u35, l36, rfl, hs36⟩ := cons_of (n := 104) hs35; clear hs35
  obtain ⟨u36, l37, rfl, hs37⟩ := cons_of (n := 103) hs36; clear hs36
  obtain ⟨u37, l38, rfl, hs38⟩ := cons_of (n := 102) hs37; clear hs37
  obtain ⟨u38, l39, rfl, hs39⟩ := cons_of (n := 101) hs38; clear hs38
  obtain ⟨u39, l40, rfl, hs40⟩ := cons_of (n := 100) hs39; clear hs39
  obtain ⟨u40, l41, rfl, hs41⟩ := cons_of (n := 99) hs40; clear hs40
  obtain ⟨u41, l42, rfl, hs42⟩ := cons_of (n := 98) hs41; clear hs41
  obtain ⟨u42, l43, rfl, hs43⟩ := cons_of (n := 97) hs42; clear hs42
  obtain ⟨u43, l44, rfl, hs44⟩ := cons_of (n := 96) hs43; clear hs43
  obtain ⟨u44, l45, rfl, hs45⟩ := cons_of (n := 95) hs44; clear hs44
  obtain ⟨u45, l46, rfl, hs46⟩ := cons_of (n := 94) hs45; clear hs45
  obtain ⟨u46, l47, rfl, hs47⟩ := cons_of (n := 93) hs46; clear hs46
  obtain ⟨u47, l48, rfl, hs48⟩ := cons_of (n := 92) hs47; clear hs47
  obtain ⟨u48, l49, rfl, hs49⟩ := cons_of (n := 91) hs48; clear hs48
  obtain ⟨u49, l50, rfl, hs50⟩ := cons_of (n := 90) hs49; clear hs49
  obtain ⟨u50, l51, rfl, hs51⟩ := cons_of (n := 89) hs50; clear hs50
  obtain ⟨u51, l52, rfl, hs52⟩ := cons_of (n := 88) hs51; clear hs51
  obtain ⟨u52, l53, rfl, hs53⟩ := cons_of (n := 87) hs52; clear hs52
  obtain ⟨u53, l54, rfl, hs54⟩ := cons_of (n := 86) hs53; clear hs53
  obtain ⟨u54, l55, rfl, hs55⟩ := cons_of (n := 85) hs54; clear hs54
  obtain ⟨u55, l56, rfl, hs56⟩ := cons_of (n := 84) hs55; clear hs55
  obtain ⟨u56, l57, rfl, hs57⟩ := cons_of (n := 83) hs56; clear hs56
  obtain ⟨u57, l58, rfl, hs58⟩ := cons_of (n := 82) hs57; clear hs57
  obtain ⟨u58, l59, rfl, hs59⟩ := cons_of (n := 81) hs58; clear hs58
  obtain ⟨u59, l60, rfl, hs60⟩ := cons_of (n := 80) hs59; clear hs59
  obtain ⟨u60, l61, rfl, hs61⟩ := cons_of (n := 79) hs60; clear hs60
  obtain ⟨u61, l62, rfl, hs62⟩ := cons_of (n := 78) hs61; clear hs61
  obtain ⟨u62, l63, rfl, hs63⟩ := cons_of (n := 77) hs62; clear hs62
  obtain ⟨u63, l64, rfl, hs64⟩ := cons_of (n := 76) hs63; clear hs63
  obtain ⟨u64, l65, rfl, hs65⟩ := cons_of (n := 75) hs64; clear hs64
  obtain ⟨u65, l66, rfl, hs66⟩ := cons_of (n := 74) hs65; clear hs65
  obtain ⟨u66, l67, rfl, hs67⟩ := cons_of (n := 73) hs66; clear hs66
  obtain ⟨u67, l68, rfl, hs68⟩ := cons_of (n := 72) hs67; clear hs67
  obtain ⟨u68, l69, rfl, hs69⟩ := cons_of (n := 71) hs68; clear hs68
  obtain ⟨u69, l70, rfl, hs70⟩ := cons_of (n := 70) hs69; clear hs69
  obtain ⟨u70, l71, rfl, hs71⟩ := cons_of (n := 69) hs70; clear hs70
  obtain ⟨u71, l72, rfl, hs72⟩ := cons_of (n := 68) hs71; clear hs71
  obtain ⟨u72, l73, rfl, hs73⟩ := cons_of (n := 67) hs72; clear hs72
  obtain ⟨u73, l74, rfl, hs74⟩ := cons_of (n := 66) hs73; clear hs73
  obtain ⟨u74, l75, rfl, hs75⟩ := cons_of (n := 65) hs74; clear hs74
  obtain ⟨u75, l76, rfl, hs76⟩ := cons_of (n := 64) hs75; clear hs75
  obtain ⟨u76, l77, rfl, hs77⟩ := cons_of (n := 63) hs76; clear hs76
  obtain ⟨u77, l78, rfl, hs78⟩ := cons_of (n := 62) hs77; clear hs77
  obtain ⟨u78, l79, rfl, hs79⟩ := cons_of (n := 61) hs78; clear hs78
  obtain ⟨u79, l80, rfl, hs80⟩ := cons_of (n := 60) hs79; clear hs79
  obtain ⟨u80, l81, rfl, hs81⟩ := cons_of (n := 59) hs80; clear hs80
  obtain ⟨u81, l82, rfl, hs82⟩ := cons_of (n := 58) hs81; clear hs81
  obtain ⟨u82, l83, rfl, hs83⟩ := cons_of (n := 57) hs82; clear hs82
  obtain ⟨u83, l84, rfl, hs84⟩ := cons_of (n := 56) hs83; clear hs83
  obtain ⟨u84, l85, rfl, hs85⟩ := cons_of (n := 55) hs84; clear hs84
  obtain ⟨u85, l86, rfl, hs86⟩ := cons_of (n := 54) hs85; clear hs85
  obtain ⟨u86, l87, rfl, hs87⟩ := cons_of (n := 53) hs86; clear hs86
  obtain ⟨u87, l88, rfl, hs88⟩ := cons_of (n := 52) hs87; clear hs87
  obtain ⟨u88, l89, rfl, hs89⟩ := cons_of (n := 51) hs88; clear hs88
  obtain ⟨u89, l90, rfl, hs90⟩ := cons_of (n := 50) hs89; clear hs89
  obtain ⟨u90, l91, rfl, hs91⟩ := cons_of (n := 49) hs90; clear hs90
  obtain ⟨u91, l92, rfl, hs92⟩ := cons_of (n := 48) hs91; clear hs91
  obtain ⟨u92, l93, rfl, hs93⟩ := cons_of (n := 47) hs92; clear hs92
  obtain ⟨u93, l94, rfl, hs94⟩ := cons_of (n := 46) hs93; clear hs93
  obtain ⟨u94, l95, rfl, hs95⟩ := cons_of (n := 45) hs94; clear hs94
  obtain ⟨u95, l96, rfl, hs96⟩ := cons_of (n := 44) hs95; clear hs95
  obtain ⟨u96, l97, rfl, hs97⟩ := cons_of (n := 43) hs96; clear hs96
  obtain ⟨u97, l98, rfl, hs98⟩ := cons_of (n := 42) hs97; clear hs97
  obtain ⟨u98, l99, rfl, hs99⟩ := cons_of (n := 41) hs98; clear hs98
  obtain ⟨u99, l100, rfl, hs100⟩ := cons_of (n := 40) hs99; clear hs99
  obtain ⟨u100, l101, rfl, hs101⟩ := cons_of (n := 39) hs100; clear hs100
  obtain ⟨u101, l102, rfl, hs102⟩ := cons_of (n := 38) hs101; clear hs101
  obtain ⟨u102, l103, rfl, hs103⟩ := cons_of (n := 37) hs102; clear hs102
  obtain ⟨u103, l104, rfl, hs104⟩ := cons_of (n := 36) hs103; clear hs103
  obtain ⟨u104, l105, rfl, hs105⟩ := cons_of (n := 35) hs104; clear hs104
  obtain ⟨u105, l106, rfl, hs106⟩ := cons_of (n := 34) hs105; clear hs105
  obtain ⟨u106, l107, rfl, hs107⟩ := cons_of (n := 33) hs106; clear hs106
  obtain ⟨u107, l108, rfl, hs108⟩ := cons_of (n := 32) hs107; clear hs107
  obtain ⟨u108, l109, rfl, hs109⟩ := cons_of (n := 31) hs108; clear hs108
  obtain ⟨u109, l110, rfl, hs110⟩ := cons_of (n := 30) hs109; clear hs109
  obtain ⟨u110, l111, rfl, hs111⟩ := cons_of (n := 29) hs110; clear hs110
  obtain ⟨u111, l112, rfl, hs112⟩ := cons_of (n := 28) hs111; clear hs111
  obtain ⟨u112, l113, rfl, hs113⟩ := cons_of (n := 27) hs112; clear hs112
  obtain ⟨u113, l114, rfl, hs114⟩ := cons_of (n := 26) hs113; clear hs113
  obtain ⟨u114, l115, rfl, hs115⟩ := cons_of (n := 25) hs114; clear hs114
  obtain ⟨u115, l116, rfl, hs116⟩ := cons_of (n := 24) hs115; clear hs115
  obtain ⟨u116, l117, rfl, hs117⟩ := cons_of (n := 23) hs116; clear hs116
  obtain ⟨u117, l118, rfl, hs118⟩ := cons_of (n := 22) hs117; clear hs117
  obtain ⟨u118, l119, rfl, hs119⟩ := cons_of (n := 21) hs118; clear hs118
  obtain ⟨u119, l120, rfl, hs120⟩ := cons_of (n := 20) hs119; clear hs119
  obtain ⟨u120, l121, rfl, hs121⟩ := cons_of (n := 19) hs120; clear hs120
  obtain ⟨u121, l122, rfl, hs122⟩ := cons_of (n := 18) hs121; clear hs121
  obtain ⟨u122, l123, rfl, hs123⟩ := cons_of (n := 17) hs122; clear hs122
  obtain ⟨u123, l124, rfl, hs124⟩ := cons_of (n := 16) hs123; clear hs123
  obtain ⟨u124, l125, rfl, hs125⟩ := cons_of (n := 15) hs124; clear hs124
  obtain ⟨u125, l126, rfl, hs126⟩ := cons_of (n := 14) hs125; clear hs125
  obtain ⟨u126, l127, rfl, hs127⟩ := cons_of (n := 13) hs126; clear hs126
  obtain ⟨u127, l128, rfl, hs128⟩ := cons_of (n := 12) hs127; clear hs127
  obtain ⟨u128, l129, rfl, hs129⟩ := cons_of (n := 11) hs128; clear hs128
  obtain ⟨u129, l130, rfl, hs130⟩ := cons_of (n := 10) hs129; clear hs129
  obtain ⟨u130, l131, rfl, hs131⟩ := cons_of (n := 9) hs130; clear hs130
  obtain ⟨u131, l132, rfl, hs132⟩ := cons_of (n := 8) hs131; clear hs131
  obtain ⟨u132, l133, rfl, hs133⟩ := cons_of (n := 7) hs132; clear hs132
  obtain ⟨u133, l134, rfl, hs134⟩ := cons_of (n := 6) hs133; clear hs133
  obtain ⟨u134, l135, rfl, hs135⟩ := cons_of (n := 5) hs134; clear hs134
  obtain ⟨u135, l136, rfl, hs136⟩ := cons_of (n := 4) hs135; clear hs135
  obtain ⟨u136, l137, rfl, hs137⟩ := cons_of (n := 3) hs136; clear hs136
  obtain ⟨u137, l138, rfl, hs138⟩ := cons_of (n := 2) hs137; clear hs137
  obtain ⟨u138, l139, rfl, hs139⟩ := cons_of (n := 1) hs138; clear hs138
  obtain ⟨u139, l140, rfl, hs140⟩ := cons_of (n := 0) hs139; clear hs139
  obtain rfl := List.eq_nil_of_length_eq_zero hs140
  rfl
theorem lits_149 {l0 : List Value} (hs0 : l0.length = 149) : ∃ u : Nat → Value, l0 = [u 0, u 1, u 2, u 3, u 4, u 5, u 6, u 7, u 8, u 9, u 10, u 11, u 12, u 13, u 14, u 15, u 16, u 17, u 18, u 19, u 20, u 21, u 22, u 23, u 24, u 25, u 26, u 27, u 28, u 29, u 30, u 31, u 32, u 33, u 34, u 35, u 36, u 37, u 38, u 39, u 40, u 41, u 42, u 43, u 44, u 45, u 46, u 47, u 48, u 49, u 50, u 51, u 52, u 53, u 54, u 55, u 56, u 57, u 58, u 59, u 60, u 61, u 62, u 63, u 64, u 65, u 66, u 67, u 68, u 69, u 70, u 71, u 72, u 73, u 74, u 75, u 76, u 77, u 78, u 79, u 80, u 81, u 82, u 83, u 84, u 85, u 86, u 87, u 88, u 89, u 90, u 91, u 92, u 93, u 94, u 95, u 96, u 97, u 98, u 99, u 100, u 101, u 102, u 103, u 104, u 105, u 106, u 107, u 108, u 109, u 110, u 111, u 112, u 113, u 114, u 115, u 116, u 117, u 118, u 119, u 120, u 121, u 122, u 123, u 124, u 125, u 126, u 127, u 128, u 129, u 130, u 131, u 132, u 133, u 134, u 135, u 136, u 137, u 138, u 139, u 140, u 141, u 142, u 143, u 144, u 145, u 146, u 147, u 148] := by
  refine ⟨fun k => l0.getD k undef, ?_⟩
  obtain ⟨u0, l1, rfl, hs1⟩ := cons_of (n := 148) hs0; clear hs0
  obtain ⟨u1, l2, rfl, hs2⟩ := cons_of (n := 147) hs1; clear hs1
  obtain ⟨u2, l3, rfl, hs3⟩ := cons_of (n := 146) hs2; clear hs2
  obtain ⟨u3, l4, rfl, hs4⟩ := cons_of (n := 145) hs3; clear hs3
  obtain ⟨u4, l5, rfl, hs5⟩ := cons_of (n := 144) hs4; clear hs4
  obtain ⟨u5, l6, rfl, hs6⟩ := cons_of (n := 143) hs5; clear hs5
  obtain ⟨u6, l7, rfl, hs7⟩ := cons_of (n := 142) hs6; clear hs6
  obtain ⟨u7, l8, rfl, hs8⟩ := cons_of (n := 141) hs7; clear hs7
  obtain ⟨u8, l9, rfl, hs9⟩ := cons_of (n := 140) hs8; clear hs8
  obtain ⟨u9, l10, rfl, hs10⟩ := cons_of (n := 139) hs9; clear hs9
  obtain ⟨u10, l11, rfl, hs11⟩ := cons_of (n := 138) hs10; clear hs10
  obtain ⟨u11, l12, rfl, hs12⟩ := cons_of (n := 137) hs11; clear hs11
  obtain ⟨u12, l13, rfl, hs13⟩ := cons_of (n := 136) hs12; clear hs12
  obtain ⟨u13, l14, rfl, hs14⟩ := cons_of (n := 135) hs13; clear hs13
  obtain ⟨u14, l15, rfl, hs15⟩ := cons_of (n := 134) hs14; clear hs14
  obtain ⟨u15, l16, rfl, hs16⟩ := cons_of (n := 133) hs15; clear hs15
  obtain ⟨u16, l17, rfl, hs17⟩ := cons_of (n := 132) hs16; clear hs16
  obtain ⟨u17, l18, rfl, hs18⟩ := cons_of (n := 131) hs17; clear hs17
  obtain ⟨u18, l19, rfl, hs19⟩ := cons_of (n := 130) hs18; clear hs18
  obtain ⟨u19, l20, rfl, hs20⟩ := cons_of (n := 129) hs19; clear hs19
  obtain ⟨u20, l21, rfl, hs21⟩ := cons_of (n := 128) hs20; clear hs20
  obtain ⟨u21, l22, rfl, hs22⟩ := cons_of (n := 127) hs21; clear hs21
  obtain ⟨u22, l23, rfl, hs23⟩ := cons_of (n := 126) hs22; clear hs22
  obtain ⟨u23, l24, rfl, hs24⟩ := cons_of (n := 125) hs23; clear hs23
  obtain ⟨u24, l25, rfl, hs25⟩ := cons_of (n := 124) hs24; clear hs24
  obtain ⟨u25, l26, rfl, hs26⟩ := cons_of (n := 123) hs25; clear hs25
  obtain ⟨u26, l27, rfl, hs27⟩ := cons_of (n := 122) hs26; clear hs26
  obtain ⟨u27, l28, rfl, hs28⟩ := cons_of (n := 121) hs27; clear hs27
  obtain ⟨u28, l29, rfl, hs29⟩ := cons_of (n := 120) hs28; clear hs28
  obtain ⟨u29, l30, rfl, hs30⟩ := cons_of (n := 119) hs29; clear hs29
  obtain ⟨u30, l31, rfl, hs31⟩ := cons_of (n := 118) hs30; clear hs30
  obtain ⟨u31, l32, rfl, hs32⟩ := cons_of (n := 117) hs31; clear hs31
  obtain ⟨u32, l33, rfl, hs33⟩ := cons_of (n := 116) hs32; clear hs32
  obtain ⟨u33, l34, rfl, hs34⟩ := cons_of (n := 115) hs33; clear hs33
  obtain ⟨u34, l35, rfl, hs35⟩ := cons_of (n := 114) hs34; clear hs34
  obtain ⟨u35, l36, rfl, hs36⟩ := cons_of (n := 113) hs35; clear hs35
  obtain ⟨u36, l37, rfl, hs37⟩ := cons_of (n := 112) hs36; clear hs36
  obtain ⟨u37, l38, rfl, hs38⟩ := cons_of (n := 111) hs37; clear hs37
  obtain ⟨u38, l39, rfl, hs39⟩ := cons_of (n := 110) hs38; clear hs38
  obtain ⟨u39, l40, rfl, hs40⟩ := cons_of (n := 109) hs39; clear hs39
  obtain ⟨u40, l41, rfl, hs41⟩ := cons_of (n := 108) hs40; clear hs40
  obtain ⟨u41, l42, rfl, hs42⟩ := cons_of (n := 107) hs41; clear hs41
  obtain ⟨u42, l43, rfl, hs43⟩ := cons_of (n := 106) hs42; clear hs42
  obtain ⟨u43, l44, rfl, hs44⟩ := cons_of (n := 105) hs43; clear hs43
  obtain ⟨u44, l45, rfl, hs45⟩ := cons_of (n := 104) hs44; clear hs44
  obtain ⟨u45, l46, rfl, hs46⟩ := cons_of (n := 103) hs45; clear hs45
  obtain ⟨u46, l47, rfl, hs47⟩ := cons_of (n := 102) hs46; clear hs46
  obtain ⟨u47, l48, rfl, hs48⟩ := cons_of (n := 101) hs47; clear hs47
  obtain ⟨u48, l49, rfl, hs49⟩ := cons_of (n := 100) hs48; clear hs48
  obtain ⟨u49, l50, rfl, hs50⟩ := cons_of (n := 99) hs49; clear hs49
  obtain ⟨u50, l51, rfl, hs51⟩ := cons_of (n := 98) hs50; clear hs50
  obtain ⟨u51, l52, rfl, hs52⟩ := cons_of (n := 97) hs51; clear hs51
  obtain ⟨u52, l53, rfl, hs53⟩ := cons_of (n := 96) hs52; clear hs52
  obtain ⟨u53, l54, rfl, hs54⟩ := cons_of (n := 95) hs53; clear hs53
  obtain ⟨u54, l55, rfl, hs55⟩ := cons_of (n := 94) hs54; clear hs54
  obtain ⟨u55, l56, rfl, hs56⟩ := cons_of (n := 93) hs55; clear hs55
  obtain ⟨u56, l57, rfl, hs57⟩ := cons_of (n := 92) hs56; clear hs56
  obtain ⟨u57, l58, rfl, hs58⟩ := cons_of (n := 91) hs57; clear hs57
  obtain ⟨u58, l59, rfl, hs59⟩ := cons_of (n := 90) hs58; clear hs58
  obtain ⟨u59, l60, rfl, hs60⟩ := cons_of (n := 89) hs59; clear hs59
  obtain ⟨u60, l61, rfl, hs61⟩ := cons_of (n := 88) hs60; clear hs60
  obtain ⟨u61, l62, rfl, hs62⟩ := cons_of (n := 87) hs61; clear hs61
  obtain ⟨u62, l63, rfl, hs63⟩ := cons_of (n := 86) hs62; clear hs62
  obtain ⟨u63, l64, rfl, hs64⟩ := cons_of (n := 85) hs63; clear hs63
  obtain ⟨u64, l65, rfl, hs65⟩ := cons_of (n := 84) hs64; clear hs64
  obtain ⟨u65, l66, rfl, hs66⟩ := cons_of (n := 83) hs65; clear hs65
  obtain ⟨u66, l67, rfl, hs67⟩ := cons_of (n := 82) hs66; clear hs66
  obtain ⟨u67, l68, rfl, hs68⟩ := cons_of (n := 81) hs67; clear hs67
  obtain ⟨u68, l69, rfl, hs69⟩ := cons_of (n := 80) hs68; clear hs68
  obtain ⟨u69, l70, rfl, hs70⟩ := cons_of (n := 79) hs69; clear hs69
  obtain ⟨u70, l71, rfl, hs71⟩ := cons_of (n := 78) hs70; clear hs70
  obtain ⟨u71, l72, rfl, hs72⟩ := cons_of (n := 77) hs71; clear hs71
  obtain ⟨u72, l73, rfl, hs73⟩ := cons_of (n := 76) hs72; clear hs72
  obtain ⟨u73, l74, rfl, hs74⟩ := cons_of (n := 75) hs73; clear hs73
  obtain ⟨u74, l75, rfl, hs75⟩ := cons_of (n := 74) hs74; clear hs74
  obtain ⟨u75, l76, rfl, hs76⟩ := cons_of (n := 73) hs75; clear hs75
  obtain ⟨u76, l77, rfl, hs77⟩ := cons_of (n := 72) hs76; clear hs76
  obtain ⟨u77, l78, rfl, hs78⟩ := cons_of (n := 71) hs77; clear hs77
  obtain ⟨u78, l79, rfl, hs79⟩ := cons_of (n := 70) hs78; clear hs78
  obtain ⟨u79, l80, rfl, hs80⟩ := cons_of (n := 69) hs79; clear hs79
  obtain ⟨u80, l81, rfl, hs81⟩ := cons_of (n := 68) hs80; clear hs80
  obtain ⟨u81, l82, rfl, hs82⟩ := cons_of (n := 67) hs81; clear hs81
  obtain ⟨u82, l83, rfl, hs83⟩ := cons_of (n := 66) hs82; clear hs82
  obtain ⟨u83, l84, rfl, hs84⟩ := cons_of (n := 65) hs83; clear hs83
  obtain ⟨u84, l85, rfl, hs85⟩ := cons_of (n := 64) hs84; clear hs84
  obtain ⟨u85, l86, rfl, hs86⟩ := cons_of (n := 63) hs85; clear hs85
  obtain ⟨u86, l87, rfl, hs87⟩ := cons_of (n := 62) hs86; clear hs86
  obtain ⟨u87, l88, rfl, hs88⟩ := cons_of (n := 61) hs87; clear hs87
  obtain ⟨u88, l89, rfl, hs89⟩ := cons_of (n := 60) hs88; clear hs88
  obtain ⟨u89, l90, rfl, hs90⟩ := cons_of (n := 59) hs89; clear hs89
  obtain ⟨u90, l91, rfl, hs91⟩ := cons_of (n := 58) hs90; clear hs90
  obtain ⟨u91, l92, rfl, hs92⟩ := cons_of (n := 57) hs91; clear hs91
  obtain ⟨u92, l93, rfl, hs93⟩ := cons_of (n := 56) hs92; clear hs92
  obtain ⟨u93, l94, rfl, hs94⟩ := cons_of (n := 55) hs93; clear hs93
  obtain ⟨u94, l95, rfl, hs95⟩ := cons_of (n := 54) hs94; clear hs94
  obtain ⟨u95, l96, rfl, hs96⟩ := cons_of (n := 53) hs95; clear hs95
  obtain ⟨u96, l97, rfl, hs97⟩ := cons_of (n := 52) hs96; clear hs96
  obtain ⟨u97, l98, rfl, hs98⟩ := cons_of (n := 51) hs97; clear hs97
  obtain ⟨u98, l99, rfl, hs99⟩ := cons_of (n := 50) hs98; clear hs98
  obtain ⟨u99, l100, rfl, hs100⟩ := cons_of (n := 49) hs99; clear hs99
  obtain ⟨u100, l101, rfl, hs101⟩ := cons_of (n := 48) hs100; clear hs100
  obtain ⟨u101, l102, rfl, hs102⟩ := cons_of (n := 47) hs101; clear hs101
  obtain ⟨u102, l103, rfl, hs103⟩ := cons_of (n := 46) hs102; clear hs102
  obtain ⟨u103, l104, rfl, hs104⟩ := cons_of (n := 45) hs103; clear hs103
  obtain ⟨u104, l105, rfl, hs105⟩ := cons_of (n := 44) hs104; clear hs104
  obtain ⟨u105, l106, rfl, hs106⟩ := cons_of (n := 43) hs105; clear hs105
  obtain ⟨u106, l107, rfl, hs107⟩ := cons_of (n := 42) hs106; clear hs106
  obtain ⟨u107, l108, rfl, hs108⟩ := cons_of (n := 41) hs107; clear hs107
  obtain ⟨u108, l109, rfl, hs109⟩ := cons_of (n := 40) hs108; clear hs108
  obtain ⟨u109, l110, rfl, hs110⟩ := cons_of (n := 39) hs109; clear hs109
  obtain ⟨u110, l111, rfl, hs111⟩ := cons_of (n := 38) hs110; clear hs110
  obtain ⟨u111, l112, rfl, hs112⟩ := cons_of (n := 37) hs111; clear hs111
  obtain ⟨u112, l113, rfl, hs113⟩ := cons_of (n := 36) hs112; clear hs112
  obtain ⟨u113, l114, rfl, hs114⟩ := cons_of (n := 35) hs113; clear hs113
  obtain ⟨u114, l115, rfl, hs115⟩ := cons_of (n := 34) hs114; clear hs114
  obtain ⟨u115, l116, rfl, hs116⟩ := cons_of (n := 33) hs115; clear hs115
  obtain ⟨u116, l117, rfl, hs117⟩ := cons_of (n := 32) hs116; clear hs116
  obtain ⟨u117, l118, rfl, hs118⟩ := cons_of (n := 31) hs117; clear hs117
  obtain ⟨u118, l119, rfl, hs119⟩ := cons_of (n := 30) hs118; clear hs118
  obtain ⟨u119, l120, rfl, hs120⟩ := cons_of (n := 29) hs119; clear hs119
  obtain ⟨u120, l121, rfl, hs121⟩ := cons_of (n := 28) hs120; clear hs120
  obtain ⟨u121, l122, rfl, hs122⟩ := cons_of (n := 27) hs121; clear hs121
  obtain ⟨u122, l123, rfl, hs123⟩ := cons_of (n := 26) hs122; clear hs122
  obtain ⟨u123, l124, rfl, hs124⟩ := cons_of (n := 25) hs123; clear hs123
  obtain ⟨u124, l125, rfl, hs125⟩ := cons_of (n := 24) hs124; clear hs124
  obtain ⟨u125, l126, rfl, hs126⟩ := cons_of (n := 23) hs125; clear hs125
  obtain ⟨u126, l127, rfl, hs127⟩ := cons_of (n := 22) hs126; clear hs126
  obtain ⟨u127, l128, rfl, hs128⟩ := cons_of (n := 21) hs127; clear hs127
  obtain ⟨u128, l129, rfl, hs129⟩ := cons_of (n := 20) hs128; clear hs128
  obtain ⟨u129, l130, rfl, hs130⟩ := cons_of (n := 19) hs129; clear hs129
  obtain ⟨u130, l131, rfl, hs131⟩ := cons_of (n := 18) hs130; clear hs130
  obtain ⟨u131, l132, rfl, hs132⟩ := cons_of (n := 17) hs131; clear hs131
  obtain ⟨u132, l133, rfl, hs133⟩ := cons_of (n := 16) hs132; clear hs132
  obtain ⟨u133, l134, rfl, hs134⟩ := cons_of (n := 15) hs133; clear hs133
  obtain ⟨u134, l135, rfl, hs135⟩ := cons_of (n := 14) hs134; clear hs134
  obtain ⟨u135, l136, rfl, hs136⟩ := cons_of (n := 13) hs135; clear hs135
  obtain ⟨u136, l137, rfl, hs137⟩ := cons_of (n := 12) hs136; clear hs136
  obtain ⟨u137, l138, rfl, hs138⟩ := cons_of (n := 11) hs137; clear hs137
  obtain ⟨u138, l139, rfl, hs139⟩ := cons_of (n := 10) hs138; clear hs138
  obtain ⟨u139, l140, rfl, hs140⟩ := cons_of (n := 9) hs139; clear hs139
  obtain ⟨u140, l141, rfl, hs141⟩ := cons_of (n := 8) hs140; clear hs140
  obtain ⟨u141, l142, rfl, hs142⟩ := cons_of (n := 7) hs141; clear hs141
  obtain ⟨u142, l143, rfl, hs143⟩ := cons_of (n := 6) hs142; clear hs142
  obtain ⟨u143, l144, rfl, hs144⟩ := cons_of (n := 5) hs143; clear hs143
  obtain ⟨u144, l145, rfl, hs145⟩ := cons_of (n := 4) hs144; clear hs144
  obtain ⟨u145, l146, rfl, hs146⟩ := cons_of (n := 3) hs145; clear hs145
  obtain ⟨u146, l147, rfl, hs147⟩ := cons_of (n := 2) hs146; clear hs146
  obtain ⟨u147, l148, rfl, hs148⟩ := cons_of (n := 1) hs147; clear hs147
  obtain ⟨u148, l149, rfl, hs149⟩ := cons_of (n := 0) hs148; clear hs148
  obtain rfl := List.eq_nil_of_length_eq_zero hs149
  rfl
end
end Go.Proofs.Ytmbbdjpnecjleaa
