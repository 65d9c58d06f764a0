/-
 Parts: QC.
-/
import Derived.Test.YtmbbdjpnecjleaaGreatH10
import Derived.StillTail
import Derived.RegionTactic
namespace Go.Proofs.YtmbbdjpnecjleaaGreat
section
set_option maxRecDepth 100000
set_option maxHeartbeats 1000000
section
open Go.RowKit

section
variable {P : Program} {Q : Exit → Act → World → Prop}

def headB (l : List Oper) (n N : Nat) : Bool :=
 decide (n ≤ l.length) && (List.range n).all fun i => match l[i]? with
  | some o => (match o.dst with
   | some k => decide (k < N) && (List.range n).all (fun j => i == j || (match l[j]? with | some o' => o'.dst != some k | none => true))
   | none => true) && o.after.all (fun e => !Region.binds .any e || decide (e.on < i))
  | none => false
def tailB (l : List Oper) (n : Nat) : Bool :=
 decide (n = l.length) || (Region.sinkB .any l.toArray n && Region.chainB .any l.toArray n && decide (n < l.length) && Region.seqB .any l.toArray (l.length - n) n (Array.replicate n true ++ Array.replicate (l.length - n) false))
structure TFr (l : List Oper) (n : Nat) (a0 a : Act) : Prop where
 defers : a.defers = a0.defers
 size : a.tmps.size = a0.tmps.size
 keep : ∀ k, (∀ i o, i < n → l[i]? = some o → o.dst ≠ some k) → a.tmps[k]? = a0.tmps[k]?
def TKn (l : List Oper) (T : Nat → World → Value → Prop) (i : Nat) (a : Act) (w : World) : Prop := ∀ o k, l[i]? = some o → o.dst = some k → ∃ v, a.tmps[k]? = some v ∧ T i w v
def cnt (n : Nat) (listed : Array Bool) : Nat := ((List.range n).filter fun i => !listed.getD i true).length

theorem headB_at {l : List Oper} {n N i : Nat} (h : headB l n N = true) (hi : i < n) : ∃ o, l[i]? = some o ∧ (∀ k, o.dst = some k → k < N ∧ ∀ j o', j < n → i ≠ j → l[j]? = some o' → o'.dst ≠ some k) ∧ ∀ e ∈ o.after, Region.binds .any e = true → e.on < i := by
 unfold headB at h
 rw [Bool.and_eq_true] at h
 have h1 := List.all_eq_true.1 h.2 i (List.mem_range.2 hi)
 cases ho : l[i]? with
 | none => rw [ho] at h1; cases h1
 | some o =>
  rw [ho] at h1
  simp only [Bool.and_eq_true] at h1
  refine ⟨o, rfl, fun k hk => ?_, fun e he hb => ?_⟩
  · have h2 := h1.1
    rw [hk] at h2
    simp only [Bool.and_eq_true, decide_eq_true_eq] at h2
    refine ⟨h2.1, fun j o' hj hij ho' => ?_⟩
    have h3 := List.all_eq_true.1 h2.2 j (List.mem_range.2 hj)
    rw [ho'] at h3
    simp [hij] at h3
    exact h3
  · have h2 := Array.all_eq_true_iff_forall_mem.1 h1.2 e he
    simpa [hb] using h2
theorem cnt_pos {n i : Nat} {listed : Array Bool} (hi : i < n) (h : listed.getD i true = false) : 0 < cnt n listed := by
 unfold cnt
 apply List.length_pos_of_mem (a := i)
 rw [List.mem_filter, List.mem_range]
 exact ⟨hi, by simp [h]⟩
theorem cnt_zero {n i : Nat} {listed : Array Bool} (h : cnt n listed = 0) (hi : i < n) : listed.getD i true = true := by
 cases hl : listed.getD i true with
 | true => rfl
 | false => have := cnt_pos hi hl; omega
theorem cnt_some {n : Nat} {listed : Array Bool} (h : cnt n listed ≠ 0) : ∃ i, i < n ∧ listed.getD i true = false := by
 unfold cnt at h
 obtain ⟨i, hi⟩ := List.exists_mem_of_length_pos (Nat.pos_of_ne_zero h)
 rw [List.mem_filter, List.mem_range] at hi
 exact ⟨i, hi.1, by simpa using hi.2⟩
theorem cnt_set : ∀ (n : Nat) {i : Nat} {listed : Array Bool}, i < n → listed.getD i true = false → cnt n (listed.setIfInBounds i true) + 1 = cnt n listed
 | 0, _, _, h, _ => absurd h (by omega)
 | n + 1, i, listed, hi, hl => by
  unfold cnt
  rw [List.range_succ, List.filter_append, List.filter_append, List.length_append, List.length_append]
  by_cases hin : i = n
  · subst hin
    have h1 : ∀ j ∈ List.range i, (!(listed.setIfInBounds i true).getD j true) = !listed.getD j true := fun j hj => by
     rw [getD_set_ne true (by have := List.mem_range.1 hj; omega)]
    have hlt : i < listed.size := by
     rcases Nat.lt_or_ge i listed.size with h' | h'
     · exact h'
     · simp [h'] at hl
    rw [List.filter_congr h1]
    have h4 : (listed.setIfInBounds i true).getD i true = true := by simp [hlt]
    simp only [List.filter, h4, hl]
    simp
  · have h1 := cnt_set n (i := i) (listed := listed) (by omega) hl
    unfold cnt at h1
    have h2 : (listed.setIfInBounds i true).getD n true = listed.getD n true := getD_set_ne true hin
    have h3 : List.filter (fun j => !(listed.setIfInBounds i true).getD j true) [n] = List.filter (fun j => !listed.getD j true) [n] := by simp only [List.filter, h2]
    rw [h3, ← h1]
    omega
theorem cnt_new (n m : Nat) : cnt n (Array.replicate (n + m) false) = n := by
 unfold cnt
 rw [List.filter_eq_self.2]
 · simp
 · intro i hi
   have := List.mem_range.1 hi
   simp [show i < n + m by omega]

structure TInv (l : List Oper) (n : Nat) (T : Nat → World → Value → Prop) (a0 : Act) (w0 : World) (listed : Array Bool) (a : Act) (w : World) : Prop where
 head : HeadInv .any l.toArray n listed
 fr : TFr l n a0 a
 old : Below w0.heap.size w0 w
 known : ∀ i, i < n → listed.getD i false = true → TKn l T i a w

theorem typed_main {l : List Oper} {a0 : Act} {w0 : World} (n : Nat) (T : Nat → World → Value → Prop)
 (hB : headB l n a0.tmps.size = true) (hC : tailB l n = true)
 (lift : ∀ i w w' v, T i w v → Below w.heap.size w w' → T i w' v)
 (step : ∀ i o, i < n → l[i]? = some o → ∀ (a : Act) (w : World) (K : Act → World → Prop), TFr l n a0 a → Below w0.heap.size w0 w →
  (∀ e ∈ o.after, Region.binds .any e = true → TKn l T e.on a w) →
  (∀ v w', Below w.heap.size w w' → (∀ k, o.dst = some k → T i w' v) → K (a.put o.dst v) w') → if Region.wanted o (yielded l.toArray a.tmps) = true then o.wp P a w K Q else K (a.put o.dst undef) w)
 (finish : ∀ a w, TFr l n a0 a → Below w0.heap.size w0 w → (∀ i, i < n → TKn l T i a w) → wpList P l.toArray Q (l.drop n) a w) :
 ∀ (f : Nat) (listed : Array Bool) (a : Act) (w : World), f = cnt n listed + (l.length - n) → TInv l n T a0 w0 listed a w → wpAny P .any l.toArray Q f listed a w := by
 have hnl : n ≤ l.length := by unfold headB at hB; rw [Bool.and_eq_true] at hB; simpa using hB.1
 intro f
 induction f with
 | zero =>
  intro listed a w hf inv
  have hc : cnt n listed = 0 := by omega
  have hn : n = l.length := by omega
  have h := finish a w inv.fr inv.old fun i hi => inv.known i hi (by
   have := cnt_zero hc hi
   have hs : i < listed.size := by rw [inv.head.size]; simpa [← hn] using hi
   simpa [hs] using this)
  rw [hn, List.drop_length] at h
  refine ⟨?_, h⟩
  refine List.eq_nil_iff_forall_not_mem.2 fun i hi => ?_
  obtain ⟨h0, o, ho, _⟩ := mem_ready.1 hi
  have hlt : i < l.toArray.size := (Array.getElem?_eq_some_iff.1 ho).1
  have := cnt_zero hc (i := i) (by rw [hn]; simpa using hlt)
  rw [h0] at this
  cases this
 | succ f ih =>
  intro listed a w hf inv
  by_cases hc : cnt n listed = 0
  · have hl : ∀ i, i < n → listed.getD i false = true := fun i hi => by
     have := cnt_zero hc hi
     have hs : i < listed.size := by rw [inv.head.size]; simp; omega
     simpa [hs] using this
    have h := finish a w inv.fr inv.old fun i hi => inv.known i hi (hl i hi)
    have hcan : listed = Array.replicate n true ++ Array.replicate (l.length - n) false := by
     apply Array.ext (by rw [inv.head.size]; simp; omega)
     intro i h1 h2
     by_cases hi : i < n
     · have := hl i hi
       rw [Array.getElem_append_left (by simpa using hi)]
       simpa [h1] using this
     · have := inv.head.tail i (by omega) (by rw [← inv.head.size]; exact h1)
       rw [Array.getElem_append_right (by simpa using hi)]
       simpa [h1] using this
    have hlen : n ≠ l.length := by omega
    unfold tailB at hC
    simp only [Bool.or_eq_true, Bool.and_eq_true, decide_eq_true_eq] at hC
    have hC' := hC.resolve_left hlen
    have hf' : f + 1 = (l.drop n).length := by rw [List.length_drop]; omega
    rw [hf']
    refine wpAny_of_seq (l.drop n) n listed a w (fun j => by simp [List.getElem?_drop]) ?_ h
    rw [hcan, List.length_drop]
    exact hC'.2
  · have hrn : ∀ i ∈ Region.ready .any l.toArray listed, i < n := by
     intro i hi
     rcases Nat.lt_or_ge i n with h | h
     · exact h
     · obtain ⟨_, o, ho, _⟩ := mem_ready.1 hi
       have hlt : i < l.toArray.size := (Array.getElem?_eq_some_iff.1 ho).1
       have hlt' : i < l.length := by simpa using hlt
       unfold tailB at hC
       simp only [Bool.or_eq_true, Bool.and_eq_true, decide_eq_true_eq] at hC
       have hC' := hC.resolve_left (by omega)
       obtain ⟨j, hj, hj2⟩ := cnt_some hc
       exact absurd hi (tail_waits hC'.1.1.1 hC'.1.1.2 (by simpa using hC'.1.2) inv.head (n - j) j rfl hj hj2 i h)
    have hne : Region.ready .any l.toArray listed ≠ [] := by
     obtain ⟨j, hj, hj2⟩ := cnt_some hc
     have : ∀ d j, j = d → j < n → listed.getD j true = false → ∃ i, i ∈ Region.ready .any l.toArray listed := by
      intro d
      induction d using Nat.strongRecOn with
      | _ d ihd =>
       intro j hd hj hun
       obtain ⟨o, ho, _, ha⟩ := headB_at hB hj
       by_cases hex : ∃ e ∈ o.after, Region.binds .any e = true ∧ listed.getD e.on false = false
       · obtain ⟨e, he, hb, hl⟩ := hex
         have hlt := ha e he hb
         have hs : e.on < listed.size := by rw [inv.head.size]; simp; omega
         exact ihd e.on (by omega) e.on rfl (by omega) (getD_in hs hl)
       · refine ⟨j, mem_ready.2 ⟨hun, o, by simpa using ho, fun e he hb => ?_⟩⟩
         cases hl : listed.getD e.on false with
         | true => rfl
         | false => exact absurd ⟨e, he, hb, hl⟩ hex
     obtain ⟨i, hi⟩ := this j j rfl hj hj2
     exact fun h => by rw [h] at hi; cases hi
    refine ⟨fun h => absurd h hne, fun i hi => ?_⟩
    have hin := hrn i hi
    obtain ⟨hun, o, ho, hall⟩ := mem_ready.1 hi
    have ho' : l[i]? = some o := by simpa using ho
    obtain ⟨o2, ho2, hd, haft⟩ := headB_at hB hin
    obtain rfl : o2 = o := Option.some.inj (ho2.symm.trans ho')
    refine wpOp_step ho fun K hK => ?_
    refine step i o2 hin ho' a w K inv.fr inv.old (fun e he hb => inv.known e.on (by have := haft e he hb; omega) (hall e he hb)) fun v w' hbel hT => hK _ _ ?_
    refine ih _ _ _ (by have := cnt_set n hin hun; omega) ⟨inv.head.set hi hin, ?_, inv.old.trans (hbel.mono inv.old.size), fun j hj hlj o k hoj hk => ?_⟩
    · refine ⟨?_, ?_, fun k hk => ?_⟩
      · rw [← inv.fr.defers]; cases o2.dst <;> rfl
      · rw [← inv.fr.size]; cases o2.dst <;> simp [Act.put]
      · rw [← inv.fr.keep k hk]
        have hne := hk i o2 hin ho'
        cases hdst : o2.dst with
        | none => rfl
        | some m =>
         have hmk : m ≠ k := fun e => hne (by rw [hdst, e])
         simp [Act.put, hmk]
    · by_cases hij : i = j
      · subst hij
        obtain rfl : o2 = o := Option.some.inj (ho'.symm.trans hoj)
        have hkN := (hd k hk).1
        rw [← inv.fr.size] at hkN
        exact ⟨v, by simp [Act.put, hk, hkN], hT k hk⟩
      · rw [getD_set_ne false hij] at hlj
        obtain ⟨u, hu, hTu⟩ := inv.known j hj hlj o k hoj hk
        refine ⟨u, ?_, lift j w w' u hTu hbel⟩
        rw [← hu]
        cases hdst : o2.dst with
        | none => rfl
        | some m =>
         have hmk : m ≠ k := fun e => by
          obtain ⟨o3, ho3, hd3, _⟩ := headB_at hB hj
          obtain rfl : o3 = o := Option.some.inj (ho3.symm.trans hoj)
          exact (hd3 k hk).2 i o2 hin (Ne.symm hij) ho' (by rw [hdst, e])
         simp [Act.put, hmk]

theorem wp_region_typedG {id : Nat} {l : List Oper} {a0 : Act} {w0 : World} (n : Nat) (T : Nat → World → Value → Prop) (hm : P.follows .mixedOrders = true)
 (hB : headB l n a0.tmps.size = true) (hC : tailB l n = true)
 (lift : ∀ i w w' v, T i w v → Below w.heap.size w w' → T i w' v)
 (step : ∀ i o, i < n → l[i]? = some o → ∀ (a : Act) (w : World) (K : Act → World → Prop), TFr l n a0 a → Below w0.heap.size w0 w →
  (∀ e ∈ o.after, Region.binds .any e = true → TKn l T e.on a w) →
  (∀ v w', Below w.heap.size w w' → (∀ k, o.dst = some k → T i w' v) → K (a.put o.dst v) w') → if Region.wanted o (yielded l.toArray a.tmps) = true then o.wp P a w K Q else K (a.put o.dst undef) w)
 (finish : ∀ a w, TFr l n a0 a → Below w0.heap.size w0 w → (∀ i, i < n → TKn l T i a w) → wpList P l.toArray Q (l.drop n) a w) :
 (Code.region id l.toArray true).wp P Q a0 w0 := by
 have hnl : n ≤ l.length := by unfold headB at hB; rw [Bool.and_eq_true] at hB; simpa using hB.1
 refine wp_region_any hm ?_
 refine typed_main (P := P) (Q := Q) n T hB hC lift step finish _ _ _ _ ?_ ⟨⟨by simp, fun j oj _ hl => ?_, fun t _ ht => ?_⟩, ⟨rfl, rfl, fun _ _ => rfl⟩, ?_, fun i _ hl => ?_⟩
 · have := cnt_new n (l.length - n)
   rw [show n + (l.length - n) = l.length by omega] at this
   simp only [List.size_toArray]
   omega
 · rw [getD_replicate_false] at hl; cases hl
 · exact getD_in (by simpa using ht) (getD_replicate_false _ _)
 · exact bel_drewN (bel_refl w0) 1
 · rw [getD_replicate_false] at hl; cases hl
theorem wp_region_typed {id : Nat} {l : List Oper} {a0 : Act} {w0 : World} (n : Nat) (T : Nat → World → Value → Prop) (hm : P.follows .mixedOrders = true)
 (hB : (headB l n a0.tmps.size && (l.take n).all fun o => o.guard.isNone) = true) (hC : tailB l n = true)
 (lift : ∀ i w w' v, T i w v → Below w.heap.size w w' → T i w' v)
 (step : ∀ i o, i < n → l[i]? = some o → ∀ (a : Act) (w : World) (K : Act → World → Prop), TFr l n a0 a → Below w0.heap.size w0 w →
  (∀ e ∈ o.after, Region.binds .any e = true → TKn l T e.on a w) →
  (∀ v w', Below w.heap.size w w' → (∀ k, o.dst = some k → T i w' v) → K (a.put o.dst v) w') → o.wp P a w K Q)
 (finish : ∀ a w, TFr l n a0 a → Below w0.heap.size w0 w → (∀ i, i < n → TKn l T i a w) → wpList P l.toArray Q (l.drop n) a w) :
 (Code.region id l.toArray true).wp P Q a0 w0 := by
 rw [Bool.and_eq_true] at hB
 refine wp_region_typedG n T hm hB.1 hC lift (fun i o hi ho a w K h1 h2 h3 h4 => ?_) finish
 have hg := List.all_eq_true.1 hB.2 o (List.mem_iff_getElem?.2 ⟨i, by rw [List.getElem?_take_of_lt hi]; exact ho⟩)
 rw [if_pos (by cases hgd : o.guard with | none => simp [Region.wanted, hgd] | some x => rw [hgd] at hg; cases hg)]
 exact step i o hi ho a w K h1 h2 h3 h4
end

theorem results_row_cell {P : Program} {fn : Func} {p u : Tmp} {ty ty2 : TypeId} (h : fn.results = #[.cell p ty, .cell u ty2]) (tmps : Array Value) (w : World) (g g' : Nat) (t : TypeId) (cs : Array Value) (fr : Nat × Nat) (d : TypeDesc) (v : Value)
 (hp : tmps.getD p undef = .pointer (some ⟨g, 0, none⟩)) (hv : tmps.getD u undef = .pointer (some ⟨g', 0, none⟩)) (hg : w.heap[g]? = some (.cells cs t fr))
 (hu : P.underlying ty = some d) (hd : (match d with | .struct _ | .array _ _ => true | _ => false) = true) (hi : (P.info? ty).map (·.size) = some cs.size)
 (h2 : (loadVar ty2 ⟨g', 0, none⟩).run P w = .ok v w) : (results fn tmps).run P w = .ok (.tuple #[.agg cs, v]) w := by
 have hp' : tmps[p]?.getD undef = .pointer (some ⟨g, 0, none⟩) := by simpa using hp
 have hv' : tmps[u]?.getD undef = .pointer (some ⟨g', 0, none⟩) := by simpa using hv
 simp [results, h, hp', hv', asAddr, run_loadVar_row w g t ty cs fr d hg hu hd hi, h2, Sem.run_bind, Result.andThen]
theorem load_errno (w : World) (g : Nat) (v : Value) (h : w.cell? ⟨g, 0, none⟩ = some v) : (loadVar 29 ⟨g, 0, none⟩).run Tryz.prog w = .ok v w := by
 simp [loadVar, go_sem, h]
structure Outs (fn : Func) (p u : Tmp) (tmps : Array Value) (g g' : Nat) (w0 w : World) (cs : Array Value) (b : Value) : Prop where
 res : fn.results = #[.cell p 25, .cell u 29]
 hp : tmps.getD p undef = .pointer (some ⟨g, 0, none⟩)
 hu : tmps.getD u undef = .pointer (some ⟨g', 0, none⟩)
 old : Below w0.heap.size w0 w
 ge : w0.heap.size ≤ g
 ge' : w0.heap.size ≤ g'
 ne : g' ≠ g
 out : Blk w g 25 cs
 err : Blk w g' 29 #[b]
theorem Outs.run {fn : Func} {p u : Tmp} {tmps : Array Value} {g g' : Nat} {w0 w : World} {x y z b : Value} (h : Outs fn p u tmps g g' w0 w #[x, y, z] b) : (results fn tmps).run Tryz.prog w = .ok (.tuple #[.agg #[x, y, z], b]) w :=
 results_row_cell h.res tmps w g g' _ _ _ _ b h.hp h.hu h.out Tryz.underlying25 rfl (by kernel_rfl) (load_errno w g' b (h.err.cell 0))
def toldAt (g g' : Nat) : Deferred := { target := .fn (.func 97) #[], args := #[.pointer (some ⟨g, 0, none⟩), .pointer (some ⟨g', 0, none⟩)] }
theorem leave_plain {fn : Func} {p u : Tmp} {tmps : Array Value} {g g' : Nat} {w0 w : World} {q : Q} {x y : Value} {c : Int} (h : Outs fn p u tmps g g' w0 w #[.bool q.s, x, y] (.int .i64 c)) (hx : RdN w x q.n) (hy : RdN w y q.d) :
 Leaves Tryz.prog fn tmps (RetQE q c w0) [] .returning w := ⟨_, h.run, _, _, rfl, hx, hy, h.old⟩
theorem leave_done {fn : Func} {p u : Tmp} {tmps : Array Value} {g g' : Nat} {w0 w : World} {q : Q} {x y : Value} {c : Int} (h : Outs fn p u tmps g g' w0 w #[.bool q.s, x, y] (.int .i64 c)) (hx : RdN w x q.n) (hy : RdN w y q.d) :
 Leaves Tryz.prog fn tmps (RetQE q c w0) [toldAt g g'] .returning w := by
 refine leaves_cons (f := 97) (args := #[.pointer (some ⟨g, 0, none⟩), .pointer (some ⟨g', 0, none⟩)]) (by simp) (by simp [go_sem]) ?_
 refine (told_idle _ _ _).mono ?_
 rintro e u' w'' ⟨rfl, rfl, rfl⟩
 exact leave_plain h hx hy
theorem leave_caught {fn : Func} {p u : Tmp} {tmps : Array Value} {g g' : Nat} {w0 w : World} {x y z b : Value} {c : Int} (h : Outs fn p u tmps g g' w0 w #[x, y, z] b) :
 Leaves Tryz.prog fn tmps (RetQE noQ c w0) [toldAt g g'] (.panicking [bad c]) w := by
 refine leaves_cons (f := 97) (args := #[.pointer (some ⟨g, 0, none⟩), .pointer (some ⟨g', 0, none⟩)]) (by simp) (by simp [go_sem]) ?_
 refine (told_caught g g' c [] x y z b w (h.out.cell 0) (h.out.cell 1) (h.out.cell 2) (h.err.cell 0) (h.out.frozen 0) (h.out.frozen 1) (h.out.frozen 2) (h.err.frozen 0) h.ne).mono ?_
 rintro e u' w'' ⟨rfl, rfl, rfl⟩
 refine leave_plain (q := noQ) (p := p) (u := u) (g := g) (g' := g') ⟨h.res, h.hp, h.hu, bel_set (bel_set3 h.old h.ge _ _ _) h.ge' _, h.ge, h.ge', h.ne, ?_, ?_⟩ (RdN.none0 _) (RdN.none0 _)
 · exact (h.out.put3 _ _ _).far (p := ⟨g', 0, none⟩) (fun e => h.ne e.symm) _
 · exact (((h.err.far (p := ⟨g, 0, none⟩) h.ne _).far (p := ⟨g, 1, none⟩) h.ne _).far (p := ⟨g, 2, none⟩) h.ne _).put 0 _

theorem RdN.setE {w : World} {g : Nat} {t : TypeId} {c : Int} {v : Value} {n : Nat} (hB : Blk w g t #[.int .i64 c]) (h : RdN w v n) (x : Value) : RdN (w.setCell ⟨g, 0, none⟩ x) v n := by
 obtain ⟨E, cap, rfl, hcap, hr⟩ := h
 refine ⟨E, cap, rfl, hcap, ?_⟩
 intro hx
 obtain ⟨b, off, e, hb, hc⟩ := hr hx
 have hbg : b ≠ g := by
  rintro rfl
  have h0 := hc 0 hx
  rw [hB.cell] at h0
  rcases Nat.eq_zero_or_pos (off + 0) with e | e
  · rw [e] at h0; simp at h0
  · rw [Array.getElem?_eq_none (by simp; omega)] at h0; simp at h0
 refine ⟨b, off, e, by simpa using hb, fun k hk => ?_⟩
 rw [cell_far hbg]
 exact hc k hk
theorem leave_stored {fn : Func} {p u : Tmp} {tmps : Array Value} {g g' : Nat} {w0 w : World} {q : Q} {E F : Option Addr} {m m' c c' : Nat} {b k : Int} (hres : fn.results = #[.cell p 25, .cell u 29])
 (hp : tmps.getD p undef = .pointer (some ⟨g, 0, none⟩)) (hu : tmps.getD u undef = .pointer (some ⟨g', 0, none⟩)) (old : Below w0.heap.size w0 w) (ge : w0.heap.size ≤ g) (ge' : w0.heap.size ≤ g') (ne : g' ≠ g)
 (out : Blk w g 25 #[.bool false, .slice none 0 0, .slice none 0 0]) (err : Blk w g' 29 #[.int .i64 b]) (hx : RdN w (.slice E m c) q.n) (hy : RdN w (.slice F m' c') q.d) :
 Leaves Tryz.prog fn tmps (RetQE q k w0) [toldAt g g'] .returning ((((w.setCell ⟨g, 0, none⟩ (.bool q.s)).setCell ⟨g, 1, none⟩ (.slice E m c)).setCell ⟨g, 2, none⟩ (.slice F m' c')).setCell ⟨g', 0, none⟩ (.int .i64 k)) := by
 have E3 := (((err.far (p := ⟨g, 0, none⟩) ne (.bool q.s)).far (p := ⟨g, 1, none⟩) ne (.slice E m c)).far (p := ⟨g, 2, none⟩) ne (.slice F m' c'))
 exact leave_done ⟨hres, hp, hu, bel_set (bel_set3 old ge _ _ _) ge' _, ge, ge', ne, (out.put3 _ _ _).far (p := ⟨g', 0, none⟩) (fun e => ne e.symm) _, E3.put 0 _⟩ ((RdN.set3 out hx _ _ _).setE E3 _) ((RdN.set3 out hy _ _ _).setE E3 _)
theorem leave_refused {fn : Func} {p u : Tmp} {tmps : Array Value} {g g' : Nat} {w0 w : World} {x y z : Value} {b : Value} {k : Int} (hres : fn.results = #[.cell p 25, .cell u 29])
 (hp : tmps.getD p undef = .pointer (some ⟨g, 0, none⟩)) (hu : tmps.getD u undef = .pointer (some ⟨g', 0, none⟩)) (old : Below w0.heap.size w0 w) (ge : w0.heap.size ≤ g) (ge' : w0.heap.size ≤ g') (ne : g' ≠ g)
 (out : Blk w g 25 #[x, y, z]) (err : Blk w g' 29 #[b]) :
 Leaves Tryz.prog fn tmps (RetQE noQ k w0) [] .returning ((((w.setCell ⟨g, 0, none⟩ (.bool false)).setCell ⟨g, 1, none⟩ (.slice none 0 0)).setCell ⟨g, 2, none⟩ (.slice none 0 0)).setCell ⟨g', 0, none⟩ (.int .i64 k)) := by
 have E3 := (((err.far (p := ⟨g, 0, none⟩) ne (.bool false)).far (p := ⟨g, 1, none⟩) ne (.slice none 0 0)).far (p := ⟨g, 2, none⟩) ne (.slice none 0 0))
 exact leave_plain (q := noQ) ⟨hres, hp, hu, bel_set (bel_set3 old ge _ _ _) ge' _, ge, ge', ne, (out.put3 _ _ _).far (p := ⟨g', 0, none⟩) (fun e => ne e.symm) _, E3.put 0 _⟩ (RdN.none0 _) (RdN.none0 _)

section
variable {P : Program} {Q : Exit → Act → World → Prop}
def Step1 (P : Program) (Q : Exit → Act → World → Prop) (l : List Oper) (n : Nat) (T : Nat → World → Value → Prop) (a0 : Act) (w0 : World) (i : Nat) (o : Oper) : Prop :=
 ∀ (a : Act) (w : World) (K : Act → World → Prop), TFr l n a0 a → Below w0.heap.size w0 w → (∀ e ∈ o.after, Region.binds .any e = true → TKn l T e.on a w) →
  (∀ v w', Below w.heap.size w w' → (∀ k, o.dst = some k → T i w' v) → K (a.put o.dst v) w') → o.wp P a w K Q
def Steps (P : Program) (Q : Exit → Act → World → Prop) (l : List Oper) (n : Nat) (T : Nat → World → Value → Prop) (a0 : Act) (w0 : World) : Nat → Nat → List Oper → Prop
 | 0, _, _ => True
 | _ + 1, _, [] => True
 | m + 1, i, o :: rest => Step1 P Q l n T a0 w0 i o ∧ Steps P Q l n T a0 w0 m (i + 1) rest
variable {l : List Oper} {n : Nat} {T : Nat → World → Value → Prop} {a0 : Act} {w0 : World}
theorem steps_zero {i : Nat} {r : List Oper} : Steps P Q l n T a0 w0 0 i r := trivial
theorem steps_cons {m i : Nat} {o : Oper} {r : List Oper} (h : Step1 P Q l n T a0 w0 i o) (hr : Steps P Q l n T a0 w0 m (i + 1) r) : Steps P Q l n T a0 w0 (m + 1) i (o :: r) := ⟨h, hr⟩
theorem steps_at : ∀ (m i : Nat) (r : List Oper), Steps P Q l n T a0 w0 m i r → ∀ j o, j < m → r[j]? = some o → Step1 P Q l n T a0 w0 (i + j) o
 | 0, _, _, _, _, _, h, _ => absurd h (by omega)
 | _ + 1, _, [], _, _, _, _, h => by simp at h
 | m + 1, i, o :: r, ⟨h1, h2⟩, j, o', hj, ho => by
  cases j with
  | zero => simp at ho; subst ho; exact h1
  | succ j =>
   have := steps_at m (i + 1) r h2 j o' (by omega) (by simpa using ho)
   rwa [show i + 1 + j = i + (j + 1) by omega] at this
theorem steps_all (h : Steps P Q l n T a0 w0 n 0 l) : ∀ i o, i < n → l[i]? = some o → Step1 P Q l n T a0 w0 i o := fun i o hi ho => by
 have := steps_at n 0 l h i o hi ho
 rwa [Nat.zero_add] at this
def StepG (P : Program) (Q : Exit → Act → World → Prop) (l : List Oper) (n : Nat) (T : Nat → World → Value → Prop) (a0 : Act) (w0 : World) (i : Nat) (o : Oper) : Prop :=
 ∀ (a : Act) (w : World) (K : Act → World → Prop), TFr l n a0 a → Below w0.heap.size w0 w → (∀ e ∈ o.after, Region.binds .any e = true → TKn l T e.on a w) →
  (∀ v w', Below w.heap.size w w' → (∀ k, o.dst = some k → T i w' v) → K (a.put o.dst v) w') → if Region.wanted o (yielded l.toArray a.tmps) = true then o.wp P a w K Q else K (a.put o.dst undef) w
theorem stepG_plain {i : Nat} {o : Oper} (hg : o.guard = none) (h : Step1 P Q l n T a0 w0 i o) : StepG P Q l n T a0 w0 i o := fun a w K h1 h2 h3 h4 => by
 rw [if_pos (by simp [Region.wanted, hg])]
 exact h a w K h1 h2 h3 h4
def StepsG (P : Program) (Q : Exit → Act → World → Prop) (l : List Oper) (n : Nat) (T : Nat → World → Value → Prop) (a0 : Act) (w0 : World) : Nat → Nat → List Oper → Prop
 | 0, _, _ => True
 | _ + 1, _, [] => True
 | m + 1, i, o :: rest => StepG P Q l n T a0 w0 i o ∧ StepsG P Q l n T a0 w0 m (i + 1) rest
theorem stepsG_zero {i : Nat} {r : List Oper} : StepsG P Q l n T a0 w0 0 i r := trivial
theorem stepsG_cons {m i : Nat} {o : Oper} {r : List Oper} (h : StepG P Q l n T a0 w0 i o) (hr : StepsG P Q l n T a0 w0 m (i + 1) r) : StepsG P Q l n T a0 w0 (m + 1) i (o :: r) := ⟨h, hr⟩
theorem stepsG_at : ∀ (m i : Nat) (r : List Oper), StepsG P Q l n T a0 w0 m i r → ∀ j o, j < m → r[j]? = some o → StepG P Q l n T a0 w0 (i + j) o
 | 0, _, _, _, _, _, h, _ => absurd h (by omega)
 | _ + 1, _, [], _, _, _, _, h => by simp at h
 | m + 1, i, o :: r, ⟨h1, h2⟩, j, o', hj, ho => by
  cases j with
  | zero => simp at ho; subst ho; exact h1
  | succ j =>
   have := stepsG_at m (i + 1) r h2 j o' (by omega) (by simpa using ho)
   rwa [show i + 1 + j = i + (j + 1) by omega] at this
theorem stepsG_all (h : StepsG P Q l n T a0 w0 n 0 l) : ∀ i o, i < n → l[i]? = some o → StepG P Q l n T a0 w0 i o := fun i o hi ho => by
 have := stepsG_at n 0 l h i o hi ho
 rwa [Nat.zero_add] at this
theorem wanted_is {o : Oper} {a : Act} {j k : Nat} {want b : Bool} (hg : o.guard = some (j, want)) (hd : (l[j]?).bind (·.dst) = some k) (hv : a.tmps[k]? = some (.bool b)) : Region.wanted o (yielded l.toArray a.tmps) = (b == want) := by
 have h : (l.toArray[j]?).bind (·.dst) = some k := by simpa using hd
 simp only [Region.wanted, hg, yielded, h, Option.bind_some, hv]
 cases b <;> cases want <;> rfl
section
variable {o : Oper} {a : Act} {w : World} {K : Act → World → Prop} {j k : Nat} {want b : Bool}
theorem guard_in (hg : o.guard = some (j, want)) (hd : (l[j]?).bind (·.dst) = some k) (hv : a.tmps[k]? = some (.bool b)) (hb : (b == want) = true) (h : o.wp P a w K Q) : if Region.wanted o (yielded l.toArray a.tmps) = true then o.wp P a w K Q else K (a.put o.dst undef) w := by
 rw [if_pos ((wanted_is hg hd hv).trans hb)]
 exact h
theorem guard_out (hg : o.guard = some (j, want)) (hd : (l[j]?).bind (·.dst) = some k) (hv : a.tmps[k]? = some (.bool b)) (hb : (b == want) = false) (h : K (a.put o.dst undef) w) : if Region.wanted o (yielded l.toArray a.tmps) = true then o.wp P a w K Q else K (a.put o.dst undef) w := by
 rw [if_neg (by rw [wanted_is hg hd hv, hb]; decide)]
 exact h
end
def baseB (l : List Oper) (n k : Nat) : Bool := (List.range n).all fun i => match l[i]? with | some o => o.dst != some k | none => true
theorem TFr.base {a : Act} (h : TFr l n a0 a) {k : Nat} {v : Value} (hb : baseB l n k = true) (hv : a0.tmps[k]? = some v) : a.tmps[k]? = some v := by
 rw [h.keep k, hv]
 intro i o hi ho
 have := List.all_eq_true.1 hb i (List.mem_range.2 hi)
 rw [ho] at this
 simpa using this
def LiftP (p : World → Value → Prop) : Prop := ∀ w w' v, p w v → Below w.heap.size w w' → p w' v
def VIs (x : Value) : World → Value → Prop := fun _ v => v = x
def VFit (X : Nat) : World → Value → Prop := fun w v => RdN w v (fitN X)
def VMul (X : Nat) : World → Value → Prop := fun w v => ∃ u, v = .tuple #[u, .int .i64 (fitC X)] ∧ RdN w u (fitN X)
def VOk (X : Nat) : World → Value → Prop := fun w v => X < Top ∧ RdN w v X
theorem VIs.lift (x : Value) : LiftP (VIs x) := fun _ _ _ h _ => h
theorem VFit.lift (X : Nat) : LiftP (VFit X) := fun _ _ _ h hb => RdN.below h hb
theorem VMul.lift (X : Nat) : LiftP (VMul X) := fun _ _ _ ⟨u, h, hr⟩ hb => ⟨u, h, hr.below hb⟩
theorem VOk.lift (X : Nat) : LiftP (VOk X) := fun _ _ _ ⟨h, hr⟩ hb => ⟨h, hr.below hb⟩
def TOf (ps : List (World → Value → Prop)) (i : Nat) (w : World) (v : Value) : Prop := (ps.getD i fun _ _ => True) w v
inductive LiftAll : List (World → Value → Prop) → Prop
 | nil : LiftAll []
 | cons {p : World → Value → Prop} {ps : List (World → Value → Prop)} : LiftP p → LiftAll ps → LiftAll (p :: ps)
theorem LiftAll.at_ {ps : List (World → Value → Prop)} (h : LiftAll ps) : ∀ i w w' v, TOf ps i w v → Below w.heap.size w w' → TOf ps i w' v := by
 induction h with
 | nil => intro i w w' v _ _; exact trivial
 | cons h1 _ ih =>
  intro i w w' v ht hb
  cases i with
  | zero => exact h1 w w' v ht hb
  | succ i => exact ih i w w' v ht hb
end
theorem getD_of {xs : Array Value} {k : Nat} {v : Value} (h : xs[k]? = some v) : xs.getD k undef = v := by simp [h]
theorem cons_of {α : Type} {l : List α} {n : Nat} (h : l.length = n + 1) : ∃ a l', l = a :: l' ∧ l'.length = n := by
 cases l with
 | nil => simp at h
 | cons a l' => exact ⟨a, l', rfl, by simpa using h⟩
def dstAt (l : List Oper) (i : Nat) : Option Nat := (l[i]?).bind (·.dst)
theorem dep {l : List Oper} {T : Nat → World → Value → Prop} {o : Oper} {a : Act} {w : World} (hK : ∀ e ∈ o.after, Region.binds .any e = true → TKn l T e.on a w) (m : Nat) {g : Ground} {j k : Nat} (h1 : o.after[m]? = some ⟨j, g⟩) (h2 : Region.binds .any ⟨j, g⟩ = true) (h3 : dstAt l j = some k) :
 ∃ v, a.tmps[k]? = some v ∧ T j w v := by
 obtain ⟨o', ho', hk⟩ := Option.bind_eq_some_iff.1 h3
 exact hK ⟨j, g⟩ (Array.mem_of_getElem? h1) h2 o' k ho' hk
theorem known {l : List Oper} {n : Nat} {T : Nat → World → Value → Prop} {a : Act} {w : World} (hK : ∀ i, i < n → TKn l T i a w) (j : Nat) {k : Nat} (hj : j < n) (h3 : dstAt l j = some k) : ∃ v, a.tmps[k]? = some v ∧ T j w v := by
 obtain ⟨o', ho', hk⟩ := Option.bind_eq_some_iff.1 h3
 exact hK j hj o' k ho' hk
def VQ (q : Q) : World → Value → Prop := fun w v => ∃ x y, v = .agg #[.bool q.s, x, y] ∧ RdN w x q.n ∧ RdN w y q.d
theorem VQ.lift (q : Q) : LiftP (VQ q) := fun _ _ _ ⟨x, y, h, hx, hy⟩ hb => ⟨x, y, h, hx.below hb, hy.below hb⟩
end
section
theorem lits_of0 {l0 : List Value} {n : Nat} (h : l0.length = n) : ∃ u : Nat → Value, l0 = (List.range n).map u := ⟨fun k => l0.getD k undef, by
 subst h
 apply List.ext_getElem
 · simp
 · intro i h1 h2
   simp [h1]⟩
theorem lits_22 {l0 : List Value} (hs0 : l0.length = 22) : ∃ u : Nat → Value, l0 = [u 0, u 1, u 2, u 3, u 4, u 5, u 6, u 7, u 8, u 9, u 10, u 11, u 12, u 13, u 14, u 15, u 16, u 17, u 18, u 19, u 20, u 21] := lits_of0 hs0
theorem lits_25 {l0 : List Value} (hs0 : l0.length = 25) : ∃ u : Nat → Value, l0 = [u 0, u 1, u 2, u 3, u 4, u 5, u 6, u 7, u 8, u 9, u 10, u 11, u 12, u 13, u 14, u 15, u 16, u 17, u 18, u 19, u 20, u 21, u 22, u 23, u 24] := lits_of0 hs0
theorem lits_37 {l0 : List Value} (hs0 : l0.length = 37) : ∃ u : Nat → Value, l0 = [u 0, u 1, u 2, u 3, u 4, u 5, u 6, u 7, u 8, u 9, u 10, u 11, u 12, u 13, u 14, u 15, u 16, u 17, u 18, u 19, u 20, u 21, u 22, u 23, u 24, u 25, u 26, u 27, u 28, u 29, u 30, u 31, u 32, u 33, u 34, u 35, u 36] := lits_of0 hs0
theorem lits_39 {l0 : List Value} (hs0 : l0.length = 39) : ∃ u : Nat → Value, l0 = [u 0, u 1, u 2, u 3, u 4, u 5, u 6, u 7, u 8, u 9, u 10, u 11, u 12, u 13, u 14, u 15, u 16, u 17, u 18, u 19, u 20, u 21, u 22, u 23, u 24, u 25, u 26, u 27, u 28, u 29, u 30, u 31, u 32, u 33, u 34, u 35, u 36, u 37, u 38] := lits_of0 hs0
theorem lits_44 {l0 : List Value} (hs0 : l0.length = 44) : ∃ u : Nat → Value, l0 = [u 0, u 1, u 2, u 3, u 4, u 5, u 6, u 7, u 8, u 9, u 10, u 11, u 12, u 13, u 14, u 15, u 16, u 17, u 18, u 19, u 20, u 21, u 22, u 23, u 24, u 25, u 26, u 27, u 28, u 29, u 30, u 31, u 32, u 33, u 34, u 35, u 36, u 37, u 38, u 39, u 40, u 41, u 42, u 43] := lits_of0 hs0
theorem lits_54 {l0 : List Value} (hs0 : l0.length = 54) : ∃ u : Nat → Value, l0 = [u 0, u 1, u 2, u 3, u 4, u 5, u 6, u 7, u 8, u 9, u 10, u 11, u 12, u 13, u 14, u 15, u 16, u 17, u 18, u 19, u 20, u 21, u 22, u 23, u 24, u 25, u 26, u 27, u 28, u 29, u 30, u 31, u 32, u 33, u 34, u 35, u 36, u 37, u 38, u 39, u 40, u 41, u 42, u 43, u 44, u 45, u 46, u 47, u 48, u 49, u 50, u 51, u 52, u 53] := lits_of0 hs0
theorem lits_131 {l0 : List Value} (hs0 : l0.length = 131) : ∃ u : Nat → Value, l0 = [u 0, u 1, u 2, u 3, u 4, u 5, u 6, u 7, u 8, u 9, u 10, u 11, u 12, u 13, u 14, u 15, u 16, u 17, u 18, u 19, u 20, u 21, u 22, u 23, u 24, u 25, u 26, u 27, u 28, u 29, u 30, u 31, u 32, u 33, u 34, u 35, u 36, u 37, u 38, u 39, u 40, u 41, u 42, u 43, u 44, u 45, u 46, u 47, u 48, u 49, u 50, u 51, u 52, u 53, u 54, u 55, u 56, u 57, u 58, u 59, u 60, u 61, u 62, u 63, u 64, u 65, u 66, u 67, u 68, u 69, u 70, u 71, u 72, u 73, u 74, u 75, u 76, u 77, u 78, u 79, u 80, u 81, u 82, u 83, u 84, u 85, u 86, u 87, u 88, u 89, u 90, u 91, u 92, u 93, u 94, u 95, u 96, u 97, u 98, u 99, u 100, u 101, u 102, u 103, u 104, u 105, u 106, u 107, u 108, u 109, u 110, u 111, u 112, u 113, u 114, u 115, u 116, u 117, u 118, u 119, u 120, u 121, u 122, u 123, u 124, u 125, u 126, u 127, u 128, u 129, u 130] := lits_of0 hs0
end
theorem depV {l : List Oper} {ps : List (World → Value → Prop)} {o : Oper} {a : Act} {w : World} (hK : ∀ e ∈ o.after, Region.binds .any e = true → TKn l (TOf ps) e.on a w) (m : Nat) {g : Ground} {j k : Nat} {v : Value} (h1 : o.after[m]? = some ⟨j, g⟩) (h2 : Region.binds .any ⟨j, g⟩ = true) (h3 : dstAt l j = some k) (h4 : ps[j]? = some (VIs v)) : a.tmps[k]? = some v := by
 obtain ⟨u, hu, hT⟩ := dep hK m h1 h2 h3
 unfold TOf at hT
 rw [List.getD_eq_getElem?_getD, h4] at hT
 rw [hu, show u = v from hT]
open Go.RowKit in
theorem bR (w : World) : Below w.heap.size w w := bel_refl w
end
end Go.Proofs.YtmbbdjpnecjleaaGreat
