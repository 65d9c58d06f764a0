/-
  ast.Cut's closure: marks a node's part.
-/
import Derived.Test.YtlijfkallnomnaaPart
namespace Go.Proofs.Ytlijfkallnomnaa
open Go.RowKit

def setAll (u : List Bool) (ps : List Int) : List Bool := ps.foldl (fun u p => u.set p.toNat true) u
theorem setAll_len (u : List Bool) (ps : List Int) : (setAll u ps).length = u.length := by
  unfold setAll
  induction ps generalizing u with
  | nil => rfl
  | cons x r ih => rw [List.foldl_cons, ih, List.length_set]
theorem setAll_app (u : List Bool) (ps qs : List Int) : setAll u (ps ++ qs) = setAll (setAll u ps) qs := by simp [setAll]
theorem setAll_cons (u : List Bool) (p : Int) (ps : List Int) : setAll u (p :: ps) = setAll (u.set p.toNat true) ps := rfl

/-- What stands in memory while the parts are marked: the boxes of the three that are captured, and the row that is written. -/
structure MarkRel (w0 w : World) (L : List Nd) (A : Option Addr) (cap n bi bl bm gi : Nat) (u : List Bool) : Prop where
  old : Below w0.heap.size w0 w
  far : w0.heap.size ≤ gi
  row : Blk w gi 4 (arr Value.bool u)
  len : u.length = n
  ci : w.cell? ⟨bi, 0, none⟩ = some (.slice (some ⟨gi, 0, none⟩) n n)
  cl : w.cell? ⟨bl, 0, none⟩ = some (.slice A L.length cap)
  cm : w.cell? ⟨bm, 0, none⟩ = some (.func (.func 23) #[] #[.pointer (some ⟨bi, 0, none⟩), .pointer (some ⟨bl, 0, none⟩), .pointer (some ⟨bm, 0, none⟩)])
  ni : bi ≠ gi
  nl : bl ≠ gi
  nm : bm ≠ gi

theorem MarkRel.step {w0 w w' : World} {L : List Nd} {A : Option Addr} {cap n bi bl bm gi : Nat} {u u' : List Bool} (h : MarkRel w0 w L A cap n bi bl bm gi u)
    (hg : w.grownBy w' (some gi)) (hr : Blk w' gi 4 (arr Value.bool u')) (hl : u'.length = n) : MarkRel w0 w' L A cap n bi bl bm gi u' where
  old := h.old.grown hg h.old.size (fun k e => by injection e with e; rw [← e]; exact h.far)
  far := h.far
  row := hr
  len := hl
  ci := hg.cell h.ci (by simp; exact h.ni)
  cl := hg.cell h.cl (by simp; exact h.nl)
  cm := hg.cell h.cm (by simp; exact h.nm)
  ni := h.ni
  nl := h.nl
  nm := h.nm

theorem grown_refl (w : World) (r : Option Nat) : w.grownBy w r := ⟨rfl, rfl, rfl, Nat.le_refl _, fun _ _ _ => rfl⟩
theorem grown_trans {a b c : World} {r : Option Nat} (h : a.grownBy b r) (k : b.grownBy c r) : a.grownBy c r :=
  ⟨k.os.trans h.os, k.tape.trans h.tape, k.output.trans h.output, Nat.le_trans h.size k.size, fun i hi hne => (k.block i (Nat.lt_of_lt_of_le hi h.size) hne).trans (h.block i hi hne)⟩
theorem grown_set (w : World) (g i : Nat) (u : Value) : w.grownBy (w.setCell ⟨g, i, none⟩ u) (some g) :=
  ⟨rfl, rfl, rfl, by simp [World.setCell], fun k _ hne => Below.heap_setCell _ _ _ _ (fun e => hne (by rw [e]))⟩

def RetMark (w0 : World) (L : List Nd) (A : Option Addr) (cap n bi bl bm gi : Nat) (u : List Bool) (w : World) (e : Ending) (w' : World) : Prop :=
  e = .returned (.tuple #[]) ∧ MarkRel w0 w' L A cap n bi bl bm gi u ∧ w.grownBy w' (some gi)

set_option maxHeartbeats 1000000 in
theorem mark_any (w0 : World) (A : Option Addr) (cap n bi bl bm gi : Nat) (L : List Nd) (h : NdsR w0 A L) (hin : KidsIn L) (hl : L.length ≤ 2000) (hn : n ≤ L.length) : ∀ k : Nat, k < n → ∀ (u : List Bool) (w : World), MarkRel w0 w L A cap n bi bl bm gi u →
    Calls Try.prog 23 #[.int .i64 k, .pointer (some ⟨bi, 0, none⟩), .pointer (some ⟨bl, 0, none⟩), .pointer (some ⟨bm, 0, none⟩)] w (RetMark w0 L A cap n bi bl bm gi (setAll u (pt L k)) w) := by
  intro k
  induction k using Nat.strongRecOn with
  | _ k ih =>
    intro hk u w hrel
    have IH := Lib.hid ih; clear ih
    have H := Lib.hid h; clear h
    have HI := Lib.hid hin; clear hin
    have HR := Lib.hid hrel; clear hrel
    obtain ⟨b, off, kd, tx, ka, kc, ks, pl, hA, hnd, hb, c0, c1, c2, c3, hkids, hkl, hkc⟩ := H.out.node HR.out.old (show k < L.length by omega)
    have HN : Hid (ks = kidsOf L k) := by show ks = _; unfold kidsOf; rw [← hnd]
    clear hnd c0 c1 c3
    subst hA
    have HK := Lib.hid hkids; clear hkids
    have hpt : Hid (setAll u (pt L k) = setAll (u.set k true) ((ks.take ks.length).flatMap fun q => pt L q.toNat)) := by
      show setAll u (pt L k) = _
      rw [pt_eq HI.out (by omega), setAll_cons, List.take_of_length_le (Nat.le_refl _), HN.out]
      rfl
    have ci := HR.out.ci
    have cl := HR.out.cl
    have hnl := HR.out.nl
    have hnl' : ¬ gi = bl := fun e => hnl e.symm
    have hbg : b ≠ gi := by
      obtain ⟨b', off', e, hlt, _⟩ := H.out.row (by omega)
      injection e with e
      injection e with e
      have := HR.out.far
      omega
    have hbg' : ¬ gi = b := fun e => hbg e.symm
    have hck := HR.out.row.at_ false (k := k) (by rw [HR.out.len]; exact hk)
    have hfz := HR.out.row.frozen k
    have HS : Hid (MarkRel w0 (w.setCell ⟨gi, k, none⟩ (.bool true)) L (some ⟨b, off, none⟩) cap n bi bl bm gi (setAll (u.set k true) ((ks.take 0).flatMap fun q => pt L q.toNat))) :=
      HR.out.step (grown_set _ _ _ _) (HR.out.row.set_ k true) (by show (u.set k true).length = n; rw [List.length_set]; exact HR.out.len)
    go_enter Try.func23, Try.ntmps23
    go_wp2
    go_loopw [16] (fun j wr => ∃ m : Nat, m ≤ ks.length ∧ j = .int .i64 m ∧ MarkRel w0 wr L (some ⟨b, off, none⟩) cap n bi bl bm gi (setAll (u.set k true) ((ks.take m).flatMap fun q => pt L q.toNat)) ∧ w.grownBy wr (some gi)) (fun j _ => ks.length - (intOf j).toNat)
    case atStart => exact ⟨0, Nat.zero_le _, rfl, HS.out, grown_set _ _ _ _⟩
    case round =>
      obtain ⟨m, hm, rfl, hr, hgr⟩ := hrel
      have HJ := Lib.hid hr; clear hr
      have HG := Lib.hid hgr; clear hgr
      clear ci cl hck hfz HS c2
      by_cases hmt : m < ks.length
      · obtain ⟨b', off', rfl, hb', hcell⟩ := (HK.out.below HJ.out.old).at_ hmt
        have hcm := HJ.out.cm
        obtain ⟨q, hq⟩ : ∃ q : Int, q = ks.getD m 0 := ⟨_, rfl⟩
        rw [← hq] at hcell
        have hq' : 0 ≤ q ∧ q < k := by
          have hmem : q ∈ ks := by rw [hq, List.getD_eq_getElem?_getD, List.getElem?_eq_getElem hmt]; exact List.getElem_mem hmt
          rw [HN.out] at hmem
          exact HI.out k (by omega) q hmem
        have HQ := Lib.hid hq; clear hq
        obtain ⟨q0, q1⟩ := hq'
        obtain ⟨q, rfl⟩ := Int.eq_ofNat_of_zero_le q0
        go_wp2_with fail
        refine (IH.out q (by omega) (by omega) _ _ HJ.out).mono ?_
        rintro e w1 ⟨rfl, hr1, hg1⟩
        have R : Hid (MarkRel w0 w1 L (some ⟨b, off, none⟩) cap n bi bl bm gi (setAll (u.set k true) ((ks.take (m + 1)).flatMap fun q => pt L q.toNat)) ∧ w.grownBy w1 (some gi)) := by
          refine ⟨?_, grown_trans HG.out hg1⟩
          rw [List.take_succ_eq_append_getElem hmt, List.flatMap_append, setAll_app]
          have e : ks[m] = (q : Int) := by rw [HQ.out, List.getD_eq_getElem?_getD, List.getElem?_eq_getElem hmt]; rfl
          simp only [List.flatMap_cons, List.flatMap_nil, List.append_nil, e, Int.toNat_natCast]
          exact hr1
        clear hr1 hg1 hcm
        go_wp2
        go_roundw
        case rel => exact ⟨m + 1, by omega, by go_num, R.out.1, R.out.2⟩
        case measure => simp [intOf]; omega
      · have hmk : m = ks.length := by omega
        subst hmk
        go_wp2
        go_end0
        exact ⟨rfl, by rw [hpt.out]; exact HJ.out, HG.out⟩
end Go.Proofs.Ytlijfkallnomnaa
