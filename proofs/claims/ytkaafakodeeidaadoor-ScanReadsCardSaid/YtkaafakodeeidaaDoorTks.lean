/-
  Layer 5's rows of tokens as data; what a row's last token says; Ends, walked, on both sides.
-/
import Derived.Test.YtkaafakodeeidaaDoorSkip
import Derived.Test.YtkaafakodeeidaaDoorTok2
import Derived.Test.YtkaafakodeeidaaDoorOwn
namespace Go.Proofs.YtkaafakodeeidaaDoor
open Go.RowKit

structure Tk where
  kind : Nat
  text : ByteArray
  at_ : Nat

instance : Inhabited Tk := ⟨⟨0, ByteArray.empty, 0⟩⟩
def Tk.cells (t : Tk) : List Value := [.int .i64 (t.kind : Int), .string t.text, .int .i64 (t.at_ : Int)]
theorem tk_one (k p : Int) (t : ByteArray) : ∀ u ∈ [Value.int .i64 k, .string t, .int .i64 p], u.oneCell' = true := by
  intro u hu
  simp only [List.mem_cons, List.not_mem_nil, or_false] at hu
  rcases hu with rfl | rfl | rfl <;> rfl
theorem info_tok : (Tryd.prog.info? 39).map (fun i => (i.zero, i.size, i.bytes)) = some (some (.agg #[.int .i64 0, .string ByteArray.empty, .int .i64 0]), 3, 32) := by kernel_rfl

/-- The three cells of a token. -/
structure TkAt (w : World) (b o : Nat) (t : Tk) : Prop where
  c0 : w.cell? ⟨b, o, none⟩ = some (.int .i64 (t.kind : Int))
  c1 : w.cell? ⟨b, o + 1, none⟩ = some (.string t.text)
  c2 : w.cell? ⟨b, o + 2, none⟩ = some (.int .i64 (t.at_ : Int))
/-- The letter 'A' leads to a row of tokens. -/
def TksR (w : World) (A : Option Addr) (L : List Tk) : Prop := 0 < L.length → ∃ b off, A = some ⟨b, off, none⟩ ∧ b < w.heap.size ∧ ∀ k, k < L.length → TkAt w b (off + k * 3) (L.getD k default)
theorem TkAt.below {w w' : World} {b o : Nat} {t : Tk} (h : TkAt w b o t) (hb : Below w.heap.size w w') (hlt : b < w.heap.size) : TkAt w' b o t :=
  ⟨(hb.cell (p := ⟨b, o, none⟩) hlt).trans h.c0, (hb.cell (p := ⟨b, o + 1, none⟩) hlt).trans h.c1, (hb.cell (p := ⟨b, o + 2, none⟩) hlt).trans h.c2⟩
theorem TksR.below {w w' : World} {A : Option Addr} {L : List Tk} (h : TksR w A L) (hb : Below w.heap.size w w') : TksR w' A L := fun hn => by
  obtain ⟨b, off, e, hlt, hc⟩ := h hn
  exact ⟨b, off, e, Nat.lt_of_lt_of_le hlt hb.size, fun k hk => (hc k hk).below hb hlt⟩
theorem TksR.nil {w : World} {A : Option Addr} : TksR w A [] := fun h => absurd h (Nat.lt_irrefl 0)
/-- Token k, its parts by name. -/
theorem TksR.node {w wr : World} {A : Option Addr} {L : List Tk} (h : TksR w A L) (hb : Below w.heap.size w wr) {k : Nat} (hk : k < L.length) :
    ∃ b off kd tx pl, A = some ⟨b, off, none⟩ ∧ (⟨kd, tx, pl⟩ : Tk) = L.getD k default ∧ b < wr.heap.size ∧
      wr.cell? ⟨b, off + k * 3, none⟩ = some (.int .i64 (kd : Nat)) ∧ wr.cell? ⟨b, off + k * 3 + 1, none⟩ = some (.string tx) ∧ wr.cell? ⟨b, off + k * 3 + 2, none⟩ = some (.int .i64 (pl : Nat)) := by
  have h' := h.below hb
  obtain ⟨b, off, e, hlt, hc⟩ := h' (by omega)
  have hn := hc k hk
  exact ⟨b, off, _, _, _, e, rfl, hlt, hn.c0, hn.c1, hn.c2⟩
theorem tks_len (M : List Tk) : (M.flatMap Tk.cells).length = M.length * 3 := by
  induction M with
  | nil => rfl
  | cons x r ih => simp only [List.flatMap_cons, List.length_append, ih, List.length_cons]; simp [Tk.cells]; omega
theorem tks_get (M : List Tk) : ∀ (k j : Nat), k < M.length → j < 3 → (M.flatMap Tk.cells).getD (k * 3 + j) undef = (M.getD k default).cells.getD j undef := by
  induction M with
  | nil => intro k j h; simp at h
  | cons x r ih =>
    intro k j h hj
    have hx : x.cells.length = 3 := rfl
    match k with
    | 0 =>
      simp only [List.flatMap_cons, Nat.zero_mul, Nat.zero_add, List.getD_eq_getElem?_getD]
      rw [List.getElem?_append_left (by omega)]
      rfl
    | k + 1 =>
      have h' := ih k j (by simpa using h) hj
      simp only [List.getD_eq_getElem?_getD] at h'
      simp only [List.flatMap_cons, List.getD_eq_getElem?_getD]
      rw [List.getElem?_append_right (by omega), hx, show (k + 1) * 3 + j - 3 = k * 3 + j from by omega, h']
      rfl
/-- What is owned as tokens reads as tokens. -/
theorem own_tks {w : World} {base : Nat} {e : TypeId} {v : Value} {k : Nat} {M : List Tk} (h : w.ownsRow base e 3 v k (M.flatMap Tk.cells)) (hk : k = M.length) :
    ∃ A cap, v = .slice A M.length cap ∧ M.length ≤ cap ∧ TksR w A M := by
  subst hk
  obtain ⟨A, cap, rfl, hc, _, hrd⟩ := own_read h (by rw [tks_len]; exact Nat.le_refl _)
  refine ⟨A, cap, rfl, hc, fun hn => ?_⟩
  obtain ⟨b, off, e, hb, hcell⟩ := hrd (by omega)
  have hj : ∀ j, j < 3 → ∀ k, k < M.length → w.cell? ⟨b, off + (k * 3 + j), none⟩ = some ((M.getD k default).cells.getD j undef) := fun j hj k hk => by
    rw [hcell (k * 3 + j) (by omega)]
    show some ((List.flatMap Tk.cells M).getD (k * 3 + j) undef) = _
    rw [tks_get M k j hk hj]
  refine ⟨b, off, e, hb, fun k hk => ⟨?_, ?_, ?_⟩⟩
  · exact hj 0 (by omega) k hk
  · have := hj 1 (by omega) k hk; rwa [← Nat.add_assoc] at this
  · have := hj 2 (by omega) k hk; rwa [← Nat.add_assoc] at this

/-- Is a new line behind a token one? -/
def endT (t : Tk) : Bool := if t.kind = 6 then (t.text.toList == [41]) || (t.text.toList == [93]) || (t.text.toList == [125]) else if t.kind = 7 then t.text.toList == [114, 101, 116, 117, 114, 110] else decide (1 ≤ t.kind) && decide (t.kind ≤ 5)
def endsB (M : List Tk) : Bool := if M.length = 0 then false else endT (M.getD (M.length - 1) default)
def RetBw (b : Bool) (w : World) (e : Ending) (w' : World) : Prop := e = .returned (.bool b) ∧ Below w.heap.size w w'
end Go.Proofs.YtkaafakodeeidaaDoor
