/-
  Rows of limbs (and of bytes) that the call itself makes.
-/
import Derived.Test.YtmbbdjpnecjleaaLimbs
import Derived.Test.YtmbbdjpnecjleaaOwn
namespace Go.Proofs.Ytmbbdjpnecjleaa
set_option maxRecDepth 100000
open Go.RowKit

theorem info_u32 : (Try.prog.info? 80).map (fun i => (i.zero, i.size, i.bytes)) = some (some (.int .u32 0), 1, 4) := by kernel_rfl
theorem info_u8 : (Try.prog.info? 5).map (fun i => (i.zero, i.size, i.bytes)) = some (some (.int .u8 0), 1, 1) := by kernel_rfl
theorem addr_map_zero (A : Option Addr) : A.map (·.add 0) = A := by cases A <;> simp [Addr.add]
/-- 'x[:n]'. -/
theorem run_cut_to {P : Program} (t e : TypeId) (i : TypeInfo) (ht : P.underlying t = some (.slice e)) (hi : P.info? e = some i) (A : Option Addr) (len cap n : Nat) (hn : n ≤ cap) (W : World) :
    (Instr.slice t (.slice A len cap) none (some (.int .i64 (n : Int))) none).run P W = .ok (.slice A n cap) W := by
  have he : P.elem t = e := by simp [Program.elem, ht]
  rw [run_slice_h W t A len cap (by rw [he]; exact ht) .i64 n (by omega) (by omega), he]
  simp only [sizeOf, typeInfo]
  simp [hi, sliced]
  rw [show (fun x : Addr => x.add 0) = (·.add 0) from rfl, addr_map_zero]
  simp

/-- Limbs, digits as cells. -/
def nums (K : IntKind) (xs : List Nat) : List Value := xs.map (fun x : Nat => Value.int K (x : Int))
theorem nums_len (K : IntKind) (xs : List Nat) : (nums K xs).length = xs.length := by simp [nums]
theorem nums_get (K : IntKind) (xs : List Nat) {k : Nat} (h : k < xs.length) : (nums K xs).getD k undef = .int K ((xs.getD k 0 : Nat) : Int) := by simp [nums, h]
theorem nums_set (K : IntKind) (xs : List Nat) (k x : Nat) : (nums K xs).set k (.int K (x : Int)) = nums K (xs.set k x) := by simp [nums, List.map_set]
theorem nums_app (K : IntKind) (xs : List Nat) (x : Nat) : nums K xs ++ [.int K (x : Int)] = nums K (xs ++ [x]) := by simp [nums]
theorem own_rdL {w : World} {base : Nat} {e : TypeId} {v : Value} {n : Nat} {xs : List Nat} (h : w.ownsRow base e 1 v n (nums .u32 xs)) (hn : n = xs.length) :
    ∃ A cap, v = .slice A xs.length cap ∧ xs.length ≤ cap ∧ cap ≤ maxLen ∧ RdL w A xs := by
  subst hn
  obtain ⟨A, cap, rfl, h1, h2, hr⟩ := own_read h (by rw [nums_len]; omega)
  refine ⟨A, cap, rfl, h1, h2, ?_⟩
  rw [Nat.mul_one] at hr
  exact Rd.congr hr fun k hk => nums_get .u32 xs hk

/-- The slice's row is no elder than B. -/
def FreshV (B : Nat) (v : Value) : Prop := ∀ a n c, v = .slice (some a) n c → B ≤ a.block
theorem FreshV.mono {B C : Nat} {v : Value} (h : FreshV C v) (hb : B ≤ C) : FreshV B v := fun a n c e => Nat.le_trans hb (h a n c e)
theorem own_rdF {w : World} {base : Nat} {e : TypeId} {v : Value} {n : Nat} {xs : List Nat} (h : w.ownsRow base e 1 v n (nums .u32 xs)) (hn : n = xs.length) :
    ∃ A cap, v = .slice A xs.length cap ∧ xs.length ≤ cap ∧ cap ≤ maxLen ∧ RdL w A xs ∧ ∀ a, A = some a → base ≤ a.block := by
  obtain ⟨A, cap, rfl, h1, h2, hr⟩ := own_rdL h hn
  refine ⟨A, cap, rfl, h1, h2, hr, fun a ha => ?_⟩
  rcases h.2 with ⟨h0, _⟩ | ⟨g, cap', cur, hv, hb, _⟩
  · injection h0 with h0; rw [h0] at ha; cases ha
  · injection hv with hA
    rw [ha] at hA
    injection hA with hA
    rw [hA]; exact hb
theorem Rd.setCell {w : World} {A : Option Addr} {n : Nat} {f : Nat → Value} (h : Rd w A n f) {p : Addr} {u : Value} (hp : ∀ a, A = some a → p.block ≠ a.block) : Rd (w.setCell p u) A n f := fun hn => by
  obtain ⟨b, off, e, hlt, hc⟩ := h hn
  refine ⟨b, off, e, by simpa using hlt, fun k hk => ?_⟩
  rw [World.cell?_setCell_other (h := fun e' => hp _ e (by rw [e']))]
  exact hc k hk
theorem RdN.setCell {w : World} {v : Value} {n B : Nat} (h : RdN w v n) {p : Addr} {u : Value} (hf : FreshV B v) (hp : p.block < B) : RdN (w.setCell p u) v n := by
  obtain ⟨A, cap, rfl, hc, hr⟩ := h.row
  exact ⟨A, cap, rfl, hc, Rd.setCell hr fun a ha e => by have := hf a _ _ (by rw [ha]); omega⟩

/-- 'append(s, x)': s the call's own, x one cell; the literal's row was just laid. -/
theorem wpList_push {P : Program} {ops : Array Oper} {rest : List Oper} {o : Oper} {a : Act} {Q : Exit → Act → World → Prop} (w : World) (hgd : o.guard = none) (s x : Operand) (t : TypeId)
    (ho : o.op = .call { callee := .builtin .append, args := #[s, x], argTypes := #[t, t] })
    (base : Nat) (e : TypeId) (z : Value) (bytes : Nat) (ht : P.underlying t = some (.slice e))
    (hinfo : (P.info? e).map (fun i => (i.zero, i.size, i.bytes)) = some (some z, 1, bytes)) (hzs : z.cells.size = 1)
    (v : Value) (n : Nat) (xs : List Value) (hs : a.eval s = v) (u : Value) (hx : a.eval x = .slice (some ⟨w.heap.size, 0, none⟩) 1 1) (h1 : u.oneCell' = true)
    (hown : w.ownsRow base e 1 v n xs)
    (h63 : n + 1 ≤ maxLen) (hbytes : (n + 1) * bytes ≤ 140737488355328) (hbase : base ≤ w.heap.size)
    (h : ∀ v' w', w'.ownsRow base e 1 v' (n + 1) (xs ++ [u]) → Below base w w' → wpList P ops Q rest (a.put o.dst v') w') : wpList P ops Q (o :: rest) a (w.alloc (.cells #[u] e)) := by
  refine wpList_app (w.alloc (.cells #[u] e)) hgd s x t ho base e z 1 bytes ht hinfo hzs (by decide) v n xs hs (some ⟨w.heap.size, 0, none⟩) 1 1 [u] hx rfl (fun y hy => by
    rw [List.mem_singleton.1 hy]; exact h1) (own_below hown (bel_alloc (bel_refl _) _)) (Rd.newAt w [u] e _ 1 rfl (Nat.le_refl _)) h63 hbytes (by simp; omega) ?_
  intro v' w' h2 _ h4
  refine h v' w' h2 ?_
  exact ((Below.refl base w).alloc hbase _).trans h4
end Go.Proofs.Ytmbbdjpnecjleaa
