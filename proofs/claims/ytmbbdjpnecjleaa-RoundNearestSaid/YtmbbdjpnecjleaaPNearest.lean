/-
  RoundNearest: for every input the law returns true, and each argument reads afterwards as it read before. No condition.
-/
import Derived.Test.YtmbbdjpnecjleaaRLawNear
import Derived.Test.YtmbbdjpnecjleaaOpen
import Derived.Test.YtmbbdjpnecjleaaQOpen
import Derived.OpenShut
import Derived.ChangeOld
import Derived.ChangeMaps5
namespace Go.Proofs.Ytmbbdjpnecjleaa
open Go.ChangeShapes Go.WideShapes Go.ChangeAt Go.RowKit Go.ChangeMaps

theorem knobRoundNearest : ownKnob Try.prog.godebug = none := by kernel_rfl
theorem laidRoundNearest : laidOutB Try.prog = true := by kernel_rfl

set_option maxRecDepth 100000 in
theorem roundNearest_lifted (os : Os) (started : os.Started) (H : Type) (enc : TypeId × Value → H) :
    ReturnsInHanded {} Try.checked os 3 .any (Rows.roundNearestSpec.pre6 enc Try.prog Try.f3 Rows.roundNearestRow.domain false) (Rows.roundNearestSpec.post enc Try.prog Try.f3 false true false false) := by
  refine returnsInHanded_of_change (C := Try.checked) knobRoundNearest started (by kernel_rfl) Try.func3
    (ChangeSpec.witness6 (enc := enc) (C := Try.checked) false ⟨#[], #[.agg #[.bool false, .slice none 0 0, .slice none 0 0], .int .i64 0], []⟩ 8 (by kernel_rfl) (by kernel_rfl) (by kernel_rfl) (by kernel_rfl)) ?_
  intro W base args ds gs before hval0 hW hcnd _
  have hval : ∀ (j : Nat) t v, Try.f3.params[j]? = some t → args[j]? = some v → Value.okWide Try.prog W .any base t v := hval0
  have hW' := hW
  obtain ⟨p, q, hA0, hV, rfl, hfz, hnd⟩ := hW
  have hA : DataW.TrodAll enc Try.prog W 0 (fun _ => true) true Try.f3.params.toList args.toList ds p := hA0
  rw [Try.params3] at hA hval
  obtain ⟨v0, vs0, d0, ds0, p0, q0, hargs, rfl, rfl, h0, r0⟩ := trodAll_cons hA
  obtain ⟨v1, vs1, d1, ds1, p1, q1, rfl, rfl, rfl, h1, r1⟩ := trodAll_cons r0
  obtain ⟨rfl, rfl, rfl⟩ := trodAll_nil r1
  obtain rfl : args = #[v0, v1] := by cases args; simp_all
  obtain ⟨rfl, rfl⟩ := trodVars_none hV
  obtain ⟨i1, rfl, rfl, rfl, wi1⟩ := open_int Try.underlying3 (hval 1 3 v1 rfl rfl) h1
  obtain ⟨cs0, rfl, _⟩ := okWide_struct Try.underlying25 (hval 0 25 v0 rfl rfl)
  have k0 := h0
  have lt0 : ∀ x ∈ p0, x.block < W.heap.size := by obtain ⟨m, hm⟩ := k0; exact DataW.trod_lt m _ _ _ hm
  obtain ⟨fuel0, hf0⟩ := h0
  obtain ⟨s0, A0, c0, x0, B0, d0_, y0, e0, hc0, hd0, hr0, hs0, hx0, hy0⟩ := open_rat (cs := cs0.toList) hf0
  obtain rfl : cs0 = #[.bool s0, .slice A0 x0.length c0, .slice B0 y0.length d0_] := by cases cs0; simp_all
  clear hA0 hval0
  refine (law_nearest s0 A0 B0 c0 d0_ x0 y0 i1 W hr0 hs0 hc0 hd0 hx0 hy0).mono fun e W' ⟨he, bel⟩ => ?_
  subst he
  exact ⟨_, rfl, _, _, _, [], _, [], hW', trodAll_mk1 (shut_bool Try.underlying4 _), (trodAll_cons_mk (Below.trod laidRoundNearest (by kernel_rfl) (of_decide_eq_true (by kernel_rfl)) k0 bel lt0) (trodAll_cons_mk (shut_int Try.underlying3 wi1) trodAll_mk0)), rfl, bel.frame _, fun h => by cases h⟩

theorem roundNearest_over : Rows.roundNearestRow.holds Try.pinned (OpenSpec.ofChange Rows.roundNearestSpec) :=
  OpenClaim.holds_of_wide 3 Try.f3 rfl rfl rfl rfl rfl rfl rfl ⟨rfl, rfl, rfl, rfl, rfl⟩ rfl rfl rfl rfl rfl (by kernel_rfl) Try.func3 (by kernel_rfl)
    (of_decide_eq_true (by kernel_rfl)) (by unfold Func.isWrapper; first | (rw [if_pos (by decide +kernel)]; kernel_rfl) | (rw [if_neg (by decide +kernel)]; exact ⟨rfl, rfl⟩))
    (fun os started H enc _ => roundNearest_lifted os started H enc)

theorem roundNearest_holds : Rows.RoundNearestSaid := roundNearest_over
end Go.Proofs.Ytmbbdjpnecjleaa
