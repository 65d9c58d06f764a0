/-
  RoundBack: for every input the law returns true, and each argument reads afterwards as it read before. No condition.
-/
import Derived.Test.YtmbbdjpnecjleaaRLawBack
import Derived.Test.YtmbbdjpnecjleaaOpen
import Derived.Test.YtmbbdjpnecjleaaQOpen
import Derived.Test.YtmbbdjpnecjleaaNOpen
import Derived.OpenShut
import Derived.ChangeOld
import Derived.ChangeMaps5
namespace Go.Proofs.Ytmbbdjpnecjleaa
open Go.ChangeShapes Go.WideShapes Go.ChangeAt Go.RowKit Go.ChangeMaps

theorem knobRoundBack : ownKnob Try.prog.godebug = none := by kernel_rfl
theorem laidRoundBack : laidOutB Try.prog = true := by kernel_rfl

set_option maxRecDepth 100000 in
theorem roundBack_lifted (os : Os) (started : os.Started) (H : Type) (enc : TypeId × Value → H) :
    ReturnsInHanded {} Try.checked os 10 .any (Rows.roundBackSpec.pre6 enc Try.prog Try.f10 Rows.roundBackRow.domain false) (Rows.roundBackSpec.post enc Try.prog Try.f10 false true false false) := by
  refine returnsInHanded_of_change (C := Try.checked) knobRoundBack started (by kernel_rfl) Try.func10
    (ChangeSpec.witness6 (enc := enc) (C := Try.checked) false ⟨#[], #[.int .u64 0, .agg #[.bool false, .slice none 0 0, .slice none 0 0], .int .i64 0], []⟩ 8 (by kernel_rfl) (by kernel_rfl) (by kernel_rfl) (by kernel_rfl)) ?_
  intro W base args ds gs before hval0 hW hcnd _
  have hval : ∀ (j : Nat) t v, Try.f10.params[j]? = some t → args[j]? = some v → Value.okWide Try.prog W .any base t v := hval0
  have hW' := hW
  obtain ⟨p, q, hA0, hV, rfl, hfz, hnd⟩ := hW
  have hA : DataW.TrodAll enc Try.prog W 0 (fun _ => true) true Try.f10.params.toList args.toList ds p := hA0
  rw [Try.params10] at hA hval
  obtain ⟨v0, vs0, d0, ds0, p0, q0, hargs, rfl, rfl, h0, r0⟩ := trodAll_cons hA
  obtain ⟨v1, vs1, d1, ds1, p1, q1, rfl, rfl, rfl, h1, r1⟩ := trodAll_cons r0
  obtain ⟨v2, vs2, d2, ds2, p2, q2, rfl, rfl, rfl, h2, r2⟩ := trodAll_cons r1
  obtain ⟨rfl, rfl, rfl⟩ := trodAll_nil r2
  obtain rfl : args = #[v0, v1, v2] := by cases args; simp_all
  obtain ⟨rfl, rfl⟩ := trodVars_none hV
  obtain ⟨i0, rfl, rfl, rfl, wi0⟩ := open_int Try.underlying27 (hval 0 27 v0 rfl rfl) h0
  obtain ⟨i2, rfl, rfl, rfl, wi2⟩ := open_int Try.underlying3 (hval 2 3 v2 rfl rfl) h2
  obtain ⟨cs1, rfl, _⟩ := okWide_struct Try.underlying25 (hval 1 25 v1 rfl rfl)
  have k1 := h1
  have lt1 : ∀ x ∈ p1, x.block < W.heap.size := by obtain ⟨m, hm⟩ := k1; exact DataW.trod_lt m _ _ _ hm
  obtain ⟨fuel1, hf1⟩ := h1
  obtain ⟨s1, A1, c1, x1, B1, d1_, y1, e1, hc1, hd1, hr1, hs1, hx1, hy1⟩ := open_rat (cs := cs1.toList) hf1
  obtain rfl : cs1 = #[.bool s1, .slice A1 x1.length c1, .slice B1 y1.length d1_] := by cases cs1; simp_all
  clear hA0 hval0
  refine (law_back3i s1 A1 B1 c1 d1_ x1 y1 i0 i2 W (wf_u64 wi0) hr1 hs1 hc1 hd1 hx1 hy1).mono fun e W' ⟨he, bel⟩ => ?_
  subst he
  exact ⟨_, rfl, _, _, _, [], _, [], hW', trodAll_mk1 (shut_bool Try.underlying4 _), (trodAll_cons_mk (shut_int Try.underlying27 wi0) (trodAll_cons_mk (Below.trod laidRoundBack (by kernel_rfl) (of_decide_eq_true (by kernel_rfl)) k1 bel lt1) (trodAll_cons_mk (shut_int Try.underlying3 wi2) trodAll_mk0))), rfl, bel.frame _, fun h => by cases h⟩

theorem roundBack_over : Rows.roundBackRow.holds Try.pinned (OpenSpec.ofChange Rows.roundBackSpec) :=
  OpenClaim.holds_of_wide 10 Try.f10 rfl rfl rfl rfl rfl rfl rfl ⟨rfl, rfl, rfl, rfl, rfl⟩ rfl rfl rfl rfl rfl (by kernel_rfl) Try.func10 (by kernel_rfl)
    (of_decide_eq_true (by kernel_rfl)) (by unfold Func.isWrapper; first | (rw [if_pos (by decide +kernel)]; kernel_rfl) | (rw [if_neg (by decide +kernel)]; exact ⟨rfl, rfl⟩))
    (fun os started H enc _ => roundBack_lifted os started H enc)

theorem roundBack_holds : Rows.RoundBackSaid := roundBack_over
end Go.Proofs.Ytmbbdjpnecjleaa
