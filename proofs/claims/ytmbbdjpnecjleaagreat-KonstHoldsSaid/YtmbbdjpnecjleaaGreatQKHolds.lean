/-
 KonstHolds: for every input the law returns true, and each argument reads afterwards as it read before. No condition.
-/
import Derived.Test.YtmbbdjpnecjleaaGreatH37
import Derived.OpenShut
import Derived.ChangeOld
import Derived.ChangeMaps5
namespace Go.Proofs.YtmbbdjpnecjleaaGreat
set_option maxRecDepth 100000
set_option maxHeartbeats 1000000
open Go.ChangeShapes Go.WideShapes Go.ChangeAt Go.RowKit Go.ChangeMaps

theorem knobKonstHolds : ownKnob Tryz.prog.godebug = none := by kernel_rfl
theorem laidKonstHolds : laidOutB Tryz.prog = true := by kernel_rfl

theorem konstHolds_lifted (os : Os) (started : os.Started) (H : Type) (enc : TypeId × Value → H) :
 ReturnsInHanded {} Tryz.checked os 4 .any (Rows.konstHoldsSpec.pre6 enc Tryz.prog Tryz.f4 Rows.konstHoldsRow.domain false) (Rows.konstHoldsSpec.post enc Tryz.prog Tryz.f4 false true false false) := by
 refine returnsInHanded_of_change (C := Tryz.checked) knobKonstHolds started (by kernel_rfl) Tryz.func4
  (ChangeSpec.witness6 (enc := enc) (C := Tryz.checked) false ⟨#[], #[.string ByteArray.empty, .agg #[.int .i64 0, .bool false, .string ByteArray.empty, .bool false, .slice none 0 0, .slice none 0 0], .agg #[.int .i64 0, .bool false, .string ByteArray.empty, .bool false, .slice none 0 0, .slice none 0 0], .int .i64 0], []⟩ 8 (by kernel_rfl) (by kernel_rfl) (by kernel_rfl) (by kernel_rfl)) ?_
 intro W base args ds gs before hval0 hW hcnd _
 have hval : ∀ (j : Nat) t v, Tryz.f4.params[j]? = some t → args[j]? = some v → Value.okWide Tryz.prog W .any base t v := hval0
 have hW' := hW
 obtain ⟨p, q, hA0, hV, rfl, hfz, hnd⟩ := hW
 have hA : DataW.TrodAll enc Tryz.prog W 0 (fun _ => true) true Tryz.f4.params.toList args.toList ds p := hA0
 rw [Tryz.params4] at hA hval
 obtain ⟨v0, vs0, d0, ds0, p0, q0, hargs, rfl, rfl, h0, r0⟩ := trodAll_cons hA
 obtain ⟨v1, vs1, d1, ds1, p1, q1, rfl, rfl, rfl, h1, r1⟩ := trodAll_cons r0
 obtain ⟨v2, vs2, d2, ds2, p2, q2, rfl, rfl, rfl, h2, r2⟩ := trodAll_cons r1
 obtain ⟨v3, vs3, d3, ds3, p3, q3, rfl, rfl, rfl, h3, r3⟩ := trodAll_cons r2
 obtain ⟨rfl, rfl, rfl⟩ := trodAll_nil r3
 obtain rfl : args = #[v0, v1, v2, v3] := by cases args; simp_all
 obtain ⟨rfl, rfl⟩ := trodVars_none hV
 obtain ⟨s0, rfl, rfl, rfl, ws0⟩ := open_string Tryz.underlying9 (hval 0 9 v0 rfl rfl) h0
 obtain ⟨i3, rfl, rfl, rfl, wi3⟩ := open_int Tryz.underlying3 (hval 3 3 v3 rfl rfl) h3
 obtain ⟨cs1, rfl, _⟩ := okWide_struct Tryz.underlying27 (hval 1 27 v1 rfl rfl)
 have k1 := h1
 have lt1 : ∀ x ∈ p1, x.block < W.heap.size := by obtain ⟨m, hm⟩ := k1; exact DataW.trod_lt m _ _ _ hm
 obtain ⟨fuel1, hf1⟩ := h1
 obtain ⟨V1, A1, B1, c1, d1_, e1, hr1, hx1, hy1⟩ := open_val (cs := cs1.toList) hf1
 obtain rfl : cs1 = #[.int .i64 V1.k, .bool V1.b, .string V1.s, .bool V1.g, .slice A1 V1.xs.length c1, .slice B1 V1.ys.length d1_] := by cases cs1; simp_all
 obtain ⟨cs2, rfl, _⟩ := okWide_struct Tryz.underlying27 (hval 2 27 v2 rfl rfl)
 have k2 := h2
 have lt2 : ∀ x ∈ p2, x.block < W.heap.size := by obtain ⟨m, hm⟩ := k2; exact DataW.trod_lt m _ _ _ hm
 obtain ⟨fuel2, hf2⟩ := h2
 obtain ⟨V2, A2, B2, c2, d2_, e2, hr2, hx2, hy2⟩ := open_val (cs := cs2.toList) hf2
 obtain rfl : cs2 = #[.int .i64 V2.k, .bool V2.b, .string V2.s, .bool V2.g, .slice A2 V2.xs.length c2, .slice B2 V2.ys.length d2_] := by cases cs2; simp_all
 clear hA0 hval0
 refine (law_holds15 s0 V1 V2 A1 B1 A2 B2 c1 d1_ c2 d2_ i3 W hr1 hr2 hx1 hy1 hx2 hy2).mono fun e W' ⟨he, bel⟩ => ?_
 subst he
 exact ⟨_, rfl, _, _, _, [], _, [], hW', trodAll_mk1 (shut_bool Tryz.underlying4 _), (trodAll_cons_mk (shut_string Tryz.underlying9 ws0) (trodAll_cons_mk (Below.trod laidKonstHolds (by kernel_rfl) (of_decide_eq_true (by kernel_rfl)) k1 bel lt1) (trodAll_cons_mk (Below.trod laidKonstHolds (by kernel_rfl) (of_decide_eq_true (by kernel_rfl)) k2 bel lt2) (trodAll_cons_mk (shut_int Tryz.underlying3 wi3) trodAll_mk0)))), rfl, bel.frame _, fun h => by cases h⟩

theorem konstHolds_over : Rows.konstHoldsRow.holds Tryz.pinned (OpenSpec.ofChange Rows.konstHoldsSpec) :=
 OpenClaim.holds_of_wide 4 Tryz.f4 rfl rfl rfl rfl rfl rfl rfl ⟨rfl, rfl, rfl, rfl, rfl⟩ rfl rfl rfl rfl rfl (by kernel_rfl) Tryz.func4 (by kernel_rfl)
  (of_decide_eq_true (by kernel_rfl)) (by unfold Func.isWrapper; first | (rw [if_pos (by decide +kernel)]; kernel_rfl) | (rw [if_neg (by decide +kernel)]; exact ⟨rfl, rfl⟩))
  (fun os started H enc _ => konstHolds_lifted os started H enc)

theorem konstHolds_holds : Rows.KonstHoldsSaid := konstHolds_over
end Go.Proofs.YtmbbdjpnecjleaaGreat
