/-
  NatTexts: for every input the law returns true, and each argument reads afterwards as it read before. The condition: the package-level table nat.bases holds, when the call begins, what its initialiser lays (the card ties that to the program's text).
-/
import Derived.Test.YtmbbdjpnecjleaaDoorLawTexts
import Derived.Test.YtmbbdjpnecjleaaDoorNOpen
import Derived.Test.YtmbbdjpnecjleaaDoorCards
import Derived.Test.YtmbbdjpnecjleaaDoorTie
import Derived.OpenShut
import Derived.ChangeOld
import Derived.ChangeMaps5
import Derived.Deep.DeepHandedRow
import Derived.Lib.LaidTab
namespace Go.Proofs.YtmbbdjpnecjleaaDoor
open Go.ChangeShapes Go.WideShapes Go.ChangeAt Go.RowKit Go.ChangeMaps

theorem knobNatTexts : ownKnob Tryd.prog.godebug = none := by kernel_rfl
theorem laidNatTexts : laidOutB Tryd.prog = true := by kernel_rfl
theorem gTabNatTexts : Tryd.prog.globalNamed "indenture/nat.bases" = some 0 := by kernel_rfl
theorem gTabTypeNatTexts : (Tryd.prog.globals[0]?).map (·.type) = some 65 := by kernel_rfl
theorem basesNatTexts {W : World} (h : laidMetH Tryd.prog Rows.natTextsRow.laid W) : Bases W := by
  have tab : Lib.TabIs Tryd.prog W "indenture/nat.bases" .i64 [2, 8, 10, 16] :=
    Lib.tabIs_of_head (rest := []) gTabNatTexts gTabTypeNatTexts Tryd.underlying65 Tryd.underlying3 (by kernel_rfl) (by kernel_rfl) h
  have hc : ∀ j, j < 4 → W.cell? ⟨0, j, none⟩ = some (.int .i64 (([2, 8, 10, 16] : List Int).getD j 0)) := fun j hj => tab.cell gTabNatTexts j hj
  exact ⟨World.block_lt_of_cell? W ⟨0, 0, none⟩ (hc 0 (by decide)), hc⟩

set_option maxRecDepth 100000 in
theorem contractNatTexts (H : Type) (enc : TypeId × Value → H) (W : World) (base : Nat) (args : Array Value) (ds gs : List (DataW H)) (before : List MemPlace)
    (hval0 : ∀ (j : Nat) t v, Tryd.f3.params[j]? = some t → args[j]? = some v → Value.okWide Tryd.prog W .any base t v)
    (hW : DataW.Whole enc Tryd.prog Tryd.f3.params.toList Rows.natTextsSpec.vars false W args.toList ds gs before) (hL : laidMetH Tryd.prog Rows.natTextsRow.laid W) :
    Calls Tryd.prog 3 args W fun e W' => ∃ v, e = .returned v ∧ Rows.natTextsSpec.post enc Tryd.prog Tryd.f3 false true false false W args v W' := by
  have hb := basesNatTexts hL
  have hval : ∀ (j : Nat) t v, Tryd.f3.params[j]? = some t → args[j]? = some v → Value.okWide Tryd.prog W .any base t v := hval0
  have hW' := hW
  obtain ⟨p, q, hA0, hV, rfl, hfz, hnd⟩ := hW
  have hA : DataW.TrodAll enc Tryd.prog W 0 (fun _ => true) true Tryd.f3.params.toList args.toList ds p := hA0
  rw [Tryd.params3] at hA hval
  obtain ⟨v0, vs0, d0, ds0, p0, q0, hargs, rfl, rfl, h0, r0⟩ := trodAll_cons hA
  obtain ⟨v1, vs1, d1, ds1, p1, q1, rfl, rfl, rfl, h1, r1⟩ := trodAll_cons r0
  obtain ⟨v2, vs2, d2, ds2, p2, q2, rfl, rfl, rfl, h2, r2⟩ := trodAll_cons r1
  obtain ⟨v3, vs3, d3, ds3, p3, q3, rfl, rfl, rfl, h3, r3⟩ := trodAll_cons r2
  obtain ⟨rfl, rfl, rfl⟩ := trodAll_nil r3
  obtain rfl : args = #[v0, v1, v2, v3] := by cases args; simp_all
  obtain ⟨rfl, rfl⟩ := trodVars_none hV
  obtain ⟨a0, len0, cap0, rfl⟩ := okWide_slice Tryd.underlying23 (hval 0 23 v0 rfl rfl)
  have k0 := h0
  have lt0 : ∀ x ∈ p0, x.block < W.heap.size := by obtain ⟨m, hm⟩ := k0; exact DataW.trod_lt m _ _ _ hm
  obtain ⟨fuel0, hf0⟩ := h0
  obtain ⟨A0, c0, x0, e0, hc0, hr0, hl0⟩ := open_rdL hf0
  obtain ⟨i1, rfl, rfl, rfl, wi1⟩ := open_int Tryd.underlying24 (hval 1 24 v1 rfl rfl) h1
  obtain ⟨s2, rfl, rfl, rfl, ws2⟩ := open_string Tryd.underlying9 (hval 2 9 v2 rfl rfl) h2
  obtain ⟨i3, rfl, rfl, rfl, wi3⟩ := open_int Tryd.underlying3 (hval 3 3 v3 rfl rfl) h3
  injection e0 with e01 e02 e03
  subst e01 e02 e03
  clear hA0 hval0
  refine (law_texts _ _ x0 i1 s2 i3 W hr0 hc0 hb hl0 (wf_u64 wi1)).mono fun e W' ⟨he, bel⟩ => ?_
  subst he
  exact ⟨_, rfl, _, _, _, [], _, [], hW', trodAll_mk1 (shut_bool Tryd.underlying4 _), (trodAll_cons_mk (Below.trod laidNatTexts (by kernel_rfl) (of_decide_eq_true (by kernel_rfl)) k0 bel lt0) (trodAll_cons_mk (shut_int Tryd.underlying24 wi1) (trodAll_cons_mk (shut_string Tryd.underlying9 ws2) (trodAll_cons_mk (shut_int Tryd.underlying3 wi3) trodAll_mk0)))), rfl, bel.frame _, fun h => by cases h⟩

/-- A world for the witness: the settled one, the table holding what its initialiser lays. -/
noncomputable def laidWorldNatTexts (os : Os) : World :=
  { World.holding Tryd.prog os ⟨#[], #[], []⟩ with heap := (World.holding Tryd.prog os ⟨#[], #[], []⟩).heap.modify 0 fun
      | .cells _ t frozen => .cells #[.int .i64 2, .int .i64 8, .int .i64 10, .int .i64 16] t frozen
      | o => o }
theorem laidMetNatTexts (os : Os) : laidMet Tryd.prog Rows.natTextsRow.laid ((laidWorldNatTexts os).forCall (fun _ _ => 0) ⟨#[], #[Value.slice none 0 0, Value.int .u64 0, Value.string ByteArray.empty, Value.int .i64 0], []⟩).memory :=
  laidMet_of_run' 8 (by kernel_rfl) (by kernel_rfl)
theorem readsNatTexts (os : Os) {H : Type} (enc : TypeId × Value → H) : ∃ places, DataW.whole enc Tryd.prog ((laidWorldNatTexts os).forCall (fun _ _ => 0) ⟨#[], #[Value.slice none 0 0, Value.int .u64 0, Value.string ByteArray.empty, Value.int .i64 0], []⟩).memory Tryd.f3.params.toList Rows.natTextsSpec.vars false #[Value.slice none 0 0, Value.int .u64 0, Value.string ByteArray.empty, Value.int .i64 0].toList 8 = some ([.nil, .lit (.int .u64 0), .lit (.string []), .lit (.int .i64 0)], [], places) :=
  ⟨[], by kernel_rfl⟩

set_option maxRecDepth 100000 in
theorem liftedNatTexts (os : Os) (started : os.Started) (H : Type) (enc : TypeId × Value → H) (F : Stop.Interp) :
    ReturnsInHanded {} Tryd.checked os 3 .any ((OpenSpec.ofChange Rows.natTextsSpec).preRow enc Tryd.prog Tryd.f3 Rows.natTextsRow.domain false Rows.natTextsRow.laid) (((OpenSpec.ofChange Rows.natTextsSpec).at F).post enc Tryd.prog Tryd.f3 false true false false) := by
  obtain ⟨places, hx⟩ := readsNatTexts os enc
  refine returnsInHanded_of_row (C := Tryd.checked) (s := OpenSpec.ofChange Rows.natTextsSpec) knobNatTexts started (by kernel_rfl) Tryd.func3
    (witness_row_at (enc := enc) (C := Tryd.checked) false (laidWorldNatTexts os) #[Value.slice none 0 0, Value.int .u64 0, Value.string ByteArray.empty, Value.int .i64 0] rfl (by kernel_rfl) (by kernel_rfl) (by kernel_rfl)
      (OpenSpec.preRow_of_cond 8 hx (by kernel_rfl) (fun k hk => by cases hk) (by kernel_rfl) (laidMetNatTexts os))) ?_
  intro W base args ds gs before hval hW _ _ _ hL _ _
  exact contractNatTexts H enc W base args ds gs before hval hW hL

theorem saidNatTexts : Rows.NatTextsSaid :=
  OpenClaim.holds_of_cond 3 Tryd.f3 rfl rfl rfl rfl rfl rfl rfl ⟨rfl, rfl, rfl, rfl, rfl⟩ rfl rfl rfl rfl rfl (by kernel_rfl) Tryd.func3 (by kernel_rfl)
    (of_decide_eq_true (by kernel_rfl)) (by unfold Func.isWrapper; first | (rw [if_pos (by decide +kernel)]; kernel_rfl) | (rw [if_neg (by decide +kernel)]; exact ⟨rfl, rfl⟩))
    (fun os started H enc _ F => by rw [OpenClaim.pre_eq_preRow]; exact liftedNatTexts os started H enc F)

theorem plainNatTexts (f : FuncId) (fn : Func) (hf : Tryd.pinned.checked.prog.funcNamed "indenture/indenturelaw01.NatTexts" = some f) (hfn : Tryd.pinned.checked.prog.funcs[f]? = some fn) :
    false = Tryd.pinned.checked.prog.looks [] ∧ ∀ (j : Nat) t, fn.params[j]? = some t → Tryd.pinned.checked.prog.wantsStandIn t = false := by
  obtain rfl : f = 3 := Option.some.inj ((show Tryd.prog.funcNamed "indenture/indenturelaw01.NatTexts" = some 3 by kernel_rfl).symm.trans hf) |>.symm
  obtain rfl : fn = Tryd.f3 := (Option.some.inj (Tryd.func3.symm.trans hfn)).symm
  refine ⟨by kernel_rfl, fun j t ht => ?_⟩
  rw [Tryd.params3] at ht
  have hm := Array.mem_of_getElem? ht
  simp only [Array.mem_toList_iff.symm, List.mem_cons, List.not_mem_nil, or_false] at hm
  rcases hm with rfl | rfl | rfl | rfl
  · exact (show Tryd.prog.wantsStandIn 23 = false by kernel_rfl)
  · exact (show Tryd.prog.wantsStandIn 24 = false by kernel_rfl)
  · exact (show Tryd.prog.wantsStandIn 9 = false by kernel_rfl)
  · exact (show Tryd.prog.wantsStandIn 3 = false by kernel_rfl)

theorem natTexts_card : Rows.NatTextsCardSaid :=
  Claim7.holds_tied_plain_at .later [] _ _ _ _ saidNatTexts (fun _ h => by cases h) (by kernel_rfl) (fun _ h => by cases h) natTexts_row_tie rfl ⟨rfl, rfl⟩ (by kernel_rfl) rfl plainNatTexts (by kernel_rfl)
end Go.Proofs.YtmbbdjpnecjleaaDoor
