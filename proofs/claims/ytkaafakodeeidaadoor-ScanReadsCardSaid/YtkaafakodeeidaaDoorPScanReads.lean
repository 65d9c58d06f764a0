/-
  ScanReads: for every input the law returns true, and each argument reads afterwards as it read before. The condition: the package-level tables scan.keys and scan.ops hold, when the call begins, what their initialisers lay (the card ties that to the program's text).
-/
import Derived.Test.YtkaafakodeeidaaDoorLawReads
import Derived.Test.YtkaafakodeeidaaDoorCards
import Derived.Test.YtkaafakodeeidaaDoorTie
import Derived.OpenShut
import Derived.ChangeOld
import Derived.ChangeMaps5
import Derived.Deep.DeepHandedRow
import Derived.MakeChecks
import Derived.Shelf.Vars
import Derived.LaidLaws
namespace Go.Proofs.YtkaafakodeeidaaDoor
open Go.ChangeShapes Go.WideShapes Go.ChangeAt Go.RowKit Go.ChangeMaps

theorem knobScanReads : ownKnob Tryd.prog.godebug = none := by kernel_rfl
theorem laidScanReads : laidOutB Tryd.prog = true := by kernel_rfl
/-- A table of texts that is listed reads as it is listed. -/
theorem strs_cells {P : Program} {W : World} {name : String} {g : Nat} {t e : TypeId} {n fuel : Nat} {cs : Array Value} {p : List MemPlace} (L : List ByteArray)
    (hg : P.globalNamed name = some g) (ht : P.underlying t = some (.array n e)) (he : P.underlying e = some .string) (hce : P.cellsOf e = 1) (hn : n = L.length)
    (hv : W.var? P name = some cs) (hd : DataW.trod (fun _ => ()) P W 0 (fun _ => true) false fuel t cs.toList = some (.agg (L.map fun s => .lit (.string s.data.toList)), p)) :
    ∀ j, j < n → W.cell? ⟨g, j, none⟩ = some (.string (L.getD j ByteArray.empty)) := by
  intro r hr
  obtain ⟨xs, m, _, ex, _, hl, hel⟩ := DataW.trod_array ht hd
  have hE := hel r hr
  rw [hce, Nat.mul_one, List.getElem?_eq_getElem (by omega)] at hE
  obtain ⟨z, e1, e2, _⟩ := DataW.trod_string he hE
  have e3 : (xs.map (·.1)) = L.map fun s => .lit (.string s.data.toList) := (DataW.agg.inj (Prod.mk.inj ex).1).symm
  have e4 : (xs.map (·.1))[r]? = (L.map fun s => (DataW.lit (.string s.data.toList) : DataW Unit))[r]? := by rw [e3]
  rw [List.getElem?_map, List.getElem?_map, List.getElem?_eq_getElem (by omega : r < xs.length), List.getElem?_eq_getElem (by omega : r < L.length), e2] at e4
  have hz : z = L.getD r ByteArray.empty := by
    simp only [Option.map_some, Option.some.injEq, DataW.lit.injEq, Lit.string.injEq] at e4
    rw [List.getD, List.getElem?_eq_getElem (by omega : r < L.length)]
    exact ByteArray.ext (Array.ext' e4)
  rw [World.var?_cell hg hv r, ← hz]
  have : cs.toList[r]? = some (.string z) := by
    have h0 : ((cs.toList.drop r).take 1)[0]? = some (.string z) := by rw [e1]; rfl
    simpa using h0
  simpa using this
theorem laidKeysScanReads : (Rows.laid_indenture_scan_keys : DataW Unit) = .agg (keysL.map fun s => .lit (.string s.data.toList)) := by kernel_rfl
theorem laidOpsScanReads : (Rows.laid_indenture_scan_ops : DataW Unit) = .agg (opsL.map fun s => .lit (.string s.data.toList)) := by kernel_rfl
theorem laidOfScanReads {W : World} (h : laidMetH Tryd.prog Rows.scanReadsRow.laid W) (hs : W.ShapedOpen Tryd.prog) : Laid W := by
  rw [MakeChecks.laidMetH_plain _ _ _ (by kernel_rfl)] at h
  obtain ⟨ps, ⟨g, t, cs, fuel, p, q, hg, ht, hv, hd, ⟨g2, t2, cs2, fuel2, p2, q2, hg2, ht2, hv2, hd2, _, _⟩, _⟩, _, _⟩ := h
  obtain rfl := Option.some.inj ((show Tryd.prog.globalNamed "indenture/scan.keys" = some 0 by kernel_rfl).symm.trans hg)
  obtain rfl := Option.some.inj ((show (Tryd.prog.globals[0]?).map (·.type) = some 51 by kernel_rfl).symm.trans ht)
  obtain rfl := Option.some.inj ((show Tryd.prog.globalNamed "indenture/scan.ops" = some 1 by kernel_rfl).symm.trans hg2)
  obtain rfl := Option.some.inj ((show (Tryd.prog.globals[1]?).map (·.type) = some 52 by kernel_rfl).symm.trans ht2)
  rw [laidKeysScanReads] at hd
  rw [laidOpsScanReads] at hd2
  obtain ⟨m, hm⟩ := Go.Proofs.cell_of_shapedOpen_int (zero := #[.int .i64 0]) (t := 3) hs (of_decide_eq_true (by kernel_rfl) : 2 < Tryd.prog.globals.size) (by kernel_rfl) rfl (by kernel_rfl) (by kernel_rfl) Tryd.underlying3
  exact ⟨strs_cells keysL hg Tryd.underlying51 Tryd.underlying9 (by kernel_rfl) rfl hv hd, strs_cells opsL hg2 Tryd.underlying52 Tryd.underlying9 (by kernel_rfl) rfl hv2 hd2, ⟨m, hm⟩, World.block_lt_of_cell? W ⟨2, 0, none⟩ hm⟩

set_option maxRecDepth 100000 in
theorem contractScanReads (H : Type) (enc : TypeId × Value → H) (W : World) (base : Nat) (args : Array Value) (ds gs : List (DataW H)) (before : List MemPlace)
    (hval0 : ∀ (j : Nat) t v, Tryd.f3.params[j]? = some t → args[j]? = some v → Value.okWide Tryd.prog W .any base t v)
    (hW : DataW.Whole enc Tryd.prog Tryd.f3.params.toList Rows.scanReadsSpec.vars false W args.toList ds gs before) (hL : laidMetH Tryd.prog Rows.scanReadsRow.laid W) (hS : W.ShapedOpen Tryd.prog) :
    Calls Tryd.prog 3 args W fun e W' => ∃ v, e = .returned v ∧ Rows.scanReadsSpec.post enc Tryd.prog Tryd.f3 false true false false W args v W' := by
  have hb := laidOfScanReads hL hS
  have hval : ∀ (j : Nat) t v, Tryd.f3.params[j]? = some t → args[j]? = some v → Value.okWide Tryd.prog W .any base t v := hval0
  have hW' := hW
  obtain ⟨p, q, hA0, hV, rfl, hfz, hnd⟩ := hW
  have hA : DataW.TrodAll enc Tryd.prog W 0 (fun _ => true) true Tryd.f3.params.toList args.toList ds p := hA0
  rw [Tryd.params3] at hA hval
  obtain ⟨v0, vs0, d0, ds0, p0, q0, hargs, rfl, rfl, h0, r0⟩ := trodAll_cons hA
  obtain ⟨v1, vs1, d1, ds1, p1, q1, rfl, rfl, rfl, h1, r1⟩ := trodAll_cons r0
  obtain ⟨rfl, rfl, rfl⟩ := trodAll_nil r1
  obtain rfl : args = #[v0, v1] := by cases args; simp_all
  obtain ⟨rfl, rfl⟩ := trodVars_none hV
  obtain ⟨s0, rfl, rfl, rfl, ws0⟩ := open_string Tryd.underlying9 (hval 0 9 v0 rfl rfl) h0
  obtain ⟨s1, rfl, rfl, rfl, ws1⟩ := open_string Tryd.underlying9 (hval 1 9 v1 rfl rfl) h1
  clear hA0 hval0
  refine (law_reads s0 s1 W hb).mono fun e W' ⟨he, bel⟩ => ?_
  subst he
  exact ⟨_, rfl, _, _, _, [], _, [], hW', trodAll_mk1 (shut_bool Tryd.underlying4 _), (trodAll_cons_mk (shut_string Tryd.underlying9 ws0) (trodAll_cons_mk (shut_string Tryd.underlying9 ws1) trodAll_mk0)), rfl, bel.frame _, fun h => by cases h⟩

/-- A block's cells, put anew. -/
def cellsPut (cs : Array Value) : Obj → Obj
  | .cells _ t frozen => .cells cs t frozen
  | o => o
/-- A world for the witness: the settled one, the tables holding what their initialisers lay. -/
noncomputable def laidWorldScanReads (os : Os) : World :=
  { World.holding Tryd.prog os ⟨#[], #[], []⟩ with heap := ((World.holding Tryd.prog os ⟨#[], #[], []⟩).heap.modify 0 (cellsPut (keysL.map Value.string).toArray)).modify 1 (cellsPut (opsL.map Value.string).toArray) }
theorem laidMetScanReads (os : Os) : laidMet Tryd.prog Rows.scanReadsRow.laid ((laidWorldScanReads os).forCall (fun _ _ => 0) ⟨#[], #[Value.string ByteArray.empty, Value.string ByteArray.empty], []⟩).memory :=
  laidMet_of_run' 8 (by kernel_rfl) (by kernel_rfl)
theorem readsScanReads (os : Os) {H : Type} (enc : TypeId × Value → H) : ∃ places, DataW.whole enc Tryd.prog ((laidWorldScanReads os).forCall (fun _ _ => 0) ⟨#[], #[Value.string ByteArray.empty, Value.string ByteArray.empty], []⟩).memory Tryd.f3.params.toList Rows.scanReadsSpec.vars false #[Value.string ByteArray.empty, Value.string ByteArray.empty].toList 8 = some ([.lit (.string []), .lit (.string [])], [], places) :=
  ⟨[], by kernel_rfl⟩

set_option maxRecDepth 100000 in
theorem liftedScanReads (os : Os) (started : os.Started) (H : Type) (enc : TypeId × Value → H) (F : Stop.Interp) :
    ReturnsInHanded {} Tryd.checked os 3 .any ((OpenSpec.ofChange Rows.scanReadsSpec).preRow enc Tryd.prog Tryd.f3 Rows.scanReadsRow.domain false Rows.scanReadsRow.laid) (((OpenSpec.ofChange Rows.scanReadsSpec).at F).post enc Tryd.prog Tryd.f3 false true false false) := by
  obtain ⟨places, hx⟩ := readsScanReads os enc
  refine returnsInHanded_of_row (C := Tryd.checked) (s := OpenSpec.ofChange Rows.scanReadsSpec) knobScanReads started (by kernel_rfl) Tryd.func3
    (witness_row_at (enc := enc) (C := Tryd.checked) false (laidWorldScanReads os) #[Value.string ByteArray.empty, Value.string ByteArray.empty] rfl (by kernel_rfl) (by kernel_rfl) (by kernel_rfl)
      (OpenSpec.preRow_of_cond 8 hx (by kernel_rfl) (fun k hk => by cases hk) (by kernel_rfl) (laidMetScanReads os))) ?_
  intro W base args ds gs before hval hW _ _ _ hL hS _
  exact contractScanReads H enc W base args ds gs before hval hW hL hS

theorem saidScanReads : Rows.ScanReadsSaid :=
  OpenClaim.holds_of_cond 3 Tryd.f3 rfl rfl rfl rfl rfl rfl rfl ⟨rfl, rfl, rfl, rfl, rfl⟩ rfl rfl rfl rfl rfl (by kernel_rfl) Tryd.func3 (by kernel_rfl)
    (of_decide_eq_true (by kernel_rfl)) (by unfold Func.isWrapper; first | (rw [if_pos (by decide +kernel)]; kernel_rfl) | (rw [if_neg (by decide +kernel)]; exact ⟨rfl, rfl⟩))
    (fun os started H enc _ F => by rw [OpenClaim.pre_eq_preRow]; exact liftedScanReads os started H enc F)

theorem plainScanReads (f : FuncId) (fn : Func) (hf : Tryd.pinned.checked.prog.funcNamed "indenture/indenturelaw05.ScanReads" = some f) (hfn : Tryd.pinned.checked.prog.funcs[f]? = some fn) :
    false = Tryd.pinned.checked.prog.looks [] ∧ ∀ (j : Nat) t, fn.params[j]? = some t → Tryd.pinned.checked.prog.wantsStandIn t = false := by
  obtain rfl : f = 3 := Option.some.inj ((show Tryd.prog.funcNamed "indenture/indenturelaw05.ScanReads" = some 3 by kernel_rfl).symm.trans hf) |>.symm
  obtain rfl : fn = Tryd.f3 := (Option.some.inj (Tryd.func3.symm.trans hfn)).symm
  refine ⟨by kernel_rfl, fun j t ht => ?_⟩
  rw [Tryd.params3] at ht
  have hm := Array.mem_of_getElem? ht
  simp only [Array.mem_toList_iff.symm, List.mem_cons, List.not_mem_nil, or_false] at hm
  rcases hm with rfl | rfl
  · exact (show Tryd.prog.wantsStandIn 9 = false by kernel_rfl)
  · exact (show Tryd.prog.wantsStandIn 9 = false by kernel_rfl)

theorem scanReads_card : Rows.ScanReadsCardSaid :=
  Claim7.holds_tied_plain_at .later [] _ _ _ _ saidScanReads (fun _ h => by cases h) (by kernel_rfl) (fun _ h => by cases h) scanReads_row_tie rfl ⟨rfl, rfl⟩ (by kernel_rfl) rfl plainScanReads (by kernel_rfl)
end Go.Proofs.YtkaafakodeeidaaDoor
