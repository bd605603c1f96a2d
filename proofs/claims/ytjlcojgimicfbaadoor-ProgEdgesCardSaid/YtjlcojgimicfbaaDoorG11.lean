/- Proof text of this claim, part 11: The row of ProgEdges: for every input the call returns true, and its arguments read as before.. Its conditions are those of the statement: the laid tables as the row lists them. -/
import Derived.Test.YtjlcojgimicfbaaDoorG9
import Derived.Test.YtjlcojgimicfbaaDoorG8
import Derived.Test.YtjlcojgimicfbaaDoorTie
import Derived.Test.YtjlcojgimicfbaaDoorCards
import Derived.SevenTiedAt
/- The row of ProgEdges: for every input the call returns true, and its arguments read as before. -/
namespace Go.Proofs.YtjlcojgimicfbaaDoor
open Go.Am Go.ChangeShapes Go.WideShapes Go.ChangeAt Go.RowKit
set_option linter.unusedSimpArgs false
set_option maxRecDepth 100000

theorem laidAscii_ProgEdges : Rows.progEdgesRow.laid.filter (fun x => x.1 == "strings.asciiSpace") = [("strings.asciiSpace", Lib.tabData .u8 Lib.asciiSpaceTab)] := by kernel_rfl
theorem laidErr_ProgEdges : Rows.progEdgesRow.laid.filter (fun x => x.1 == "errors.errorType") = [("errors.errorType", Rows.laid_errors_errorType)] := by kernel_rfl
theorem door_ProgEdges (os : Os) (args : Array Value) : laidMetH Tryd.prog Rows.progEdgesRow.laid ((World.doorLaid Tryd.prog 2000 os).forCall (fun _ _ => 0) ⟨#[], args, []⟩).memory :=
  laidMetH_of_parts3 (fuel := 8) (laidMet_of_run' 8 (by kernel_rfl) (by kernel_rfl)) (by kernel_rfl) (by kernel_rfl)
theorem progEdges_lifted (os : Os) (started : os.Started) (H : Type) (enc : TypeId × Value → H) :
    ReturnsInHanded {} Tryd.checked os 5 .any (fun w args => (Rows.progEdgesSpec.pre enc Tryd.prog Tryd.f5 [] false w args ∧ laidMetH Tryd.prog Rows.progEdgesRow.laid w) ∧ sizedMet enc Tryd.prog Tryd.f5 (OpenSpec.ofChange Rows.progEdgesSpec) false w args)
      (Rows.progEdgesSpec.post enc Tryd.prog Tryd.f5 false true false false) := by
  refine returnsInHanded_of_change_and (C := Tryd.checked) (X := fun w _ => laidMetH Tryd.prog Rows.progEdgesRow.laid w) (fun _ _ _ hh h => h.of_heap hh) ownK started (by kernel_rfl) Tryd.func5
    (ChangeSpec.witness_shaped (enc := enc) (C := Tryd.checked) (os := os) (X := fun w _ => laidMetH Tryd.prog Rows.progEdgesRow.laid w) false (World.doorLaid Tryd.prog 2000 os) #[.agg #[.slice none 0 0], .int .i64 0] 8 rfl (World.shaped_of_RefB (by kernel_rfl) (by kernel_rfl)) (by kernel_rfl) (by kernel_rfl) (by kernel_rfl) (door_ProgEdges os _)) ?_
  intro W base args ds gs before hval0 hW _ hsz0 hL _
  have hval : ∀ (j : Nat) t v, Tryd.f5.params[j]? = some t → args[j]? = some v → Value.okWide Tryd.prog W .any base t v := hval0
  have hW' := hW
  obtain ⟨p, q, hA0, hV, rfl, hfz, hnd⟩ := hW
  have hA : DataW.TrodAll enc Tryd.prog W 0 (fun _ => true) true Tryd.f5.params.toList args.toList ds p := hA0
  have hsz : (DataW.weightsEach Tryd.prog (Tryd.f5.params.toList ++ []) (ds ++ gs)).all (· ≤ reachBytes) = true := hsz0
  rw [Tryd.params5] at hA hval hsz
  obtain ⟨v0, vs0, d0, ds0, p0, q0, ha0, rfl, rfl, h0, hr0⟩ := trodAll_cons hA
  obtain ⟨v1, vs1, d1, ds1, p1, q1, rfl, rfl, rfl, h1, hr1⟩ := trodAll_cons hr0
  obtain ⟨rfl, rfl, rfl⟩ := trodAll_nil hr1
  obtain rfl : args = #[v0, v1] := by cases args; simp_all
  obtain ⟨rfl, rfl⟩ := trodVars_none hV
  have k0 := h0
  have lt0 : ∀ x ∈ p0, x.block < W.heap.size := by obtain ⟨m, hm⟩ := k0; exact DataW.trod_lt m _ _ _ hm
  obtain ⟨cs0, rfl, hcs0⟩ := okWide_struct (by kernel_rfl : Tryd.prog.underlying 35 = some (.struct (Tryd.prog.fieldsOf 35))) (hval 0 35 v0 rfl rfl)
  obtain ⟨fuel0, hf0⟩ := h0
  obtain ⟨ps0, hps0, hrep0⟩ := trod_sh 9 fuel0 _ _ _ _ sh_prog hf0 (fun m hm => by
    have hm' := List.all_eq_true.1 hsz m (DataW.weights_mem_each (j := 0) rfl rfl m hm)
    simp only [decide_eq_true_eq] at hm'
    have := reachBytes_lt
    omega)
  obtain ⟨n0, rfl⟩ := prog_of hps0
  obtain ⟨n1, rfl, rfl, rfl, hwn1⟩ := open_int Tryd.underlying3 (hval 1 3 v1 rfl rfl) h1
  have hB := blanks_of (tab_of_laid hL laidAscii_ProgEdges)
  have hE := err_of_laid hL laidErr_ProgEdges
  refine (c_ProgEdges (Γ := fun b => W.heap[b]?) hB hE n0 n1 (fun _ => False) W #[.agg cs0, .int .i64 n1] ⟨fun _ h => h.elim, fun b o h => ⟨h, fun h => h⟩⟩ ?_).mono ?_
  · have g0 : PRep W (fun _ => False) (progV n0) (.agg cs0) := .agg [.sl false (funRows n0)] cs0 (by simpa [Value.cells] using hrep0.1) (fun j p y g1 g2 => hrep0.2 j p y g1 (by simpa [Value.cells] using g2))
    exact (PReps.one g0).append (PReps.one (.v (.int .i64 n1)))
  · rintro e W' ⟨y, rfl, hy, hx⟩
    have hy' : y = .bool true := by cases hy; rfl
    subst hy'
    obtain ⟨bel, al⟩ := ext_below hx
    refine ⟨_, rfl, ChangeSpec.post_alike ?_ al⟩
    exact ⟨_, _, _, [], _, [], hW', trodAll_mk1 (shut_bool Tryd.underlying4 _), (trodAll_cons_mk (Below.trod laidOut (by kernel_rfl) (of_decide_eq_true (by kernel_rfl)) k0 bel lt0) (trodAll_cons_mk (shut_int Tryd.underlying3 hwn1) trodAll_mk0)), rfl, bel.frame _, fun h => by cases h⟩
theorem progEdges_row : Rows.ProgEdgesSaid :=
  OpenClaim.holds_of_wide 5 Tryd.f5 rfl rfl rfl rfl rfl rfl rfl ⟨rfl, rfl, rfl, rfl, rfl⟩ rfl rfl rfl rfl rfl (by kernel_rfl) Tryd.func5 (by kernel_rfl)
    (of_decide_eq_true (by kernel_rfl)) (by unfold Func.isWrapper; first | (rw [if_pos (by decide +kernel)]; kernel_rfl) | (rw [if_neg (by decide +kernel)]; exact ⟨rfl, rfl⟩))
    (fun os started H enc _ => progEdges_lifted os started H enc)
end Go.Proofs.YtjlcojgimicfbaaDoor
/- ProgEdges, the tied card. -/
namespace Go.Proofs.YtjlcojgimicfbaaDoor
open Go
theorem progEdges_holds : Rows.ProgEdgesCardSaid :=
  Claim7.holds_tied_plain_at .later [] [.handle, .listed, .data] true Rows.progEdgesCard.stood.harness true
    progEdges_row (fun _ h => by cases h) (by kernel_rfl) (fun _ h => by cases h) progEdges_row_tie rfl ⟨rfl, rfl⟩ (by kernel_rfl) rfl
    (fun f fn hf hfn => by
      obtain rfl : f = 5 := Option.some.inj ((show Tryd.prog.funcNamed "bywash/bywashlaw06.ProgEdges" = some 5 by kernel_rfl).symm.trans hf) |>.symm
      obtain rfl : fn = Tryd.f5 := (Option.some.inj (Tryd.func5.symm.trans hfn)).symm
      exact ⟨by kernel_rfl, fun j t ht => by
        rw [Tryd.params5] at ht
        have hm : t ∈ [35, 3] := by simpa using Array.mem_of_getElem? ht
        have hall : ([35, 3].all fun u => !Tryd.prog.wantsStandIn u) = true := by kernel_rfl
        exact (show Tryd.prog.wantsStandIn t = false by simpa using List.all_eq_true.1 hall t hm)⟩)
    (by kernel_rfl)
end Go.Proofs.YtjlcojgimicfbaaDoor
