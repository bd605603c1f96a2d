/- Proof text of this claim, part 9: The row of InstrIs: for every input the call returns true, and its arguments read as before; the laid tables as the row lists them.. Its conditions are those of the statement: the laid tables as the row lists them. -/
import Derived.Test.YtjlcojgimicfbaaDoorG7
import Derived.Test.YtjlcojgimicfbaaDoorF2
import Derived.Test.YtjlcojgimicfbaaDoorRows
import Derived.ProofKit
import Derived.LaidMore
import Derived.LaidSub
import Derived.MakeChecks
import Derived.Stop.Joined
import Derived.Test.YtjlcojgimicfbaaDoorF6
import Derived.LaidHandle
import Derived.Test.YtjlcojgimicfbaaDoorTie
import Derived.Test.YtjlcojgimicfbaaDoorCards
import Derived.SevenTiedAt
/- The row of InstrIs: for every input the call returns true, and its arguments read as before; the laid tables as the row lists them. -/
namespace Go.Proofs.YtjlcojgimicfbaaDoor
open Go.Am Go.ChangeShapes Go.WideShapes Go.ChangeAt Go.RowKit
set_option linter.unusedSimpArgs false
set_option maxRecDepth 100000

theorem ownK : ownKnob Tryd.prog.godebug = none := by kernel_rfl
theorem laidOut : laidOutB Tryd.prog = true := by kernel_rfl
theorem gAscii : ∃ g t e n, Tryd.prog.globalNamed "strings.asciiSpace" = some g ∧ (Tryd.prog.globals[g]?).map (·.type) = some t ∧ Tryd.prog.underlying t = some (.array n e) ∧ Tryd.prog.underlying e = some (.int .u8) ∧ Tryd.prog.cellsOf e = 1 ∧ Tryd.prog.cellsOf t = n :=
  ⟨0, 83, 5, 256, by kernel_rfl, by kernel_rfl, by kernel_rfl, by kernel_rfl, by kernel_rfl, by kernel_rfl⟩

theorem tab_of_laid {laid : List (String × DataW Unit)} {W : World} (h : laidMetH Tryd.prog laid W) (hf : laid.filter (fun x => x.1 == "strings.asciiSpace") = [("strings.asciiSpace", Lib.tabData .u8 Lib.asciiSpaceTab)]) :
    Lib.TabIs Tryd.prog W "strings.asciiSpace" .u8 Lib.asciiSpaceTab := by
  obtain ⟨g, t, e, n, h1, h2, h3, h4, h5, h6⟩ := gAscii
  have h' := laidMetH.filter (fun x => x.1 == "strings.asciiSpace") h
  rw [hf, MakeChecks.laidMetH_plain _ _ _ (by rfl)] at h'
  exact Lib.tabIs_of_head h1 h2 h3 h4 h5 h6 h'

theorem blanks_of {W : World} (h : Lib.TabIs Tryd.prog W "strings.asciiSpace" .u8 Lib.asciiSpaceTab) : Blanks fun b => W.heap[b]? := by
  intro w' hw
  obtain ⟨g, t, e, n, h1, _⟩ := gAscii
  unfold Lib.TabIs World.var? at *
  rw [h1] at h ⊢
  simp only [Option.bind_some] at h ⊢
  cases hq : W.heap[g]? with
  | none => simp [hq] at h
  | some o => rw [hw g o hq]; rw [hq] at h; exact h

theorem sh_ins : shOf Tryd.prog 5 24 = some (List.replicate 11 (.int .i64)) := by kernel_rfl
theorem ins_of {ps : List PV} (h : HasShL (List.replicate 11 (.int .i64)) ps) : ∃ i : Ins, ps = i.cells := by
  match ps, h with
  | [a, b, c, d, e, f, g, h, i, j, k], hh =>
    simp only [List.replicate, HasShL, HasSh] at hh
    obtain ⟨⟨a, rfl, _⟩, ⟨b, rfl, _⟩, ⟨c, rfl, _⟩, ⟨d, rfl, _⟩, ⟨e, rfl, _⟩, ⟨f, rfl, _⟩, ⟨g, rfl, _⟩, ⟨h, rfl, _⟩, ⟨i, rfl, _⟩, ⟨j, rfl, _⟩, ⟨k, rfl, _⟩, _⟩ := hh
    exact ⟨⟨a, b, c, d, e, f, g, h, i, j, k⟩, rfl⟩
  | [], hh => simp [List.replicate, HasShL] at hh
  | [_], hh => simp [List.replicate, HasShL] at hh
  | [_, _], hh => simp [List.replicate, HasShL] at hh
  | [_, _, _], hh => simp [List.replicate, HasShL] at hh
  | [_, _, _, _], hh => simp [List.replicate, HasShL] at hh
  | [_, _, _, _, _], hh => simp [List.replicate, HasShL] at hh
  | [_, _, _, _, _, _], hh => simp [List.replicate, HasShL] at hh
  | [_, _, _, _, _, _, _], hh => simp [List.replicate, HasShL] at hh
  | [_, _, _, _, _, _, _, _], hh => simp [List.replicate, HasShL] at hh
  | [_, _, _, _, _, _, _, _, _], hh => simp [List.replicate, HasShL] at hh
  | [_, _, _, _, _, _, _, _, _, _], hh => simp [List.replicate, HasShL] at hh
  | _ :: _ :: _ :: _ :: _ :: _ :: _ :: _ :: _ :: _ :: _ :: _ :: _, hh => simp [List.replicate, HasShL] at hh

theorem ext_below {w w' : World} (h : Ext w (fun _ => False) w' (fun _ => False)) : Below w.heap.size w { w' with tape := w.tape } ∧ World.Alike w' { w' with tape := w.tape } :=
  ⟨⟨h.os, rfl, h.out, h.size, fun k hk => (h.keep k hk fun h => h).1⟩, rfl, rfl, rfl⟩

theorem laidAscii : Rows.instrIsRow.laid.filter (fun x => x.1 == "strings.asciiSpace") = [("strings.asciiSpace", Lib.tabData .u8 Lib.asciiSpaceTab)] := by kernel_rfl
theorem door_met2 (os : Os) (args : Array Value) : laidMetH Tryd.prog Rows.instrIsRow.laid ((World.doorLaid Tryd.prog 2000 os).forCall (fun _ _ => 0) ⟨#[], args, []⟩).memory :=
  laidMetH_of_parts3 (fuel := 8) (laidMet_of_run' 8 (by kernel_rfl) (by kernel_rfl)) (by kernel_rfl) (by kernel_rfl)

end Go.Proofs.YtjlcojgimicfbaaDoor
/- The rows on programs: how a program reads, what the laid variables hold. -/
namespace Go.Proofs.YtjlcojgimicfbaaDoor
open Go.Am Go.ChangeShapes Go.WideShapes Go.ChangeAt Go.RowKit
set_option linter.unusedSimpArgs false
set_option maxRecDepth 100000

abbrev shI : Sh := .int .i64
abbrev shBlk : List Sh := [.bool, .sl (List.replicate 11 shI), .sl [shI]]
abbrev shFun : List Sh := [shI, shI, .sl shBlk]
theorem sh_prog : shOf Tryd.prog 9 35 = some [.sl shFun] := by kernel_rfl
theorem int_of {r : List PV} (h : HasShL [shI] r) : ∃ n : Int, r = [pI n] := by
  match r, h with
  | [a], hh => simp only [HasShL, HasSh] at hh; obtain ⟨⟨n, rfl, _⟩, _⟩ := hh; exact ⟨n, rfl⟩
  | [], hh => simp [HasShL] at hh
  | _ :: _ :: _, hh => simp [HasShL] at hh
theorem blk_of {r : List PV} (h : HasShL shBlk r) : ∃ b : BlkD, r = b.cells := by
  match r, h with
  | [a, b, c], hh =>
    simp only [HasShL, HasSh] at hh
    obtain ⟨⟨l, rfl⟩, ⟨R1, rfl, h1⟩, ⟨R2, rfl, h2⟩, _⟩ := hh
    obtain ⟨code, rfl⟩ := rows_choose (f := Ins.cells) fun r hr => ins_of (h1 r hr)
    obtain ⟨succ, rfl⟩ := rows_choose (f := fun n : Int => [pI n]) fun r hr => int_of (h2 r hr)
    exact ⟨⟨l, code, succ⟩, rfl⟩
  | [], hh => simp [HasShL] at hh
  | [_], hh => simp [HasShL] at hh
  | [_, _], hh => simp [HasShL] at hh
  | _ :: _ :: _ :: _ :: _, hh => simp [HasShL] at hh
theorem fun_of {r : List PV} (h : HasShL shFun r) : ∃ f : FunD, r = f.cells := by
  match r, h with
  | [a, b, c], hh =>
    simp only [HasShL, HasSh] at hh
    obtain ⟨⟨n, rfl, _⟩, ⟨m, rfl, _⟩, ⟨R, rfl, h1⟩, _⟩ := hh
    obtain ⟨bl, rfl⟩ := rows_choose (f := BlkD.cells) fun r hr => blk_of (h1 r hr)
    exact ⟨⟨n, m, bl⟩, rfl⟩
  | [], hh => simp [HasShL] at hh
  | [_], hh => simp [HasShL] at hh
  | [_, _], hh => simp [HasShL] at hh
  | _ :: _ :: _ :: _ :: _, hh => simp [HasShL] at hh
theorem prog_of {r : List PV} (h : HasShL [.sl shFun] r) : ∃ p : List FunD, r = [.sl false (funRows p)] := by
  match r, h with
  | [a], hh =>
    simp only [HasShL, HasSh] at hh
    obtain ⟨⟨R, rfl, h1⟩, _⟩ := hh
    obtain ⟨l, rfl⟩ := rows_choose (f := FunD.cells) fun r hr => fun_of (h1 r hr)
    exact ⟨l, rfl⟩
  | [], hh => simp [HasShL] at hh
  | _ :: _ :: _, hh => simp [HasShL] at hh

theorem err_g : Tryd.prog.globalNamed "errors.errorType" = some 1 := by kernel_rfl
theorem err_rt : (Tryd.prog.cutTypes.find? (·.1 == "internal/reflectlite.rtype")).map (·.2) = some 121 := by kernel_rfl
theorem err_one : ((List.range Tryd.prog.types.size).filter fun t => Tryd.prog.rowNamed t [101, 114, 114, 111, 114]) = [70] := by kernel_rfl
theorem err_of_laid {laid : List (String × DataW Unit)} {W : World} (h : laidMetH Tryd.prog laid W) (hf : laid.filter (fun x => x.1 == "errors.errorType") = [("errors.errorType", Rows.laid_errors_errorType)]) : ErrT fun b => W.heap[b]? := by
  have h' := laidMetH.filter (fun x => x.1 == "errors.errorType") h
  rw [hf] at h'
  have h2 : laidMet Tryd.prog [] W ∧ handlesMet Tryd.prog [("errors.errorType", Rows.laid_errors_errorType)] W := h'
  obtain ⟨name, u, ty, e1, e2, e3, e4, e5⟩ := h2.2 _ (List.mem_singleton.2 rfl)
  have en : name = [101, 114, 114, 111, 114] := (Option.some.inj e1).symm
  subst en
  obtain rfl := Option.some.inj (err_rt.symm.trans e2)
  have hm : ty ∈ (List.range Tryd.prog.types.size).filter fun t => Tryd.prog.rowNamed t [101, 114, 114, 111, 114] := List.mem_filter.2 ⟨List.mem_range.2 e3, e4⟩
  rw [err_one] at hm
  obtain rfl := List.mem_singleton.1 hm
  have hh : typeHandle Tryd.prog 70 = .pointer (some ⟨5, 70, none⟩) := by kernel_rfl
  rw [hh] at e5
  simp only [World.var?, err_g, Option.bind_some] at e5
  split at e5
  · rename_i cs ty fr hq
    cases e5
    exact ⟨_, ty, fr, hq, rfl⟩
  · cases e5
end Go.Proofs.YtjlcojgimicfbaaDoor
/- The row of ProgFresh: for every input the call returns true, and its arguments read as before. -/
namespace Go.Proofs.YtjlcojgimicfbaaDoor
open Go.Am Go.ChangeShapes Go.WideShapes Go.ChangeAt Go.RowKit
set_option linter.unusedSimpArgs false
set_option maxRecDepth 100000

theorem laidAscii_ProgFresh : Rows.progFreshRow.laid.filter (fun x => x.1 == "strings.asciiSpace") = [("strings.asciiSpace", Lib.tabData .u8 Lib.asciiSpaceTab)] := by kernel_rfl
theorem laidErr_ProgFresh : Rows.progFreshRow.laid.filter (fun x => x.1 == "errors.errorType") = [("errors.errorType", Rows.laid_errors_errorType)] := by kernel_rfl
theorem door_ProgFresh (os : Os) (args : Array Value) : laidMetH Tryd.prog Rows.progFreshRow.laid ((World.doorLaid Tryd.prog 2000 os).forCall (fun _ _ => 0) ⟨#[], args, []⟩).memory :=
  laidMetH_of_parts3 (fuel := 8) (laidMet_of_run' 8 (by kernel_rfl) (by kernel_rfl)) (by kernel_rfl) (by kernel_rfl)
theorem progFresh_lifted (os : Os) (started : os.Started) (H : Type) (enc : TypeId × Value → H) :
    ReturnsInHanded {} Tryd.checked os 4 .any (fun w args => (Rows.progFreshSpec.pre enc Tryd.prog Tryd.f4 [] false w args ∧ laidMetH Tryd.prog Rows.progFreshRow.laid w) ∧ sizedMet enc Tryd.prog Tryd.f4 (OpenSpec.ofChange Rows.progFreshSpec) false w args)
      (Rows.progFreshSpec.post enc Tryd.prog Tryd.f4 false true false false) := by
  refine returnsInHanded_of_change_and (C := Tryd.checked) (X := fun w _ => laidMetH Tryd.prog Rows.progFreshRow.laid w) (fun _ _ _ hh h => h.of_heap hh) ownK started (by kernel_rfl) Tryd.func4
    (ChangeSpec.witness_shaped (enc := enc) (C := Tryd.checked) (os := os) (X := fun w _ => laidMetH Tryd.prog Rows.progFreshRow.laid w) false (World.doorLaid Tryd.prog 2000 os) #[.agg #[.slice none 0 0], .int .i64 0] 8 rfl (World.shaped_of_RefB (by kernel_rfl) (by kernel_rfl)) (by kernel_rfl) (by kernel_rfl) (by kernel_rfl) (door_ProgFresh os _)) ?_
  intro W base args ds gs before hval0 hW _ hsz0 hL _
  have hval : ∀ (j : Nat) t v, Tryd.f4.params[j]? = some t → args[j]? = some v → Value.okWide Tryd.prog W .any base t v := hval0
  have hW' := hW
  obtain ⟨p, q, hA0, hV, rfl, hfz, hnd⟩ := hW
  have hA : DataW.TrodAll enc Tryd.prog W 0 (fun _ => true) true Tryd.f4.params.toList args.toList ds p := hA0
  have hsz : (DataW.weightsEach Tryd.prog (Tryd.f4.params.toList ++ []) (ds ++ gs)).all (· ≤ reachBytes) = true := hsz0
  rw [Tryd.params4] at hA hval hsz
  obtain ⟨v0, vs0, d0, ds0, p0, q0, ha0, rfl, rfl, h0, hr0⟩ := trodAll_cons hA
  obtain ⟨v1, vs1, d1, ds1, p1, q1, rfl, rfl, rfl, h1, hr1⟩ := trodAll_cons hr0
  obtain ⟨rfl, rfl, rfl⟩ := trodAll_nil hr1
  obtain rfl : args = #[v0, v1] := by cases args; simp_all
  obtain ⟨rfl, rfl⟩ := trodVars_none hV
  have k0 := h0
  have lt0 : ∀ x ∈ p0, x.block < W.heap.size := by obtain ⟨m, hm⟩ := k0; exact DataW.trod_lt m _ _ _ hm
  obtain ⟨cs0, rfl, hcs0⟩ := okWide_struct (by kernel_rfl : Tryd.prog.underlying 35 = some (.struct (Tryd.prog.fieldsOf 35))) (hval 0 35 v0 rfl rfl)
  obtain ⟨fuel0, hf0⟩ := h0
  obtain ⟨ps0, hps0, hrep0⟩ := trod_sh 9 fuel0 _ _ _ _ sh_prog hf0 (fun m hm => by
    have hm' := List.all_eq_true.1 hsz m (DataW.weights_mem_each (j := 0) rfl rfl m hm)
    simp only [decide_eq_true_eq] at hm'
    have := reachBytes_lt
    omega)
  obtain ⟨n0, rfl⟩ := prog_of hps0
  obtain ⟨n1, rfl, rfl, rfl, hwn1⟩ := open_int Tryd.underlying3 (hval 1 3 v1 rfl rfl) h1
  have hB := blanks_of (tab_of_laid hL laidAscii_ProgFresh)
  have hE := err_of_laid hL laidErr_ProgFresh
  refine (c_ProgFresh (Γ := fun b => W.heap[b]?) hB hE n0 n1 (fun _ => False) W #[.agg cs0, .int .i64 n1] ⟨fun _ h => h.elim, fun b o h => ⟨h, fun h => h⟩⟩ ?_).mono ?_
  · have g0 : PRep W (fun _ => False) (progV n0) (.agg cs0) := .agg [.sl false (funRows n0)] cs0 (by simpa [Value.cells] using hrep0.1) (fun j p y g1 g2 => hrep0.2 j p y g1 (by simpa [Value.cells] using g2))
    exact (PReps.one g0).append (PReps.one (.v (.int .i64 n1)))
  · rintro e W' ⟨y, rfl, hy, hx⟩
    have hy' : y = .bool true := by cases hy; rfl
    subst hy'
    obtain ⟨bel, al⟩ := ext_below hx
    refine ⟨_, rfl, ChangeSpec.post_alike ?_ al⟩
    exact ⟨_, _, _, [], _, [], hW', trodAll_mk1 (shut_bool Tryd.underlying4 _), (trodAll_cons_mk (Below.trod laidOut (by kernel_rfl) (of_decide_eq_true (by kernel_rfl)) k0 bel lt0) (trodAll_cons_mk (shut_int Tryd.underlying3 hwn1) trodAll_mk0)), rfl, bel.frame _, fun h => by cases h⟩
theorem progFresh_row : Rows.ProgFreshSaid :=
  OpenClaim.holds_of_wide 4 Tryd.f4 rfl rfl rfl rfl rfl rfl rfl ⟨rfl, rfl, rfl, rfl, rfl⟩ rfl rfl rfl rfl rfl (by kernel_rfl) Tryd.func4 (by kernel_rfl)
    (of_decide_eq_true (by kernel_rfl)) (by unfold Func.isWrapper; first | (rw [if_pos (by decide +kernel)]; kernel_rfl) | (rw [if_neg (by decide +kernel)]; exact ⟨rfl, rfl⟩))
    (fun os started H enc _ => progFresh_lifted os started H enc)
end Go.Proofs.YtjlcojgimicfbaaDoor
/- ProgFresh, the tied card. -/
namespace Go.Proofs.YtjlcojgimicfbaaDoor
open Go
theorem progFresh_holds : Rows.ProgFreshCardSaid :=
  Claim7.holds_tied_plain_at .later [] [.handle, .listed, .data] true Rows.progFreshCard.stood.harness true
    progFresh_row (fun _ h => by cases h) (by kernel_rfl) (fun _ h => by cases h) progFresh_row_tie rfl ⟨rfl, rfl⟩ (by kernel_rfl) rfl
    (fun f fn hf hfn => by
      obtain rfl : f = 4 := Option.some.inj ((show Tryd.prog.funcNamed "bywash/bywashlaw06.ProgFresh" = some 4 by kernel_rfl).symm.trans hf) |>.symm
      obtain rfl : fn = Tryd.f4 := (Option.some.inj (Tryd.func4.symm.trans hfn)).symm
      exact ⟨by kernel_rfl, fun j t ht => by
        rw [Tryd.params4] at ht
        have hm : t ∈ [35, 3] := by simpa using Array.mem_of_getElem? ht
        have hall : ([35, 3].all fun u => !Tryd.prog.wantsStandIn u) = true := by kernel_rfl
        exact (show Tryd.prog.wantsStandIn t = false by simpa using List.all_eq_true.1 hall t hm)⟩)
    (by kernel_rfl)
end Go.Proofs.YtjlcojgimicfbaaDoor
