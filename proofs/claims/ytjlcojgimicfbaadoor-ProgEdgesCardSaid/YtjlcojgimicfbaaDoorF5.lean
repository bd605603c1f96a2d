/- Proof text of this claim, part 5: All variables of an instruction: the document's word.. Its conditions are those of the statement: the laid tables as the row lists them. -/
import Derived.Test.YtjlcojgimicfbaaDoorF4
import Derived.WalkKit
import Derived.LaidEql
import Derived.Stop.Asserts
import Derived.RowKitTokens
import Derived.KernelRfl
/- All variables of an instruction: the document's word. -/
namespace Go.Proofs.YtjlcojgimicfbaaDoor
open Go.Am
set_option linter.unusedSimpArgs false
set_option maxRecDepth 100000
set_option maxHeartbeats 4000000
variable {Γ : Nat → Option Obj}

/-- The least of those that stand behind the last one. -/
def aboveOK (out : List Int) (x : Int) : Bool := decide (out.length = 0) || decide (out.getLastD 0 < x)
def bestF (out : List Int) (b x : Int) : Int := if aboveOK out x && (decide (b < 0) || decide (x < b)) then x else b
def riseN (l : List Int) : Nat → List Int
  | 0 => []
  | n + 1 => riseN l n ++ [l.foldl (bestF (riseN l n)) (-1)]
theorem riseN_len (l : List Int) (n : Nat) : (riseN l n).length = n := by
  induction n with
  | zero => rfl
  | succ n ih => simp [riseN, ih]
def rwithDef (i : Ins) : List Int := if 0 ≤ rdefI i then addL (rusesI i) (rdefI i) else rusesI i
def rvarsI (i : Ins) : List Int := riseN (rwithDef i) (rwithDef i).length

theorem usesB_foldl_len (l m : List Int) (h : l.length ≤ 3) (h2 : m.length ≤ 2) : (l.foldl addL m).length ≤ 5 := by
  have := foldl_addL_len l m
  omega
theorem rusesI_len (i : Ins) : (rusesI i).length ≤ 5 := by
  unfold rusesI
  split
  · exact usesB_foldl_len _ _ (by simp; omega) (usesB_len i)
  · simp

theorem c_refVars (i : Ins) : Pure Γ Tryd.prog 16 [ins i] (ints (rvarsI i)) := by
  have hU := rusesI_len i
  refine pure_start1 Tryd.func16 rfl (by simp [Tryd.f16]) ?_
  (repeat (with_reducible first | refine AL_seq ?_ | refine AL_skip ?_ | refine AL_nil ?_ | refine SeqQ_n ?_ | refine BlockQ_n ?_)); (first
 | (refine AL_text2 rfl fun K hK => ?_; simp only [List.map])
 | (refine AL_draw2 mixed rfl (by kernel_rfl) fun K hK => ?_; simp only [List.map])
 | (with_reducible refine AL_block ?_)
 | (with_reducible refine AL_exit ?_; simp only [SeqQ, BlockQ, go_sem, seval])
 | (refine Ct rfl ?_)
 | (refine Cf rfl ?_)
 | (refine AL_condb rfl (fun hg => ?_) (fun hg => ?_) <;> ((try simp only [bnq] at hg); (try (have hgp := hg; simp only [bdq] at hgp))))); repeat' (first
 | (with_reducible refine Mk_i ?_; try simp (disch := omega) only [go_sem, seval, irw])
 | ((with_reducible first | refine hK' _ _ ?_ | refine hK' _ _ _ ?_); clear hK' K')
 | (with_reducible refine RT_step fun K' hK' => ?_; first | refine R2_n ?_ | refine Rf rfl rfl ?_ | refine Rf' rfl rfl ?_ | refine R2_gu rfl rfl ?_ | refine Rt rfl rfl ?_ | refine R2_g rfl rfl (fun hg => ?_) (fun hg => ?_) rfl)
 | (with_reducible refine RT_nil ?_; refine hK _ ?_; clear hK K)
 | (with_reducible refine MkG_i ?_; (try simp only [bnq] at hg); (try (have hgp := hg; simp only [bdq] at hgp)); try simp (disch := omega) only [go_sem, seval, irw, hg])
 | (with_reducible refine RL_step fun K' hK' => ?_; first | refine L2_n ?_ | refine Lf rfl rfl ?_ | refine Lf' rfl rfl ?_ | refine L2_gu rfl rfl ?_ | refine Lt rfl rfl ?_ | refine L2_g rfl rfl (fun hg => ?_) (fun hg => ?_) rfl)
 | (with_reducible refine RL_nil ⟨by kernel_rfl, hK _ ?_⟩; clear hK K)
 | (with_reducible first | refine ite_elimM (fun hg => ?_) (fun hg => ?_) | refine And.intro ?_ ?_)
 | omega)
  (repeat (with_reducible first | refine AL_seq ?_ | refine AL_skip ?_ | refine AL_nil ?_ | refine SeqQ_n ?_ | refine BlockQ_n ?_)); (first
 | (refine AL_text2 rfl fun K hK => ?_; simp only [List.map])
 | (refine AL_draw2 mixed rfl (by kernel_rfl) fun K hK => ?_; simp only [List.map])
 | (with_reducible refine AL_block ?_)
 | (with_reducible refine AL_exit ?_; simp only [SeqQ, BlockQ, go_sem, seval])
 | (refine Ct rfl ?_)
 | (refine Cf rfl ?_)
 | (refine AL_condb rfl (fun hg => ?_) (fun hg => ?_) <;> ((try simp only [bnq] at hg); (try (have hgp := hg; simp only [bdq] at hgp))))); repeat' (first
 | (with_reducible refine Mk_i ?_; try simp (disch := omega) only [go_sem, seval, irw])
 | ((with_reducible first | refine hK' _ _ ?_ | refine hK' _ _ _ ?_); clear hK' K')
 | (with_reducible refine RT_step fun K' hK' => ?_; first | refine R2_n ?_ | refine Rf rfl rfl ?_ | refine Rf' rfl rfl ?_ | refine R2_gu rfl rfl ?_ | refine Rt rfl rfl ?_ | refine R2_g rfl rfl (fun hg => ?_) (fun hg => ?_) rfl)
 | (with_reducible refine RT_nil ?_; refine hK _ ?_; clear hK K)
 | (with_reducible refine MkG_i ?_; (try simp only [bnq] at hg); (try (have hgp := hg; simp only [bdq] at hgp)); try simp (disch := omega) only [go_sem, seval, irw, hg])
 | (with_reducible refine RL_step fun K' hK' => ?_; first | refine L2_n ?_ | refine Lf rfl rfl ?_ | refine Lf' rfl rfl ?_ | refine L2_gu rfl rfl ?_ | refine Lt rfl rfl ?_ | refine L2_g rfl rfl (fun hg => ?_) (fun hg => ?_) rfl)
 | (with_reducible refine RL_nil ⟨by kernel_rfl, hK _ ?_⟩; clear hK K)
 | (refine CallK_ecM (ec_refUses i) en_14 [1] 2 (by decide) (by simp [go_sem]) rfl (by decide) (by simp [go_sem]) (by simp [go_sem]) (by simp [go_sem]) (by simp [go_sem]) ?_)
 | (with_reducible first | refine ite_elimM (fun hg => ?_) (fun hg => ?_) | refine And.intro ?_ ?_)
 | omega)
  (repeat (with_reducible first | refine AL_seq ?_ | refine AL_skip ?_ | refine AL_nil ?_ | refine SeqQ_n ?_ | refine BlockQ_n ?_)); (first
 | (refine AL_text2 rfl fun K hK => ?_; simp only [List.map])
 | (refine AL_draw2 mixed rfl (by kernel_rfl) fun K hK => ?_; simp only [List.map])
 | (with_reducible refine AL_block ?_)
 | (with_reducible refine AL_exit ?_; simp only [SeqQ, BlockQ, go_sem, seval])
 | (refine Ct rfl ?_)
 | (refine Cf rfl ?_)
 | (refine AL_condb rfl (fun hg => ?_) (fun hg => ?_) <;> ((try simp only [bnq] at hg); (try (have hgp := hg; simp only [bdq] at hgp))))); repeat' (first
 | (with_reducible refine Mk_i ?_; try simp (disch := omega) only [go_sem, seval, irw])
 | ((with_reducible first | refine hK' _ _ ?_ | refine hK' _ _ _ ?_); clear hK' K')
 | (with_reducible refine RT_step fun K' hK' => ?_; first | refine R2_n ?_ | refine Rf rfl rfl ?_ | refine Rf' rfl rfl ?_ | refine R2_gu rfl rfl ?_ | refine Rt rfl rfl ?_ | refine R2_g rfl rfl (fun hg => ?_) (fun hg => ?_) rfl)
 | (with_reducible refine RT_nil ?_; refine hK _ ?_; clear hK K)
 | (with_reducible refine MkG_i ?_; (try simp only [bnq] at hg); (try (have hgp := hg; simp only [bdq] at hgp)); try simp (disch := omega) only [go_sem, seval, irw, hg])
 | (with_reducible refine RL_step fun K' hK' => ?_; first | refine L2_n ?_ | refine Lf rfl rfl ?_ | refine Lf' rfl rfl ?_ | refine L2_gu rfl rfl ?_ | refine Lt rfl rfl ?_ | refine L2_g rfl rfl (fun hg => ?_) (fun hg => ?_) rfl)
 | (with_reducible refine RL_nil ⟨by kernel_rfl, hK _ ?_⟩; clear hK K)
 | (refine CallK_pureM (c_refDef i) en_11 rfl ?_)
 | (with_reducible first | refine ite_elimM (fun hg => ?_) (fun hg => ?_) | refine And.intro ?_ ?_)
 | omega)
  refine AL_cut (fun L : List Int => ⟨tA [(3, .os 1 0 0 L.length)], tO [some (.rows 1 (iRows L))]⟩) (fun L => L = rwithDef i ∧ L.length ≤ 6) ?_ ?_
  · by_cases h1 : 0 ≤ rdefI i
    · have h2 : decide (0 ≤ rdefI i) = true := by simp [h1]
      by_cases hm : rdefI i ∈ rusesI i
      · repeat' (first
 | (with_reducible refine Mk_i ?_; try simp (disch := omega) only [go_sem, seval, irw])
 | ((with_reducible first | refine hK' _ _ ?_ | refine hK' _ _ _ ?_); clear hK' K')
 | (with_reducible refine RT_step fun K' hK' => ?_; first | refine R2_n ?_ | refine Rf rfl rfl ?_ | refine Rf' rfl rfl ?_ | refine R2_gu rfl rfl ?_ | refine Rt rfl rfl ?_ | refine R2_g rfl rfl (fun hg => ?_) (fun hg => ?_) rfl)
 | (with_reducible refine RT_nil ?_; refine hK _ ?_; clear hK K)
 | (with_reducible refine MkG_i ?_; (try simp only [bnq] at hg); (try (have hgp := hg; simp only [bdq] at hgp)); try simp (disch := omega) only [go_sem, seval, irw, hg])
 | (with_reducible refine RL_step fun K' hK' => ?_; first | refine L2_n ?_ | refine Lf rfl rfl ?_ | refine Lf' rfl rfl ?_ | refine L2_gu rfl rfl ?_ | refine Lt rfl rfl ?_ | refine L2_g rfl rfl (fun hg => ?_) (fun hg => ?_) rfl)
 | (with_reducible refine RL_nil ⟨by kernel_rfl, hK _ ?_⟩; clear hK K)
 | (with_reducible first | refine AL_seq ?_ | refine AL_skip ?_ | refine AL_nil ?_ | refine SeqQ_n ?_ | refine BlockQ_n ?_)
 | (refine AL_text2 rfl fun K hK => ?_; simp only [List.map])
 | (refine AL_draw2 mixed rfl (by kernel_rfl) fun K hK => ?_; simp only [List.map])
 | (with_reducible refine AL_block ?_)
 | (with_reducible refine AL_exit ?_; simp only [SeqQ, BlockQ, go_sem, seval])
 | (refine Ct rfl ?_)
 | (refine Cf rfl ?_)
 | (refine AL_condb rfl (fun hg => ?_) (fun hg => ?_) <;> ((try simp only [bnq] at hg); (try (have hgp := hg; simp only [bdq] at hgp))))
 | (refine CallK_pureM (c_refDef i) en_11 rfl ?_)
 | (refine CallK_ecM (ec_add_in (rusesI i) (rdefI i) hm) en_37 [1] 2 (by decide) (by simp [go_sem]) rfl (by decide) (by simp [go_sem]) (by simp [go_sem]) (by simp [go_sem]) (by simp [go_sem]) ?_)
 | (with_reducible first | refine ite_elimM (fun hg => ?_) (fun hg => ?_) | refine And.intro ?_ ?_)
 | omega)
        (repeat (with_reducible first | refine AL_nil ?_ | refine SeqQ_n ?_ | refine BlockQ_n ?_)); exact ⟨rusesI i, ⟨by simp [rwithDef, h1, addL, hm], by omega⟩, weak_t [1] _ _ rfl (by decide) ⟨by decide, by decide⟩ (by simp [go_sem]) (by simp [go_sem])⟩
      · repeat' (first
 | (with_reducible refine Mk_i ?_; try simp (disch := omega) only [go_sem, seval, irw])
 | ((with_reducible first | refine hK' _ _ ?_ | refine hK' _ _ _ ?_); clear hK' K')
 | (with_reducible refine RT_step fun K' hK' => ?_; first | refine R2_n ?_ | refine Rf rfl rfl ?_ | refine Rf' rfl rfl ?_ | refine R2_gu rfl rfl ?_ | refine Rt rfl rfl ?_ | refine R2_g rfl rfl (fun hg => ?_) (fun hg => ?_) rfl)
 | (with_reducible refine RT_nil ?_; refine hK _ ?_; clear hK K)
 | (with_reducible refine MkG_i ?_; (try simp only [bnq] at hg); (try (have hgp := hg; simp only [bdq] at hgp)); try simp (disch := omega) only [go_sem, seval, irw, hg])
 | (with_reducible refine RL_step fun K' hK' => ?_; first | refine L2_n ?_ | refine Lf rfl rfl ?_ | refine Lf' rfl rfl ?_ | refine L2_gu rfl rfl ?_ | refine Lt rfl rfl ?_ | refine L2_g rfl rfl (fun hg => ?_) (fun hg => ?_) rfl)
 | (with_reducible refine RL_nil ⟨by kernel_rfl, hK _ ?_⟩; clear hK K)
 | (with_reducible first | refine AL_seq ?_ | refine AL_skip ?_ | refine AL_nil ?_ | refine SeqQ_n ?_ | refine BlockQ_n ?_)
 | (refine AL_text2 rfl fun K hK => ?_; simp only [List.map])
 | (refine AL_draw2 mixed rfl (by kernel_rfl) fun K hK => ?_; simp only [List.map])
 | (with_reducible refine AL_block ?_)
 | (with_reducible refine AL_exit ?_; simp only [SeqQ, BlockQ, go_sem, seval])
 | (refine Ct rfl ?_)
 | (refine Cf rfl ?_)
 | (refine AL_condb rfl (fun hg => ?_) (fun hg => ?_) <;> ((try simp only [bnq] at hg); (try (have hgp := hg; simp only [bdq] at hgp))))
 | (refine CallK_pureM (c_refDef i) en_11 rfl ?_)
 | (refine CallK_ecM (ec_add_out (rusesI i) (rdefI i) hm (by omega)) en_37 [1, 2] 3 (by decide) (by simp [go_sem]) rfl (by decide) (by simp [go_sem]) (by simp [go_sem]) (by simp [go_sem]) (by simp [go_sem]) ?_)
 | (with_reducible first | refine ite_elimM (fun hg => ?_) (fun hg => ?_) | refine And.intro ?_ ?_)
 | omega)
        (repeat (with_reducible first | refine AL_nil ?_ | refine SeqQ_n ?_ | refine BlockQ_n ?_)); exact ⟨rusesI i ++ [rdefI i], ⟨by simp [rwithDef, h1, addL, hm], by simp; omega⟩, weak_t [2] _ _ rfl (by decide) ⟨by decide, by decide⟩ (by simp [go_sem]) (by simp [go_sem])⟩
    · have h2 : decide (0 ≤ rdefI i) = false := by simp [h1]
      repeat' (first
 | (with_reducible refine Mk_i ?_; try simp (disch := omega) only [go_sem, seval, irw])
 | ((with_reducible first | refine hK' _ _ ?_ | refine hK' _ _ _ ?_); clear hK' K')
 | (with_reducible refine RT_step fun K' hK' => ?_; first | refine R2_n ?_ | refine Rf rfl rfl ?_ | refine Rf' rfl rfl ?_ | refine R2_gu rfl rfl ?_ | refine Rt rfl rfl ?_ | refine R2_g rfl rfl (fun hg => ?_) (fun hg => ?_) rfl)
 | (with_reducible refine RT_nil ?_; refine hK _ ?_; clear hK K)
 | (with_reducible refine MkG_i ?_; (try simp only [bnq] at hg); (try (have hgp := hg; simp only [bdq] at hgp)); try simp (disch := omega) only [go_sem, seval, irw, hg])
 | (with_reducible refine RL_step fun K' hK' => ?_; first | refine L2_n ?_ | refine Lf rfl rfl ?_ | refine Lf' rfl rfl ?_ | refine L2_gu rfl rfl ?_ | refine Lt rfl rfl ?_ | refine L2_g rfl rfl (fun hg => ?_) (fun hg => ?_) rfl)
 | (with_reducible refine RL_nil ⟨by kernel_rfl, hK _ ?_⟩; clear hK K)
 | (with_reducible first | refine AL_seq ?_ | refine AL_skip ?_ | refine AL_nil ?_ | refine SeqQ_n ?_ | refine BlockQ_n ?_)
 | (refine AL_text2 rfl fun K hK => ?_; simp only [List.map])
 | (refine AL_draw2 mixed rfl (by kernel_rfl) fun K hK => ?_; simp only [List.map])
 | (with_reducible refine AL_block ?_)
 | (with_reducible refine AL_exit ?_; simp only [SeqQ, BlockQ, go_sem, seval])
 | (refine Ct rfl ?_)
 | (refine Cf rfl ?_)
 | (refine AL_condb rfl (fun hg => ?_) (fun hg => ?_) <;> ((try simp only [bnq] at hg); (try (have hgp := hg; simp only [bdq] at hgp))))
 | (with_reducible first | refine ite_elimM (fun hg => ?_) (fun hg => ?_) | refine And.intro ?_ ?_)
 | omega)
      (repeat (with_reducible first | refine AL_nil ?_ | refine SeqQ_n ?_ | refine BlockQ_n ?_)); exact ⟨rusesI i, ⟨by simp [rwithDef, h1], by omega⟩, weak_t [1] _ _ rfl (by decide) ⟨by decide, by decide⟩ (by simp [go_sem]) (by simp [go_sem])⟩
  rintro L ⟨hLe, hL⟩
  (repeat (with_reducible first | refine AL_seq ?_ | refine AL_skip ?_ | refine AL_nil ?_ | refine SeqQ_n ?_ | refine BlockQ_n ?_)); (first
 | (refine AL_text2 rfl fun K hK => ?_; simp only [List.map])
 | (refine AL_draw2 mixed rfl (by kernel_rfl) fun K hK => ?_; simp only [List.map])
 | (with_reducible refine AL_block ?_)
 | (with_reducible refine AL_exit ?_; simp only [SeqQ, BlockQ, go_sem, seval])
 | (refine Ct rfl ?_)
 | (refine Cf rfl ?_)
 | (refine AL_condb rfl (fun hg => ?_) (fun hg => ?_) <;> ((try simp only [bnq] at hg); (try (have hgp := hg; simp only [bdq] at hgp))))); repeat' (first
 | (with_reducible refine Mk_i ?_; try simp (disch := omega) only [go_sem, seval, irw])
 | ((with_reducible first | refine hK' _ _ ?_ | refine hK' _ _ _ ?_); clear hK' K')
 | (with_reducible refine RT_step fun K' hK' => ?_; first | refine R2_n ?_ | refine Rf rfl rfl ?_ | refine Rf' rfl rfl ?_ | refine R2_gu rfl rfl ?_ | refine Rt rfl rfl ?_ | refine R2_g rfl rfl (fun hg => ?_) (fun hg => ?_) rfl)
 | (with_reducible refine RT_nil ?_; refine hK _ ?_; clear hK K)
 | (with_reducible refine MkG_i ?_; (try simp only [bnq] at hg); (try (have hgp := hg; simp only [bdq] at hgp)); try simp (disch := omega) only [go_sem, seval, irw, hg])
 | (with_reducible refine RL_step fun K' hK' => ?_; first | refine L2_n ?_ | refine Lf rfl rfl ?_ | refine Lf' rfl rfl ?_ | refine L2_gu rfl rfl ?_ | refine Lt rfl rfl ?_ | refine L2_g rfl rfl (fun hg => ?_) (fun hg => ?_) rfl)
 | (with_reducible refine RL_nil ⟨by kernel_rfl, hK _ ?_⟩; clear hK K)
 | (with_reducible first | refine ite_elimM (fun hg => ?_) (fun hg => ?_) | refine And.intro ?_ ?_)
 | omega)
  refine AL_weak (weak_nil 4 1 rfl) ?_ (by simp)
  refine AL_seq ?_
  refine AL_block ?_
  refine AL_loop (fun out : List Int => ⟨tA [(3, .os 1 0 0 L.length), (4, .os 1 1 0 out.length)], tO [some (.rows 1 (iRows L)), some (.rows 1 (iRows out))]⟩)
    (fun out => out = riseN L out.length ∧ out.length ≤ L.length) (fun out => L.length - out.length) [] ⟨rfl, Nat.zero_le _⟩ (weak_t [0, 1] _ _ rfl (by decide) ⟨by decide, by decide⟩ (by simp [go_sem, ]) (by simp [go_sem, ])) ?_
  rintro out ⟨ho1, ho2⟩
  (repeat (with_reducible first | refine AL_seq ?_ | refine AL_skip ?_ | refine AL_nil ?_ | refine SeqQ_n ?_ | refine BlockQ_n ?_)); (first
 | (refine AL_text2 rfl fun K hK => ?_; simp only [List.map])
 | (refine AL_draw2 mixed rfl (by kernel_rfl) fun K hK => ?_; simp only [List.map])
 | (with_reducible refine AL_block ?_)
 | (with_reducible refine AL_exit ?_; simp only [SeqQ, BlockQ, go_sem, seval])
 | (refine Ct rfl ?_)
 | (refine Cf rfl ?_)
 | (refine AL_condb rfl (fun hg => ?_) (fun hg => ?_) <;> ((try simp only [bnq] at hg); (try (have hgp := hg; simp only [bdq] at hgp))))); repeat' (first
 | (with_reducible refine Mk_i ?_; try simp (disch := omega) only [go_sem, seval, irw])
 | ((with_reducible first | refine hK' _ _ ?_ | refine hK' _ _ _ ?_); clear hK' K')
 | (with_reducible refine RT_step fun K' hK' => ?_; first | refine R2_n ?_ | refine Rf rfl rfl ?_ | refine Rf' rfl rfl ?_ | refine R2_gu rfl rfl ?_ | refine Rt rfl rfl ?_ | refine R2_g rfl rfl (fun hg => ?_) (fun hg => ?_) rfl)
 | (with_reducible refine RT_nil ?_; refine hK _ ?_; clear hK K)
 | (with_reducible refine MkG_i ?_; (try simp only [bnq] at hg); (try (have hgp := hg; simp only [bdq] at hgp)); try simp (disch := omega) only [go_sem, seval, irw, hg])
 | (with_reducible refine RL_step fun K' hK' => ?_; first | refine L2_n ?_ | refine Lf rfl rfl ?_ | refine Lf' rfl rfl ?_ | refine L2_gu rfl rfl ?_ | refine Lt rfl rfl ?_ | refine L2_g rfl rfl (fun hg => ?_) (fun hg => ?_) rfl)
 | (with_reducible refine RL_nil ⟨by kernel_rfl, hK _ ?_⟩; clear hK K)
 | (with_reducible first | refine ite_elimM (fun hg => ?_) (fun hg => ?_) | refine And.intro ?_ ?_)
 | omega)
  cases h2 : decide ((out.length : Int) < (L.length : Int))
  · repeat' (first
 | (with_reducible refine Mk_i ?_; try simp (disch := omega) only [go_sem, seval, irw, h2])
 | ((with_reducible first | refine hK' _ _ ?_ | refine hK' _ _ _ ?_); clear hK' K')
 | (with_reducible refine RT_step fun K' hK' => ?_; first | refine R2_n ?_ | refine Rf rfl rfl ?_ | refine Rf' rfl rfl ?_ | refine R2_gu rfl rfl ?_ | refine Rt rfl rfl ?_ | refine R2_g rfl rfl (fun hg => ?_) (fun hg => ?_) rfl)
 | (with_reducible refine RT_nil ?_; refine hK _ ?_; clear hK K)
 | (with_reducible refine MkG_i ?_; (try simp only [bnq] at hg); (try (have hgp := hg; simp only [bdq] at hgp)); try simp (disch := omega) only [go_sem, seval, irw, h2, hg])
 | (with_reducible refine RL_step fun K' hK' => ?_; first | refine L2_n ?_ | refine Lf rfl rfl ?_ | refine Lf' rfl rfl ?_ | refine L2_gu rfl rfl ?_ | refine Lt rfl rfl ?_ | refine L2_g rfl rfl (fun hg => ?_) (fun hg => ?_) rfl)
 | (with_reducible refine RL_nil ⟨by kernel_rfl, hK _ ?_⟩; clear hK K)
 | (with_reducible first | refine AL_seq ?_ | refine AL_skip ?_ | refine AL_nil ?_ | refine SeqQ_n ?_ | refine BlockQ_n ?_)
 | (refine AL_text2 rfl fun K hK => ?_; simp only [List.map])
 | (refine AL_draw2 mixed rfl (by kernel_rfl) fun K hK => ?_; simp only [List.map])
 | (with_reducible refine AL_block ?_)
 | (with_reducible refine AL_exit ?_; simp only [SeqQ, BlockQ, go_sem, seval])
 | (refine Ct rfl ?_)
 | (refine Cf rfl ?_)
 | (refine AL_condb rfl (fun hg => ?_) (fun hg => ?_) <;> ((try simp only [bnq] at hg); (try (have hgp := hg; simp only [bdq] at hgp))))
 | (with_reducible first | refine ite_elimM (fun hg => ?_) (fun hg => ?_) | refine And.intro ?_ ?_)
 | omega)
    have hk2 : out.length = L.length := by simp at h2; omega
    have hR : out = rvarsI i := by rw [ho1, hk2, hLe]; rfl
    rw [hR]
    (refine AL_ret (PureQ_view (by simp (disch := omega) only [go_sem, seval] <;> rfl) (by simp (disch := omega) only [go_sem, seval, irw])))
  have h3 : out.length < L.length := by simp at h2; omega
  (repeat (with_reducible first | refine AL_seq ?_ | refine AL_skip ?_ | refine AL_nil ?_ | refine SeqQ_n ?_ | refine BlockQ_n ?_)); (first
 | (refine AL_text2 rfl fun K hK => ?_; simp only [List.map])
 | (refine AL_draw2 mixed rfl (by kernel_rfl) fun K hK => ?_; simp only [List.map])
 | (with_reducible refine AL_block ?_)
 | (with_reducible refine AL_exit ?_; simp only [SeqQ, BlockQ, go_sem, seval])
 | (refine Ct rfl ?_)
 | (refine Cf rfl ?_)
 | (refine AL_condb rfl (fun hg => ?_) (fun hg => ?_) <;> ((try simp only [bnq] at hg); (try (have hgp := hg; simp only [bdq] at hgp))))); repeat' (first
 | (with_reducible refine Mk_i ?_; try simp (disch := omega) only [go_sem, seval, irw, h2])
 | ((with_reducible first | refine hK' _ _ ?_ | refine hK' _ _ _ ?_); clear hK' K')
 | (with_reducible refine RT_step fun K' hK' => ?_; first | refine R2_n ?_ | refine Rf rfl rfl ?_ | refine Rf' rfl rfl ?_ | refine R2_gu rfl rfl ?_ | refine Rt rfl rfl ?_ | refine R2_g rfl rfl (fun hg => ?_) (fun hg => ?_) rfl)
 | (with_reducible refine RT_nil ?_; refine hK _ ?_; clear hK K)
 | (with_reducible refine MkG_i ?_; (try simp only [bnq] at hg); (try (have hgp := hg; simp only [bdq] at hgp)); try simp (disch := omega) only [go_sem, seval, irw, h2, hg])
 | (with_reducible refine RL_step fun K' hK' => ?_; first | refine L2_n ?_ | refine Lf rfl rfl ?_ | refine Lf' rfl rfl ?_ | refine L2_gu rfl rfl ?_ | refine Lt rfl rfl ?_ | refine L2_g rfl rfl (fun hg => ?_) (fun hg => ?_) rfl)
 | (with_reducible refine RL_nil ⟨by kernel_rfl, hK _ ?_⟩; clear hK K)
 | (with_reducible first | refine ite_elimM (fun hg => ?_) (fun hg => ?_) | refine And.intro ?_ ?_)
 | omega)
  (repeat (with_reducible first | refine AL_seq ?_ | refine AL_skip ?_ | refine AL_nil ?_ | refine SeqQ_n ?_ | refine BlockQ_n ?_)); (first
 | (refine AL_text2 rfl fun K hK => ?_; simp only [List.map])
 | (refine AL_draw2 mixed rfl (by kernel_rfl) fun K hK => ?_; simp only [List.map])
 | (with_reducible refine AL_block ?_)
 | (with_reducible refine AL_exit ?_; simp only [SeqQ, BlockQ, go_sem, seval])
 | (refine Ct rfl ?_)
 | (refine Cf rfl ?_)
 | (refine AL_condb rfl (fun hg => ?_) (fun hg => ?_) <;> ((try simp only [bnq] at hg); (try (have hgp := hg; simp only [bdq] at hgp))))); repeat' (first
 | (with_reducible refine Mk_i ?_; try simp (disch := omega) only [go_sem, seval, irw, h2])
 | ((with_reducible first | refine hK' _ _ ?_ | refine hK' _ _ _ ?_); clear hK' K')
 | (with_reducible refine RT_step fun K' hK' => ?_; first | refine R2_n ?_ | refine Rf rfl rfl ?_ | refine Rf' rfl rfl ?_ | refine R2_gu rfl rfl ?_ | refine Rt rfl rfl ?_ | refine R2_g rfl rfl (fun hg => ?_) (fun hg => ?_) rfl)
 | (with_reducible refine RT_nil ?_; refine hK _ ?_; clear hK K)
 | (with_reducible refine MkG_i ?_; (try simp only [bnq] at hg); (try (have hgp := hg; simp only [bdq] at hgp)); try simp (disch := omega) only [go_sem, seval, irw, h2, hg])
 | (with_reducible refine RL_step fun K' hK' => ?_; first | refine L2_n ?_ | refine Lf rfl rfl ?_ | refine Lf' rfl rfl ?_ | refine L2_gu rfl rfl ?_ | refine Lt rfl rfl ?_ | refine L2_g rfl rfl (fun hg => ?_) (fun hg => ?_) rfl)
 | (with_reducible refine RL_nil ⟨by kernel_rfl, hK _ ?_⟩; clear hK K)
 | (with_reducible first | refine ite_elimM (fun hg => ?_) (fun hg => ?_) | refine And.intro ?_ ?_)
 | omega)
  (repeat (with_reducible first | refine AL_seq ?_ | refine AL_skip ?_ | refine AL_nil ?_ | refine SeqQ_n ?_ | refine BlockQ_n ?_)); (first
 | (refine AL_text2 rfl fun K hK => ?_; simp only [List.map])
 | (refine AL_draw2 mixed rfl (by kernel_rfl) fun K hK => ?_; simp only [List.map])
 | (with_reducible refine AL_block ?_)
 | (with_reducible refine AL_exit ?_; simp only [SeqQ, BlockQ, go_sem, seval])
 | (refine Ct rfl ?_)
 | (refine Cf rfl ?_)
 | (refine AL_condb rfl (fun hg => ?_) (fun hg => ?_) <;> ((try simp only [bnq] at hg); (try (have hgp := hg; simp only [bdq] at hgp))))); repeat' (first
 | (with_reducible refine Mk_i ?_; try simp (disch := omega) only [go_sem, seval, irw, h2])
 | ((with_reducible first | refine hK' _ _ ?_ | refine hK' _ _ _ ?_); clear hK' K')
 | (with_reducible refine RT_step fun K' hK' => ?_; first | refine R2_n ?_ | refine Rf rfl rfl ?_ | refine Rf' rfl rfl ?_ | refine R2_gu rfl rfl ?_ | refine Rt rfl rfl ?_ | refine R2_g rfl rfl (fun hg => ?_) (fun hg => ?_) rfl)
 | (with_reducible refine RT_nil ?_; refine hK _ ?_; clear hK K)
 | (with_reducible refine MkG_i ?_; (try simp only [bnq] at hg); (try (have hgp := hg; simp only [bdq] at hgp)); try simp (disch := omega) only [go_sem, seval, irw, h2, hg])
 | (with_reducible refine RL_step fun K' hK' => ?_; first | refine L2_n ?_ | refine Lf rfl rfl ?_ | refine Lf' rfl rfl ?_ | refine L2_gu rfl rfl ?_ | refine Lt rfl rfl ?_ | refine L2_g rfl rfl (fun hg => ?_) (fun hg => ?_) rfl)
 | (with_reducible refine RL_nil ⟨by kernel_rfl, hK _ ?_⟩; clear hK K)
 | (with_reducible first | refine ite_elimM (fun hg => ?_) (fun hg => ?_) | refine And.intro ?_ ?_)
 | omega)
  (repeat (with_reducible first | refine AL_seq ?_ | refine AL_skip ?_ | refine AL_nil ?_ | refine SeqQ_n ?_ | refine BlockQ_n ?_)); (first
 | (refine AL_text2 rfl fun K hK => ?_; simp only [List.map])
 | (refine AL_draw2 mixed rfl (by kernel_rfl) fun K hK => ?_; simp only [List.map])
 | (with_reducible refine AL_block ?_)
 | (with_reducible refine AL_exit ?_; simp only [SeqQ, BlockQ, go_sem, seval])
 | (refine Ct rfl ?_)
 | (refine Cf rfl ?_)
 | (refine AL_condb rfl (fun hg => ?_) (fun hg => ?_) <;> ((try simp only [bnq] at hg); (try (have hgp := hg; simp only [bdq] at hgp))))); repeat' (first
 | (with_reducible refine Mk_i ?_; try simp (disch := omega) only [go_sem, seval, irw, h2])
 | ((with_reducible first | refine hK' _ _ ?_ | refine hK' _ _ _ ?_); clear hK' K')
 | (with_reducible refine RT_step fun K' hK' => ?_; first | refine R2_n ?_ | refine Rf rfl rfl ?_ | refine Rf' rfl rfl ?_ | refine R2_gu rfl rfl ?_ | refine Rt rfl rfl ?_ | refine R2_g rfl rfl (fun hg => ?_) (fun hg => ?_) rfl)
 | (with_reducible refine RT_nil ?_; refine hK _ ?_; clear hK K)
 | (with_reducible refine MkG_i ?_; (try simp only [bnq] at hg); (try (have hgp := hg; simp only [bdq] at hgp)); try simp (disch := omega) only [go_sem, seval, irw, h2, hg])
 | (with_reducible refine RL_step fun K' hK' => ?_; first | refine L2_n ?_ | refine Lf rfl rfl ?_ | refine Lf' rfl rfl ?_ | refine L2_gu rfl rfl ?_ | refine Lt rfl rfl ?_ | refine L2_g rfl rfl (fun hg => ?_) (fun hg => ?_) rfl)
 | (with_reducible refine RL_nil ⟨by kernel_rfl, hK _ ?_⟩; clear hK K)
 | (with_reducible first | refine ite_elimM (fun hg => ?_) (fun hg => ?_) | refine And.intro ?_ ?_)
 | omega)
  (repeat (with_reducible first | refine AL_seq ?_ | refine AL_skip ?_ | refine AL_nil ?_ | refine SeqQ_n ?_ | refine BlockQ_n ?_)); (first
 | (refine AL_text2 rfl fun K hK => ?_; simp only [List.map])
 | (refine AL_draw2 mixed rfl (by kernel_rfl) fun K hK => ?_; simp only [List.map])
 | (with_reducible refine AL_block ?_)
 | (with_reducible refine AL_exit ?_; simp only [SeqQ, BlockQ, go_sem, seval])
 | (refine Ct rfl ?_)
 | (refine Cf rfl ?_)
 | (refine AL_condb rfl (fun hg => ?_) (fun hg => ?_) <;> ((try simp only [bnq] at hg); (try (have hgp := hg; simp only [bdq] at hgp))))); repeat' (first
 | (with_reducible refine Mk_i ?_; try simp (disch := omega) only [go_sem, seval, irw, h2])
 | ((with_reducible first | refine hK' _ _ ?_ | refine hK' _ _ _ ?_); clear hK' K')
 | (with_reducible refine RT_step fun K' hK' => ?_; first | refine R2_n ?_ | refine Rf rfl rfl ?_ | refine Rf' rfl rfl ?_ | refine R2_gu rfl rfl ?_ | refine Rt rfl rfl ?_ | refine R2_g rfl rfl (fun hg => ?_) (fun hg => ?_) rfl)
 | (with_reducible refine RT_nil ?_; refine hK _ ?_; clear hK K)
 | (with_reducible refine MkG_i ?_; (try simp only [bnq] at hg); (try (have hgp := hg; simp only [bdq] at hgp)); try simp (disch := omega) only [go_sem, seval, irw, h2, hg])
 | (with_reducible refine RL_step fun K' hK' => ?_; first | refine L2_n ?_ | refine Lf rfl rfl ?_ | refine Lf' rfl rfl ?_ | refine L2_gu rfl rfl ?_ | refine Lt rfl rfl ?_ | refine L2_g rfl rfl (fun hg => ?_) (fun hg => ?_) rfl)
 | (with_reducible refine RL_nil ⟨by kernel_rfl, hK _ ?_⟩; clear hK K)
 | (with_reducible first | refine ite_elimM (fun hg => ?_) (fun hg => ?_) | refine And.intro ?_ ?_)
 | omega)
  let bk : Nat → Int := fun k => (L.take k).foldl (bestF out) (-1)
  refine AL_loop (fun k : Nat => ⟨tA [(3, .os 1 0 0 L.length), (4, .os 1 1 0 out.length), (5, pI (bk k)), (6, pI k)], tO [some (.rows 1 (iRows L)), some (.rows 1 (iRows out))]⟩)
    (fun k => k ≤ L.length) (fun k => L.length - k) 0 (Nat.zero_le _) (weak_t [0, 1] _ _ rfl (by decide) ⟨by decide, by decide⟩ (by simp [go_sem, bk]) (by simp [go_sem, bk])) ?_
  intro k hk
  (repeat (with_reducible first | refine AL_seq ?_ | refine AL_skip ?_ | refine AL_nil ?_ | refine SeqQ_n ?_ | refine BlockQ_n ?_)); (first
 | (refine AL_text2 rfl fun K hK => ?_; simp only [List.map])
 | (refine AL_draw2 mixed rfl (by kernel_rfl) fun K hK => ?_; simp only [List.map])
 | (with_reducible refine AL_block ?_)
 | (with_reducible refine AL_exit ?_; simp only [SeqQ, BlockQ, go_sem, seval])
 | (refine Ct rfl ?_)
 | (refine Cf rfl ?_)
 | (refine AL_condb rfl (fun hg => ?_) (fun hg => ?_) <;> ((try simp only [bnq] at hg); (try (have hgp := hg; simp only [bdq] at hgp))))); repeat' (first
 | (with_reducible refine Mk_i ?_; try simp (disch := omega) only [go_sem, seval, irw])
 | ((with_reducible first | refine hK' _ _ ?_ | refine hK' _ _ _ ?_); clear hK' K')
 | (with_reducible refine RT_step fun K' hK' => ?_; first | refine R2_n ?_ | refine Rf rfl rfl ?_ | refine Rf' rfl rfl ?_ | refine R2_gu rfl rfl ?_ | refine Rt rfl rfl ?_ | refine R2_g rfl rfl (fun hg => ?_) (fun hg => ?_) rfl)
 | (with_reducible refine RT_nil ?_; refine hK _ ?_; clear hK K)
 | (with_reducible refine MkG_i ?_; (try simp only [bnq] at hg); (try (have hgp := hg; simp only [bdq] at hgp)); try simp (disch := omega) only [go_sem, seval, irw, hg])
 | (with_reducible refine RL_step fun K' hK' => ?_; first | refine L2_n ?_ | refine Lf rfl rfl ?_ | refine Lf' rfl rfl ?_ | refine L2_gu rfl rfl ?_ | refine Lt rfl rfl ?_ | refine L2_g rfl rfl (fun hg => ?_) (fun hg => ?_) rfl)
 | (with_reducible refine RL_nil ⟨by kernel_rfl, hK _ ?_⟩; clear hK K)
 | (with_reducible first | refine ite_elimM (fun hg => ?_) (fun hg => ?_) | refine And.intro ?_ ?_)
 | omega)
  cases h4 : decide ((k : Int) < (L.length : Int))
  · repeat' (first
 | (with_reducible refine Mk_i ?_; try simp (disch := omega) only [go_sem, seval, irw, h4])
 | ((with_reducible first | refine hK' _ _ ?_ | refine hK' _ _ _ ?_); clear hK' K')
 | (with_reducible refine RT_step fun K' hK' => ?_; first | refine R2_n ?_ | refine Rf rfl rfl ?_ | refine Rf' rfl rfl ?_ | refine R2_gu rfl rfl ?_ | refine Rt rfl rfl ?_ | refine R2_g rfl rfl (fun hg => ?_) (fun hg => ?_) rfl)
 | (with_reducible refine RT_nil ?_; refine hK _ ?_; clear hK K)
 | (with_reducible refine MkG_i ?_; (try simp only [bnq] at hg); (try (have hgp := hg; simp only [bdq] at hgp)); try simp (disch := omega) only [go_sem, seval, irw, h4, hg])
 | (with_reducible refine RL_step fun K' hK' => ?_; first | refine L2_n ?_ | refine Lf rfl rfl ?_ | refine Lf' rfl rfl ?_ | refine L2_gu rfl rfl ?_ | refine Lt rfl rfl ?_ | refine L2_g rfl rfl (fun hg => ?_) (fun hg => ?_) rfl)
 | (with_reducible refine RL_nil ⟨by kernel_rfl, hK _ ?_⟩; clear hK K)
 | (with_reducible first | refine AL_seq ?_ | refine AL_skip ?_ | refine AL_nil ?_ | refine SeqQ_n ?_ | refine BlockQ_n ?_)
 | (refine AL_text2 rfl fun K hK => ?_; simp only [List.map])
 | (refine AL_draw2 mixed rfl (by kernel_rfl) fun K hK => ?_; simp only [List.map])
 | (with_reducible refine AL_block ?_)
 | (with_reducible refine AL_exit ?_; simp only [SeqQ, BlockQ, go_sem, seval])
 | (refine Ct rfl ?_)
 | (refine Cf rfl ?_)
 | (refine AL_condb rfl (fun hg => ?_) (fun hg => ?_) <;> ((try simp only [bnq] at hg); (try (have hgp := hg; simp only [bdq] at hgp))))
 | (with_reducible first | refine ite_elimM (fun hg => ?_) (fun hg => ?_) | refine And.intro ?_ ?_)
 | omega)
    have hk2 : k = L.length := by simp at h4; omega
    have hb : bk k = L.foldl (bestF out) (-1) := by simp only [bk, hk2, List.take_length]
    have hr : out ++ [bk k] = riseN L (out.length + 1) := by rw [riseN, ← ho1, hb]
    exact ⟨out ++ [bk k], ⟨by rw [hr, riseN_len], by simp; omega⟩, by simp; omega, (weak_t [0, 2] _ _ rfl (by decide) ⟨by decide, by decide⟩ (by simp [go_sem, ]) (by simp [go_sem, ]))⟩
  have hk2 : k < L.length := by simpa using h4
  have e : bk (k + 1) = bestF out (bk k) L[k] := by
    simp only [bk, List.take_add_one, List.getElem?_eq_getElem hk2, List.foldl_append, Option.toList_some, List.foldl_cons, List.foldl_nil]
  clear ho1 hLe hU
  by_cases ho : out.length = 0
  · have hz4 : ((out.length : Int) == 0) = true := by simp [ho]
    repeat' (first
 | (with_reducible refine Mk_i ?_; try simp (disch := omega) only [go_sem, seval, irw, hz4])
 | ((with_reducible first | refine hK' _ _ ?_ | refine hK' _ _ _ ?_); clear hK' K')
 | (with_reducible refine RT_step fun K' hK' => ?_; first | refine R2_n ?_ | refine Rf rfl rfl ?_ | refine Rf' rfl rfl ?_ | refine R2_gu rfl rfl ?_ | refine Rt rfl rfl ?_ | refine R2_g rfl rfl (fun hg => ?_) (fun hg => ?_) rfl)
 | (with_reducible refine RT_nil ?_; refine hK _ ?_; clear hK K)
 | (with_reducible refine MkG_i ?_; (try simp only [bnq] at hg); (try (have hgp := hg; simp only [bdq] at hgp)); try simp (disch := omega) only [go_sem, seval, irw, hz4, hg])
 | (with_reducible refine RL_step fun K' hK' => ?_; first | refine L2_n ?_ | refine Lf rfl rfl ?_ | refine Lf' rfl rfl ?_ | refine L2_gu rfl rfl ?_ | refine Lt rfl rfl ?_ | refine L2_g rfl rfl (fun hg => ?_) (fun hg => ?_) rfl)
 | (with_reducible refine RL_nil ⟨by kernel_rfl, hK _ ?_⟩; clear hK K)
 | (with_reducible first | refine AL_seq ?_ | refine AL_skip ?_ | refine AL_nil ?_ | refine SeqQ_n ?_ | refine BlockQ_n ?_)
 | (refine AL_text2 rfl fun K hK => ?_; simp only [List.map])
 | (refine AL_draw2 mixed rfl (by kernel_rfl) fun K hK => ?_; simp only [List.map])
 | (with_reducible refine AL_block ?_)
 | (with_reducible refine AL_exit ?_; simp only [SeqQ, BlockQ, go_sem, seval])
 | (refine Ct rfl ?_)
 | (refine Cf rfl ?_)
 | (refine AL_condb rfl (fun hg => ?_) (fun hg => ?_) <;> ((try simp only [bnq] at hg); (try (have hgp := hg; simp only [bdq] at hgp))))
 | (with_reducible first | refine ite_elimM (fun hg => ?_) (fun hg => ?_) | refine And.intro ?_ ?_)
 | omega)
    all_goals (have hb := e; clear e; simp only [bestF, aboveOK, *, decide_true, decide_false, eq_self, Bool.true_or, Bool.or_true, Bool.false_or, Bool.or_false, Bool.true_and, Bool.and_true, Bool.false_and, Bool.and_false, if_true, if_false, Bool.false_eq_true] at hb)
    all_goals (repeat (with_reducible first | refine AL_nil ?_ | refine SeqQ_n ?_ | refine BlockQ_n ?_)); exact ⟨k + 1, by omega, by omega, weak_t [0, 1] _ _ rfl (by decide) ⟨by decide, by decide⟩ (by simp [go_sem, hb]) (by simp [go_sem, hb])⟩
  · have hz : (iRows out)[out.length - 1]? = some [pI (out.getLastD 0)] := by
      rw [row_get (by omega)]
      simp [List.getLastD_eq_getLast?, List.getLast?_eq_getElem?, List.getElem?_eq_getElem (show out.length - 1 < out.length by omega)]
    have hz1 : ((out.length : Int) - 1).toNat = out.length - 1 := by omega
    have hz2 : 0 ≤ (out.length : Int) - 1 := by omega
    have hz4 : ((out.length : Int) == 0) = false := by rw [beq_eq_false_iff_ne]; omega
    have hz3 : (out.length : Int) - 1 < (out.length : Int) := by omega
    repeat' (first
 | (with_reducible refine Mk_i ?_; try simp (disch := omega) only [go_sem, seval, irw, hz, hz1, hz2, hz4, hz3])
 | ((with_reducible first | refine hK' _ _ ?_ | refine hK' _ _ _ ?_); clear hK' K')
 | (with_reducible refine RT_step fun K' hK' => ?_; first | refine R2_n ?_ | refine Rf rfl rfl ?_ | refine Rf' rfl rfl ?_ | refine R2_gu rfl rfl ?_ | refine Rt rfl rfl ?_ | refine R2_g rfl rfl (fun hg => ?_) (fun hg => ?_) rfl)
 | (with_reducible refine RT_nil ?_; refine hK _ ?_; clear hK K)
 | (with_reducible refine MkG_i ?_; (try simp only [bnq] at hg); (try (have hgp := hg; simp only [bdq] at hgp)); try simp (disch := omega) only [go_sem, seval, irw, hz, hz1, hz2, hz4, hz3, hg])
 | (with_reducible refine RL_step fun K' hK' => ?_; first | refine L2_n ?_ | refine Lf rfl rfl ?_ | refine Lf' rfl rfl ?_ | refine L2_gu rfl rfl ?_ | refine Lt rfl rfl ?_ | refine L2_g rfl rfl (fun hg => ?_) (fun hg => ?_) rfl)
 | (with_reducible refine RL_nil ⟨by kernel_rfl, hK _ ?_⟩; clear hK K)
 | (with_reducible first | refine AL_seq ?_ | refine AL_skip ?_ | refine AL_nil ?_ | refine SeqQ_n ?_ | refine BlockQ_n ?_)
 | (refine AL_text2 rfl fun K hK => ?_; simp only [List.map])
 | (refine AL_draw2 mixed rfl (by kernel_rfl) fun K hK => ?_; simp only [List.map])
 | (with_reducible refine AL_block ?_)
 | (with_reducible refine AL_exit ?_; simp only [SeqQ, BlockQ, go_sem, seval])
 | (refine Ct rfl ?_)
 | (refine Cf rfl ?_)
 | (refine AL_condb rfl (fun hg => ?_) (fun hg => ?_) <;> ((try simp only [bnq] at hg); (try (have hgp := hg; simp only [bdq] at hgp))))
 | (with_reducible first | refine ite_elimM (fun hg => ?_) (fun hg => ?_) | refine And.intro ?_ ?_)
 | omega)
    all_goals (have hb := e; clear e; simp only [bestF, aboveOK, *, decide_true, decide_false, eq_self, Bool.true_or, Bool.or_true, Bool.false_or, Bool.or_false, Bool.true_and, Bool.and_true, Bool.false_and, Bool.and_false, if_true, if_false, Bool.false_eq_true] at hb)
    all_goals (repeat (with_reducible first | refine AL_nil ?_ | refine SeqQ_n ?_ | refine BlockQ_n ?_)); exact ⟨k + 1, by omega, by omega, weak_t [0, 1] _ _ rfl (by decide) ⟨by decide, by decide⟩ (by simp [go_sem, hb]) (by simp [go_sem, hb])⟩
end Go.Proofs.YtjlcojgimicfbaaDoor
/- Plain laws on instructions: the program's answers are the document's. -/
namespace Go.Proofs.YtjlcojgimicfbaaDoor
open Go.Am
set_option linter.unusedSimpArgs false
set_option maxRecDepth 100000
set_option maxHeartbeats 4000000

/-! ### Rows that rise -/
theorem strict_ext {a b : List Int} (ha : a.Pairwise (· < ·)) (hb : b.Pairwise (· < ·)) (h : ∀ x, x ∈ a ↔ x ∈ b) : a = b := by
  have hna : a.Nodup := ha.imp (fun h => by omega)
  have hnb : b.Nodup := hb.imp (fun h => by omega)
  refine List.Perm.eq_of_pairwise (le := (· < ·)) (fun x y _ _ h1 h2 => ?_) ha hb ((List.perm_ext_iff_of_nodup hna hnb).2 h)
  omega
theorem sort_le (l : List Int) : (l.mergeSort fun x y => decide (x ≤ y)).Pairwise (· ≤ ·) := by
  have := List.pairwise_mergeSort (le := fun x y : Int => decide (x ≤ y)) (fun a b c h1 h2 => by simp only [decide_eq_true_eq] at *; omega) (fun a b => by simp only [Bool.or_eq_true, decide_eq_true_eq]; omega) l
  exact this.imp (fun h => by simpa using h)

theorem compact_aux (zs : List Int) (h : zs.Pairwise (· ≤ ·)) : ∀ m, m ≤ zs.length → (Lib.compactUpTo zs.toArray m).Pairwise (· < ·) ∧
    (∀ x ∈ Lib.compactUpTo zs.toArray m, ∃ j, j < m ∧ zs.toArray[j]! = x) ∧ (∀ j, j < m → zs.toArray[j]! ∈ Lib.compactUpTo zs.toArray m) := by
  have mono : ∀ i j, i ≤ j → j < zs.length → zs.toArray[i]! ≤ zs.toArray[j]! := by
    intro i j hij hj
    rw [getElem!_pos zs.toArray i (by simp; omega), getElem!_pos zs.toArray j (by simpa using hj)]
    rcases Nat.lt_or_ge i j with h1 | h1
    · exact (List.pairwise_iff_getElem.1 h) i j (by omega) hj h1
    · have : i = j := by omega
      subst this; exact Int.le_refl _
  intro m
  induction m with
  | zero => intro _; simp [Lib.compactUpTo]
  | succ m ih =>
    intro hm
    obtain ⟨i1, i2, i3⟩ := ih (by omega)
    rw [Lib.compactUpTo_succ]
    cases hk : Lib.keeps zs.toArray m
    · have hk' : m ≠ 0 ∧ zs.toArray[m]! = zs.toArray[m - 1]! := by
        simp only [Lib.keeps, decide_eq_false_iff_not, not_or, Decidable.not_not] at hk
        exact hk
      simp only [Bool.false_eq_true, if_false, List.append_nil]
      refine ⟨i1, fun x hx => ?_, fun j hj => ?_⟩
      · obtain ⟨j, h1, h2⟩ := i2 x hx; exact ⟨j, by omega, h2⟩
      · rcases Nat.lt_or_ge j m with h1 | h1
        · exact i3 j h1
        · have : j = m := by omega
          subst this
          rw [hk'.2]; exact i3 _ (by omega)
    · simp only [if_true]
      refine ⟨?_, fun x hx => ?_, fun j hj => ?_⟩
      · rw [List.pairwise_append]
        refine ⟨i1, List.pairwise_singleton _ _, fun a ha b hb => ?_⟩
        obtain ⟨j, h1, rfl⟩ := i2 a ha
        rw [List.mem_singleton] at hb
        subst hb
        have h2 := mono j (m - 1) (by omega) (by omega)
        have h3 := mono (m - 1) m (by omega) (by omega)
        have h4 : zs.toArray[m]! ≠ zs.toArray[m - 1]! := by
          simp only [Lib.keeps, decide_eq_true_eq] at hk
          rcases hk with hk | hk
          · omega
          · exact hk
        omega
      · rcases List.mem_append.1 hx with hx | hx
        · obtain ⟨j, h1, h2⟩ := i2 x hx; exact ⟨j, by omega, h2⟩
        · rw [List.mem_singleton] at hx; exact ⟨m, by omega, hx.symm⟩
      · rcases Nat.lt_or_ge j m with h1 | h1
        · exact List.mem_append_left _ (i3 j h1)
        · have : j = m := by omega
          subst this; simp

theorem compact_strict (zs : List Int) (h : zs.Pairwise (· ≤ ·)) : (Lib.compact zs).Pairwise (· < ·) ∧ ∀ x, x ∈ Lib.compact zs ↔ x ∈ zs := by
  obtain ⟨h1, h2, h3⟩ := compact_aux zs h zs.length (Nat.le_refl _)
  refine ⟨h1, fun x => ⟨fun hx => ?_, fun hx => ?_⟩⟩
  · obtain ⟨j, hj, rfl⟩ := h2 x hx
    rw [getElem!_pos zs.toArray j (by simpa using hj)]
    simp
  · obtain ⟨j, hj, rfl⟩ := List.mem_iff_getElem.1 hx
    have := h3 j hj
    rw [getElem!_pos zs.toArray j (by simpa using hj)] at this
    simpa [Lib.compact] using this

/-! ### The least of those that stand behind -/
theorem best_spec (out : List Int) : ∀ (l : List Int) (b : Int), (∀ x ∈ l, 0 ≤ x) → (b = -1 ∨ 0 ≤ b ∧ aboveOK out b = true) →
    (l.foldl (bestF out) b = -1 ∧ b = -1 ∧ ∀ x ∈ l, aboveOK out x = false) ∨
    (0 ≤ l.foldl (bestF out) b ∧ aboveOK out (l.foldl (bestF out) b) = true ∧ (l.foldl (bestF out) b = b ∨ l.foldl (bestF out) b ∈ l) ∧ (b = -1 ∨ l.foldl (bestF out) b ≤ b) ∧ ∀ x ∈ l, aboveOK out x = true → l.foldl (bestF out) b ≤ x)
  | [], b, _, hb => by
    rcases hb with rfl | ⟨h1, h2⟩
    · exact .inl ⟨rfl, rfl, by simp⟩
    · exact .inr ⟨h1, h2, .inl rfl, .inr (Int.le_refl _), by simp⟩
  | x :: l, b, hl, hb => by
    have hx : 0 ≤ x := hl x (by simp)
    have hl' : ∀ y ∈ l, 0 ≤ y := fun y hy => hl y (by simp [hy])
    simp only [List.foldl_cons]
    by_cases hc : (aboveOK out x && (decide (b < 0) || decide (x < b))) = true
    · have e : bestF out b x = x := by simp only [bestF, hc, if_true]
      rw [e]
      simp only [Bool.and_eq_true, Bool.or_eq_true, decide_eq_true_eq] at hc
      rcases best_spec out l x hl' (.inr ⟨hx, hc.1⟩) with ⟨h1, h2, _⟩ | ⟨h1, h2, h3, h4, h5⟩
      · omega
      · refine .inr ⟨h1, h2, .inr ?_, ?_, fun y hy hy2 => ?_⟩
        · rcases h3 with h3 | h3
          · rw [h3]; simp
          · simp [h3]
        · rcases hb with rfl | ⟨g1, _⟩
          · exact .inl rfl
          · right; omega
        · rcases List.mem_cons.1 hy with rfl | hy
          · omega
          · exact h5 y hy hy2
    · have e : bestF out b x = b := by simp only [bestF, hc]; rfl
      rw [e]
      simp only [Bool.and_eq_true, Bool.or_eq_true, decide_eq_true_eq, not_and, not_or] at hc
      rcases best_spec out l b hl' hb with ⟨h1, h2, h3⟩ | ⟨h1, h2, h3, h4, h5⟩
      · refine .inl ⟨h1, h2, fun y hy => ?_⟩
        rcases List.mem_cons.1 hy with rfl | hy
        · cases hq : aboveOK out y
          · rfl
          · have := hc hq; omega
        · exact h3 y hy
      · refine .inr ⟨h1, h2, ?_, h4, fun y hy hy2 => ?_⟩
        · rcases h3 with h3 | h3
          · exact .inl h3
          · exact .inr (by simp [h3])
        · rcases List.mem_cons.1 hy with rfl | hy
          · have := hc hy2; omega
          · exact h5 y hy hy2

theorem riseN_sort (T S : List Int) (hT : ∀ x ∈ T, 0 ≤ x) (hS : S.Pairwise (· < ·)) (hm : ∀ x, x ∈ S ↔ x ∈ T) : ∀ n, n ≤ S.length → riseN T n = S.take n := by
  intro n
  induction n with
  | zero => intro _; simp [riseN]
  | succ n ih =>
    intro hn
    have hlt : n < S.length := by omega
    have hmono : ∀ i j (hi : i < S.length) (hj : j < S.length), i < j → S[i] < S[j] := fun i j hi hj h => (List.pairwise_iff_getElem.1 hS) i j hi hj h
    have hab : ∀ j (hj : j < S.length), aboveOK (S.take n) S[j] = decide (n ≤ j) := by
      intro j hj
      simp only [aboveOK, List.length_take, Nat.min_eq_left (show n ≤ S.length by omega)]
      rcases Nat.eq_zero_or_pos n with rfl | hp
      · simp
      · have e : (S.take n).getLastD 0 = S[n - 1] := by
          rw [List.getLastD_eq_getLast?, List.getLast?_eq_getElem?]
          simp only [List.length_take, Nat.min_eq_left (show n ≤ S.length by omega)]
          rw [List.getElem?_take]
          simp [show n - 1 < n by omega, show n - 1 < S.length by omega]
        rw [e]
        have h0 : decide (n = 0) = false := by simp; omega
        rw [h0, Bool.false_or]
        by_cases h : n ≤ j
        · have := hmono (n - 1) j (by omega) hj (by omega)
          simp [h, this]
        · have : S[j] ≤ S[n - 1] := by
            rcases Nat.lt_or_ge j (n - 1) with h1 | h1
            · exact Int.le_of_lt (hmono j (n - 1) hj (by omega) h1)
            · have : j = n - 1 := by omega
              subst this; exact Int.le_refl _
          simp [h]; omega
    have key : T.foldl (bestF (S.take n)) (-1) = S[n] := by
      rcases best_spec (S.take n) T (-1) hT (.inl rfl) with ⟨_, _, h3⟩ | ⟨h1, h2, h3, _, h5⟩
      · have := h3 S[n] ((hm _).1 (List.getElem_mem hlt))
        rw [hab n hlt] at this
        simp at this
      · have h3' : T.foldl (bestF (S.take n)) (-1) ∈ T := by
          rcases h3 with h3 | h3
          · omega
          · exact h3
        obtain ⟨j, hj, hj2⟩ := List.mem_iff_getElem.1 ((hm _).2 h3')
        rw [← hj2] at h2 h5 ⊢
        rw [hab j hj] at h2
        have hnj : n ≤ j := by simpa using h2
        have h6 := h5 S[n] ((hm _).1 (List.getElem_mem hlt)) (by rw [hab n hlt]; simp)
        rcases Nat.lt_or_ge n j with h7 | h7
        · have := hmono n j hlt hj h7; omega
        · have : j = n := by omega
          subst this; rfl
    rw [riseN, ih (by omega), key, List.take_succ_eq_append_getElem hlt]

theorem rise_eq (W T : List Int) (hT : ∀ x ∈ T, 0 ≤ x) (hn : T.Nodup) (hm : ∀ x, x ∈ W ↔ x ∈ T) :
    Lib.compact (W.mergeSort fun x y => decide (x ≤ y)) = riseN T T.length := by
  obtain ⟨h1, h2⟩ := compact_strict _ (sort_le W)
  have hlen : (Lib.compact (W.mergeSort fun x y => decide (x ≤ y))).length = T.length := by
    have hnd : (Lib.compact (W.mergeSort fun x y => decide (x ≤ y))).Nodup := h1.imp (fun h => by omega)
    exact ((List.perm_ext_iff_of_nodup hnd hn).2 fun x => by rw [h2, List.mem_mergeSort]; exact hm x).length_eq
  rw [riseN_sort T _ hT h1 (fun x => by rw [h2, List.mem_mergeSort]; exact hm x) T.length (by omega), ← hlen, List.take_length]
end Go.Proofs.YtjlcojgimicfbaaDoor
/- Plain laws on instructions: may it be, what it sets, what it reads. -/
namespace Go.Proofs.YtjlcojgimicfbaaDoor
open Go.Am
set_option linter.unusedSimpArgs false
set_option maxRecDepth 100000
set_option maxHeartbeats 4000000

theorem name_ref (k : Int) : nameOf k = refNameOf k := by
  unfold nameOf refNameOf
  by_cases h : 0 ≤ k ∧ k < 10
  · rw [if_pos h, if_neg (by omega)]
  · rw [if_neg h, if_pos (by omega)]
theorem kind_cases {k : Int} (h0 : 0 ≤ k) (h1 : k < 10) : k = 0 ∨ k = 1 ∨ k = 2 ∨ k = 3 ∨ k = 4 ∨ k = 5 ∨ k = 6 ∨ k = 7 ∨ k = 8 ∨ k = 9 := by omega
theorem nameOf_nil (k : Int) : (nameOf k == []) = decide (k < 0 ∨ 10 ≤ k) := by
  unfold nameOf
  by_cases h : 0 ≤ k ∧ k < 10
  · rw [if_pos h]
    rcases kind_cases h.1 h.2 with rfl | rfl | rfl | rfl | rfl | rfl | rfl | rfl | rfl | rfl <;> decide
  · rw [if_neg h]
    simp; omega
/-- What parts a kind has, told by its number. -/
theorem hasP_kind {k : Int} (h0 : 0 ≤ k) (h1 : k < 10) : hasP k 100 = hasDstR k ∧ hasP k 97 = hasAR k ∧ hasP k 98 = hasBR k ∧ hasP k 99 = (k == 0) ∧ hasP k 102 = (k == 7) := by
  rcases kind_cases h0 h1 with rfl | rfl | rfl | rfl | rfl | rfl | rfl | rfl | rfl | rfl <;> decide

theorem form_ref (i : Ins) : formI i = rformI i := by
  by_cases hk : 0 ≤ i.kind ∧ i.kind < 10
  · obtain ⟨g1, g2, g3, g4, g5⟩ := hasP_kind hk.1 hk.2
    have hm : (0 ≤ leastI i) ↔ (0 ≤ i.dst ∧ 0 ≤ i.a ∧ 0 ≤ i.b ∧ 0 ≤ i.f ∧ 0 ≤ i.x ∧ 0 ≤ i.y ∧ 0 ≤ i.z) := by
      simp only [leastI, leastOf]; omega
    rw [Bool.eq_iff_iff]
    simp only [formI, rformI, offI, roff1, roff2, roff3, roff4, nameOf_nil, hm, bareI, zeroI, Ins.mk.injEq, g1, g2, g3, g4, g5, noneR, Bool.and_eq_true, Bool.not_eq_true', Bool.or_eq_false_iff, Bool.and_eq_false_iff, decide_eq_true_eq, decide_eq_false_iff_not, Bool.not_eq_false', Bool.or_eq_true, beq_iff_eq, bne_eq_false_iff_eq, beq_eq_false_iff_ne, true_and]
    rcases kind_cases hk.1 hk.2 with h | h | h | h | h | h | h | h | h | h <;> simp only [h, hasDstR, hasAR, hasBR] <;> simp <;> omega
  · have h1 : formI i = false := by
      simp only [formI, offI, nameOf_nil]
      have : decide (i.kind < 0 ∨ 10 ≤ i.kind) = true := by simp; omega
      simp [this]
    have h2 : rformI i = false := by
      have : roff1 i = true := by
        simp only [roff1, Bool.or_eq_true, decide_eq_true_eq]; omega
      simp [rformI, this]
    rw [h1, h2]
theorem formI_kind {i : Ins} (h : formI i = true) : 0 ≤ i.kind ∧ i.kind < 10 := by
  simp only [formI, offI, nameOf_nil, Bool.and_eq_true, Bool.not_eq_true', Bool.or_eq_false_iff, decide_eq_false_iff_not] at h
  omega
theorem def_ref (i : Ins) : defI i = rdefI i := by
  unfold defI rdefI
  rw [← form_ref]
  cases h : formI i
  · simp
  · obtain ⟨g1, _⟩ := hasP_kind (formI_kind h).1 (formI_kind h).2
    simp [g1]
theorem uses_ref (i : Ins) : usesI i = rusesI i := by
  unfold usesI rusesI
  rw [← form_ref]
  cases h : formI i
  · simp
  · obtain ⟨_, g2, g3, _⟩ := hasP_kind (formI_kind h).1 (formI_kind h).2
    have hA : (partA i).foldl addL [] = usesA i := by
      simp only [partA, usesA, g2]
      split <;> simp
    have hB : (partB i).foldl addL [] = usesB i := by
      simp only [partB, usesB, g3]
      split
      · rw [List.foldl_append, hA]; simp
      · exact hA
    simp only [if_true, partL, List.foldl_append, hB]

theorem leastI_nonneg {i : Ins} (h : formI i = true) : 0 ≤ i.dst ∧ 0 ≤ i.a ∧ 0 ≤ i.b ∧ 0 ≤ i.f ∧ 0 ≤ i.x ∧ 0 ≤ i.y ∧ 0 ≤ i.z := by
  simp only [formI, Bool.and_eq_true, decide_eq_true_eq] at h
  have h1 := h.1.2
  simp only [leastI, leastOf] at h1
  omega
theorem addL_mem (l : List Int) (n x : Int) : x ∈ addL l n ↔ x ∈ l ∨ x = n := by
  unfold addL
  split
  · rename_i h
    constructor
    · exact .inl
    · rintro (h1 | rfl)
      · exact h1
      · exact h
  · simp
theorem addL_nodup {l : List Int} (h : l.Nodup) (n : Int) : (addL l n).Nodup := by
  unfold addL
  split
  · exact h
  · rename_i hn
    rw [List.nodup_append]
    refine ⟨h, by simp, fun a ha b hb => ?_⟩
    rw [List.mem_singleton] at hb
    subst hb
    intro e; subst e; exact hn ha
theorem foldl_addL_nodup (l : List Int) : ∀ m : List Int, m.Nodup → (l.foldl addL m).Nodup := by
  induction l with
  | nil => intro m h; exact h
  | cons x l ih => intro m h; exact ih _ (addL_nodup h x)
theorem foldl_addL_mem (l : List Int) : ∀ (m : List Int) (x : Int), x ∈ l.foldl addL m ↔ x ∈ m ∨ x ∈ l := by
  induction l with
  | nil => intro m x; simp
  | cons y l ih =>
    intro m x
    simp only [List.foldl_cons, ih, addL_mem, List.mem_cons]
    constructor
    · rintro ((h | h) | h) <;> simp [h]
    · rintro (h | h | h) <;> simp [h]
theorem usesI_nodup (i : Ins) : (usesI i).Nodup := by
  unfold usesI
  split
  · exact foldl_addL_nodup _ _ List.nodup_nil
  · exact List.nodup_nil
theorem partL_nonneg {i : Ins} (h : formI i = true) : ∀ x ∈ partL i, 0 ≤ x := by
  obtain ⟨_, ha, hb, _, hx, hy, hz⟩ := leastI_nonneg h
  intro v hv
  simp only [partL, List.mem_append] at hv
  rcases hv with hv | hv
  · unfold partB partA at hv
    split at hv <;> split at hv <;> simp at hv <;> omega
  · have := List.mem_of_mem_take hv
    simp only [argsI, List.mem_cons, List.not_mem_nil, or_false] at this
    rcases this with rfl | rfl | rfl <;> assumption
theorem usesI_nonneg (i : Ins) : ∀ x ∈ usesI i, 0 ≤ x := by
  intro x hx
  unfold usesI at hx
  split at hx
  · rename_i h
    rcases (foldl_addL_mem _ _ _).1 hx with hx | hx
    · simp at hx
    · exact partL_nonneg h x hx
  · simp at hx
theorem defI_or (i : Ins) : defI i = -1 ∨ 0 ≤ defI i := by
  unfold defI
  split
  · rename_i h
    rw [Bool.and_eq_true] at h
    exact .inr (leastI_nonneg h.2).1
  · exact .inl rfl
theorem vars_ref (i : Ins) : varsI i = rvarsI i := by
  have hmem : ∀ x, x ∈ withDef i ↔ x ∈ rwithDef i := by
    intro x
    unfold withDef rwithDef
    rw [← def_ref, ← uses_ref]
    rcases defI_or i with h | h
    · rw [if_pos h, if_neg (by omega)]
    · rw [if_neg (by omega), if_pos h]
      simp [addL_mem]
  have hnd : (rwithDef i).Nodup := by
    unfold rwithDef
    rw [← uses_ref]
    split
    · exact addL_nodup (usesI_nodup i) _
    · exact usesI_nodup i
  have hnn : ∀ x ∈ rwithDef i, 0 ≤ x := by
    intro x hx
    unfold rwithDef at hx
    rw [← uses_ref] at hx
    split at hx
    · rename_i h
      rcases (addL_mem _ _ _).1 hx with hx | rfl
      · exact usesI_nonneg i x hx
      · exact h
    · exact usesI_nonneg i x hx
  exact rise_eq (withDef i) (rwithDef i) hnn hnd hmem
end Go.Proofs.YtjlcojgimicfbaaDoor
/- The statement InstrIs, as a contract of its function. -/
namespace Go.Proofs.YtjlcojgimicfbaaDoor
open Go.Am
set_option linter.unusedSimpArgs false
set_option maxRecDepth 100000
set_option maxHeartbeats 4000000
variable {Γ : Nat → Option Obj}

theorem c_Uses (hB : Blanks Γ) (i : Ins) : Pure Γ Tryd.prog 13 [ins i] (ints (usesI i)) := by
  refine (ec_Uses hB i).pure ?_
  show view (tO [some (.rows 1 (iRows (usesI i)))]) _ = _
  simp only [go_sem, Nat.zero_add, Nat.le_refl, if_true, iRows_take]
theorem c_refUses (i : Ins) : Pure Γ Tryd.prog 14 [ins i] (ints (rusesI i)) := by
  refine (ec_refUses i).pure ?_
  show view (tO [some (.rows 1 (iRows (rusesI i)))]) _ = _
  simp only [go_sem, Nat.zero_add, Nat.le_refl, if_true, iRows_take]

abbrev iEx : Ins := ⟨0, 3, 0, 1, 1, 0, 0, 0, 0, 0, 0⟩
theorem c_awake5 (hB : Blanks Γ) : Pure Γ Tryd.prog 7 [] (pB true) := by
  have e1 : formI iEx = true := by decide
  have e2 : defI iEx = 0 := by decide
  have e3 : usesI iEx = [1] := by decide
  have e4 : nameOf 3 = [97, 100, 100] := by decide
  refine pure_start0 Tryd.func7 rfl (by simp [Tryd.f7]) ?_
  repeat' (first
 | (with_reducible refine Mk_i ?_; try simp (disch := omega) only [go_sem, seval, irw, e1, e2, e3, e4])
 | ((with_reducible first | refine hK' _ _ ?_ | refine hK' _ _ _ ?_); clear hK' K')
 | (with_reducible refine RT_step fun K' hK' => ?_; first | refine R2_n ?_ | refine Rf rfl rfl ?_ | refine Rf' rfl rfl ?_ | refine R2_gu rfl rfl ?_ | refine Rt rfl rfl ?_ | refine R2_g rfl rfl (fun hg => ?_) (fun hg => ?_) rfl)
 | (with_reducible refine RT_nil ?_; refine hK _ ?_; clear hK K)
 | (with_reducible refine MkG_i ?_; (try simp only [bnq] at hg); (try (have hgp := hg; simp only [bdq] at hgp)); try simp (disch := omega) only [go_sem, seval, irw, e1, e2, e3, e4, hg])
 | (with_reducible refine RL_step fun K' hK' => ?_; first | refine L2_n ?_ | refine Lf rfl rfl ?_ | refine Lf' rfl rfl ?_ | refine L2_gu rfl rfl ?_ | refine Lt rfl rfl ?_ | refine L2_g rfl rfl (fun hg => ?_) (fun hg => ?_) rfl)
 | (with_reducible refine RL_nil ⟨by kernel_rfl, hK _ ?_⟩; clear hK K)
 | (with_reducible first | refine AL_seq ?_ | refine AL_skip ?_ | refine AL_nil ?_ | refine SeqQ_n ?_ | refine BlockQ_n ?_)
 | (refine AL_text2 rfl fun K hK => ?_; simp only [List.map])
 | (refine AL_draw2 mixed rfl (by kernel_rfl) fun K hK => ?_; simp only [List.map])
 | (with_reducible refine AL_block ?_)
 | (with_reducible refine AL_exit ?_; simp only [SeqQ, BlockQ, go_sem, seval])
 | (refine Ct rfl ?_)
 | (refine Cf rfl ?_)
 | (refine AL_condb rfl (fun hg => ?_) (fun hg => ?_) <;> ((try simp only [bnq] at hg); (try (have hgp := hg; simp only [bdq] at hgp))))
 | (refine CallK_pureM (c_Form hB iEx) en_8 rfl ?_)
 | (refine CallK_pureM (c_Def hB iEx) en_10 rfl ?_)
 | (refine CallK_pureM (c_Uses hB iEx) en_13 rfl ?_)
 | (refine CallK_pureM ((c_Ints [1] [1]).loose2) en_12 rfl ?_)
 | (refine CallK_pureM (c_Name hB 3) en_17 rfl ?_)
 | (with_reducible first | refine ite_elimM (fun hg => ?_) (fun hg => ?_) | refine And.intro ?_ ?_)
 | omega)
  (refine AL_ret (PureQ_ret ?_ rfl); simp [go_sem, ])

theorem c_InstrIs (hB : Blanks Γ) (i : Ins) (kind : Int) : Pure Γ Tryd.prog 3 [ins i, pI kind] (pB true) := by
  have e1 := form_ref i
  have e2 := def_ref i
  have e3 := uses_ref i
  have e4 := vars_ref i
  have e5 := name_ref kind
  refine pure_start2 Tryd.func3 rfl (by simp [Tryd.f3]) ?_
  repeat' (first
 | (with_reducible refine Mk_i ?_; try simp (disch := omega) only [go_sem, seval, irw, e1, e2, e3, e4, e5, beq_self_eq_true])
 | ((with_reducible first | refine hK' _ _ ?_ | refine hK' _ _ _ ?_); clear hK' K')
 | (with_reducible refine RT_step fun K' hK' => ?_; first | refine R2_n ?_ | refine Rf rfl rfl ?_ | refine Rf' rfl rfl ?_ | refine R2_gu rfl rfl ?_ | refine Rt rfl rfl ?_ | refine R2_g rfl rfl (fun hg => ?_) (fun hg => ?_) rfl)
 | (with_reducible refine RT_nil ?_; refine hK _ ?_; clear hK K)
 | (with_reducible refine MkG_i ?_; (try simp only [bnq] at hg); (try (have hgp := hg; simp only [bdq] at hgp)); try simp (disch := omega) only [go_sem, seval, irw, e1, e2, e3, e4, e5, beq_self_eq_true, hg])
 | (with_reducible refine RL_step fun K' hK' => ?_; first | refine L2_n ?_ | refine Lf rfl rfl ?_ | refine Lf' rfl rfl ?_ | refine L2_gu rfl rfl ?_ | refine Lt rfl rfl ?_ | refine L2_g rfl rfl (fun hg => ?_) (fun hg => ?_) rfl)
 | (with_reducible refine RL_nil ⟨by kernel_rfl, hK _ ?_⟩; clear hK K)
 | (with_reducible first | refine AL_seq ?_ | refine AL_skip ?_ | refine AL_nil ?_ | refine SeqQ_n ?_ | refine BlockQ_n ?_)
 | (refine AL_text2 rfl fun K hK => ?_; simp only [List.map])
 | (refine AL_draw2 mixed rfl (by kernel_rfl) fun K hK => ?_; simp only [List.map])
 | (with_reducible refine AL_block ?_)
 | (with_reducible refine AL_exit ?_; simp only [SeqQ, BlockQ, go_sem, seval])
 | (refine Ct rfl ?_)
 | (refine Cf rfl ?_)
 | (refine AL_condb rfl (fun hg => ?_) (fun hg => ?_) <;> ((try simp only [bnq] at hg); (try (have hgp := hg; simp only [bdq] at hgp))))
 | (refine CallK_pureM (c_awake5 hB) en_7 rfl ?_)
 | (refine CallK_pureM (c_Form hB i) en_8 rfl ?_)
 | (refine CallK_pureM (c_refForm i) en_9 rfl ?_)
 | (refine CallK_pureM (c_Def hB i) en_10 rfl ?_)
 | (refine CallK_pureM (c_refDef i) en_11 rfl ?_)
 | (refine CallK_pureM (c_Uses hB i) en_13 rfl ?_)
 | (refine CallK_pureM (c_refUses i) en_14 rfl ?_)
 | (refine CallK_pureM (c_Vars hB i) en_15 rfl ?_)
 | (refine CallK_pureM (c_refVars i) en_16 rfl ?_)
 | (refine CallK_pureM (c_Ints _ _) en_12 rfl ?_)
 | (refine CallK_pureM (c_Name hB kind) en_17 rfl ?_)
 | (refine CallK_pureM (c_refName kind) en_18 rfl ?_)
 | (with_reducible first | refine ite_elimM (fun hg => ?_) (fun hg => ?_) | refine And.intro ?_ ?_)
 | omega)
  (refine AL_ret (PureQ_ret ?_ rfl); simp [go_sem, ])
end Go.Proofs.YtjlcojgimicfbaaDoor
/- Programs: the parts of whether one may be. -/
namespace Go.Proofs.YtjlcojgimicfbaaDoor
open Go.Am
set_option linter.unusedSimpArgs false
set_option maxRecDepth 100000
set_option maxHeartbeats 4000000
variable {Γ : Nat → Option Obj}

structure BlkD where
  live : Bool
  code : List Ins
  succ : List Int
  deriving DecidableEq
structure FunD where
  arity : Int
  vars : Int
  blocks : List BlkD
  deriving DecidableEq
abbrev insRows (l : List Ins) : List (List PV) := l.map Ins.cells
abbrev BlkD.cells (b : BlkD) : List PV := [pB b.live, .sl false (insRows b.code), ints b.succ]
abbrev blkRows (l : List BlkD) : List (List PV) := l.map BlkD.cells
abbrev FunD.cells (f : FunD) : List PV := [pI f.arity, pI f.vars, .sl false (blkRows f.blocks)]
abbrev funRows (l : List FunD) : List (List PV) := l.map FunD.cells
abbrev progV (p : List FunD) : PV := .agg [.sl false (funRows p)]
abbrev funV (f : FunD) : PV := .agg f.cells
abbrev blkV (b : BlkD) : PV := .agg b.cells
attribute [go_sem] BlkD.cells FunD.cells

/-! ### Do numbers rise? -/
def risesB : List Int → Bool
  | a :: b :: r => decide (a < b) && risesB (b :: r)
  | _ => true
theorem c_rises (l : List Int) : Pure Γ Tryd.prog 86 [ints l] (pB (risesB l)) := by
  refine pure_start1 Tryd.func86 rfl (by simp [Tryd.f86]) ?_
  refine AL_seq ?_
  refine AL_len 0 (full := false) (rows := iRows l) rfl rfl (.refl _) fun hlen => ?_
  simp only [iRows, List.length_map] at hlen
  (repeat (with_reducible first | refine AL_seq ?_ | refine AL_skip ?_ | refine AL_nil ?_ | refine SeqQ_n ?_ | refine BlockQ_n ?_)); (first
 | (refine AL_text2 rfl fun K hK => ?_; simp only [List.map])
 | (refine AL_draw2 mixed rfl (by kernel_rfl) fun K hK => ?_; simp only [List.map])
 | (with_reducible refine AL_block ?_)
 | (with_reducible refine AL_exit ?_; simp only [SeqQ, BlockQ, go_sem, seval])
 | (refine Ct rfl ?_)
 | (refine Cf rfl ?_)
 | (refine AL_condb rfl (fun hg => ?_) (fun hg => ?_) <;> ((try simp only [bnq] at hg); (try (have hgp := hg; simp only [bdq] at hgp))))); repeat' (first
 | (with_reducible refine Mk_i ?_; try simp (disch := omega) only [go_sem, seval, irw])
 | ((with_reducible first | refine hK' _ _ ?_ | refine hK' _ _ _ ?_); clear hK' K')
 | (with_reducible refine RT_step fun K' hK' => ?_; first | refine R2_n ?_ | refine Rf rfl rfl ?_ | refine Rf' rfl rfl ?_ | refine R2_gu rfl rfl ?_ | refine Rt rfl rfl ?_ | refine R2_g rfl rfl (fun hg => ?_) (fun hg => ?_) rfl)
 | (with_reducible refine RT_nil ?_; refine hK _ ?_; clear hK K)
 | (with_reducible refine MkG_i ?_; (try simp only [bnq] at hg); (try (have hgp := hg; simp only [bdq] at hgp)); try simp (disch := omega) only [go_sem, seval, irw, hg])
 | (with_reducible refine RL_step fun K' hK' => ?_; first | refine L2_n ?_ | refine Lf rfl rfl ?_ | refine Lf' rfl rfl ?_ | refine L2_gu rfl rfl ?_ | refine Lt rfl rfl ?_ | refine L2_g rfl rfl (fun hg => ?_) (fun hg => ?_) rfl)
 | (with_reducible refine RL_nil ⟨by kernel_rfl, hK _ ?_⟩; clear hK K)
 | (with_reducible first | refine ite_elimM (fun hg => ?_) (fun hg => ?_) | refine And.intro ?_ ?_)
 | omega)
  (repeat (with_reducible first | refine AL_seq ?_ | refine AL_skip ?_ | refine AL_nil ?_ | refine SeqQ_n ?_ | refine BlockQ_n ?_)); (first
 | (refine AL_text2 rfl fun K hK => ?_; simp only [List.map])
 | (refine AL_draw2 mixed rfl (by kernel_rfl) fun K hK => ?_; simp only [List.map])
 | (with_reducible refine AL_block ?_)
 | (with_reducible refine AL_exit ?_; simp only [SeqQ, BlockQ, go_sem, seval])
 | (refine Ct rfl ?_)
 | (refine Cf rfl ?_)
 | (refine AL_condb rfl (fun hg => ?_) (fun hg => ?_) <;> ((try simp only [bnq] at hg); (try (have hgp := hg; simp only [bdq] at hgp))))); repeat' (first
 | (with_reducible refine Mk_i ?_; try simp (disch := omega) only [go_sem, seval, irw])
 | ((with_reducible first | refine hK' _ _ ?_ | refine hK' _ _ _ ?_); clear hK' K')
 | (with_reducible refine RT_step fun K' hK' => ?_; first | refine R2_n ?_ | refine Rf rfl rfl ?_ | refine Rf' rfl rfl ?_ | refine R2_gu rfl rfl ?_ | refine Rt rfl rfl ?_ | refine R2_g rfl rfl (fun hg => ?_) (fun hg => ?_) rfl)
 | (with_reducible refine RT_nil ?_; refine hK _ ?_; clear hK K)
 | (with_reducible refine MkG_i ?_; (try simp only [bnq] at hg); (try (have hgp := hg; simp only [bdq] at hgp)); try simp (disch := omega) only [go_sem, seval, irw, hg])
 | (with_reducible refine RL_step fun K' hK' => ?_; first | refine L2_n ?_ | refine Lf rfl rfl ?_ | refine Lf' rfl rfl ?_ | refine L2_gu rfl rfl ?_ | refine Lt rfl rfl ?_ | refine L2_g rfl rfl (fun hg => ?_) (fun hg => ?_) rfl)
 | (with_reducible refine RL_nil ⟨by kernel_rfl, hK _ ?_⟩; clear hK K)
 | (with_reducible first | refine ite_elimM (fun hg => ?_) (fun hg => ?_) | refine And.intro ?_ ?_)
 | omega)
  (repeat (with_reducible first | refine AL_seq ?_ | refine AL_skip ?_ | refine AL_block ?_ | refine AL_nil ?_ | refine SeqQ_n ?_ | refine BlockQ_n ?_))
  refine AL_loop (fun k : Nat => ⟨tA [(0, ints l), (3, pI ((k + 1 : Nat) : Int))], tO []⟩) (fun k => (k = 0 ∨ k < l.length) ∧ risesB (l.drop k) = risesB l) (fun k => l.length - k) 0 ⟨.inl rfl, rfl⟩ (weak_t [] _ _ rfl (by decide) ⟨by decide, by decide⟩ (by simp [go_sem]) (by simp [go_sem])) ?_
  rintro k ⟨hk, hr⟩
  (repeat (with_reducible first | refine AL_seq ?_ | refine AL_skip ?_ | refine AL_nil ?_ | refine SeqQ_n ?_ | refine BlockQ_n ?_)); (first
 | (refine AL_text2 rfl fun K hK => ?_; simp only [List.map])
 | (refine AL_draw2 mixed rfl (by kernel_rfl) fun K hK => ?_; simp only [List.map])
 | (with_reducible refine AL_block ?_)
 | (with_reducible refine AL_exit ?_; simp only [SeqQ, BlockQ, go_sem, seval])
 | (refine Ct rfl ?_)
 | (refine Cf rfl ?_)
 | (refine AL_condb rfl (fun hg => ?_) (fun hg => ?_) <;> ((try simp only [bnq] at hg); (try (have hgp := hg; simp only [bdq] at hgp))))); repeat' (first
 | (with_reducible refine Mk_i ?_; try simp (disch := omega) only [go_sem, seval, irw])
 | ((with_reducible first | refine hK' _ _ ?_ | refine hK' _ _ _ ?_); clear hK' K')
 | (with_reducible refine RT_step fun K' hK' => ?_; first | refine R2_n ?_ | refine Rf rfl rfl ?_ | refine Rf' rfl rfl ?_ | refine R2_gu rfl rfl ?_ | refine Rt rfl rfl ?_ | refine R2_g rfl rfl (fun hg => ?_) (fun hg => ?_) rfl)
 | (with_reducible refine RT_nil ?_; refine hK _ ?_; clear hK K)
 | (with_reducible refine MkG_i ?_; (try simp only [bnq] at hg); (try (have hgp := hg; simp only [bdq] at hgp)); try simp (disch := omega) only [go_sem, seval, irw, hg])
 | (with_reducible refine RL_step fun K' hK' => ?_; first | refine L2_n ?_ | refine Lf rfl rfl ?_ | refine Lf' rfl rfl ?_ | refine L2_gu rfl rfl ?_ | refine Lt rfl rfl ?_ | refine L2_g rfl rfl (fun hg => ?_) (fun hg => ?_) rfl)
 | (with_reducible refine RL_nil ⟨by kernel_rfl, hK _ ?_⟩; clear hK K)
 | (with_reducible first | refine ite_elimM (fun hg => ?_) (fun hg => ?_) | refine And.intro ?_ ?_)
 | omega)
  cases h2 : decide (((k + 1 : Nat) : Int) < (l.length : Int))
  · repeat' (first
 | (with_reducible refine Mk_i ?_; try simp (disch := omega) only [go_sem, seval, irw, h2])
 | ((with_reducible first | refine hK' _ _ ?_ | refine hK' _ _ _ ?_); clear hK' K')
 | (with_reducible refine RT_step fun K' hK' => ?_; first | refine R2_n ?_ | refine Rf rfl rfl ?_ | refine Rf' rfl rfl ?_ | refine R2_gu rfl rfl ?_ | refine Rt rfl rfl ?_ | refine R2_g rfl rfl (fun hg => ?_) (fun hg => ?_) rfl)
 | (with_reducible refine RT_nil ?_; refine hK _ ?_; clear hK K)
 | (with_reducible refine MkG_i ?_; (try simp only [bnq] at hg); (try (have hgp := hg; simp only [bdq] at hgp)); try simp (disch := omega) only [go_sem, seval, irw, h2, hg])
 | (with_reducible refine RL_step fun K' hK' => ?_; first | refine L2_n ?_ | refine Lf rfl rfl ?_ | refine Lf' rfl rfl ?_ | refine L2_gu rfl rfl ?_ | refine Lt rfl rfl ?_ | refine L2_g rfl rfl (fun hg => ?_) (fun hg => ?_) rfl)
 | (with_reducible refine RL_nil ⟨by kernel_rfl, hK _ ?_⟩; clear hK K)
 | (with_reducible first | refine AL_seq ?_ | refine AL_skip ?_ | refine AL_nil ?_ | refine SeqQ_n ?_ | refine BlockQ_n ?_)
 | (refine AL_text2 rfl fun K hK => ?_; simp only [List.map])
 | (refine AL_draw2 mixed rfl (by kernel_rfl) fun K hK => ?_; simp only [List.map])
 | (with_reducible refine AL_block ?_)
 | (with_reducible refine AL_exit ?_; simp only [SeqQ, BlockQ, go_sem, seval])
 | (refine Ct rfl ?_)
 | (refine Cf rfl ?_)
 | (refine AL_condb rfl (fun hg => ?_) (fun hg => ?_) <;> ((try simp only [bnq] at hg); (try (have hgp := hg; simp only [bdq] at hgp))))
 | (with_reducible first | refine ite_elimM (fun hg => ?_) (fun hg => ?_) | refine And.intro ?_ ?_)
 | omega)
    have h3 : l.length ≤ k + 1 := by simp at h2; omega
    have : risesB l = true := by
      rw [← hr]
      have hd : (l.drop k).length ≤ 1 := by simp; omega
      match l.drop k, hd with
      | [], _ => rfl
      | [_], _ => rfl
    rw [this]
    (refine AL_ret (PureQ_ret ?_ rfl); simp [go_sem, ])
  · have h3 : k + 1 < l.length := by simp at h2; omega
    have hd : l.drop k = l[k] :: l[k + 1] :: l.drop (k + 2) := by
      rw [List.drop_eq_getElem_cons (by omega), List.drop_eq_getElem_cons h3]
    have e1 : (((k + 1 : Nat) : Int) - 1).toNat = k := by omega
    have e2 : 0 ≤ ((k + 1 : Nat) : Int) - 1 := by omega
    cases h4 : decide (l[k + 1] ≤ l[k])
    · repeat' (first
 | (with_reducible refine Mk_i ?_; try simp (disch := omega) only [go_sem, seval, irw, h4, e1, e2])
 | ((with_reducible first | refine hK' _ _ ?_ | refine hK' _ _ _ ?_); clear hK' K')
 | (with_reducible refine RT_step fun K' hK' => ?_; first | refine R2_n ?_ | refine Rf rfl rfl ?_ | refine Rf' rfl rfl ?_ | refine R2_gu rfl rfl ?_ | refine Rt rfl rfl ?_ | refine R2_g rfl rfl (fun hg => ?_) (fun hg => ?_) rfl)
 | (with_reducible refine RT_nil ?_; refine hK _ ?_; clear hK K)
 | (with_reducible refine MkG_i ?_; (try simp only [bnq] at hg); (try (have hgp := hg; simp only [bdq] at hgp)); try simp (disch := omega) only [go_sem, seval, irw, h4, e1, e2, hg])
 | (with_reducible refine RL_step fun K' hK' => ?_; first | refine L2_n ?_ | refine Lf rfl rfl ?_ | refine Lf' rfl rfl ?_ | refine L2_gu rfl rfl ?_ | refine Lt rfl rfl ?_ | refine L2_g rfl rfl (fun hg => ?_) (fun hg => ?_) rfl)
 | (with_reducible refine RL_nil ⟨by kernel_rfl, hK _ ?_⟩; clear hK K)
 | (with_reducible first | refine AL_seq ?_ | refine AL_skip ?_ | refine AL_nil ?_ | refine SeqQ_n ?_ | refine BlockQ_n ?_)
 | (refine AL_text2 rfl fun K hK => ?_; simp only [List.map])
 | (refine AL_draw2 mixed rfl (by kernel_rfl) fun K hK => ?_; simp only [List.map])
 | (with_reducible refine AL_block ?_)
 | (with_reducible refine AL_exit ?_; simp only [SeqQ, BlockQ, go_sem, seval])
 | (refine Ct rfl ?_)
 | (refine Cf rfl ?_)
 | (refine AL_condb rfl (fun hg => ?_) (fun hg => ?_) <;> ((try simp only [bnq] at hg); (try (have hgp := hg; simp only [bdq] at hgp))))
 | (with_reducible first | refine ite_elimM (fun hg => ?_) (fun hg => ?_) | refine And.intro ?_ ?_)
 | omega)
      have h5 : l[k] < l[k + 1] := by simpa using h4
      exact ⟨k + 1, ⟨.inr h3, by rw [← hr, hd, List.drop_eq_getElem_cons h3]; simp [risesB, h5]⟩, by omega, (weak_t [] _ _ rfl (by decide) ⟨by decide, by decide⟩ (by simp [go_sem, ]) (by simp [go_sem, ]))⟩
    · repeat' (first
 | (with_reducible refine Mk_i ?_; try simp (disch := omega) only [go_sem, seval, irw, h4, e1, e2])
 | ((with_reducible first | refine hK' _ _ ?_ | refine hK' _ _ _ ?_); clear hK' K')
 | (with_reducible refine RT_step fun K' hK' => ?_; first | refine R2_n ?_ | refine Rf rfl rfl ?_ | refine Rf' rfl rfl ?_ | refine R2_gu rfl rfl ?_ | refine Rt rfl rfl ?_ | refine R2_g rfl rfl (fun hg => ?_) (fun hg => ?_) rfl)
 | (with_reducible refine RT_nil ?_; refine hK _ ?_; clear hK K)
 | (with_reducible refine MkG_i ?_; (try simp only [bnq] at hg); (try (have hgp := hg; simp only [bdq] at hgp)); try simp (disch := omega) only [go_sem, seval, irw, h4, e1, e2, hg])
 | (with_reducible refine RL_step fun K' hK' => ?_; first | refine L2_n ?_ | refine Lf rfl rfl ?_ | refine Lf' rfl rfl ?_ | refine L2_gu rfl rfl ?_ | refine Lt rfl rfl ?_ | refine L2_g rfl rfl (fun hg => ?_) (fun hg => ?_) rfl)
 | (with_reducible refine RL_nil ⟨by kernel_rfl, hK _ ?_⟩; clear hK K)
 | (with_reducible first | refine AL_seq ?_ | refine AL_skip ?_ | refine AL_nil ?_ | refine SeqQ_n ?_ | refine BlockQ_n ?_)
 | (refine AL_text2 rfl fun K hK => ?_; simp only [List.map])
 | (refine AL_draw2 mixed rfl (by kernel_rfl) fun K hK => ?_; simp only [List.map])
 | (with_reducible refine AL_block ?_)
 | (with_reducible refine AL_exit ?_; simp only [SeqQ, BlockQ, go_sem, seval])
 | (refine Ct rfl ?_)
 | (refine Cf rfl ?_)
 | (refine AL_condb rfl (fun hg => ?_) (fun hg => ?_) <;> ((try simp only [bnq] at hg); (try (have hgp := hg; simp only [bdq] at hgp))))
 | (with_reducible first | refine ite_elimM (fun hg => ?_) (fun hg => ?_) | refine And.intro ?_ ?_)
 | omega)
      have h5 : ¬ l[k] < l[k + 1] := by have : l[k + 1] ≤ l[k] := by simpa using h4
                                        omega
      have : risesB l = false := by rw [← hr, hd]; simp [risesB, h5]
      rw [this]
      (refine AL_ret (PureQ_ret ?_ rfl); simp [go_sem, ])

/-! ### Is a block live? -/
def liveD (f : FunD) (b : Int) : Bool := decide (0 ≤ b) && ((f.blocks[b.toNat]?).map (·.live)).getD false
theorem liveD_in {f : FunD} {b : Int} (h0 : 0 ≤ b) (h1 : b.toNat < f.blocks.length) : liveD f b = f.blocks[b.toNat].live := by simp [liveD, h0, h1]
theorem c_live (f : FunD) (b : Int) : Pure Γ Tryd.prog 46 [funV f, pI b] (pB (liveD f b)) := by
  refine pure_start2 Tryd.func46 rfl (by simp [Tryd.f46]) ?_
  repeat' (first
 | (with_reducible refine Mk_i ?_; try simp (disch := omega) only [go_sem, seval, irw])
 | ((with_reducible first | refine hK' _ _ ?_ | refine hK' _ _ _ ?_); clear hK' K')
 | (with_reducible refine RT_step fun K' hK' => ?_; first | refine R2_n ?_ | refine Rf rfl rfl ?_ | refine Rf' rfl rfl ?_ | refine R2_gu rfl rfl ?_ | refine Rt rfl rfl ?_ | refine R2_g rfl rfl (fun hg => ?_) (fun hg => ?_) rfl)
 | (with_reducible refine RT_nil ?_; refine hK _ ?_; clear hK K)
 | (with_reducible refine MkG_i ?_; (try simp only [bnq] at hg); (try (have hgp := hg; simp only [bdq] at hgp)); try simp (disch := omega) only [go_sem, seval, irw, hg])
 | (with_reducible refine RL_step fun K' hK' => ?_; first | refine L2_n ?_ | refine Lf rfl rfl ?_ | refine Lf' rfl rfl ?_ | refine L2_gu rfl rfl ?_ | refine Lt rfl rfl ?_ | refine L2_g rfl rfl (fun hg => ?_) (fun hg => ?_) rfl)
 | (with_reducible refine RL_nil ⟨by kernel_rfl, hK _ ?_⟩; clear hK K)
 | (with_reducible first | refine AL_seq ?_ | refine AL_skip ?_ | refine AL_nil ?_ | refine SeqQ_n ?_ | refine BlockQ_n ?_)
 | (refine AL_text2 rfl fun K hK => ?_; simp only [List.map])
 | (refine AL_draw2 mixed rfl (by kernel_rfl) fun K hK => ?_; simp only [List.map])
 | (with_reducible refine AL_block ?_)
 | (with_reducible refine AL_exit ?_; simp only [SeqQ, BlockQ, go_sem, seval])
 | (refine Ct rfl ?_)
 | (refine Cf rfl ?_)
 | (refine AL_condb rfl (fun hg => ?_) (fun hg => ?_) <;> ((try simp only [bnq] at hg); (try (have hgp := hg; simp only [bdq] at hgp))))
 | (with_reducible first | refine ite_elimM (fun hg => ?_) (fun hg => ?_) | refine And.intro ?_ ?_)
 | omega)
  all_goals first
    | (have hq : b.toNat < f.blocks.length := by omega
       (refine AL_ret (PureQ_ret ?_ rfl); simp [go_sem, liveD, hq, *]))
    | (have hq : f.blocks[b.toNat]? = none := List.getElem?_eq_none (by omega)
       (refine AL_ret (PureQ_ret ?_ rfl); simp [go_sem, liveD, hq, *]))
    | (refine AL_ret (PureQ_ret ?_ rfl); simp [go_sem, liveD, *])

/-! ### Is there one of a kind? -/
def findI {α : Type} (p : α → Bool) : List α → Nat → Int
  | [], _ => -1
  | x :: r, i => if p x then i else findI p r (i + 1)
theorem findI_any {α : Type} (p : α → Bool) : ∀ (l : List α) (i : Nat), (decide (0 ≤ findI p l i)) = l.any p
  | [], i => by simp [findI]
  | x :: l, i => by
    have ih := findI_any p l (i + 1)
    by_cases h : p x = true
    · simp [findI, h]
    · have h' : p x = false := by simpa using h
      simp only [findI, h', Bool.false_eq_true, if_false, List.any_cons, Bool.false_or]
      exact ih

theorem c_IndexFuncI (l : List Int) (g : FuncId) (caps : List PV) (pred : Int → Bool) (hcap : isPL caps = true) (he : Ent Tryd.prog g) (hg : ∀ v, Pure Γ Tryd.prog g (pI v :: caps) (pB (pred v))) :
    Pure Γ Tryd.prog 97 [.sl false (iRows l), .fn (.func g) [] caps] (pI (findI pred l 0)) := by
  refine pure_start2 Tryd.func97 rfl (by simp [Tryd.f97]) ?_
  refine AL_seq ?_
  refine AL_len 0 (full := false) (rows := iRows l) rfl rfl (.refl _) fun hlen => ?_
  simp only [iRows, insRows, List.length_map] at hlen
  (repeat (with_reducible first | refine AL_seq ?_ | refine AL_skip ?_ | refine AL_nil ?_ | refine SeqQ_n ?_ | refine BlockQ_n ?_)); (first
 | (refine AL_text2 rfl fun K hK => ?_; simp only [List.map])
 | (refine AL_draw2 mixed rfl (by kernel_rfl) fun K hK => ?_; simp only [List.map])
 | (with_reducible refine AL_block ?_)
 | (with_reducible refine AL_exit ?_; simp only [SeqQ, BlockQ, go_sem, seval])
 | (refine Ct rfl ?_)
 | (refine Cf rfl ?_)
 | (refine AL_condb rfl (fun hg => ?_) (fun hg => ?_) <;> ((try simp only [bnq] at hg); (try (have hgp := hg; simp only [bdq] at hgp))))); repeat' (first
 | (with_reducible refine Mk_i ?_; try simp (disch := omega) only [go_sem, seval, irw])
 | ((with_reducible first | refine hK' _ _ ?_ | refine hK' _ _ _ ?_); clear hK' K')
 | (with_reducible refine RT_step fun K' hK' => ?_; first | refine R2_n ?_ | refine Rf rfl rfl ?_ | refine Rf' rfl rfl ?_ | refine R2_gu rfl rfl ?_ | refine Rt rfl rfl ?_ | refine R2_g rfl rfl (fun hg => ?_) (fun hg => ?_) rfl)
 | (with_reducible refine RT_nil ?_; refine hK _ ?_; clear hK K)
 | (with_reducible refine MkG_i ?_; (try simp only [bnq] at hg); (try (have hgp := hg; simp only [bdq] at hgp)); try simp (disch := omega) only [go_sem, seval, irw, hg])
 | (with_reducible refine RL_step fun K' hK' => ?_; first | refine L2_n ?_ | refine Lf rfl rfl ?_ | refine Lf' rfl rfl ?_ | refine L2_gu rfl rfl ?_ | refine Lt rfl rfl ?_ | refine L2_g rfl rfl (fun hg => ?_) (fun hg => ?_) rfl)
 | (with_reducible refine RL_nil ⟨by kernel_rfl, hK _ ?_⟩; clear hK K)
 | (with_reducible first | refine ite_elimM (fun hg => ?_) (fun hg => ?_) | refine And.intro ?_ ?_)
 | omega)
  (repeat (with_reducible first | refine AL_seq ?_ | refine AL_skip ?_ | refine AL_nil ?_ | refine SeqQ_n ?_ | refine BlockQ_n ?_)); (first
 | (refine AL_text2 rfl fun K hK => ?_; simp only [List.map])
 | (refine AL_draw2 mixed rfl (by kernel_rfl) fun K hK => ?_; simp only [List.map])
 | (with_reducible refine AL_block ?_)
 | (with_reducible refine AL_exit ?_; simp only [SeqQ, BlockQ, go_sem, seval])
 | (refine Ct rfl ?_)
 | (refine Cf rfl ?_)
 | (refine AL_condb rfl (fun hg => ?_) (fun hg => ?_) <;> ((try simp only [bnq] at hg); (try (have hgp := hg; simp only [bdq] at hgp))))); repeat' (first
 | (with_reducible refine Mk_i ?_; try simp (disch := omega) only [go_sem, seval, irw])
 | ((with_reducible first | refine hK' _ _ ?_ | refine hK' _ _ _ ?_); clear hK' K')
 | (with_reducible refine RT_step fun K' hK' => ?_; first | refine R2_n ?_ | refine Rf rfl rfl ?_ | refine Rf' rfl rfl ?_ | refine R2_gu rfl rfl ?_ | refine Rt rfl rfl ?_ | refine R2_g rfl rfl (fun hg => ?_) (fun hg => ?_) rfl)
 | (with_reducible refine RT_nil ?_; refine hK _ ?_; clear hK K)
 | (with_reducible refine MkG_i ?_; (try simp only [bnq] at hg); (try (have hgp := hg; simp only [bdq] at hgp)); try simp (disch := omega) only [go_sem, seval, irw, hg])
 | (with_reducible refine RL_step fun K' hK' => ?_; first | refine L2_n ?_ | refine Lf rfl rfl ?_ | refine Lf' rfl rfl ?_ | refine L2_gu rfl rfl ?_ | refine Lt rfl rfl ?_ | refine L2_g rfl rfl (fun hg => ?_) (fun hg => ?_) rfl)
 | (with_reducible refine RL_nil ⟨by kernel_rfl, hK _ ?_⟩; clear hK K)
 | (with_reducible first | refine ite_elimM (fun hg => ?_) (fun hg => ?_) | refine And.intro ?_ ?_)
 | omega)
  (repeat (with_reducible first | refine AL_seq ?_ | refine AL_skip ?_ | refine AL_block ?_ | refine AL_nil ?_ | refine SeqQ_n ?_ | refine BlockQ_n ?_))
  refine AL_loop (fun k : Nat => ⟨tA [(0, .sl false (iRows l)), (1, .fn (.func g) [] caps), (7, pI l.length), (8, pI k)], tO []⟩) (fun k => k ≤ l.length ∧ findI pred (l.drop k) k = findI pred l 0) (fun k => l.length - k) 0 ⟨Nat.zero_le _, rfl⟩ ?_ ?_
  · exact (weak_t [] _ _ rfl (by decide) ⟨by decide, by decide⟩ (by simp [go_sem]) (by simp [go_sem, hcap, renL_isP, okL_isP]))
  rintro k ⟨hk, hf⟩
  (repeat (with_reducible first | refine AL_seq ?_ | refine AL_skip ?_ | refine AL_nil ?_ | refine SeqQ_n ?_ | refine BlockQ_n ?_)); (first
 | (refine AL_text2 rfl fun K hK => ?_; simp only [List.map])
 | (refine AL_draw2 mixed rfl (by kernel_rfl) fun K hK => ?_; simp only [List.map])
 | (with_reducible refine AL_block ?_)
 | (with_reducible refine AL_exit ?_; simp only [SeqQ, BlockQ, go_sem, seval])
 | (refine Ct rfl ?_)
 | (refine Cf rfl ?_)
 | (refine AL_condb rfl (fun hg => ?_) (fun hg => ?_) <;> ((try simp only [bnq] at hg); (try (have hgp := hg; simp only [bdq] at hgp))))); repeat' (first
 | (with_reducible refine Mk_i ?_; try simp (disch := omega) only [go_sem, seval, irw])
 | ((with_reducible first | refine hK' _ _ ?_ | refine hK' _ _ _ ?_); clear hK' K')
 | (with_reducible refine RT_step fun K' hK' => ?_; first | refine R2_n ?_ | refine Rf rfl rfl ?_ | refine Rf' rfl rfl ?_ | refine R2_gu rfl rfl ?_ | refine Rt rfl rfl ?_ | refine R2_g rfl rfl (fun hg => ?_) (fun hg => ?_) rfl)
 | (with_reducible refine RT_nil ?_; refine hK _ ?_; clear hK K)
 | (with_reducible refine MkG_i ?_; (try simp only [bnq] at hg); (try (have hgp := hg; simp only [bdq] at hgp)); try simp (disch := omega) only [go_sem, seval, irw, hg])
 | (with_reducible refine RL_step fun K' hK' => ?_; first | refine L2_n ?_ | refine Lf rfl rfl ?_ | refine Lf' rfl rfl ?_ | refine L2_gu rfl rfl ?_ | refine Lt rfl rfl ?_ | refine L2_g rfl rfl (fun hg => ?_) (fun hg => ?_) rfl)
 | (with_reducible refine RL_nil ⟨by kernel_rfl, hK _ ?_⟩; clear hK K)
 | (with_reducible first | refine ite_elimM (fun hg => ?_) (fun hg => ?_) | refine And.intro ?_ ?_)
 | omega)
  cases h2 : decide ((k : Int) < (l.length : Int))
  · repeat' (first
 | (with_reducible refine Mk_i ?_; try simp (disch := omega) only [go_sem, seval, irw, h2])
 | ((with_reducible first | refine hK' _ _ ?_ | refine hK' _ _ _ ?_); clear hK' K')
 | (with_reducible refine RT_step fun K' hK' => ?_; first | refine R2_n ?_ | refine Rf rfl rfl ?_ | refine Rf' rfl rfl ?_ | refine R2_gu rfl rfl ?_ | refine Rt rfl rfl ?_ | refine R2_g rfl rfl (fun hg => ?_) (fun hg => ?_) rfl)
 | (with_reducible refine RT_nil ?_; refine hK _ ?_; clear hK K)
 | (with_reducible refine MkG_i ?_; (try simp only [bnq] at hg); (try (have hgp := hg; simp only [bdq] at hgp)); try simp (disch := omega) only [go_sem, seval, irw, h2, hg])
 | (with_reducible refine RL_step fun K' hK' => ?_; first | refine L2_n ?_ | refine Lf rfl rfl ?_ | refine Lf' rfl rfl ?_ | refine L2_gu rfl rfl ?_ | refine Lt rfl rfl ?_ | refine L2_g rfl rfl (fun hg => ?_) (fun hg => ?_) rfl)
 | (with_reducible refine RL_nil ⟨by kernel_rfl, hK _ ?_⟩; clear hK K)
 | (with_reducible first | refine AL_seq ?_ | refine AL_skip ?_ | refine AL_nil ?_ | refine SeqQ_n ?_ | refine BlockQ_n ?_)
 | (refine AL_text2 rfl fun K hK => ?_; simp only [List.map])
 | (refine AL_draw2 mixed rfl (by kernel_rfl) fun K hK => ?_; simp only [List.map])
 | (with_reducible refine AL_block ?_)
 | (with_reducible refine AL_exit ?_; simp only [SeqQ, BlockQ, go_sem, seval])
 | (refine Ct rfl ?_)
 | (refine Cf rfl ?_)
 | (refine AL_condb rfl (fun hg => ?_) (fun hg => ?_) <;> ((try simp only [bnq] at hg); (try (have hgp := hg; simp only [bdq] at hgp))))
 | (with_reducible first | refine ite_elimM (fun hg => ?_) (fun hg => ?_) | refine And.intro ?_ ?_)
 | omega)
    have hk2 : l.length ≤ k := by simp at h2; omega
    have : findI pred l 0 = -1 := by rw [← hf, List.drop_of_length_le hk2]; rfl
    rw [this]
    (refine AL_ret (PureQ_ret ?_ rfl); simp [go_sem, ])
  · have hk2 : k < l.length := by simpa using h2
    have hd : findI pred (l.drop k) k = if pred l[k] then (k : Int) else findI pred (l.drop (k + 1)) (k + 1) := by rw [List.drop_eq_getElem_cons hk2]; rfl
    cases h3 : pred l[k]
    · repeat' (first
 | (with_reducible refine Mk_i ?_; try simp (disch := omega) only [go_sem, seval, irw, h2, h3])
 | ((with_reducible first | refine hK' _ _ ?_ | refine hK' _ _ _ ?_); clear hK' K')
 | (with_reducible refine RT_step fun K' hK' => ?_; first | refine R2_n ?_ | refine Rf rfl rfl ?_ | refine Rf' rfl rfl ?_ | refine R2_gu rfl rfl ?_ | refine Rt rfl rfl ?_ | refine R2_g rfl rfl (fun hg => ?_) (fun hg => ?_) rfl)
 | (with_reducible refine RT_nil ?_; refine hK _ ?_; clear hK K)
 | (with_reducible refine MkG_i ?_; (try simp only [bnq] at hg); (try (have hgp := hg; simp only [bdq] at hgp)); try simp (disch := omega) only [go_sem, seval, irw, h2, h3, hg])
 | (with_reducible refine RL_step fun K' hK' => ?_; first | refine L2_n ?_ | refine Lf rfl rfl ?_ | refine Lf' rfl rfl ?_ | refine L2_gu rfl rfl ?_ | refine Lt rfl rfl ?_ | refine L2_g rfl rfl (fun hg => ?_) (fun hg => ?_) rfl)
 | (with_reducible refine RL_nil ⟨by kernel_rfl, hK _ ?_⟩; clear hK K)
 | (with_reducible first | refine AL_seq ?_ | refine AL_skip ?_ | refine AL_nil ?_ | refine SeqQ_n ?_ | refine BlockQ_n ?_)
 | (refine AL_text2 rfl fun K hK => ?_; simp only [List.map])
 | (refine AL_draw2 mixed rfl (by kernel_rfl) fun K hK => ?_; simp only [List.map])
 | (with_reducible refine AL_block ?_)
 | (with_reducible refine AL_exit ?_; simp only [SeqQ, BlockQ, go_sem, seval])
 | (refine Ct rfl ?_)
 | (refine Cf rfl ?_)
 | (refine AL_condb rfl (fun hg => ?_) (fun hg => ?_) <;> ((try simp only [bnq] at hg); (try (have hgp := hg; simp only [bdq] at hgp))))
 | (refine CallK_pureM (hg l[k]) (he) (by simp [go_sem, *]) ?_)
 | (with_reducible first | refine ite_elimM (fun hg => ?_) (fun hg => ?_) | refine And.intro ?_ ?_)
 | omega)
      exact ⟨k + 1, ⟨hk2, by rw [← hf, hd, h3]; rfl⟩, by omega, (weak_t [] _ _ rfl (by decide) ⟨by decide, by decide⟩ (by simp [go_sem]) (by simp [go_sem, hcap, renL_isP, okL_isP]))⟩
    · repeat' (first
 | (with_reducible refine Mk_i ?_; try simp (disch := omega) only [go_sem, seval, irw, h2, h3])
 | ((with_reducible first | refine hK' _ _ ?_ | refine hK' _ _ _ ?_); clear hK' K')
 | (with_reducible refine RT_step fun K' hK' => ?_; first | refine R2_n ?_ | refine Rf rfl rfl ?_ | refine Rf' rfl rfl ?_ | refine R2_gu rfl rfl ?_ | refine Rt rfl rfl ?_ | refine R2_g rfl rfl (fun hg => ?_) (fun hg => ?_) rfl)
 | (with_reducible refine RT_nil ?_; refine hK _ ?_; clear hK K)
 | (with_reducible refine MkG_i ?_; (try simp only [bnq] at hg); (try (have hgp := hg; simp only [bdq] at hgp)); try simp (disch := omega) only [go_sem, seval, irw, h2, h3, hg])
 | (with_reducible refine RL_step fun K' hK' => ?_; first | refine L2_n ?_ | refine Lf rfl rfl ?_ | refine Lf' rfl rfl ?_ | refine L2_gu rfl rfl ?_ | refine Lt rfl rfl ?_ | refine L2_g rfl rfl (fun hg => ?_) (fun hg => ?_) rfl)
 | (with_reducible refine RL_nil ⟨by kernel_rfl, hK _ ?_⟩; clear hK K)
 | (with_reducible first | refine AL_seq ?_ | refine AL_skip ?_ | refine AL_nil ?_ | refine SeqQ_n ?_ | refine BlockQ_n ?_)
 | (refine AL_text2 rfl fun K hK => ?_; simp only [List.map])
 | (refine AL_draw2 mixed rfl (by kernel_rfl) fun K hK => ?_; simp only [List.map])
 | (with_reducible refine AL_block ?_)
 | (with_reducible refine AL_exit ?_; simp only [SeqQ, BlockQ, go_sem, seval])
 | (refine Ct rfl ?_)
 | (refine Cf rfl ?_)
 | (refine AL_condb rfl (fun hg => ?_) (fun hg => ?_) <;> ((try simp only [bnq] at hg); (try (have hgp := hg; simp only [bdq] at hgp))))
 | (refine CallK_pureM (hg l[k]) (he) (by simp [go_sem, *]) ?_)
 | (with_reducible first | refine ite_elimM (fun hg => ?_) (fun hg => ?_) | refine And.intro ?_ ?_)
 | omega)
      have : findI pred l 0 = k := by rw [← hf, hd, h3]; rfl
      rw [this]
      (refine AL_ret (PureQ_ret ?_ rfl); simp [go_sem, ])
theorem c_ContainsFuncI (l : List Int) (g : FuncId) (caps : List PV) (pred : Int → Bool) (hcap : isPL caps = true) (he : Ent Tryd.prog g) (hg : ∀ v, Pure Γ Tryd.prog g (pI v :: caps) (pB (pred v))) :
    Pure Γ Tryd.prog 87 [.sl false (iRows l), .fn (.func g) [] caps] (pB (l.any pred)) := by
  have e := findI_any pred l 0
  refine pure_start2 Tryd.func87 rfl (by simp [Tryd.f87]) ?_
  repeat' (first
 | (with_reducible refine Mk_i ?_; try simp (disch := omega) only [go_sem, seval, irw, e, hcap])
 | ((with_reducible first | refine hK' _ _ ?_ | refine hK' _ _ _ ?_); clear hK' K')
 | (with_reducible refine RT_step fun K' hK' => ?_; first | refine R2_n ?_ | refine Rf rfl rfl ?_ | refine Rf' rfl rfl ?_ | refine R2_gu rfl rfl ?_ | refine Rt rfl rfl ?_ | refine R2_g rfl rfl (fun hg => ?_) (fun hg => ?_) rfl)
 | (with_reducible refine RT_nil ?_; refine hK _ ?_; clear hK K)
 | (with_reducible refine MkG_i ?_; (try simp only [bnq] at hg); (try (have hgp := hg; simp only [bdq] at hgp)); try simp (disch := omega) only [go_sem, seval, irw, e, hcap, hg])
 | (with_reducible refine RL_step fun K' hK' => ?_; first | refine L2_n ?_ | refine Lf rfl rfl ?_ | refine Lf' rfl rfl ?_ | refine L2_gu rfl rfl ?_ | refine Lt rfl rfl ?_ | refine L2_g rfl rfl (fun hg => ?_) (fun hg => ?_) rfl)
 | (with_reducible refine RL_nil ⟨by kernel_rfl, hK _ ?_⟩; clear hK K)
 | (with_reducible first | refine AL_seq ?_ | refine AL_skip ?_ | refine AL_nil ?_ | refine SeqQ_n ?_ | refine BlockQ_n ?_)
 | (refine AL_text2 rfl fun K hK => ?_; simp only [List.map])
 | (refine AL_draw2 mixed rfl (by kernel_rfl) fun K hK => ?_; simp only [List.map])
 | (with_reducible refine AL_block ?_)
 | (with_reducible refine AL_exit ?_; simp only [SeqQ, BlockQ, go_sem, seval])
 | (refine Ct rfl ?_)
 | (refine Cf rfl ?_)
 | (refine AL_condb rfl (fun hg => ?_) (fun hg => ?_) <;> ((try simp only [bnq] at hg); (try (have hgp := hg; simp only [bdq] at hgp))))
 | (refine CallK_pureM (c_IndexFuncI l g caps pred hcap he hg) (en_97) (by simp [go_sem, *]) ?_)
 | (with_reducible first | refine ite_elimM (fun hg => ?_) (fun hg => ?_) | refine And.intro ?_ ?_)
 | omega)
  (refine AL_ret (PureQ_ret ?_ rfl); simp [go_sem, ])

theorem c_IndexFuncN (l : List Ins) (g : FuncId) (caps : List PV) (pred : Ins → Bool) (hcap : isPL caps = true) (he : Ent Tryd.prog g) (hg : ∀ v, Pure Γ Tryd.prog g (ins v :: caps) (pB (pred v))) :
    Pure Γ Tryd.prog 98 [.sl false (insRows l), .fn (.func g) [] caps] (pI (findI pred l 0)) := by
  refine pure_start2 Tryd.func98 rfl (by simp [Tryd.f98]) ?_
  refine AL_seq ?_
  refine AL_len 0 (full := false) (rows := insRows l) rfl rfl (.refl _) fun hlen => ?_
  simp only [iRows, insRows, List.length_map] at hlen
  (repeat (with_reducible first | refine AL_seq ?_ | refine AL_skip ?_ | refine AL_nil ?_ | refine SeqQ_n ?_ | refine BlockQ_n ?_)); (first
 | (refine AL_text2 rfl fun K hK => ?_; simp only [List.map])
 | (refine AL_draw2 mixed rfl (by kernel_rfl) fun K hK => ?_; simp only [List.map])
 | (with_reducible refine AL_block ?_)
 | (with_reducible refine AL_exit ?_; simp only [SeqQ, BlockQ, go_sem, seval])
 | (refine Ct rfl ?_)
 | (refine Cf rfl ?_)
 | (refine AL_condb rfl (fun hg => ?_) (fun hg => ?_) <;> ((try simp only [bnq] at hg); (try (have hgp := hg; simp only [bdq] at hgp))))); repeat' (first
 | (with_reducible refine Mk_i ?_; try simp (disch := omega) only [go_sem, seval, irw])
 | ((with_reducible first | refine hK' _ _ ?_ | refine hK' _ _ _ ?_); clear hK' K')
 | (with_reducible refine RT_step fun K' hK' => ?_; first | refine R2_n ?_ | refine Rf rfl rfl ?_ | refine Rf' rfl rfl ?_ | refine R2_gu rfl rfl ?_ | refine Rt rfl rfl ?_ | refine R2_g rfl rfl (fun hg => ?_) (fun hg => ?_) rfl)
 | (with_reducible refine RT_nil ?_; refine hK _ ?_; clear hK K)
 | (with_reducible refine MkG_i ?_; (try simp only [bnq] at hg); (try (have hgp := hg; simp only [bdq] at hgp)); try simp (disch := omega) only [go_sem, seval, irw, hg])
 | (with_reducible refine RL_step fun K' hK' => ?_; first | refine L2_n ?_ | refine Lf rfl rfl ?_ | refine Lf' rfl rfl ?_ | refine L2_gu rfl rfl ?_ | refine Lt rfl rfl ?_ | refine L2_g rfl rfl (fun hg => ?_) (fun hg => ?_) rfl)
 | (with_reducible refine RL_nil ⟨by kernel_rfl, hK _ ?_⟩; clear hK K)
 | (with_reducible first | refine ite_elimM (fun hg => ?_) (fun hg => ?_) | refine And.intro ?_ ?_)
 | omega)
  (repeat (with_reducible first | refine AL_seq ?_ | refine AL_skip ?_ | refine AL_nil ?_ | refine SeqQ_n ?_ | refine BlockQ_n ?_)); (first
 | (refine AL_text2 rfl fun K hK => ?_; simp only [List.map])
 | (refine AL_draw2 mixed rfl (by kernel_rfl) fun K hK => ?_; simp only [List.map])
 | (with_reducible refine AL_block ?_)
 | (with_reducible refine AL_exit ?_; simp only [SeqQ, BlockQ, go_sem, seval])
 | (refine Ct rfl ?_)
 | (refine Cf rfl ?_)
 | (refine AL_condb rfl (fun hg => ?_) (fun hg => ?_) <;> ((try simp only [bnq] at hg); (try (have hgp := hg; simp only [bdq] at hgp))))); repeat' (first
 | (with_reducible refine Mk_i ?_; try simp (disch := omega) only [go_sem, seval, irw])
 | ((with_reducible first | refine hK' _ _ ?_ | refine hK' _ _ _ ?_); clear hK' K')
 | (with_reducible refine RT_step fun K' hK' => ?_; first | refine R2_n ?_ | refine Rf rfl rfl ?_ | refine Rf' rfl rfl ?_ | refine R2_gu rfl rfl ?_ | refine Rt rfl rfl ?_ | refine R2_g rfl rfl (fun hg => ?_) (fun hg => ?_) rfl)
 | (with_reducible refine RT_nil ?_; refine hK _ ?_; clear hK K)
 | (with_reducible refine MkG_i ?_; (try simp only [bnq] at hg); (try (have hgp := hg; simp only [bdq] at hgp)); try simp (disch := omega) only [go_sem, seval, irw, hg])
 | (with_reducible refine RL_step fun K' hK' => ?_; first | refine L2_n ?_ | refine Lf rfl rfl ?_ | refine Lf' rfl rfl ?_ | refine L2_gu rfl rfl ?_ | refine Lt rfl rfl ?_ | refine L2_g rfl rfl (fun hg => ?_) (fun hg => ?_) rfl)
 | (with_reducible refine RL_nil ⟨by kernel_rfl, hK _ ?_⟩; clear hK K)
 | (with_reducible first | refine ite_elimM (fun hg => ?_) (fun hg => ?_) | refine And.intro ?_ ?_)
 | omega)
  (repeat (with_reducible first | refine AL_seq ?_ | refine AL_skip ?_ | refine AL_block ?_ | refine AL_nil ?_ | refine SeqQ_n ?_ | refine BlockQ_n ?_))
  refine AL_loop (fun k : Nat => ⟨tA [(0, .sl false (insRows l)), (1, .fn (.func g) [] caps), (7, pI l.length), (8, pI k)], tO []⟩) (fun k => k ≤ l.length ∧ findI pred (l.drop k) k = findI pred l 0) (fun k => l.length - k) 0 ⟨Nat.zero_le _, rfl⟩ ?_ ?_
  · exact (weak_t [] _ _ rfl (by decide) ⟨by decide, by decide⟩ (by simp [go_sem]) (by simp [go_sem, hcap, renL_isP, okL_isP]))
  rintro k ⟨hk, hf⟩
  (repeat (with_reducible first | refine AL_seq ?_ | refine AL_skip ?_ | refine AL_nil ?_ | refine SeqQ_n ?_ | refine BlockQ_n ?_)); (first
 | (refine AL_text2 rfl fun K hK => ?_; simp only [List.map])
 | (refine AL_draw2 mixed rfl (by kernel_rfl) fun K hK => ?_; simp only [List.map])
 | (with_reducible refine AL_block ?_)
 | (with_reducible refine AL_exit ?_; simp only [SeqQ, BlockQ, go_sem, seval])
 | (refine Ct rfl ?_)
 | (refine Cf rfl ?_)
 | (refine AL_condb rfl (fun hg => ?_) (fun hg => ?_) <;> ((try simp only [bnq] at hg); (try (have hgp := hg; simp only [bdq] at hgp))))); repeat' (first
 | (with_reducible refine Mk_i ?_; try simp (disch := omega) only [go_sem, seval, irw])
 | ((with_reducible first | refine hK' _ _ ?_ | refine hK' _ _ _ ?_); clear hK' K')
 | (with_reducible refine RT_step fun K' hK' => ?_; first | refine R2_n ?_ | refine Rf rfl rfl ?_ | refine Rf' rfl rfl ?_ | refine R2_gu rfl rfl ?_ | refine Rt rfl rfl ?_ | refine R2_g rfl rfl (fun hg => ?_) (fun hg => ?_) rfl)
 | (with_reducible refine RT_nil ?_; refine hK _ ?_; clear hK K)
 | (with_reducible refine MkG_i ?_; (try simp only [bnq] at hg); (try (have hgp := hg; simp only [bdq] at hgp)); try simp (disch := omega) only [go_sem, seval, irw, hg])
 | (with_reducible refine RL_step fun K' hK' => ?_; first | refine L2_n ?_ | refine Lf rfl rfl ?_ | refine Lf' rfl rfl ?_ | refine L2_gu rfl rfl ?_ | refine Lt rfl rfl ?_ | refine L2_g rfl rfl (fun hg => ?_) (fun hg => ?_) rfl)
 | (with_reducible refine RL_nil ⟨by kernel_rfl, hK _ ?_⟩; clear hK K)
 | (with_reducible first | refine ite_elimM (fun hg => ?_) (fun hg => ?_) | refine And.intro ?_ ?_)
 | omega)
  cases h2 : decide ((k : Int) < (l.length : Int))
  · repeat' (first
 | (with_reducible refine Mk_i ?_; try simp (disch := omega) only [go_sem, seval, irw, h2])
 | ((with_reducible first | refine hK' _ _ ?_ | refine hK' _ _ _ ?_); clear hK' K')
 | (with_reducible refine RT_step fun K' hK' => ?_; first | refine R2_n ?_ | refine Rf rfl rfl ?_ | refine Rf' rfl rfl ?_ | refine R2_gu rfl rfl ?_ | refine Rt rfl rfl ?_ | refine R2_g rfl rfl (fun hg => ?_) (fun hg => ?_) rfl)
 | (with_reducible refine RT_nil ?_; refine hK _ ?_; clear hK K)
 | (with_reducible refine MkG_i ?_; (try simp only [bnq] at hg); (try (have hgp := hg; simp only [bdq] at hgp)); try simp (disch := omega) only [go_sem, seval, irw, h2, hg])
 | (with_reducible refine RL_step fun K' hK' => ?_; first | refine L2_n ?_ | refine Lf rfl rfl ?_ | refine Lf' rfl rfl ?_ | refine L2_gu rfl rfl ?_ | refine Lt rfl rfl ?_ | refine L2_g rfl rfl (fun hg => ?_) (fun hg => ?_) rfl)
 | (with_reducible refine RL_nil ⟨by kernel_rfl, hK _ ?_⟩; clear hK K)
 | (with_reducible first | refine AL_seq ?_ | refine AL_skip ?_ | refine AL_nil ?_ | refine SeqQ_n ?_ | refine BlockQ_n ?_)
 | (refine AL_text2 rfl fun K hK => ?_; simp only [List.map])
 | (refine AL_draw2 mixed rfl (by kernel_rfl) fun K hK => ?_; simp only [List.map])
 | (with_reducible refine AL_block ?_)
 | (with_reducible refine AL_exit ?_; simp only [SeqQ, BlockQ, go_sem, seval])
 | (refine Ct rfl ?_)
 | (refine Cf rfl ?_)
 | (refine AL_condb rfl (fun hg => ?_) (fun hg => ?_) <;> ((try simp only [bnq] at hg); (try (have hgp := hg; simp only [bdq] at hgp))))
 | (with_reducible first | refine ite_elimM (fun hg => ?_) (fun hg => ?_) | refine And.intro ?_ ?_)
 | omega)
    have hk2 : l.length ≤ k := by simp at h2; omega
    have : findI pred l 0 = -1 := by rw [← hf, List.drop_of_length_le hk2]; rfl
    rw [this]
    (refine AL_ret (PureQ_ret ?_ rfl); simp [go_sem, ])
  · have hk2 : k < l.length := by simpa using h2
    have hd : findI pred (l.drop k) k = if pred l[k] then (k : Int) else findI pred (l.drop (k + 1)) (k + 1) := by rw [List.drop_eq_getElem_cons hk2]; rfl
    cases h3 : pred l[k]
    · repeat' (first
 | (with_reducible refine Mk_i ?_; try simp (disch := omega) only [go_sem, seval, irw, h2, h3])
 | ((with_reducible first | refine hK' _ _ ?_ | refine hK' _ _ _ ?_); clear hK' K')
 | (with_reducible refine RT_step fun K' hK' => ?_; first | refine R2_n ?_ | refine Rf rfl rfl ?_ | refine Rf' rfl rfl ?_ | refine R2_gu rfl rfl ?_ | refine Rt rfl rfl ?_ | refine R2_g rfl rfl (fun hg => ?_) (fun hg => ?_) rfl)
 | (with_reducible refine RT_nil ?_; refine hK _ ?_; clear hK K)
 | (with_reducible refine MkG_i ?_; (try simp only [bnq] at hg); (try (have hgp := hg; simp only [bdq] at hgp)); try simp (disch := omega) only [go_sem, seval, irw, h2, h3, hg])
 | (with_reducible refine RL_step fun K' hK' => ?_; first | refine L2_n ?_ | refine Lf rfl rfl ?_ | refine Lf' rfl rfl ?_ | refine L2_gu rfl rfl ?_ | refine Lt rfl rfl ?_ | refine L2_g rfl rfl (fun hg => ?_) (fun hg => ?_) rfl)
 | (with_reducible refine RL_nil ⟨by kernel_rfl, hK _ ?_⟩; clear hK K)
 | (with_reducible first | refine AL_seq ?_ | refine AL_skip ?_ | refine AL_nil ?_ | refine SeqQ_n ?_ | refine BlockQ_n ?_)
 | (refine AL_text2 rfl fun K hK => ?_; simp only [List.map])
 | (refine AL_draw2 mixed rfl (by kernel_rfl) fun K hK => ?_; simp only [List.map])
 | (with_reducible refine AL_block ?_)
 | (with_reducible refine AL_exit ?_; simp only [SeqQ, BlockQ, go_sem, seval])
 | (refine Ct rfl ?_)
 | (refine Cf rfl ?_)
 | (refine AL_condb rfl (fun hg => ?_) (fun hg => ?_) <;> ((try simp only [bnq] at hg); (try (have hgp := hg; simp only [bdq] at hgp))))
 | (refine CallK_pureM (hg l[k]) (he) (by simp [go_sem, *]) ?_)
 | (with_reducible first | refine ite_elimM (fun hg => ?_) (fun hg => ?_) | refine And.intro ?_ ?_)
 | omega)
      exact ⟨k + 1, ⟨hk2, by rw [← hf, hd, h3]; rfl⟩, by omega, (weak_t [] _ _ rfl (by decide) ⟨by decide, by decide⟩ (by simp [go_sem]) (by simp [go_sem, hcap, renL_isP, okL_isP]))⟩
    · repeat' (first
 | (with_reducible refine Mk_i ?_; try simp (disch := omega) only [go_sem, seval, irw, h2, h3])
 | ((with_reducible first | refine hK' _ _ ?_ | refine hK' _ _ _ ?_); clear hK' K')
 | (with_reducible refine RT_step fun K' hK' => ?_; first | refine R2_n ?_ | refine Rf rfl rfl ?_ | refine Rf' rfl rfl ?_ | refine R2_gu rfl rfl ?_ | refine Rt rfl rfl ?_ | refine R2_g rfl rfl (fun hg => ?_) (fun hg => ?_) rfl)
 | (with_reducible refine RT_nil ?_; refine hK _ ?_; clear hK K)
 | (with_reducible refine MkG_i ?_; (try simp only [bnq] at hg); (try (have hgp := hg; simp only [bdq] at hgp)); try simp (disch := omega) only [go_sem, seval, irw, h2, h3, hg])
 | (with_reducible refine RL_step fun K' hK' => ?_; first | refine L2_n ?_ | refine Lf rfl rfl ?_ | refine Lf' rfl rfl ?_ | refine L2_gu rfl rfl ?_ | refine Lt rfl rfl ?_ | refine L2_g rfl rfl (fun hg => ?_) (fun hg => ?_) rfl)
 | (with_reducible refine RL_nil ⟨by kernel_rfl, hK _ ?_⟩; clear hK K)
 | (with_reducible first | refine AL_seq ?_ | refine AL_skip ?_ | refine AL_nil ?_ | refine SeqQ_n ?_ | refine BlockQ_n ?_)
 | (refine AL_text2 rfl fun K hK => ?_; simp only [List.map])
 | (refine AL_draw2 mixed rfl (by kernel_rfl) fun K hK => ?_; simp only [List.map])
 | (with_reducible refine AL_block ?_)
 | (with_reducible refine AL_exit ?_; simp only [SeqQ, BlockQ, go_sem, seval])
 | (refine Ct rfl ?_)
 | (refine Cf rfl ?_)
 | (refine AL_condb rfl (fun hg => ?_) (fun hg => ?_) <;> ((try simp only [bnq] at hg); (try (have hgp := hg; simp only [bdq] at hgp))))
 | (refine CallK_pureM (hg l[k]) (he) (by simp [go_sem, *]) ?_)
 | (with_reducible first | refine ite_elimM (fun hg => ?_) (fun hg => ?_) | refine And.intro ?_ ?_)
 | omega)
      have : findI pred l 0 = k := by rw [← hf, hd, h3]; rfl
      rw [this]
      (refine AL_ret (PureQ_ret ?_ rfl); simp [go_sem, ])
theorem c_ContainsFuncN (l : List Ins) (g : FuncId) (caps : List PV) (pred : Ins → Bool) (hcap : isPL caps = true) (he : Ent Tryd.prog g) (hg : ∀ v, Pure Γ Tryd.prog g (ins v :: caps) (pB (pred v))) :
    Pure Γ Tryd.prog 89 [.sl false (insRows l), .fn (.func g) [] caps] (pB (l.any pred)) := by
  have e := findI_any pred l 0
  refine pure_start2 Tryd.func89 rfl (by simp [Tryd.f89]) ?_
  repeat' (first
 | (with_reducible refine Mk_i ?_; try simp (disch := omega) only [go_sem, seval, irw, e, hcap])
 | ((with_reducible first | refine hK' _ _ ?_ | refine hK' _ _ _ ?_); clear hK' K')
 | (with_reducible refine RT_step fun K' hK' => ?_; first | refine R2_n ?_ | refine Rf rfl rfl ?_ | refine Rf' rfl rfl ?_ | refine R2_gu rfl rfl ?_ | refine Rt rfl rfl ?_ | refine R2_g rfl rfl (fun hg => ?_) (fun hg => ?_) rfl)
 | (with_reducible refine RT_nil ?_; refine hK _ ?_; clear hK K)
 | (with_reducible refine MkG_i ?_; (try simp only [bnq] at hg); (try (have hgp := hg; simp only [bdq] at hgp)); try simp (disch := omega) only [go_sem, seval, irw, e, hcap, hg])
 | (with_reducible refine RL_step fun K' hK' => ?_; first | refine L2_n ?_ | refine Lf rfl rfl ?_ | refine Lf' rfl rfl ?_ | refine L2_gu rfl rfl ?_ | refine Lt rfl rfl ?_ | refine L2_g rfl rfl (fun hg => ?_) (fun hg => ?_) rfl)
 | (with_reducible refine RL_nil ⟨by kernel_rfl, hK _ ?_⟩; clear hK K)
 | (with_reducible first | refine AL_seq ?_ | refine AL_skip ?_ | refine AL_nil ?_ | refine SeqQ_n ?_ | refine BlockQ_n ?_)
 | (refine AL_text2 rfl fun K hK => ?_; simp only [List.map])
 | (refine AL_draw2 mixed rfl (by kernel_rfl) fun K hK => ?_; simp only [List.map])
 | (with_reducible refine AL_block ?_)
 | (with_reducible refine AL_exit ?_; simp only [SeqQ, BlockQ, go_sem, seval])
 | (refine Ct rfl ?_)
 | (refine Cf rfl ?_)
 | (refine AL_condb rfl (fun hg => ?_) (fun hg => ?_) <;> ((try simp only [bnq] at hg); (try (have hgp := hg; simp only [bdq] at hgp))))
 | (refine CallK_pureM (c_IndexFuncN l g caps pred hcap he hg) (en_98) (by simp [go_sem, *]) ?_)
 | (with_reducible first | refine ite_elimM (fun hg => ?_) (fun hg => ?_) | refine And.intro ?_ ?_)
 | omega)
  (refine AL_ret (PureQ_ret ?_ rfl); simp [go_sem, ])

end Go.Proofs.YtjlcojgimicfbaaDoor
/- Programs: may an instruction, a block, a function be? -/
namespace Go.Proofs.YtjlcojgimicfbaaDoor
open Go.Am
set_option linter.unusedSimpArgs false
set_option maxRecDepth 100000
set_option maxHeartbeats 4000000
variable {Γ : Nat → Option Obj}

theorem c_instrOK1 (f : FunD) (v : Int) : Pure Γ Tryd.prog 99 [pI v, .ip f.cells] (pB (decide (f.vars ≤ v))) := by
  refine pure_start2 Tryd.func99 rfl (by simp [Tryd.f99]) ?_
  repeat' (first
 | (with_reducible refine Mk_i ?_; try simp (disch := omega) only [go_sem, seval, irw])
 | ((with_reducible first | refine hK' _ _ ?_ | refine hK' _ _ _ ?_); clear hK' K')
 | (with_reducible refine RT_step fun K' hK' => ?_; first | refine R2_n ?_ | refine Rf rfl rfl ?_ | refine Rf' rfl rfl ?_ | refine R2_gu rfl rfl ?_ | refine Rt rfl rfl ?_ | refine R2_g rfl rfl (fun hg => ?_) (fun hg => ?_) rfl)
 | (with_reducible refine RT_nil ?_; refine hK _ ?_; clear hK K)
 | (with_reducible refine MkG_i ?_; (try simp only [bnq] at hg); (try (have hgp := hg; simp only [bdq] at hgp)); try simp (disch := omega) only [go_sem, seval, irw, hg])
 | (with_reducible refine RL_step fun K' hK' => ?_; first | refine L2_n ?_ | refine Lf rfl rfl ?_ | refine Lf' rfl rfl ?_ | refine L2_gu rfl rfl ?_ | refine Lt rfl rfl ?_ | refine L2_g rfl rfl (fun hg => ?_) (fun hg => ?_) rfl)
 | (with_reducible refine RL_nil ⟨by kernel_rfl, hK _ ?_⟩; clear hK K)
 | (with_reducible first | refine AL_seq ?_ | refine AL_skip ?_ | refine AL_nil ?_ | refine SeqQ_n ?_ | refine BlockQ_n ?_)
 | (refine AL_text2 rfl fun K hK => ?_; simp only [List.map])
 | (refine AL_draw2 mixed rfl (by kernel_rfl) fun K hK => ?_; simp only [List.map])
 | (with_reducible refine AL_block ?_)
 | (with_reducible refine AL_exit ?_; simp only [SeqQ, BlockQ, go_sem, seval])
 | (refine Ct rfl ?_)
 | (refine Cf rfl ?_)
 | (refine AL_condb rfl (fun hg => ?_) (fun hg => ?_) <;> ((try simp only [bnq] at hg); (try (have hgp := hg; simp only [bdq] at hgp))))
 | (with_reducible first | refine ite_elimM (fun hg => ?_) (fun hg => ?_) | refine And.intro ?_ ?_)
 | omega)
  all_goals (refine AL_ret (PureQ_ret ?_ rfl); simp [go_sem, ])

def callOK (p : List FunD) (i : Ins) : Bool := i.kind != 7 || (decide (i.f < p.length) && ((p[i.f.toNat]?).map (·.arity)).getD 0 == i.n)
def instrOKD (p : List FunD) (f : FunD) (i : Ins) : Bool := formI i && !(varsI i).any (fun v => decide (f.vars ≤ v)) && callOK p i
theorem c_instrOK (hB : Blanks Γ) (p : List FunD) (f : FunD) (i : Ins) : Pure Γ Tryd.prog 91 [progV p, funV f, ins i] (pB (instrOKD p f i)) := by
  refine pure_start3 Tryd.func91 rfl (by simp [Tryd.f91]) ?_
  (repeat (with_reducible first | refine AL_seq ?_ | refine AL_skip ?_ | refine AL_nil ?_ | refine SeqQ_n ?_ | refine BlockQ_n ?_)); (first
 | (refine AL_text2 rfl fun K hK => ?_; simp only [List.map])
 | (refine AL_draw2 mixed rfl (by kernel_rfl) fun K hK => ?_; simp only [List.map])
 | (with_reducible refine AL_block ?_)
 | (with_reducible refine AL_exit ?_; simp only [SeqQ, BlockQ, go_sem, seval])
 | (refine Ct rfl ?_)
 | (refine Cf rfl ?_)
 | (refine AL_condb rfl (fun hg => ?_) (fun hg => ?_) <;> ((try simp only [bnq] at hg); (try (have hgp := hg; simp only [bdq] at hgp))))); repeat' (first
 | (with_reducible refine Mk_i ?_; try simp (disch := omega) only [go_sem, seval, irw])
 | ((with_reducible first | refine hK' _ _ ?_ | refine hK' _ _ _ ?_); clear hK' K')
 | (with_reducible refine RT_step fun K' hK' => ?_; first | refine R2_n ?_ | refine Rf rfl rfl ?_ | refine Rf' rfl rfl ?_ | refine R2_gu rfl rfl ?_ | refine Rt rfl rfl ?_ | refine R2_g rfl rfl (fun hg => ?_) (fun hg => ?_) rfl)
 | (with_reducible refine RT_nil ?_; refine hK _ ?_; clear hK K)
 | (with_reducible refine MkG_i ?_; (try simp only [bnq] at hg); (try (have hgp := hg; simp only [bdq] at hgp)); try simp (disch := omega) only [go_sem, seval, irw, hg])
 | (with_reducible refine RL_step fun K' hK' => ?_; first | refine L2_n ?_ | refine Lf rfl rfl ?_ | refine Lf' rfl rfl ?_ | refine L2_gu rfl rfl ?_ | refine Lt rfl rfl ?_ | refine L2_g rfl rfl (fun hg => ?_) (fun hg => ?_) rfl)
 | (with_reducible refine RL_nil ⟨by kernel_rfl, hK _ ?_⟩; clear hK K)
 | (with_reducible first | refine ite_elimM (fun hg => ?_) (fun hg => ?_) | refine And.intro ?_ ?_)
 | omega)
  cases h0 : formI i
  · repeat' (first
 | (with_reducible refine Mk_i ?_; try simp (disch := omega) only [go_sem, seval, irw, h0])
 | ((with_reducible first | refine hK' _ _ ?_ | refine hK' _ _ _ ?_); clear hK' K')
 | (with_reducible refine RT_step fun K' hK' => ?_; first | refine R2_n ?_ | refine Rf rfl rfl ?_ | refine Rf' rfl rfl ?_ | refine R2_gu rfl rfl ?_ | refine Rt rfl rfl ?_ | refine R2_g rfl rfl (fun hg => ?_) (fun hg => ?_) rfl)
 | (with_reducible refine RT_nil ?_; refine hK _ ?_; clear hK K)
 | (with_reducible refine MkG_i ?_; (try simp only [bnq] at hg); (try (have hgp := hg; simp only [bdq] at hgp)); try simp (disch := omega) only [go_sem, seval, irw, h0, hg])
 | (with_reducible refine RL_step fun K' hK' => ?_; first | refine L2_n ?_ | refine Lf rfl rfl ?_ | refine Lf' rfl rfl ?_ | refine L2_gu rfl rfl ?_ | refine Lt rfl rfl ?_ | refine L2_g rfl rfl (fun hg => ?_) (fun hg => ?_) rfl)
 | (with_reducible refine RL_nil ⟨by kernel_rfl, hK _ ?_⟩; clear hK K)
 | (with_reducible first | refine AL_seq ?_ | refine AL_skip ?_ | refine AL_nil ?_ | refine SeqQ_n ?_ | refine BlockQ_n ?_)
 | (refine AL_text2 rfl fun K hK => ?_; simp only [List.map])
 | (refine AL_draw2 mixed rfl (by kernel_rfl) fun K hK => ?_; simp only [List.map])
 | (with_reducible refine AL_block ?_)
 | (with_reducible refine AL_exit ?_; simp only [SeqQ, BlockQ, go_sem, seval])
 | (refine Ct rfl ?_)
 | (refine Cf rfl ?_)
 | (refine AL_condb rfl (fun hg => ?_) (fun hg => ?_) <;> ((try simp only [bnq] at hg); (try (have hgp := hg; simp only [bdq] at hgp))))
 | (refine CallK_pureM (c_Form hB i) en_8 rfl ?_)
 | (with_reducible first | refine ite_elimM (fun hg => ?_) (fun hg => ?_) | refine And.intro ?_ ?_)
 | omega)
    (refine AL_ret (PureQ_ret ?_ rfl); simp [go_sem, instrOKD, h0])
  have hf := (leastI_nonneg h0).2.2.2.1
  cases h1 : (varsI i).any (fun v => decide (f.vars ≤ v))
  · repeat' (first
 | (with_reducible refine Mk_i ?_; try simp (disch := omega) only [go_sem, seval, irw, h0, h1])
 | ((with_reducible first | refine hK' _ _ ?_ | refine hK' _ _ _ ?_); clear hK' K')
 | (with_reducible refine RT_step fun K' hK' => ?_; first | refine R2_n ?_ | refine Rf rfl rfl ?_ | refine Rf' rfl rfl ?_ | refine R2_gu rfl rfl ?_ | refine Rt rfl rfl ?_ | refine R2_g rfl rfl (fun hg => ?_) (fun hg => ?_) rfl)
 | (with_reducible refine RT_nil ?_; refine hK _ ?_; clear hK K)
 | (with_reducible refine MkG_i ?_; (try simp only [bnq] at hg); (try (have hgp := hg; simp only [bdq] at hgp)); try simp (disch := omega) only [go_sem, seval, irw, h0, h1, hg])
 | (with_reducible refine RL_step fun K' hK' => ?_; first | refine L2_n ?_ | refine Lf rfl rfl ?_ | refine Lf' rfl rfl ?_ | refine L2_gu rfl rfl ?_ | refine Lt rfl rfl ?_ | refine L2_g rfl rfl (fun hg => ?_) (fun hg => ?_) rfl)
 | (with_reducible refine RL_nil ⟨by kernel_rfl, hK _ ?_⟩; clear hK K)
 | (with_reducible first | refine AL_seq ?_ | refine AL_skip ?_ | refine AL_nil ?_ | refine SeqQ_n ?_ | refine BlockQ_n ?_)
 | (refine AL_text2 rfl fun K hK => ?_; simp only [List.map])
 | (refine AL_draw2 mixed rfl (by kernel_rfl) fun K hK => ?_; simp only [List.map])
 | (with_reducible refine AL_block ?_)
 | (with_reducible refine AL_exit ?_; simp only [SeqQ, BlockQ, go_sem, seval])
 | (refine Ct rfl ?_)
 | (refine Cf rfl ?_)
 | (refine AL_condb rfl (fun hg => ?_) (fun hg => ?_) <;> ((try simp only [bnq] at hg); (try (have hgp := hg; simp only [bdq] at hgp))))
 | (refine CallK_pureM (c_Form hB i) en_8 rfl ?_)
 | (refine CallK_pureM (c_Vars hB i) en_15 rfl ?_)
 | (refine CallK_viewM _ (c_ContainsFuncI (varsI i) 99 [.ip f.cells] (fun v => decide (f.vars ≤ v)) rfl en_99 (fun v => c_instrOK1 f v)) en_87 rfl (by simp (disch := omega) only [go_sem, seval, irw] <;> rfl) ?_)
 | (with_reducible first | refine ite_elimM (fun hg => ?_) (fun hg => ?_) | refine And.intro ?_ ?_)
 | omega)
    all_goals first
      | (have hq : i.f.toNat < p.length := by omega
         (refine AL_ret (PureQ_ret ?_ rfl); simp [go_sem, instrOKD, callOK, h0, h1, hq, *]))
      | (refine AL_ret (PureQ_ret ?_ rfl); simp [go_sem, instrOKD, callOK, h0, h1, *])
  · repeat' (first
 | (with_reducible refine Mk_i ?_; try simp (disch := omega) only [go_sem, seval, irw, h0, h1])
 | ((with_reducible first | refine hK' _ _ ?_ | refine hK' _ _ _ ?_); clear hK' K')
 | (with_reducible refine RT_step fun K' hK' => ?_; first | refine R2_n ?_ | refine Rf rfl rfl ?_ | refine Rf' rfl rfl ?_ | refine R2_gu rfl rfl ?_ | refine Rt rfl rfl ?_ | refine R2_g rfl rfl (fun hg => ?_) (fun hg => ?_) rfl)
 | (with_reducible refine RT_nil ?_; refine hK _ ?_; clear hK K)
 | (with_reducible refine MkG_i ?_; (try simp only [bnq] at hg); (try (have hgp := hg; simp only [bdq] at hgp)); try simp (disch := omega) only [go_sem, seval, irw, h0, h1, hg])
 | (with_reducible refine RL_step fun K' hK' => ?_; first | refine L2_n ?_ | refine Lf rfl rfl ?_ | refine Lf' rfl rfl ?_ | refine L2_gu rfl rfl ?_ | refine Lt rfl rfl ?_ | refine L2_g rfl rfl (fun hg => ?_) (fun hg => ?_) rfl)
 | (with_reducible refine RL_nil ⟨by kernel_rfl, hK _ ?_⟩; clear hK K)
 | (with_reducible first | refine AL_seq ?_ | refine AL_skip ?_ | refine AL_nil ?_ | refine SeqQ_n ?_ | refine BlockQ_n ?_)
 | (refine AL_text2 rfl fun K hK => ?_; simp only [List.map])
 | (refine AL_draw2 mixed rfl (by kernel_rfl) fun K hK => ?_; simp only [List.map])
 | (with_reducible refine AL_block ?_)
 | (with_reducible refine AL_exit ?_; simp only [SeqQ, BlockQ, go_sem, seval])
 | (refine Ct rfl ?_)
 | (refine Cf rfl ?_)
 | (refine AL_condb rfl (fun hg => ?_) (fun hg => ?_) <;> ((try simp only [bnq] at hg); (try (have hgp := hg; simp only [bdq] at hgp))))
 | (refine CallK_pureM (c_Form hB i) en_8 rfl ?_)
 | (refine CallK_pureM (c_Vars hB i) en_15 rfl ?_)
 | (refine CallK_viewM _ (c_ContainsFuncI (varsI i) 99 [.ip f.cells] (fun v => decide (f.vars ≤ v)) rfl en_99 (fun v => c_instrOK1 f v)) en_87 rfl (by simp (disch := omega) only [go_sem, seval, irw] <;> rfl) ?_)
 | (with_reducible first | refine ite_elimM (fun hg => ?_) (fun hg => ?_) | refine And.intro ?_ ?_)
 | omega)
    (refine AL_ret (PureQ_ret ?_ rfl); simp [go_sem, instrOKD, h0, h1])

theorem c_block1 (f : FunD) (b : Int) : Pure Γ Tryd.prog 88 [pI b, .ip f.cells] (pB (!liveD f b)) := by
  refine pure_start2 Tryd.func88 rfl (by simp [Tryd.f88]) ?_
  repeat' (first
 | (with_reducible refine Mk_i ?_; try simp (disch := omega) only [go_sem, seval, irw])
 | ((with_reducible first | refine hK' _ _ ?_ | refine hK' _ _ _ ?_); clear hK' K')
 | (with_reducible refine RT_step fun K' hK' => ?_; first | refine R2_n ?_ | refine Rf rfl rfl ?_ | refine Rf' rfl rfl ?_ | refine R2_gu rfl rfl ?_ | refine Rt rfl rfl ?_ | refine R2_g rfl rfl (fun hg => ?_) (fun hg => ?_) rfl)
 | (with_reducible refine RT_nil ?_; refine hK _ ?_; clear hK K)
 | (with_reducible refine MkG_i ?_; (try simp only [bnq] at hg); (try (have hgp := hg; simp only [bdq] at hgp)); try simp (disch := omega) only [go_sem, seval, irw, hg])
 | (with_reducible refine RL_step fun K' hK' => ?_; first | refine L2_n ?_ | refine Lf rfl rfl ?_ | refine Lf' rfl rfl ?_ | refine L2_gu rfl rfl ?_ | refine Lt rfl rfl ?_ | refine L2_g rfl rfl (fun hg => ?_) (fun hg => ?_) rfl)
 | (with_reducible refine RL_nil ⟨by kernel_rfl, hK _ ?_⟩; clear hK K)
 | (with_reducible first | refine AL_seq ?_ | refine AL_skip ?_ | refine AL_nil ?_ | refine SeqQ_n ?_ | refine BlockQ_n ?_)
 | (refine AL_text2 rfl fun K hK => ?_; simp only [List.map])
 | (refine AL_draw2 mixed rfl (by kernel_rfl) fun K hK => ?_; simp only [List.map])
 | (with_reducible refine AL_block ?_)
 | (with_reducible refine AL_exit ?_; simp only [SeqQ, BlockQ, go_sem, seval])
 | (refine Ct rfl ?_)
 | (refine Cf rfl ?_)
 | (refine AL_condb rfl (fun hg => ?_) (fun hg => ?_) <;> ((try simp only [bnq] at hg); (try (have hgp := hg; simp only [bdq] at hgp))))
 | (refine CallK_pureM (c_live f b) en_46 rfl ?_)
 | (with_reducible first | refine ite_elimM (fun hg => ?_) (fun hg => ?_) | refine And.intro ?_ ?_)
 | omega)
  all_goals (refine AL_ret (PureQ_ret ?_ rfl); simp [go_sem, ])
theorem c_block2 (hB : Blanks Γ) (p : List FunD) (f : FunD) (i : Ins) : Pure Γ Tryd.prog 90 [ins i, .ip [.sl false (funRows p)], .ip f.cells] (pB (!instrOKD p f i)) := by
  refine pure_start3 Tryd.func90 rfl (by simp [Tryd.f90]) ?_
  repeat' (first
 | (with_reducible refine Mk_i ?_; try simp (disch := omega) only [go_sem, seval, irw])
 | ((with_reducible first | refine hK' _ _ ?_ | refine hK' _ _ _ ?_); clear hK' K')
 | (with_reducible refine RT_step fun K' hK' => ?_; first | refine R2_n ?_ | refine Rf rfl rfl ?_ | refine Rf' rfl rfl ?_ | refine R2_gu rfl rfl ?_ | refine Rt rfl rfl ?_ | refine R2_g rfl rfl (fun hg => ?_) (fun hg => ?_) rfl)
 | (with_reducible refine RT_nil ?_; refine hK _ ?_; clear hK K)
 | (with_reducible refine MkG_i ?_; (try simp only [bnq] at hg); (try (have hgp := hg; simp only [bdq] at hgp)); try simp (disch := omega) only [go_sem, seval, irw, hg])
 | (with_reducible refine RL_step fun K' hK' => ?_; first | refine L2_n ?_ | refine Lf rfl rfl ?_ | refine Lf' rfl rfl ?_ | refine L2_gu rfl rfl ?_ | refine Lt rfl rfl ?_ | refine L2_g rfl rfl (fun hg => ?_) (fun hg => ?_) rfl)
 | (with_reducible refine RL_nil ⟨by kernel_rfl, hK _ ?_⟩; clear hK K)
 | (with_reducible first | refine AL_seq ?_ | refine AL_skip ?_ | refine AL_nil ?_ | refine SeqQ_n ?_ | refine BlockQ_n ?_)
 | (refine AL_text2 rfl fun K hK => ?_; simp only [List.map])
 | (refine AL_draw2 mixed rfl (by kernel_rfl) fun K hK => ?_; simp only [List.map])
 | (with_reducible refine AL_block ?_)
 | (with_reducible refine AL_exit ?_; simp only [SeqQ, BlockQ, go_sem, seval])
 | (refine Ct rfl ?_)
 | (refine Cf rfl ?_)
 | (refine AL_condb rfl (fun hg => ?_) (fun hg => ?_) <;> ((try simp only [bnq] at hg); (try (have hgp := hg; simp only [bdq] at hgp))))
 | (refine CallK_pureM (c_instrOK hB p f i) en_91 rfl ?_)
 | (with_reducible first | refine ite_elimM (fun hg => ?_) (fun hg => ?_) | refine And.intro ?_ ?_)
 | omega)
  all_goals (refine AL_ret (PureQ_ret ?_ rfl); simp [go_sem, ])

def txtParts : List UInt8 := [97, 32, 98, 108, 111, 99, 107, 32, 116, 104, 97, 116, 32, 105, 115, 32, 110, 111, 110, 101, 32, 104, 97, 115, 32, 112, 97, 114, 116, 115]
def txtEdges : List UInt8 := [101, 100, 103, 101, 115]
def txtInstrs : List UInt8 := [105, 110, 115, 116, 114, 117, 99, 116, 105, 111, 110, 115]
def blockS (p : List FunD) (f : FunD) (x : BlkD) : List UInt8 :=
  if (!x.live && decide (0 < x.code.length + x.succ.length)) = true then txtParts
  else if (!risesB x.succ || x.succ.any fun b => !liveD f b) = true then txtEdges
  else if (decide (16 < x.code.length) || x.code.any fun i => !instrOKD p f i) = true then txtInstrs
  else []
theorem c_block (hB : Blanks Γ) (p : List FunD) (f : FunD) (x : BlkD) : Pure Γ Tryd.prog 76 [progV p, funV f, blkV x] (pS (blockS p f x)) := by
  refine pure_start3 Tryd.func76 rfl (by simp [Tryd.f76]) ?_
  refine AL_seq ?_
  refine AL_len 2 (full := false) (rows := insRows x.code) rfl rfl (.agg (by simp) (.refl _)) fun hl1 => ?_
  refine AL_len 2 (full := false) (rows := iRows x.succ) rfl rfl (.agg (by simp) (.refl _)) fun hl2 => ?_
  simp only [insRows, iRows, List.length_map] at hl1 hl2
  have hsum : decide (0 < (x.code.length : Int) + (x.succ.length : Int)) = decide (0 < x.code.length + x.succ.length) := by simp only [decide_eq_decide]; omega
  have hcod : decide (16 < (x.code.length : Int)) = decide (16 < x.code.length) := by simp only [decide_eq_decide]; omega
  cases h1 : risesB x.succ <;> cases h2 : x.succ.any (fun b => !liveD f b) <;> cases h3 : x.code.any (fun i => !instrOKD p f i)
  all_goals repeat' (first
 | (with_reducible refine Mk_i ?_; try simp (disch := omega) only [go_sem, seval, irw, hsum, hcod, h1, h2, h3])
 | ((with_reducible first | refine hK' _ _ ?_ | refine hK' _ _ _ ?_); clear hK' K')
 | (with_reducible refine RT_step fun K' hK' => ?_; first | refine R2_n ?_ | refine Rf rfl rfl ?_ | refine Rf' rfl rfl ?_ | refine R2_gu rfl rfl ?_ | refine Rt rfl rfl ?_ | refine R2_g rfl rfl (fun hg => ?_) (fun hg => ?_) rfl)
 | (with_reducible refine RT_nil ?_; refine hK _ ?_; clear hK K)
 | (with_reducible refine MkG_i ?_; (try simp only [bnq] at hg); (try (have hgp := hg; simp only [bdq] at hgp)); try simp (disch := omega) only [go_sem, seval, irw, hsum, hcod, h1, h2, h3, hg])
 | (with_reducible refine RL_step fun K' hK' => ?_; first | refine L2_n ?_ | refine Lf rfl rfl ?_ | refine Lf' rfl rfl ?_ | refine L2_gu rfl rfl ?_ | refine Lt rfl rfl ?_ | refine L2_g rfl rfl (fun hg => ?_) (fun hg => ?_) rfl)
 | (with_reducible refine RL_nil ⟨by kernel_rfl, hK _ ?_⟩; clear hK K)
 | (with_reducible first | refine AL_seq ?_ | refine AL_skip ?_ | refine AL_nil ?_ | refine SeqQ_n ?_ | refine BlockQ_n ?_)
 | (refine AL_text2 rfl fun K hK => ?_; simp only [List.map])
 | (refine AL_draw2 mixed rfl (by kernel_rfl) fun K hK => ?_; simp only [List.map])
 | (with_reducible refine AL_block ?_)
 | (with_reducible refine AL_exit ?_; simp only [SeqQ, BlockQ, go_sem, seval])
 | (refine Ct rfl ?_)
 | (refine Cf rfl ?_)
 | (refine AL_condb rfl (fun hg => ?_) (fun hg => ?_) <;> ((try simp only [bnq] at hg); (try (have hgp := hg; simp only [bdq] at hgp))))
 | (refine CallK_pureM (c_rises x.succ) en_86 rfl ?_)
 | (refine CallK_viewM _ (c_ContainsFuncI x.succ 88 [.ip f.cells] (fun b => !liveD f b) rfl en_88 (fun v => c_block1 f v)) en_87 rfl (by simp (disch := omega) only [go_sem, seval, irw] <;> rfl) ?_)
 | (refine CallK_viewM _ (c_ContainsFuncN x.code 90 [.ip [.sl false (funRows p)], .ip f.cells] (fun i => !instrOKD p f i) rfl en_90 (fun v => c_block2 hB p f v)) en_89 rfl (by simp (disch := omega) only [go_sem, seval, irw] <;> rfl) ?_)
 | (with_reducible first | refine ite_elimM (fun hg => ?_) (fun hg => ?_) | refine And.intro ?_ ?_)
 | omega)
  all_goals (refine AL_ret (PureQ_ret ?_ rfl); simp [go_sem, blockS, txtParts, txtEdges, txtInstrs, h1, h2, h3, *])
end Go.Proofs.YtjlcojgimicfbaaDoor
/- Programs: may a function be? -/
namespace Go.Proofs.YtjlcojgimicfbaaDoor
open Go.Am
set_option linter.unusedSimpArgs false
set_option maxRecDepth 100000
set_option maxHeartbeats 4000000
variable {Γ : Nat → Option Obj}

def txtVars : List UInt8 := [118, 97, 114, 105, 97, 98, 108, 101, 115]
def txtBlocks : List UInt8 := [98, 108, 111, 99, 107, 115]
def firstS {α : Type} (g : α → List UInt8) : List α → List UInt8
  | [] => []
  | x :: r => if (g x == []) = true then firstS g r else g x
def varsBad (f : FunD) : Bool := decide (f.arity < 0) || decide (3 < f.arity) || decide (f.vars < f.arity) || decide (6 < f.vars)
def blksBad (f : FunD) : Bool := decide ((f.blocks.length : Int) < 1) || decide (12 < (f.blocks.length : Int)) || !liveD f 0 || !liveD f ((f.blocks.length : Int) - 1)
def funS (p : List FunD) (f : FunD) : List UInt8 := if varsBad f then txtVars else if blksBad f then txtBlocks else firstS (blockS p f) f.blocks

theorem c_fun (hB : Blanks Γ) (p : List FunD) (f : FunD) : Pure Γ Tryd.prog 59 [progV p, funV f] (pS (funS p f)) := by
  refine pure_start2 Tryd.func59 rfl (by simp [Tryd.f59]) ?_
  refine AL_seq ?_
  refine AL_len 1 (full := false) (rows := blkRows f.blocks) rfl rfl (.agg (by simp) (.refl _)) fun hl => ?_
  simp only [blkRows, List.length_map] at hl
  by_cases hn : f.blocks.length < 1
  · repeat' (first
 | (with_reducible refine Mk_i ?_; try simp (disch := omega) only [go_sem, seval, irw])
 | ((with_reducible first | refine hK' _ _ ?_ | refine hK' _ _ _ ?_); clear hK' K')
 | (with_reducible refine RT_step fun K' hK' => ?_; first | refine R2_n ?_ | refine Rf rfl rfl ?_ | refine Rf' rfl rfl ?_ | refine R2_gu rfl rfl ?_ | refine Rt rfl rfl ?_ | refine R2_g rfl rfl (fun hg => ?_) (fun hg => ?_) rfl)
 | (with_reducible refine RT_nil ?_; refine hK _ ?_; clear hK K)
 | (with_reducible refine MkG_i ?_; (try simp only [bnq] at hg); (try (have hgp := hg; simp only [bdq] at hgp)); try simp (disch := omega) only [go_sem, seval, irw, hg])
 | (with_reducible refine RL_step fun K' hK' => ?_; first | refine L2_n ?_ | refine Lf rfl rfl ?_ | refine Lf' rfl rfl ?_ | refine L2_gu rfl rfl ?_ | refine Lt rfl rfl ?_ | refine L2_g rfl rfl (fun hg => ?_) (fun hg => ?_) rfl)
 | (with_reducible refine RL_nil ⟨by kernel_rfl, hK _ ?_⟩; clear hK K)
 | (with_reducible first | refine AL_seq ?_ | refine AL_skip ?_ | refine AL_nil ?_ | refine SeqQ_n ?_ | refine BlockQ_n ?_)
 | (refine AL_text2 rfl fun K hK => ?_; simp only [List.map])
 | (refine AL_draw2 mixed rfl (by kernel_rfl) fun K hK => ?_; simp only [List.map])
 | (with_reducible refine AL_block ?_)
 | (with_reducible refine AL_exit ?_; simp only [SeqQ, BlockQ, go_sem, seval])
 | (refine Ct rfl ?_)
 | (refine Cf rfl ?_)
 | (refine AL_condb rfl (fun hg => ?_) (fun hg => ?_) <;> ((try simp only [bnq] at hg); (try (have hgp := hg; simp only [bdq] at hgp))))
 | (with_reducible first | refine ite_elimM (fun hg => ?_) (fun hg => ?_) | refine And.intro ?_ ?_)
 | omega)
    all_goals (refine AL_ret (PureQ_ret ?_ rfl); simp [go_sem, funS, varsBad, blksBad, txtVars, txtBlocks, *])
  have e1 : ((f.blocks.length : Int) - 1).toNat = f.blocks.length - 1 := by omega
  have e2 : 0 ≤ (f.blocks.length : Int) - 1 := by omega
  have e3 : 0 < f.blocks.length := by omega
  have l0 := liveD_in (f := f) (b := 0) (by omega) (by omega)
  have l1 := liveD_in (f := f) (b := (f.blocks.length : Int) - 1) (by omega) (by omega)
  simp only [e1] at l1
  simp only [Int.toNat_zero] at l0
  repeat' (first
 | (with_reducible refine Mk_i ?_; try simp (disch := omega) only [go_sem, seval, irw, e1, e2, e3])
 | ((with_reducible first | refine hK' _ _ ?_ | refine hK' _ _ _ ?_); clear hK' K')
 | (with_reducible refine RT_step fun K' hK' => ?_; first | refine R2_n ?_ | refine Rf rfl rfl ?_ | refine Rf' rfl rfl ?_ | refine R2_gu rfl rfl ?_ | refine Rt rfl rfl ?_ | refine R2_g rfl rfl (fun hg => ?_) (fun hg => ?_) rfl)
 | (with_reducible refine RT_nil ?_; refine hK _ ?_; clear hK K)
 | (with_reducible refine MkG_i ?_; (try simp only [bnq] at hg); (try (have hgp := hg; simp only [bdq] at hgp)); try simp (disch := omega) only [go_sem, seval, irw, e1, e2, e3, hg])
 | (with_reducible refine RL_step fun K' hK' => ?_; first | refine L2_n ?_ | refine Lf rfl rfl ?_ | refine Lf' rfl rfl ?_ | refine L2_gu rfl rfl ?_ | refine Lt rfl rfl ?_ | refine L2_g rfl rfl (fun hg => ?_) (fun hg => ?_) rfl)
 | (with_reducible refine RL_nil ⟨by kernel_rfl, hK _ ?_⟩; clear hK K)
 | (with_reducible first | refine AL_seq ?_ | refine AL_skip ?_ | refine AL_nil ?_ | refine SeqQ_n ?_ | refine BlockQ_n ?_)
 | (refine AL_text2 rfl fun K hK => ?_; simp only [List.map])
 | (refine AL_draw2 mixed rfl (by kernel_rfl) fun K hK => ?_; simp only [List.map])
 | (with_reducible refine AL_block ?_)
 | (with_reducible refine AL_exit ?_; simp only [SeqQ, BlockQ, go_sem, seval])
 | (refine Ct rfl ?_)
 | (refine Cf rfl ?_)
 | (refine AL_condb rfl (fun hg => ?_) (fun hg => ?_) <;> ((try simp only [bnq] at hg); (try (have hgp := hg; simp only [bdq] at hgp))))
 | (with_reducible first | refine ite_elimM (fun hg => ?_) (fun hg => ?_) | refine And.intro ?_ ?_)
 | omega)
  all_goals first
    | (refine AL_ret (PureQ_ret ?_ rfl); simp [go_sem, funS, varsBad, blksBad, txtVars, txtBlocks, *])
    | skip
  have hS : funS p f = firstS (blockS p f) f.blocks := by simp [funS, varsBad, blksBad, *]
  rw [hS]
  clear hS
  (repeat (with_reducible first | refine AL_seq ?_ | refine AL_skip ?_ | refine AL_block ?_ | refine AL_nil ?_ | refine SeqQ_n ?_ | refine BlockQ_n ?_))
  refine AL_loop (fun k : Nat => ⟨tA [(2, .op 1 0 0 0), (3, .op 3 1 0 0), (59, .sl false (blkRows f.blocks)), (60, pI f.blocks.length), (61, pI k)], tO [some (.rows 1 [[.sl false (funRows p)]]), some (.rows 3 [f.cells])]⟩)
    (fun k => k ≤ f.blocks.length ∧ firstS (blockS p f) (f.blocks.drop k) = firstS (blockS p f) f.blocks) (fun k => f.blocks.length - k) 0 ⟨Nat.zero_le _, rfl⟩ (weak_t [0, 1] _ _ rfl (by decide) ⟨by decide, by decide⟩ (by simp [go_sem, ]) (by simp [go_sem, ])) ?_
  rintro k ⟨hk, hf⟩
  (repeat (with_reducible first | refine AL_seq ?_ | refine AL_skip ?_ | refine AL_nil ?_ | refine SeqQ_n ?_ | refine BlockQ_n ?_)); (first
 | (refine AL_text2 rfl fun K hK => ?_; simp only [List.map])
 | (refine AL_draw2 mixed rfl (by kernel_rfl) fun K hK => ?_; simp only [List.map])
 | (with_reducible refine AL_block ?_)
 | (with_reducible refine AL_exit ?_; simp only [SeqQ, BlockQ, go_sem, seval])
 | (refine Ct rfl ?_)
 | (refine Cf rfl ?_)
 | (refine AL_condb rfl (fun hg => ?_) (fun hg => ?_) <;> ((try simp only [bnq] at hg); (try (have hgp := hg; simp only [bdq] at hgp))))); repeat' (first
 | (with_reducible refine Mk_i ?_; try simp (disch := omega) only [go_sem, seval, irw])
 | ((with_reducible first | refine hK' _ _ ?_ | refine hK' _ _ _ ?_); clear hK' K')
 | (with_reducible refine RT_step fun K' hK' => ?_; first | refine R2_n ?_ | refine Rf rfl rfl ?_ | refine Rf' rfl rfl ?_ | refine R2_gu rfl rfl ?_ | refine Rt rfl rfl ?_ | refine R2_g rfl rfl (fun hg => ?_) (fun hg => ?_) rfl)
 | (with_reducible refine RT_nil ?_; refine hK _ ?_; clear hK K)
 | (with_reducible refine MkG_i ?_; (try simp only [bnq] at hg); (try (have hgp := hg; simp only [bdq] at hgp)); try simp (disch := omega) only [go_sem, seval, irw, hg])
 | (with_reducible refine RL_step fun K' hK' => ?_; first | refine L2_n ?_ | refine Lf rfl rfl ?_ | refine Lf' rfl rfl ?_ | refine L2_gu rfl rfl ?_ | refine Lt rfl rfl ?_ | refine L2_g rfl rfl (fun hg => ?_) (fun hg => ?_) rfl)
 | (with_reducible refine RL_nil ⟨by kernel_rfl, hK _ ?_⟩; clear hK K)
 | (with_reducible first | refine ite_elimM (fun hg => ?_) (fun hg => ?_) | refine And.intro ?_ ?_)
 | omega)
  cases h2 : decide ((k : Int) < (f.blocks.length : Int))
  · repeat' (first
 | (with_reducible refine Mk_i ?_; try simp (disch := omega) only [go_sem, seval, irw, h2])
 | ((with_reducible first | refine hK' _ _ ?_ | refine hK' _ _ _ ?_); clear hK' K')
 | (with_reducible refine RT_step fun K' hK' => ?_; first | refine R2_n ?_ | refine Rf rfl rfl ?_ | refine Rf' rfl rfl ?_ | refine R2_gu rfl rfl ?_ | refine Rt rfl rfl ?_ | refine R2_g rfl rfl (fun hg => ?_) (fun hg => ?_) rfl)
 | (with_reducible refine RT_nil ?_; refine hK _ ?_; clear hK K)
 | (with_reducible refine MkG_i ?_; (try simp only [bnq] at hg); (try (have hgp := hg; simp only [bdq] at hgp)); try simp (disch := omega) only [go_sem, seval, irw, h2, hg])
 | (with_reducible refine RL_step fun K' hK' => ?_; first | refine L2_n ?_ | refine Lf rfl rfl ?_ | refine Lf' rfl rfl ?_ | refine L2_gu rfl rfl ?_ | refine Lt rfl rfl ?_ | refine L2_g rfl rfl (fun hg => ?_) (fun hg => ?_) rfl)
 | (with_reducible refine RL_nil ⟨by kernel_rfl, hK _ ?_⟩; clear hK K)
 | (with_reducible first | refine AL_seq ?_ | refine AL_skip ?_ | refine AL_nil ?_ | refine SeqQ_n ?_ | refine BlockQ_n ?_)
 | (refine AL_text2 rfl fun K hK => ?_; simp only [List.map])
 | (refine AL_draw2 mixed rfl (by kernel_rfl) fun K hK => ?_; simp only [List.map])
 | (with_reducible refine AL_block ?_)
 | (with_reducible refine AL_exit ?_; simp only [SeqQ, BlockQ, go_sem, seval])
 | (refine Ct rfl ?_)
 | (refine Cf rfl ?_)
 | (refine AL_condb rfl (fun hg => ?_) (fun hg => ?_) <;> ((try simp only [bnq] at hg); (try (have hgp := hg; simp only [bdq] at hgp))))
 | (with_reducible first | refine ite_elimM (fun hg => ?_) (fun hg => ?_) | refine And.intro ?_ ?_)
 | omega)
    have hk2 : f.blocks.length ≤ k := by simp at h2; omega
    have : firstS (blockS p f) f.blocks = [] := by rw [← hf, List.drop_of_length_le hk2]; rfl
    rw [this]
    (refine AL_ret (PureQ_ret ?_ rfl); simp [go_sem, ])
  · have hk2 : k < f.blocks.length := by simpa using h2
    have hd : firstS (blockS p f) (f.blocks.drop k) = if (blockS p f f.blocks[k] == []) = true then firstS (blockS p f) (f.blocks.drop (k + 1)) else blockS p f f.blocks[k] := by
      rw [List.drop_eq_getElem_cons hk2]; rfl
    cases h3 : (blockS p f f.blocks[k] == [])
    · repeat' (first
 | (with_reducible refine Mk_i ?_; try simp (disch := omega) only [go_sem, seval, irw, h2, h3])
 | ((with_reducible first | refine hK' _ _ ?_ | refine hK' _ _ _ ?_); clear hK' K')
 | (with_reducible refine RT_step fun K' hK' => ?_; first | refine R2_n ?_ | refine Rf rfl rfl ?_ | refine Rf' rfl rfl ?_ | refine R2_gu rfl rfl ?_ | refine Rt rfl rfl ?_ | refine R2_g rfl rfl (fun hg => ?_) (fun hg => ?_) rfl)
 | (with_reducible refine RT_nil ?_; refine hK _ ?_; clear hK K)
 | (with_reducible refine MkG_i ?_; (try simp only [bnq] at hg); (try (have hgp := hg; simp only [bdq] at hgp)); try simp (disch := omega) only [go_sem, seval, irw, h2, h3, hg])
 | (with_reducible refine RL_step fun K' hK' => ?_; first | refine L2_n ?_ | refine Lf rfl rfl ?_ | refine Lf' rfl rfl ?_ | refine L2_gu rfl rfl ?_ | refine Lt rfl rfl ?_ | refine L2_g rfl rfl (fun hg => ?_) (fun hg => ?_) rfl)
 | (with_reducible refine RL_nil ⟨by kernel_rfl, hK _ ?_⟩; clear hK K)
 | (with_reducible first | refine AL_seq ?_ | refine AL_skip ?_ | refine AL_nil ?_ | refine SeqQ_n ?_ | refine BlockQ_n ?_)
 | (refine AL_text2 rfl fun K hK => ?_; simp only [List.map])
 | (refine AL_draw2 mixed rfl (by kernel_rfl) fun K hK => ?_; simp only [List.map])
 | (with_reducible refine AL_block ?_)
 | (with_reducible refine AL_exit ?_; simp only [SeqQ, BlockQ, go_sem, seval])
 | (refine Ct rfl ?_)
 | (refine Cf rfl ?_)
 | (refine AL_condb rfl (fun hg => ?_) (fun hg => ?_) <;> ((try simp only [bnq] at hg); (try (have hgp := hg; simp only [bdq] at hgp))))
 | (refine CallK_pureM (c_block hB p f f.blocks[k]) en_76 rfl ?_)
 | (with_reducible first | refine ite_elimM (fun hg => ?_) (fun hg => ?_) | refine And.intro ?_ ?_)
 | omega)
      have : firstS (blockS p f) f.blocks = blockS p f f.blocks[k] := by rw [← hf, hd, h3]; rfl
      rw [this]
      (refine AL_ret (PureQ_ret ?_ rfl); simp [go_sem, ])
    · repeat' (first
 | (with_reducible refine Mk_i ?_; try simp (disch := omega) only [go_sem, seval, irw, h2, h3])
 | ((with_reducible first | refine hK' _ _ ?_ | refine hK' _ _ _ ?_); clear hK' K')
 | (with_reducible refine RT_step fun K' hK' => ?_; first | refine R2_n ?_ | refine Rf rfl rfl ?_ | refine Rf' rfl rfl ?_ | refine R2_gu rfl rfl ?_ | refine Rt rfl rfl ?_ | refine R2_g rfl rfl (fun hg => ?_) (fun hg => ?_) rfl)
 | (with_reducible refine RT_nil ?_; refine hK _ ?_; clear hK K)
 | (with_reducible refine MkG_i ?_; (try simp only [bnq] at hg); (try (have hgp := hg; simp only [bdq] at hgp)); try simp (disch := omega) only [go_sem, seval, irw, h2, h3, hg])
 | (with_reducible refine RL_step fun K' hK' => ?_; first | refine L2_n ?_ | refine Lf rfl rfl ?_ | refine Lf' rfl rfl ?_ | refine L2_gu rfl rfl ?_ | refine Lt rfl rfl ?_ | refine L2_g rfl rfl (fun hg => ?_) (fun hg => ?_) rfl)
 | (with_reducible refine RL_nil ⟨by kernel_rfl, hK _ ?_⟩; clear hK K)
 | (with_reducible first | refine AL_seq ?_ | refine AL_skip ?_ | refine AL_nil ?_ | refine SeqQ_n ?_ | refine BlockQ_n ?_)
 | (refine AL_text2 rfl fun K hK => ?_; simp only [List.map])
 | (refine AL_draw2 mixed rfl (by kernel_rfl) fun K hK => ?_; simp only [List.map])
 | (with_reducible refine AL_block ?_)
 | (with_reducible refine AL_exit ?_; simp only [SeqQ, BlockQ, go_sem, seval])
 | (refine Ct rfl ?_)
 | (refine Cf rfl ?_)
 | (refine AL_condb rfl (fun hg => ?_) (fun hg => ?_) <;> ((try simp only [bnq] at hg); (try (have hgp := hg; simp only [bdq] at hgp))))
 | (refine CallK_pureM (c_block hB p f f.blocks[k]) en_76 rfl ?_)
 | (with_reducible first | refine ite_elimM (fun hg => ?_) (fun hg => ?_) | refine And.intro ?_ ?_)
 | omega)
      exact ⟨k + 1, ⟨hk2, by rw [← hf, hd, h3]; rfl⟩, by omega, (weak_t [0, 1] _ _ rfl (by decide) ⟨by decide, by decide⟩ (by simp [go_sem, ]) (by simp [go_sem, ]))⟩
end Go.Proofs.YtjlcojgimicfbaaDoor
/- errors.As at a target of the program's own: what it answers, after the guide's worked text on it. -/
namespace Go.Proofs.YtjlcojgimicfbaaDoor
open Go.RowKit Go.Extern.Stop Go.Stop Go.Extern
set_option linter.unusedSimpArgs false
set_option linter.unusedVariables false

/-- errors.As(nil, target). -/
theorem as_nil (t : Value) (w : World) :
    Calls Tryd.prog 41 #[.nilIface, t] w fun e w' => e = .returned (.bool false) ∧ w' = w := by
  go_enter Tryd.func41, Tryd.ntmps41
  go_wp2
  go_ret
  exact ⟨rfl, rfl⟩

/-! ### CLOSED FACTS ON THE MODEL's ENTRIES FOR internal/reflectlite, at this program's types: 25: *p.E · 27: **p.E · 23: error · 45: reflectlite's rtype · 1: how many package-level variables the dump has -/
theorem Errs.valueOf27 (t : Addr) (w : World) : (ReflectliteValue.unpack (.iface 72 (.pointer (some t)))).run Tryd.prog w
    = .ok (.agg #[.pointer (some ⟨5, 72, none⟩), .pointer (some ⟨w.heap.size, 0, none⟩), .int .u64 150]) (w.alloc (.cells #[.pointer (some t)] 72)) := by kernel_rfl
theorem Errs.type27 (a : Addr) (w : World) : (ReflectliteValue.methodAny (ReflectliteValue.valueError "reflectlite.Value.Type" 0) (fun t _ _ _ => ReflectliteType.toType t) #[.agg #[.pointer (some ⟨5, 72, none⟩), .pointer (some a), .int .u64 150]]).run Tryd.prog w
    = .ok (.iface 121 (.agg #[.pointer (some ⟨5, 72, none⟩)])) w := by kernel_rfl
theorem Errs.methodKind (h : Value) (w : World) : (Go.method 295 121 (.agg #[h]) "Kind").run Tryd.prog w = .ok (116, h) w := by kernel_rfl
theorem Errs.kind27 (w : World) : ((ReflectliteType.abiMethod fun t => (fun a : Nat => Value.int IntKind.u8 (a : Int)) <$> Rtype.kind t) #[.pointer (some ⟨5, 72, none⟩)]).run Tryd.prog w = .ok (.int .u8 22) w := by kernel_rfl
theorem Errs.kind25 (w : World) : ((ReflectliteType.abiMethod fun t => (fun a : Nat => Value.int IntKind.u8 (a : Int)) <$> Rtype.kind t) #[.pointer (some ⟨5, 67, none⟩)]).run Tryd.prog w = .ok (.int .u8 22) w := by kernel_rfl

/-! ### THE ENTRIES THAT READ OR WRITE MEMORY: laws with a premise on the cell (after Derived/Lib/ReflectliteSlice.lean's manner: each unfolding a lemma of its own, by rfl) -/
theorem rlm (z : Sem Value) (f : TypeId → Addr → Nat → Nat → Sem Value) (v : Value) :
    ReflectliteValue.method z f #[v] = (do match ← ReflectliteValue.parts v with | none => z | some (t, a, fl) => f t a fl (fl % 32)) := rfl
theorem Errs.parts27 (a : Addr) (w : World) : (ReflectliteValue.parts (.agg #[.pointer (some ⟨5, 72, none⟩), .pointer (some a), .int .u64 150])).run Tryd.prog w = .ok (some (72, a, 150)) w := by kernel_rfl
/-- (Value).IsNil at the Value of a **p.E that is not nil. -/
theorem Errs.isNil27 (a p : Addr) (W : World) (ha : W.cell? a = some (.pointer (some p))) :
    (ReflectliteValue.method (ReflectliteValue.valueError "reflectlite.Value.IsNil" 0) ReflectliteValue.isNil #[.agg #[.pointer (some ⟨5, 72, none⟩), .pointer (some a), .int .u64 150]]).run Tryd.prog W = .ok (.bool false) W := by
  rw [rlm]
  simp only [Sem.run_bind, Errs.parts27, Result.andThen]
  simp [ReflectliteValue.isNil, loadVar, isAgg, underlying, Tryd.underlying72, ha, Result.andThen]

theorem Errs.methodElem (h : Value) (w : World) : (Go.method 295 121 (.agg #[h]) "Elem").run Tryd.prog w = .ok (126, .agg #[h]) w := by kernel_rfl
theorem Errs.methodImplements (h : Value) (w : World) : (Go.method 295 121 (.agg #[h]) "Implements").run Tryd.prog w = .ok (127, .agg #[h]) w := by kernel_rfl
theorem Errs.methodAssignableTo (h : Value) (w : World) : (Go.method 295 121 (.agg #[h]) "AssignableTo").run Tryd.prog w = .ok (124, .agg #[h]) w := by kernel_rfl
theorem Errs.elem27 (w : World) : (ReflectliteType.method ReflectliteType.elem #[.agg #[.pointer (some ⟨5, 72, none⟩)]]).run Tryd.prog w = .ok (.iface 121 (.agg #[.pointer (some ⟨5, 67, none⟩)])) w := by kernel_rfl
theorem Errs.implements25 (w : World) : (ReflectliteType.relation "Implements" ReflectliteType.implements_ #[.agg #[.pointer (some ⟨5, 67, none⟩)], .iface 121 (.agg #[.pointer (some ⟨5, 70, none⟩)])]).run Tryd.prog w = .ok (.bool true) w := by kernel_rfl
theorem Errs.typeOf25 (v : Value) (w : World) : (ReflectliteType.typeOf #[.iface 67 v]).run Tryd.prog w = .ok (.iface 121 (.agg #[.pointer (some ⟨5, 67, none⟩)])) w := by kernel_rfl
theorem Errs.assignable25 (w : World) : (ReflectliteType.relation "AssignableTo" ReflectliteType.assignableTo #[.agg #[.pointer (some ⟨5, 67, none⟩)], .iface 121 (.agg #[.pointer (some ⟨5, 67, none⟩)])]).run Tryd.prog w = .ok (.bool true) w := by kernel_rfl
theorem Errs.valueOf25 (e : Addr) (w : World) : (ReflectliteValue.unpack (.iface 67 (.pointer (some e)))).run Tryd.prog w
    = .ok (.agg #[.pointer (some ⟨5, 67, none⟩), .pointer (some ⟨w.heap.size, 0, none⟩), .int .u64 150]) (w.alloc (.cells #[.pointer (some e)] 67)) := by kernel_rfl

theorem Errs.elemOf27 (w : World) : (Rtype.elem? 72).run Tryd.prog w = .ok (some 67) w := by kernel_rfl
theorem Errs.mk25 (p : Addr) (w : World) : (ReflectliteValue.mk 67 p ReflectliteValue.flagAddr).run Tryd.prog w = .ok (.agg #[.pointer (some ⟨5, 67, none⟩), .pointer (some p), .int .u64 406]) w := by kernel_rfl
/-- (Value).Elem at the Value of a **p.E that is not nil: the Value of the *p.E variable that it points to, addressable. -/
theorem Errs.elemV27 (a p : Addr) (W : World) (ha : W.cell? a = some (.pointer (some p))) :
    (ReflectliteValue.method (ReflectliteValue.valueError "reflectlite.Value.Elem" 0) ReflectliteValue.elem #[.agg #[.pointer (some ⟨5, 72, none⟩), .pointer (some a), .int .u64 150]]).run Tryd.prog W
      = .ok (.agg #[.pointer (some ⟨5, 67, none⟩), .pointer (some p), .int .u64 406]) W := by
  rw [rlm]
  simp only [Sem.run_bind, Errs.parts27, Result.andThen]
  simp [ReflectliteValue.elem, loadVar, isAgg, underlying, Tryd.underlying72, ha, Result.andThen, Errs.elemOf27, Errs.mk25]
theorem rls (v x : Value) : ReflectliteValue.set #[v, x] = (do
    let (some (dst, a, fl), some (src, b, _)) := (← ReflectliteValue.parts v, ← ReflectliteValue.parts x)
      | unsupported (.noEntry "extern/(internal/reflectlite.Value).Set.zeroValue")
    if fl / ReflectliteValue.flagAddr % 2 == 0 then unsupported (.noEntry "extern/(internal/reflectlite.Value).Set.unaddressable")
    let val ← loadVar src b
    if ← Rtype.directlyAssignable dst src then storeVar dst a val
    else if ← Rtype.implements dst src then
      if (← Rtype.kind src) == 20 then
        match val with
        | .nilIface => unsupported (.noEntry "extern/reflectlite: a nil value of one interface type handed on as a value of another")
        | _ => storeVar dst a val
      else storeVar dst a (.iface src val)
    else panicString ("reflectlite.Set: value of type " ++ (← Rtype.spelt src) ++ " is not assignable to type " ++ (← Rtype.spelt dst))
    pure (.tuple #[])) := rfl
theorem Errs.parts25a (a : Addr) (w : World) : (ReflectliteValue.parts (.agg #[.pointer (some ⟨5, 67, none⟩), .pointer (some a), .int .u64 406])).run Tryd.prog w = .ok (some (67, a, 406)) w := by kernel_rfl
theorem Errs.parts25 (a : Addr) (w : World) : (ReflectliteValue.parts (.agg #[.pointer (some ⟨5, 67, none⟩), .pointer (some a), .int .u64 150])).run Tryd.prog w = .ok (some (67, a, 150)) w := by kernel_rfl
theorem Errs.direct25 (w : World) : (Rtype.directlyAssignable 67 67).run Tryd.prog w = .ok true w := by kernel_rfl
theorem Errs.size25 (w : World) : (sizeOf 67).run Tryd.prog w = .ok 1 w := by kernel_rfl
/-- (Value).Set: the *p.E variable at 'ta' gets what the Value's own variable 'b' holds. -/
theorem Errs.set25 (ta b e : Addr) (old : Value) (W : World) (hb : W.cell? b = some (.pointer (some e))) (ht : W.cell? ta = some old) (hf : W.frozen? ta = false) :
    (ReflectliteValue.set #[.agg #[.pointer (some ⟨5, 67, none⟩), .pointer (some ta), .int .u64 406], .agg #[.pointer (some ⟨5, 67, none⟩), .pointer (some b), .int .u64 150]]).run Tryd.prog W
      = .ok (.tuple #[]) (W.setCell ta (.pointer (some e))) := by
  rw [rls]
  simp only [Sem.run_bind, Errs.parts25a, Errs.parts25, Result.andThen]
  simp [ReflectliteValue.flagAddr, loadVar, isAgg, underlying, Tryd.underlying67, hb, Result.andThen, Errs.direct25, storeVar, Value.cells, storeCells, Addr.add]
  rw [run_store Tryd.prog W ta _ _ (by rfl)]
  simp [ht, hf]

set_option maxHeartbeats 4000000 in
theorem as_hit (e t : Addr) (old : Value) (w : World) (hg : w.cell? ⟨1, 0, none⟩ = some (.iface 121 (.agg #[.pointer (some ⟨5, 70, none⟩)]))) (ht0 : w.cell? t = some old) (hf0 : w.frozen? t = false) :
    Calls Tryd.prog 41 #[.iface 67 (.pointer (some e)), .iface 72 (.pointer (some t))] w fun ev w' => ev = .returned (.bool true) ∧ w' = ((((w.alloc (.cells #[.pointer (some t)] 72)).alloc (.cells #[.pointer (some ⟨5, 72, none⟩), .pointer (some ⟨w.heap.size, 0, none⟩), .int .u64 150] 89)).alloc (.cells #[.pointer (some ⟨5, 72, none⟩), .pointer (some ⟨w.heap.size, 0, none⟩), .int .u64 150] 89)).alloc (.cells #[.pointer (some e)] 67)).setCell t (.pointer (some e)) := by
  have h6 := @run_callFunc_extern Tryd.prog 55 _ (fun args => ReflectliteValue.unpack (args.getD 0 (.tuple #[]))) Tryd.func55 (by kernel_rfl) (by kernel_rfl) (by kernel_rfl) (by kernel_rfl)
  have h7 := @run_callFunc_extern Tryd.prog 56 _ (ReflectliteValue.methodAny (ReflectliteValue.valueError "reflectlite.Value.Type" 0) (fun t _ _ _ => ReflectliteType.toType t)) Tryd.func56 (by kernel_rfl) (by kernel_rfl) (by kernel_rfl) (by kernel_rfl)
  have h8 := @run_callFunc_extern Tryd.prog 57 _ (ReflectliteValue.method (ReflectliteValue.valueError "reflectlite.Value.IsNil" 0) ReflectliteValue.isNil) Tryd.func57 (by kernel_rfl) (by kernel_rfl) (by kernel_rfl) (by kernel_rfl)
  have h27 := @run_callFunc_extern Tryd.prog 116 _ (ReflectliteType.abiMethod fun t => do pure (.int .u8 (← Rtype.kind t))) Tryd.func116 (by kernel_rfl) (by kernel_rfl) (by kernel_rfl) (by kernel_rfl)
  have h37 := @run_callFunc_extern Tryd.prog 126 _ (ReflectliteType.method ReflectliteType.elem) Tryd.func126 (by kernel_rfl) (by kernel_rfl) (by kernel_rfl) (by kernel_rfl)
  have h38 := @run_callFunc_extern Tryd.prog 127 _ (ReflectliteType.relation "Implements" ReflectliteType.implements_) Tryd.func127 (by kernel_rfl) (by kernel_rfl) (by kernel_rfl) (by kernel_rfl)
  have h10 := @run_callFunc_extern Tryd.prog 73 _ ReflectliteType.typeOf Tryd.func73 (by kernel_rfl) (by kernel_rfl) (by kernel_rfl) (by kernel_rfl)
  have h35 := @run_callFunc_extern Tryd.prog 124 _ (ReflectliteType.relation "AssignableTo" ReflectliteType.assignableTo) Tryd.func124 (by kernel_rfl) (by kernel_rfl) (by kernel_rfl) (by kernel_rfl)
  have h11 := @run_callFunc_extern Tryd.prog 74 _ (ReflectliteValue.method (ReflectliteValue.valueError "reflectlite.Value.Elem" 0) ReflectliteValue.elem) Tryd.func74 (by kernel_rfl) (by kernel_rfl) (by kernel_rfl) (by kernel_rfl)
  have h12 := @run_callFunc_extern Tryd.prog 75 _ ReflectliteValue.set Tryd.func75 (by kernel_rfl) (by kernel_rfl) (by kernel_rfl) (by kernel_rfl)
  have tO := Errs.typeOf25
  have mA := Errs.methodAssignableTo
  have a25 := Errs.assignable25
  have v25 := Errs.valueOf25
  have f6 := Errs.valueOf27
  have f7 := Errs.type27
  have mK := Errs.methodKind
  have mE := Errs.methodElem
  have mI := Errs.methodImplements
  have k27 := Errs.kind27
  have k25 := Errs.kind25
  have e27 := Errs.elem27
  have i25 := Errs.implements25
  have n8 := Errs.isNil27 ⟨w.heap.size, 0, none⟩ t ((w.alloc (.cells #[.pointer (some t)] 72)).alloc (.cells #[.pointer (some ⟨5, 72, none⟩), .pointer (some ⟨w.heap.size, 0, none⟩), .int .u64 150] 89)) (by simp)
  have hlt : 1 < w.heap.size := by
    rcases Nat.lt_or_ge 1 w.heap.size with h | h
    · exact h
    · simp [World.cell?, Array.getElem?_eq_none h] at hg
  have hg2 : ((w.alloc (.cells #[.pointer (some t)] 72)).alloc (.cells #[.pointer (some ⟨5, 72, none⟩), .pointer (some ⟨w.heap.size, 0, none⟩), .int .u64 150] 89)).cell? ⟨1, 0, none⟩ = some (.iface 121 (.agg #[.pointer (some ⟨5, 70, none⟩)])) := by
    rw [World.cell?_alloc_lt _ _ ⟨1, 0, none⟩ (by simp; omega), World.cell?_alloc_lt _ _ ⟨1, 0, none⟩ hlt]; exact hg
  have htl : t.block < w.heap.size := by
    rcases Nat.lt_or_ge t.block w.heap.size with h | h
    · exact h
    · simp [World.cell?, Array.getElem?_eq_none h] at ht0
  have el := Errs.elemV27 ⟨w.heap.size, 0, none⟩ t (((w.alloc (.cells #[.pointer (some t)] 72)).alloc (.cells #[.pointer (some ⟨5, 72, none⟩), .pointer (some ⟨w.heap.size, 0, none⟩), .int .u64 150] 89)).alloc (.cells #[.pointer (some ⟨5, 72, none⟩), .pointer (some ⟨w.heap.size, 0, none⟩), .int .u64 150] 89)) (by rw [World.cell?_alloc_lt _ _ ⟨w.heap.size, 0, none⟩ (by simp; omega)]; simp)
  have st := Errs.set25 t ⟨w.heap.size + 1 + 1 + 1, 0, none⟩ e old ((((w.alloc (.cells #[.pointer (some t)] 72)).alloc (.cells #[.pointer (some ⟨5, 72, none⟩), .pointer (some ⟨w.heap.size, 0, none⟩), .int .u64 150] 89)).alloc (.cells #[.pointer (some ⟨5, 72, none⟩), .pointer (some ⟨w.heap.size, 0, none⟩), .int .u64 150] 89)).alloc (.cells #[.pointer (some e)] 67))
    (by rw [World.cell?_alloc_at _ _ _ _ (by simp)]; rfl)
    (by rw [World.cell?_alloc_lt _ _ t (by simp; omega), World.cell?_alloc_lt _ _ t (by simp; omega), World.cell?_alloc_lt _ _ t (by simp; omega), World.cell?_alloc_lt _ _ t htl]; exact ht0)
    (by rw [World.frozen?_alloc_old _ _ t (by simp; omega), World.frozen?_alloc_old _ _ t (by simp; omega), World.frozen?_alloc_old _ _ t (by simp; omega), World.frozen?_alloc_old _ _ t (Nat.ne_of_lt htl)]; exact hf0)
  go_enter Tryd.func41, Tryd.ntmps41
  go_wp2
  refine wp_loop_rounds 1 ?_
  rw [rounds_succ]
  go_wp2
  go_ret
  exact ⟨rfl, rfl⟩
end Go.Proofs.YtjlcojgimicfbaaDoor
