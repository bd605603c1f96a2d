/- Proof text of this claim, part 5: All variables of an instruction: the document's word.. Its conditions are those of the statement: the laid tables as the row lists them. -/
import Derived.Test.YtjlcojgimicfbaaDoorT4
import Derived.Test.YtjlcojgimicfbaaDoorT1
import Derived.Test.YtjlcojgimicfbaaDoorRows
import Derived.ProofKit
import Derived.LaidMore
import Derived.LaidSub
import Derived.MakeChecks
import Derived.Stop.Joined
import Derived.Test.YtjlcojgimicfbaaDoorTie
import Derived.Test.YtjlcojgimicfbaaDoorCards
import Derived.SevenTiedAt
/- All variables of an instruction: the document's word. -/
namespace Go.Proofs.YtjlcojgimicfbaaDoor
open Go.Am
set_option linter.unusedSimpArgs false
set_option maxRecDepth 100000
set_option maxHeartbeats 4000000
variable {Γ : Nat → Option Obj}

/-- The least of those that stand behind the last one. -/
def aboveOK (out : List Int) (x : Int) : Bool := decide (out.length = 0) || decide (out.getLastD 0 < x)
def bestF (out : List Int) (b x : Int) : Int := if aboveOK out x && (decide (b < 0) || decide (x < b)) then x else b
def riseN (l : List Int) : Nat → List Int
  | 0 => []
  | n + 1 => riseN l n ++ [l.foldl (bestF (riseN l n)) (-1)]
theorem riseN_len (l : List Int) (n : Nat) : (riseN l n).length = n := by
  induction n with
  | zero => rfl
  | succ n ih => simp [riseN, ih]
def rwithDef (i : Ins) : List Int := if 0 ≤ rdefI i then addL (rusesI i) (rdefI i) else rusesI i
def rvarsI (i : Ins) : List Int := riseN (rwithDef i) (rwithDef i).length

theorem usesB_foldl_len (l m : List Int) (h : l.length ≤ 3) (h2 : m.length ≤ 2) : (l.foldl addL m).length ≤ 5 := by
  have := foldl_addL_len l m
  omega
theorem rusesI_len (i : Ins) : (rusesI i).length ≤ 5 := by
  unfold rusesI
  split
  · exact usesB_foldl_len _ _ (by simp; omega) (usesB_len i)
  · simp

theorem c_refVars (i : Ins) : Pure Γ Tryd.prog 16 [ins i] (ints (rvarsI i)) := by
  have hU := rusesI_len i
  refine pure_start1 Tryd.func16 rfl (by simp [Tryd.f16]) ?_
  (repeat (first | (with_reducible refine AL_seq ?_) | (with_reducible refine AL_skip ?_) | (with_reducible refine AL_nil ?_) | (with_reducible refine SeqQ_n ?_) | (with_reducible refine BlockQ_n ?_))); (first
      | (refine AL_text2 rfl fun K hK => ?_; simp only [List.map_cons, List.map_nil])
      | (refine AL_draw2 mixed rfl (by kernel_rfl) fun K hK => ?_; simp only [List.map_cons, List.map_nil])
      | (with_reducible refine AL_block ?_)
      | (with_reducible refine AL_exit ?_; simp only [SeqQ, BlockQ, ↓reduceIte, Nat.reduceEqDiff, reduceCtorEq])
      | (refine AL_cond_t' rfl (by first | with_reducible rfl | assumption | decide) ?_)
      | (refine AL_cond_f' rfl (by first | with_reducible rfl | assumption | decide) ?_)
      | (refine AL_condb rfl (fun hg => ?_) (fun hg => ?_) <;> (try simp only [Bool.not_eq_true', Bool.not_eq_false'] at hg))); repeat' (first
      | (with_reducible refine hK' _ _ ?_; clear hK' K')
      | (with_reducible refine hK' _ _ _ ?_; clear hK' K')
      | (with_reducible refine RT_step fun K' hK' => ?_; first | (refine R2_n ?_; (try simp (disch := omega) only [go_sem, ↓reduceIte, Nat.reduceEqDiff, reduceCtorEq, Nat.reduceAdd, Nat.reduceMul, Nat.reduceSub, Nat.reduceLeDiff, Nat.reduceLT, ne_eq, not_false_eq_true, not_true_eq_false, decide_true, decide_false, Int.reduceLE, Int.reduceLT, Int.reduceToNat, Int.reduceNeg, Nat.zero_add, Nat.add_zero, Nat.le_refl, Nat.sub_self, Nat.sub_zero, row_of, wrap_ok, iRows_app, iRows_app1, iRows_take, List.mem_cons, List.not_mem_nil, or_false, forall_eq])) | (refine R2_gf rfl rfl (by first | with_reducible rfl | assumption | decide) ?_) | (refine R2_gf' rfl rfl (by first | with_reducible rfl | assumption | decide) ?_) | (refine R2_gu rfl rfl ?_) | (refine R2_gt rfl rfl (by first | with_reducible rfl | assumption | decide) ?_; (try simp (disch := omega) only [go_sem, ↓reduceIte, Nat.reduceEqDiff, reduceCtorEq, Nat.reduceAdd, Nat.reduceMul, Nat.reduceSub, Nat.reduceLeDiff, Nat.reduceLT, ne_eq, not_false_eq_true, not_true_eq_false, decide_true, decide_false, Int.reduceLE, Int.reduceLT, Int.reduceToNat, Int.reduceNeg, Nat.zero_add, Nat.add_zero, Nat.le_refl, Nat.sub_self, Nat.sub_zero, row_of, wrap_ok, iRows_app, iRows_app1, iRows_take, List.mem_cons, List.not_mem_nil, or_false, forall_eq])) | ((refine R2_g rfl rfl (fun hg => ?_) (fun hg => ?_) rfl) <;> (try simp only [Bool.not_true, Bool.not_false] at hg) <;> (try simp (disch := omega) only [go_sem, ↓reduceIte, Nat.reduceEqDiff, reduceCtorEq, Nat.reduceAdd, Nat.reduceMul, Nat.reduceSub, Nat.reduceLeDiff, Nat.reduceLT, ne_eq, not_false_eq_true, not_true_eq_false, decide_true, decide_false, Int.reduceLE, Int.reduceLT, Int.reduceToNat, Int.reduceNeg, Nat.zero_add, Nat.add_zero, Nat.le_refl, Nat.sub_self, Nat.sub_zero, hg, row_of, wrap_ok, iRows_app, iRows_app1, iRows_take, List.mem_cons, List.not_mem_nil, or_false, forall_eq])))
      | (with_reducible refine RT_nil ?_; refine hK _ ?_; clear hK K)
      | (with_reducible refine RL_step fun K' hK' => ?_; first | (refine L2_n ?_; (try simp (disch := omega) only [go_sem, ↓reduceIte, Nat.reduceEqDiff, reduceCtorEq, Nat.reduceAdd, Nat.reduceMul, Nat.reduceSub, Nat.reduceLeDiff, Nat.reduceLT, ne_eq, not_false_eq_true, not_true_eq_false, decide_true, decide_false, Int.reduceLE, Int.reduceLT, Int.reduceToNat, Int.reduceNeg, Nat.zero_add, Nat.add_zero, Nat.le_refl, Nat.sub_self, Nat.sub_zero, row_of, wrap_ok, iRows_app, iRows_app1, iRows_take, List.mem_cons, List.not_mem_nil, or_false, forall_eq])) | (refine L2_gf rfl rfl (by first | with_reducible rfl | assumption | decide) ?_) | (refine L2_gf' rfl rfl (by first | with_reducible rfl | assumption | decide) ?_) | (refine L2_gu rfl rfl ?_) | (refine L2_gt rfl rfl (by first | with_reducible rfl | assumption | decide) ?_; (try simp (disch := omega) only [go_sem, ↓reduceIte, Nat.reduceEqDiff, reduceCtorEq, Nat.reduceAdd, Nat.reduceMul, Nat.reduceSub, Nat.reduceLeDiff, Nat.reduceLT, ne_eq, not_false_eq_true, not_true_eq_false, decide_true, decide_false, Int.reduceLE, Int.reduceLT, Int.reduceToNat, Int.reduceNeg, Nat.zero_add, Nat.add_zero, Nat.le_refl, Nat.sub_self, Nat.sub_zero, row_of, wrap_ok, iRows_app, iRows_app1, iRows_take, List.mem_cons, List.not_mem_nil, or_false, forall_eq])) | ((refine L2_g rfl rfl (fun hg => ?_) (fun hg => ?_) rfl) <;> (try simp only [Bool.not_true, Bool.not_false] at hg) <;> (try simp (disch := omega) only [go_sem, ↓reduceIte, Nat.reduceEqDiff, reduceCtorEq, Nat.reduceAdd, Nat.reduceMul, Nat.reduceSub, Nat.reduceLeDiff, Nat.reduceLT, ne_eq, not_false_eq_true, not_true_eq_false, decide_true, decide_false, Int.reduceLE, Int.reduceLT, Int.reduceToNat, Int.reduceNeg, Nat.zero_add, Nat.add_zero, Nat.le_refl, Nat.sub_self, Nat.sub_zero, hg, row_of, wrap_ok, iRows_app, iRows_app1, iRows_take, List.mem_cons, List.not_mem_nil, or_false, forall_eq])))
      | (with_reducible refine RL_nil ⟨by kernel_rfl, hK _ ?_⟩; clear hK K)
      | ((with_reducible refine ite_elim (fun hg => ?_) (fun hg => ?_)) <;> (try simp (disch := omega) only [go_sem, ↓reduceIte, Nat.reduceEqDiff, reduceCtorEq, Nat.reduceAdd, Nat.reduceMul, Nat.reduceSub, Nat.reduceLeDiff, Nat.reduceLT, ne_eq, not_false_eq_true, not_true_eq_false, decide_true, decide_false, Int.reduceLE, Int.reduceLT, Int.reduceToNat, Int.reduceNeg, Nat.zero_add, Nat.add_zero, Nat.le_refl, Nat.sub_self, Nat.sub_zero, hg, row_of, wrap_ok, iRows_app, iRows_app1, iRows_take, List.mem_cons, List.not_mem_nil, or_false, forall_eq]))
      | (with_reducible refine And.intro ?_ ?_)
      | (omega))
  (repeat (first | (with_reducible refine AL_seq ?_) | (with_reducible refine AL_skip ?_) | (with_reducible refine AL_nil ?_) | (with_reducible refine SeqQ_n ?_) | (with_reducible refine BlockQ_n ?_))); (first
      | (refine AL_text2 rfl fun K hK => ?_; simp only [List.map_cons, List.map_nil])
      | (refine AL_draw2 mixed rfl (by kernel_rfl) fun K hK => ?_; simp only [List.map_cons, List.map_nil])
      | (with_reducible refine AL_block ?_)
      | (with_reducible refine AL_exit ?_; simp only [SeqQ, BlockQ, ↓reduceIte, Nat.reduceEqDiff, reduceCtorEq])
      | (refine AL_cond_t' rfl (by first | with_reducible rfl | assumption | decide) ?_)
      | (refine AL_cond_f' rfl (by first | with_reducible rfl | assumption | decide) ?_)
      | (refine AL_condb rfl (fun hg => ?_) (fun hg => ?_) <;> (try simp only [Bool.not_eq_true', Bool.not_eq_false'] at hg))); repeat' (first
      | (with_reducible refine hK' _ _ ?_; clear hK' K')
      | (with_reducible refine hK' _ _ _ ?_; clear hK' K')
      | (with_reducible refine RT_step fun K' hK' => ?_; first | (refine R2_n ?_; (try simp (disch := omega) only [go_sem, ↓reduceIte, Nat.reduceEqDiff, reduceCtorEq, Nat.reduceAdd, Nat.reduceMul, Nat.reduceSub, Nat.reduceLeDiff, Nat.reduceLT, ne_eq, not_false_eq_true, not_true_eq_false, decide_true, decide_false, Int.reduceLE, Int.reduceLT, Int.reduceToNat, Int.reduceNeg, Nat.zero_add, Nat.add_zero, Nat.le_refl, Nat.sub_self, Nat.sub_zero, row_of, wrap_ok, iRows_app, iRows_app1, iRows_take, List.mem_cons, List.not_mem_nil, or_false, forall_eq])) | (refine R2_gf rfl rfl (by first | with_reducible rfl | assumption | decide) ?_) | (refine R2_gf' rfl rfl (by first | with_reducible rfl | assumption | decide) ?_) | (refine R2_gu rfl rfl ?_) | (refine R2_gt rfl rfl (by first | with_reducible rfl | assumption | decide) ?_; (try simp (disch := omega) only [go_sem, ↓reduceIte, Nat.reduceEqDiff, reduceCtorEq, Nat.reduceAdd, Nat.reduceMul, Nat.reduceSub, Nat.reduceLeDiff, Nat.reduceLT, ne_eq, not_false_eq_true, not_true_eq_false, decide_true, decide_false, Int.reduceLE, Int.reduceLT, Int.reduceToNat, Int.reduceNeg, Nat.zero_add, Nat.add_zero, Nat.le_refl, Nat.sub_self, Nat.sub_zero, row_of, wrap_ok, iRows_app, iRows_app1, iRows_take, List.mem_cons, List.not_mem_nil, or_false, forall_eq])) | ((refine R2_g rfl rfl (fun hg => ?_) (fun hg => ?_) rfl) <;> (try simp only [Bool.not_true, Bool.not_false] at hg) <;> (try simp (disch := omega) only [go_sem, ↓reduceIte, Nat.reduceEqDiff, reduceCtorEq, Nat.reduceAdd, Nat.reduceMul, Nat.reduceSub, Nat.reduceLeDiff, Nat.reduceLT, ne_eq, not_false_eq_true, not_true_eq_false, decide_true, decide_false, Int.reduceLE, Int.reduceLT, Int.reduceToNat, Int.reduceNeg, Nat.zero_add, Nat.add_zero, Nat.le_refl, Nat.sub_self, Nat.sub_zero, hg, row_of, wrap_ok, iRows_app, iRows_app1, iRows_take, List.mem_cons, List.not_mem_nil, or_false, forall_eq])))
      | (with_reducible refine RT_nil ?_; refine hK _ ?_; clear hK K)
      | (with_reducible refine RL_step fun K' hK' => ?_; first | (refine L2_n ?_; (try simp (disch := omega) only [go_sem, ↓reduceIte, Nat.reduceEqDiff, reduceCtorEq, Nat.reduceAdd, Nat.reduceMul, Nat.reduceSub, Nat.reduceLeDiff, Nat.reduceLT, ne_eq, not_false_eq_true, not_true_eq_false, decide_true, decide_false, Int.reduceLE, Int.reduceLT, Int.reduceToNat, Int.reduceNeg, Nat.zero_add, Nat.add_zero, Nat.le_refl, Nat.sub_self, Nat.sub_zero, row_of, wrap_ok, iRows_app, iRows_app1, iRows_take, List.mem_cons, List.not_mem_nil, or_false, forall_eq])) | (refine L2_gf rfl rfl (by first | with_reducible rfl | assumption | decide) ?_) | (refine L2_gf' rfl rfl (by first | with_reducible rfl | assumption | decide) ?_) | (refine L2_gu rfl rfl ?_) | (refine L2_gt rfl rfl (by first | with_reducible rfl | assumption | decide) ?_; (try simp (disch := omega) only [go_sem, ↓reduceIte, Nat.reduceEqDiff, reduceCtorEq, Nat.reduceAdd, Nat.reduceMul, Nat.reduceSub, Nat.reduceLeDiff, Nat.reduceLT, ne_eq, not_false_eq_true, not_true_eq_false, decide_true, decide_false, Int.reduceLE, Int.reduceLT, Int.reduceToNat, Int.reduceNeg, Nat.zero_add, Nat.add_zero, Nat.le_refl, Nat.sub_self, Nat.sub_zero, row_of, wrap_ok, iRows_app, iRows_app1, iRows_take, List.mem_cons, List.not_mem_nil, or_false, forall_eq])) | ((refine L2_g rfl rfl (fun hg => ?_) (fun hg => ?_) rfl) <;> (try simp only [Bool.not_true, Bool.not_false] at hg) <;> (try simp (disch := omega) only [go_sem, ↓reduceIte, Nat.reduceEqDiff, reduceCtorEq, Nat.reduceAdd, Nat.reduceMul, Nat.reduceSub, Nat.reduceLeDiff, Nat.reduceLT, ne_eq, not_false_eq_true, not_true_eq_false, decide_true, decide_false, Int.reduceLE, Int.reduceLT, Int.reduceToNat, Int.reduceNeg, Nat.zero_add, Nat.add_zero, Nat.le_refl, Nat.sub_self, Nat.sub_zero, hg, row_of, wrap_ok, iRows_app, iRows_app1, iRows_take, List.mem_cons, List.not_mem_nil, or_false, forall_eq])))
      | (with_reducible refine RL_nil ⟨by kernel_rfl, hK _ ?_⟩; clear hK K)
      | (refine CallK_ec (ec_refUses i) en_14 [1] 2 (by decide) (by simp [go_sem]) rfl (by decide) (by simp [go_sem]) (by simp [go_sem]) (by simp [go_sem]) (by simp [go_sem]) ?_; (try simp (disch := omega) only [go_sem, ↓reduceIte, Nat.reduceEqDiff, reduceCtorEq, Nat.reduceAdd, Nat.reduceMul, Nat.reduceSub, Nat.reduceLeDiff, Nat.reduceLT, ne_eq, not_false_eq_true, not_true_eq_false, decide_true, decide_false, Int.reduceLE, Int.reduceLT, Int.reduceToNat, Int.reduceNeg, Nat.zero_add, Nat.add_zero, Nat.le_refl, Nat.sub_self, Nat.sub_zero, row_of, wrap_ok, iRows_app, iRows_app1, iRows_take, List.mem_cons, List.not_mem_nil, or_false, forall_eq]))
      | ((with_reducible refine ite_elim (fun hg => ?_) (fun hg => ?_)) <;> (try simp (disch := omega) only [go_sem, ↓reduceIte, Nat.reduceEqDiff, reduceCtorEq, Nat.reduceAdd, Nat.reduceMul, Nat.reduceSub, Nat.reduceLeDiff, Nat.reduceLT, ne_eq, not_false_eq_true, not_true_eq_false, decide_true, decide_false, Int.reduceLE, Int.reduceLT, Int.reduceToNat, Int.reduceNeg, Nat.zero_add, Nat.add_zero, Nat.le_refl, Nat.sub_self, Nat.sub_zero, hg, row_of, wrap_ok, iRows_app, iRows_app1, iRows_take, List.mem_cons, List.not_mem_nil, or_false, forall_eq]))
      | (with_reducible refine And.intro ?_ ?_)
      | (omega))
  (repeat (first | (with_reducible refine AL_seq ?_) | (with_reducible refine AL_skip ?_) | (with_reducible refine AL_nil ?_) | (with_reducible refine SeqQ_n ?_) | (with_reducible refine BlockQ_n ?_))); (first
      | (refine AL_text2 rfl fun K hK => ?_; simp only [List.map_cons, List.map_nil])
      | (refine AL_draw2 mixed rfl (by kernel_rfl) fun K hK => ?_; simp only [List.map_cons, List.map_nil])
      | (with_reducible refine AL_block ?_)
      | (with_reducible refine AL_exit ?_; simp only [SeqQ, BlockQ, ↓reduceIte, Nat.reduceEqDiff, reduceCtorEq])
      | (refine AL_cond_t' rfl (by first | with_reducible rfl | assumption | decide) ?_)
      | (refine AL_cond_f' rfl (by first | with_reducible rfl | assumption | decide) ?_)
      | (refine AL_condb rfl (fun hg => ?_) (fun hg => ?_) <;> (try simp only [Bool.not_eq_true', Bool.not_eq_false'] at hg))); repeat' (first
      | (with_reducible refine hK' _ _ ?_; clear hK' K')
      | (with_reducible refine hK' _ _ _ ?_; clear hK' K')
      | (with_reducible refine RT_step fun K' hK' => ?_; first | (refine R2_n ?_; (try simp (disch := omega) only [go_sem, ↓reduceIte, Nat.reduceEqDiff, reduceCtorEq, Nat.reduceAdd, Nat.reduceMul, Nat.reduceSub, Nat.reduceLeDiff, Nat.reduceLT, ne_eq, not_false_eq_true, not_true_eq_false, decide_true, decide_false, Int.reduceLE, Int.reduceLT, Int.reduceToNat, Int.reduceNeg, Nat.zero_add, Nat.add_zero, Nat.le_refl, Nat.sub_self, Nat.sub_zero, row_of, wrap_ok, iRows_app, iRows_app1, iRows_take, List.mem_cons, List.not_mem_nil, or_false, forall_eq])) | (refine R2_gf rfl rfl (by first | with_reducible rfl | assumption | decide) ?_) | (refine R2_gf' rfl rfl (by first | with_reducible rfl | assumption | decide) ?_) | (refine R2_gu rfl rfl ?_) | (refine R2_gt rfl rfl (by first | with_reducible rfl | assumption | decide) ?_; (try simp (disch := omega) only [go_sem, ↓reduceIte, Nat.reduceEqDiff, reduceCtorEq, Nat.reduceAdd, Nat.reduceMul, Nat.reduceSub, Nat.reduceLeDiff, Nat.reduceLT, ne_eq, not_false_eq_true, not_true_eq_false, decide_true, decide_false, Int.reduceLE, Int.reduceLT, Int.reduceToNat, Int.reduceNeg, Nat.zero_add, Nat.add_zero, Nat.le_refl, Nat.sub_self, Nat.sub_zero, row_of, wrap_ok, iRows_app, iRows_app1, iRows_take, List.mem_cons, List.not_mem_nil, or_false, forall_eq])) | ((refine R2_g rfl rfl (fun hg => ?_) (fun hg => ?_) rfl) <;> (try simp only [Bool.not_true, Bool.not_false] at hg) <;> (try simp (disch := omega) only [go_sem, ↓reduceIte, Nat.reduceEqDiff, reduceCtorEq, Nat.reduceAdd, Nat.reduceMul, Nat.reduceSub, Nat.reduceLeDiff, Nat.reduceLT, ne_eq, not_false_eq_true, not_true_eq_false, decide_true, decide_false, Int.reduceLE, Int.reduceLT, Int.reduceToNat, Int.reduceNeg, Nat.zero_add, Nat.add_zero, Nat.le_refl, Nat.sub_self, Nat.sub_zero, hg, row_of, wrap_ok, iRows_app, iRows_app1, iRows_take, List.mem_cons, List.not_mem_nil, or_false, forall_eq])))
      | (with_reducible refine RT_nil ?_; refine hK _ ?_; clear hK K)
      | (with_reducible refine RL_step fun K' hK' => ?_; first | (refine L2_n ?_; (try simp (disch := omega) only [go_sem, ↓reduceIte, Nat.reduceEqDiff, reduceCtorEq, Nat.reduceAdd, Nat.reduceMul, Nat.reduceSub, Nat.reduceLeDiff, Nat.reduceLT, ne_eq, not_false_eq_true, not_true_eq_false, decide_true, decide_false, Int.reduceLE, Int.reduceLT, Int.reduceToNat, Int.reduceNeg, Nat.zero_add, Nat.add_zero, Nat.le_refl, Nat.sub_self, Nat.sub_zero, row_of, wrap_ok, iRows_app, iRows_app1, iRows_take, List.mem_cons, List.not_mem_nil, or_false, forall_eq])) | (refine L2_gf rfl rfl (by first | with_reducible rfl | assumption | decide) ?_) | (refine L2_gf' rfl rfl (by first | with_reducible rfl | assumption | decide) ?_) | (refine L2_gu rfl rfl ?_) | (refine L2_gt rfl rfl (by first | with_reducible rfl | assumption | decide) ?_; (try simp (disch := omega) only [go_sem, ↓reduceIte, Nat.reduceEqDiff, reduceCtorEq, Nat.reduceAdd, Nat.reduceMul, Nat.reduceSub, Nat.reduceLeDiff, Nat.reduceLT, ne_eq, not_false_eq_true, not_true_eq_false, decide_true, decide_false, Int.reduceLE, Int.reduceLT, Int.reduceToNat, Int.reduceNeg, Nat.zero_add, Nat.add_zero, Nat.le_refl, Nat.sub_self, Nat.sub_zero, row_of, wrap_ok, iRows_app, iRows_app1, iRows_take, List.mem_cons, List.not_mem_nil, or_false, forall_eq])) | ((refine L2_g rfl rfl (fun hg => ?_) (fun hg => ?_) rfl) <;> (try simp only [Bool.not_true, Bool.not_false] at hg) <;> (try simp (disch := omega) only [go_sem, ↓reduceIte, Nat.reduceEqDiff, reduceCtorEq, Nat.reduceAdd, Nat.reduceMul, Nat.reduceSub, Nat.reduceLeDiff, Nat.reduceLT, ne_eq, not_false_eq_true, not_true_eq_false, decide_true, decide_false, Int.reduceLE, Int.reduceLT, Int.reduceToNat, Int.reduceNeg, Nat.zero_add, Nat.add_zero, Nat.le_refl, Nat.sub_self, Nat.sub_zero, hg, row_of, wrap_ok, iRows_app, iRows_app1, iRows_take, List.mem_cons, List.not_mem_nil, or_false, forall_eq])))
      | (with_reducible refine RL_nil ⟨by kernel_rfl, hK _ ?_⟩; clear hK K)
      | (refine CallK_pure (c_refDef i) en_11 rfl ?_; (try simp (disch := omega) only [go_sem, ↓reduceIte, Nat.reduceEqDiff, reduceCtorEq, Nat.reduceAdd, Nat.reduceMul, Nat.reduceSub, Nat.reduceLeDiff, Nat.reduceLT, ne_eq, not_false_eq_true, not_true_eq_false, decide_true, decide_false, Int.reduceLE, Int.reduceLT, Int.reduceToNat, Int.reduceNeg, Nat.zero_add, Nat.add_zero, Nat.le_refl, Nat.sub_self, Nat.sub_zero, row_of, wrap_ok, iRows_app, iRows_app1, iRows_take, List.mem_cons, List.not_mem_nil, or_false, forall_eq]))
      | ((with_reducible refine ite_elim (fun hg => ?_) (fun hg => ?_)) <;> (try simp (disch := omega) only [go_sem, ↓reduceIte, Nat.reduceEqDiff, reduceCtorEq, Nat.reduceAdd, Nat.reduceMul, Nat.reduceSub, Nat.reduceLeDiff, Nat.reduceLT, ne_eq, not_false_eq_true, not_true_eq_false, decide_true, decide_false, Int.reduceLE, Int.reduceLT, Int.reduceToNat, Int.reduceNeg, Nat.zero_add, Nat.add_zero, Nat.le_refl, Nat.sub_self, Nat.sub_zero, hg, row_of, wrap_ok, iRows_app, iRows_app1, iRows_take, List.mem_cons, List.not_mem_nil, or_false, forall_eq]))
      | (with_reducible refine And.intro ?_ ?_)
      | (omega))
  refine AL_cut (fun L : List Int => ⟨tA [(3, .os 1 0 0 L.length)], tO [some (.rows 1 (iRows L))]⟩) (fun L => L = rwithDef i ∧ L.length ≤ 6) ?_ ?_
  · by_cases h1 : 0 ≤ rdefI i
    · have h2 : decide (0 ≤ rdefI i) = true := by simp [h1]
      by_cases hm : rdefI i ∈ rusesI i
      · repeat' (first
      | (with_reducible refine hK' _ _ ?_; clear hK' K')
      | (with_reducible refine hK' _ _ _ ?_; clear hK' K')
      | (with_reducible refine RT_step fun K' hK' => ?_; first | (refine R2_n ?_; (try simp (disch := omega) only [go_sem, ↓reduceIte, Nat.reduceEqDiff, reduceCtorEq, Nat.reduceAdd, Nat.reduceMul, Nat.reduceSub, Nat.reduceLeDiff, Nat.reduceLT, ne_eq, not_false_eq_true, not_true_eq_false, decide_true, decide_false, Int.reduceLE, Int.reduceLT, Int.reduceToNat, Int.reduceNeg, Nat.zero_add, Nat.add_zero, Nat.le_refl, Nat.sub_self, Nat.sub_zero, row_of, wrap_ok, iRows_app, iRows_app1, iRows_take, List.mem_cons, List.not_mem_nil, or_false, forall_eq])) | (refine R2_gf rfl rfl (by first | with_reducible rfl | assumption | decide) ?_) | (refine R2_gf' rfl rfl (by first | with_reducible rfl | assumption | decide) ?_) | (refine R2_gu rfl rfl ?_) | (refine R2_gt rfl rfl (by first | with_reducible rfl | assumption | decide) ?_; (try simp (disch := omega) only [go_sem, ↓reduceIte, Nat.reduceEqDiff, reduceCtorEq, Nat.reduceAdd, Nat.reduceMul, Nat.reduceSub, Nat.reduceLeDiff, Nat.reduceLT, ne_eq, not_false_eq_true, not_true_eq_false, decide_true, decide_false, Int.reduceLE, Int.reduceLT, Int.reduceToNat, Int.reduceNeg, Nat.zero_add, Nat.add_zero, Nat.le_refl, Nat.sub_self, Nat.sub_zero, row_of, wrap_ok, iRows_app, iRows_app1, iRows_take, List.mem_cons, List.not_mem_nil, or_false, forall_eq])) | ((refine R2_g rfl rfl (fun hg => ?_) (fun hg => ?_) rfl) <;> (try simp only [Bool.not_true, Bool.not_false] at hg) <;> (try simp (disch := omega) only [go_sem, ↓reduceIte, Nat.reduceEqDiff, reduceCtorEq, Nat.reduceAdd, Nat.reduceMul, Nat.reduceSub, Nat.reduceLeDiff, Nat.reduceLT, ne_eq, not_false_eq_true, not_true_eq_false, decide_true, decide_false, Int.reduceLE, Int.reduceLT, Int.reduceToNat, Int.reduceNeg, Nat.zero_add, Nat.add_zero, Nat.le_refl, Nat.sub_self, Nat.sub_zero, hg, row_of, wrap_ok, iRows_app, iRows_app1, iRows_take, List.mem_cons, List.not_mem_nil, or_false, forall_eq])))
      | (with_reducible refine RT_nil ?_; refine hK _ ?_; clear hK K)
      | (with_reducible refine RL_step fun K' hK' => ?_; first | (refine L2_n ?_; (try simp (disch := omega) only [go_sem, ↓reduceIte, Nat.reduceEqDiff, reduceCtorEq, Nat.reduceAdd, Nat.reduceMul, Nat.reduceSub, Nat.reduceLeDiff, Nat.reduceLT, ne_eq, not_false_eq_true, not_true_eq_false, decide_true, decide_false, Int.reduceLE, Int.reduceLT, Int.reduceToNat, Int.reduceNeg, Nat.zero_add, Nat.add_zero, Nat.le_refl, Nat.sub_self, Nat.sub_zero, row_of, wrap_ok, iRows_app, iRows_app1, iRows_take, List.mem_cons, List.not_mem_nil, or_false, forall_eq])) | (refine L2_gf rfl rfl (by first | with_reducible rfl | assumption | decide) ?_) | (refine L2_gf' rfl rfl (by first | with_reducible rfl | assumption | decide) ?_) | (refine L2_gu rfl rfl ?_) | (refine L2_gt rfl rfl (by first | with_reducible rfl | assumption | decide) ?_; (try simp (disch := omega) only [go_sem, ↓reduceIte, Nat.reduceEqDiff, reduceCtorEq, Nat.reduceAdd, Nat.reduceMul, Nat.reduceSub, Nat.reduceLeDiff, Nat.reduceLT, ne_eq, not_false_eq_true, not_true_eq_false, decide_true, decide_false, Int.reduceLE, Int.reduceLT, Int.reduceToNat, Int.reduceNeg, Nat.zero_add, Nat.add_zero, Nat.le_refl, Nat.sub_self, Nat.sub_zero, row_of, wrap_ok, iRows_app, iRows_app1, iRows_take, List.mem_cons, List.not_mem_nil, or_false, forall_eq])) | ((refine L2_g rfl rfl (fun hg => ?_) (fun hg => ?_) rfl) <;> (try simp only [Bool.not_true, Bool.not_false] at hg) <;> (try simp (disch := omega) only [go_sem, ↓reduceIte, Nat.reduceEqDiff, reduceCtorEq, Nat.reduceAdd, Nat.reduceMul, Nat.reduceSub, Nat.reduceLeDiff, Nat.reduceLT, ne_eq, not_false_eq_true, not_true_eq_false, decide_true, decide_false, Int.reduceLE, Int.reduceLT, Int.reduceToNat, Int.reduceNeg, Nat.zero_add, Nat.add_zero, Nat.le_refl, Nat.sub_self, Nat.sub_zero, hg, row_of, wrap_ok, iRows_app, iRows_app1, iRows_take, List.mem_cons, List.not_mem_nil, or_false, forall_eq])))
      | (with_reducible refine RL_nil ⟨by kernel_rfl, hK _ ?_⟩; clear hK K)
      | (with_reducible refine AL_seq ?_)
      | (with_reducible refine AL_skip ?_)
      | (with_reducible refine AL_nil ?_)
      | (with_reducible refine SeqQ_n ?_)
      | (with_reducible refine BlockQ_n ?_)
      | (refine AL_text2 rfl fun K hK => ?_; simp only [List.map_cons, List.map_nil])
      | (refine AL_draw2 mixed rfl (by kernel_rfl) fun K hK => ?_; simp only [List.map_cons, List.map_nil])
      | (with_reducible refine AL_block ?_)
      | (with_reducible refine AL_exit ?_; simp only [SeqQ, BlockQ, ↓reduceIte, Nat.reduceEqDiff, reduceCtorEq])
      | (refine AL_cond_t' rfl (by first | with_reducible rfl | assumption | decide) ?_)
      | (refine AL_cond_f' rfl (by first | with_reducible rfl | assumption | decide) ?_)
      | (refine AL_condb rfl (fun hg => ?_) (fun hg => ?_) <;> (try simp only [Bool.not_eq_true', Bool.not_eq_false'] at hg))
      | (refine CallK_pure (c_refDef i) en_11 rfl ?_; (try simp (disch := omega) only [go_sem, ↓reduceIte, Nat.reduceEqDiff, reduceCtorEq, Nat.reduceAdd, Nat.reduceMul, Nat.reduceSub, Nat.reduceLeDiff, Nat.reduceLT, ne_eq, not_false_eq_true, not_true_eq_false, decide_true, decide_false, Int.reduceLE, Int.reduceLT, Int.reduceToNat, Int.reduceNeg, Nat.zero_add, Nat.add_zero, Nat.le_refl, Nat.sub_self, Nat.sub_zero, row_of, wrap_ok, iRows_app, iRows_app1, iRows_take, List.mem_cons, List.not_mem_nil, or_false, forall_eq]))
      | (refine CallK_ec (ec_add_in (rusesI i) (rdefI i) hm) en_37 [1] 2 (by decide) (by simp [go_sem]) rfl (by decide) (by simp [go_sem]) (by simp [go_sem]) (by simp [go_sem]) (by simp [go_sem]) ?_; (try simp (disch := omega) only [go_sem, ↓reduceIte, Nat.reduceEqDiff, reduceCtorEq, Nat.reduceAdd, Nat.reduceMul, Nat.reduceSub, Nat.reduceLeDiff, Nat.reduceLT, ne_eq, not_false_eq_true, not_true_eq_false, decide_true, decide_false, Int.reduceLE, Int.reduceLT, Int.reduceToNat, Int.reduceNeg, Nat.zero_add, Nat.add_zero, Nat.le_refl, Nat.sub_self, Nat.sub_zero, row_of, wrap_ok, iRows_app, iRows_app1, iRows_take, List.mem_cons, List.not_mem_nil, or_false, forall_eq]))
      | ((with_reducible refine ite_elim (fun hg => ?_) (fun hg => ?_)) <;> (try simp (disch := omega) only [go_sem, ↓reduceIte, Nat.reduceEqDiff, reduceCtorEq, Nat.reduceAdd, Nat.reduceMul, Nat.reduceSub, Nat.reduceLeDiff, Nat.reduceLT, ne_eq, not_false_eq_true, not_true_eq_false, decide_true, decide_false, Int.reduceLE, Int.reduceLT, Int.reduceToNat, Int.reduceNeg, Nat.zero_add, Nat.add_zero, Nat.le_refl, Nat.sub_self, Nat.sub_zero, hg, row_of, wrap_ok, iRows_app, iRows_app1, iRows_take, List.mem_cons, List.not_mem_nil, or_false, forall_eq]))
      | (with_reducible refine And.intro ?_ ?_)
      | (omega))
        (repeat (first | (with_reducible refine AL_nil ?_) | (with_reducible refine SeqQ_n ?_) | (with_reducible refine BlockQ_n ?_))); exact ⟨rusesI i, ⟨by simp [rwithDef, h1, addL, hm], by omega⟩, weak_t [1] _ _ rfl (by decide) ⟨by decide, by decide⟩ (by simp [go_sem]) (by simp [go_sem])⟩
      · repeat' (first
      | (with_reducible refine hK' _ _ ?_; clear hK' K')
      | (with_reducible refine hK' _ _ _ ?_; clear hK' K')
      | (with_reducible refine RT_step fun K' hK' => ?_; first | (refine R2_n ?_; (try simp (disch := omega) only [go_sem, ↓reduceIte, Nat.reduceEqDiff, reduceCtorEq, Nat.reduceAdd, Nat.reduceMul, Nat.reduceSub, Nat.reduceLeDiff, Nat.reduceLT, ne_eq, not_false_eq_true, not_true_eq_false, decide_true, decide_false, Int.reduceLE, Int.reduceLT, Int.reduceToNat, Int.reduceNeg, Nat.zero_add, Nat.add_zero, Nat.le_refl, Nat.sub_self, Nat.sub_zero, row_of, wrap_ok, iRows_app, iRows_app1, iRows_take, List.mem_cons, List.not_mem_nil, or_false, forall_eq])) | (refine R2_gf rfl rfl (by first | with_reducible rfl | assumption | decide) ?_) | (refine R2_gf' rfl rfl (by first | with_reducible rfl | assumption | decide) ?_) | (refine R2_gu rfl rfl ?_) | (refine R2_gt rfl rfl (by first | with_reducible rfl | assumption | decide) ?_; (try simp (disch := omega) only [go_sem, ↓reduceIte, Nat.reduceEqDiff, reduceCtorEq, Nat.reduceAdd, Nat.reduceMul, Nat.reduceSub, Nat.reduceLeDiff, Nat.reduceLT, ne_eq, not_false_eq_true, not_true_eq_false, decide_true, decide_false, Int.reduceLE, Int.reduceLT, Int.reduceToNat, Int.reduceNeg, Nat.zero_add, Nat.add_zero, Nat.le_refl, Nat.sub_self, Nat.sub_zero, row_of, wrap_ok, iRows_app, iRows_app1, iRows_take, List.mem_cons, List.not_mem_nil, or_false, forall_eq])) | ((refine R2_g rfl rfl (fun hg => ?_) (fun hg => ?_) rfl) <;> (try simp only [Bool.not_true, Bool.not_false] at hg) <;> (try simp (disch := omega) only [go_sem, ↓reduceIte, Nat.reduceEqDiff, reduceCtorEq, Nat.reduceAdd, Nat.reduceMul, Nat.reduceSub, Nat.reduceLeDiff, Nat.reduceLT, ne_eq, not_false_eq_true, not_true_eq_false, decide_true, decide_false, Int.reduceLE, Int.reduceLT, Int.reduceToNat, Int.reduceNeg, Nat.zero_add, Nat.add_zero, Nat.le_refl, Nat.sub_self, Nat.sub_zero, hg, row_of, wrap_ok, iRows_app, iRows_app1, iRows_take, List.mem_cons, List.not_mem_nil, or_false, forall_eq])))
      | (with_reducible refine RT_nil ?_; refine hK _ ?_; clear hK K)
      | (with_reducible refine RL_step fun K' hK' => ?_; first | (refine L2_n ?_; (try simp (disch := omega) only [go_sem, ↓reduceIte, Nat.reduceEqDiff, reduceCtorEq, Nat.reduceAdd, Nat.reduceMul, Nat.reduceSub, Nat.reduceLeDiff, Nat.reduceLT, ne_eq, not_false_eq_true, not_true_eq_false, decide_true, decide_false, Int.reduceLE, Int.reduceLT, Int.reduceToNat, Int.reduceNeg, Nat.zero_add, Nat.add_zero, Nat.le_refl, Nat.sub_self, Nat.sub_zero, row_of, wrap_ok, iRows_app, iRows_app1, iRows_take, List.mem_cons, List.not_mem_nil, or_false, forall_eq])) | (refine L2_gf rfl rfl (by first | with_reducible rfl | assumption | decide) ?_) | (refine L2_gf' rfl rfl (by first | with_reducible rfl | assumption | decide) ?_) | (refine L2_gu rfl rfl ?_) | (refine L2_gt rfl rfl (by first | with_reducible rfl | assumption | decide) ?_; (try simp (disch := omega) only [go_sem, ↓reduceIte, Nat.reduceEqDiff, reduceCtorEq, Nat.reduceAdd, Nat.reduceMul, Nat.reduceSub, Nat.reduceLeDiff, Nat.reduceLT, ne_eq, not_false_eq_true, not_true_eq_false, decide_true, decide_false, Int.reduceLE, Int.reduceLT, Int.reduceToNat, Int.reduceNeg, Nat.zero_add, Nat.add_zero, Nat.le_refl, Nat.sub_self, Nat.sub_zero, row_of, wrap_ok, iRows_app, iRows_app1, iRows_take, List.mem_cons, List.not_mem_nil, or_false, forall_eq])) | ((refine L2_g rfl rfl (fun hg => ?_) (fun hg => ?_) rfl) <;> (try simp only [Bool.not_true, Bool.not_false] at hg) <;> (try simp (disch := omega) only [go_sem, ↓reduceIte, Nat.reduceEqDiff, reduceCtorEq, Nat.reduceAdd, Nat.reduceMul, Nat.reduceSub, Nat.reduceLeDiff, Nat.reduceLT, ne_eq, not_false_eq_true, not_true_eq_false, decide_true, decide_false, Int.reduceLE, Int.reduceLT, Int.reduceToNat, Int.reduceNeg, Nat.zero_add, Nat.add_zero, Nat.le_refl, Nat.sub_self, Nat.sub_zero, hg, row_of, wrap_ok, iRows_app, iRows_app1, iRows_take, List.mem_cons, List.not_mem_nil, or_false, forall_eq])))
      | (with_reducible refine RL_nil ⟨by kernel_rfl, hK _ ?_⟩; clear hK K)
      | (with_reducible refine AL_seq ?_)
      | (with_reducible refine AL_skip ?_)
      | (with_reducible refine AL_nil ?_)
      | (with_reducible refine SeqQ_n ?_)
      | (with_reducible refine BlockQ_n ?_)
      | (refine AL_text2 rfl fun K hK => ?_; simp only [List.map_cons, List.map_nil])
      | (refine AL_draw2 mixed rfl (by kernel_rfl) fun K hK => ?_; simp only [List.map_cons, List.map_nil])
      | (with_reducible refine AL_block ?_)
      | (with_reducible refine AL_exit ?_; simp only [SeqQ, BlockQ, ↓reduceIte, Nat.reduceEqDiff, reduceCtorEq])
      | (refine AL_cond_t' rfl (by first | with_reducible rfl | assumption | decide) ?_)
      | (refine AL_cond_f' rfl (by first | with_reducible rfl | assumption | decide) ?_)
      | (refine AL_condb rfl (fun hg => ?_) (fun hg => ?_) <;> (try simp only [Bool.not_eq_true', Bool.not_eq_false'] at hg))
      | (refine CallK_pure (c_refDef i) en_11 rfl ?_; (try simp (disch := omega) only [go_sem, ↓reduceIte, Nat.reduceEqDiff, reduceCtorEq, Nat.reduceAdd, Nat.reduceMul, Nat.reduceSub, Nat.reduceLeDiff, Nat.reduceLT, ne_eq, not_false_eq_true, not_true_eq_false, decide_true, decide_false, Int.reduceLE, Int.reduceLT, Int.reduceToNat, Int.reduceNeg, Nat.zero_add, Nat.add_zero, Nat.le_refl, Nat.sub_self, Nat.sub_zero, row_of, wrap_ok, iRows_app, iRows_app1, iRows_take, List.mem_cons, List.not_mem_nil, or_false, forall_eq]))
      | (refine CallK_ec (ec_add_out (rusesI i) (rdefI i) hm (by omega)) en_37 [1, 2] 3 (by decide) (by simp [go_sem]) rfl (by decide) (by simp [go_sem]) (by simp [go_sem]) (by simp [go_sem]) (by simp [go_sem]) ?_; (try simp (disch := omega) only [go_sem, ↓reduceIte, Nat.reduceEqDiff, reduceCtorEq, Nat.reduceAdd, Nat.reduceMul, Nat.reduceSub, Nat.reduceLeDiff, Nat.reduceLT, ne_eq, not_false_eq_true, not_true_eq_false, decide_true, decide_false, Int.reduceLE, Int.reduceLT, Int.reduceToNat, Int.reduceNeg, Nat.zero_add, Nat.add_zero, Nat.le_refl, Nat.sub_self, Nat.sub_zero, row_of, wrap_ok, iRows_app, iRows_app1, iRows_take, List.mem_cons, List.not_mem_nil, or_false, forall_eq]))
      | ((with_reducible refine ite_elim (fun hg => ?_) (fun hg => ?_)) <;> (try simp (disch := omega) only [go_sem, ↓reduceIte, Nat.reduceEqDiff, reduceCtorEq, Nat.reduceAdd, Nat.reduceMul, Nat.reduceSub, Nat.reduceLeDiff, Nat.reduceLT, ne_eq, not_false_eq_true, not_true_eq_false, decide_true, decide_false, Int.reduceLE, Int.reduceLT, Int.reduceToNat, Int.reduceNeg, Nat.zero_add, Nat.add_zero, Nat.le_refl, Nat.sub_self, Nat.sub_zero, hg, row_of, wrap_ok, iRows_app, iRows_app1, iRows_take, List.mem_cons, List.not_mem_nil, or_false, forall_eq]))
      | (with_reducible refine And.intro ?_ ?_)
      | (omega))
        (repeat (first | (with_reducible refine AL_nil ?_) | (with_reducible refine SeqQ_n ?_) | (with_reducible refine BlockQ_n ?_))); exact ⟨rusesI i ++ [rdefI i], ⟨by simp [rwithDef, h1, addL, hm], by simp; omega⟩, weak_t [2] _ _ rfl (by decide) ⟨by decide, by decide⟩ (by simp [go_sem]) (by simp [go_sem])⟩
    · have h2 : decide (0 ≤ rdefI i) = false := by simp [h1]
      repeat' (first
      | (with_reducible refine hK' _ _ ?_; clear hK' K')
      | (with_reducible refine hK' _ _ _ ?_; clear hK' K')
      | (with_reducible refine RT_step fun K' hK' => ?_; first | (refine R2_n ?_; (try simp (disch := omega) only [go_sem, ↓reduceIte, Nat.reduceEqDiff, reduceCtorEq, Nat.reduceAdd, Nat.reduceMul, Nat.reduceSub, Nat.reduceLeDiff, Nat.reduceLT, ne_eq, not_false_eq_true, not_true_eq_false, decide_true, decide_false, Int.reduceLE, Int.reduceLT, Int.reduceToNat, Int.reduceNeg, Nat.zero_add, Nat.add_zero, Nat.le_refl, Nat.sub_self, Nat.sub_zero, row_of, wrap_ok, iRows_app, iRows_app1, iRows_take, List.mem_cons, List.not_mem_nil, or_false, forall_eq])) | (refine R2_gf rfl rfl (by first | with_reducible rfl | assumption | decide) ?_) | (refine R2_gf' rfl rfl (by first | with_reducible rfl | assumption | decide) ?_) | (refine R2_gu rfl rfl ?_) | (refine R2_gt rfl rfl (by first | with_reducible rfl | assumption | decide) ?_; (try simp (disch := omega) only [go_sem, ↓reduceIte, Nat.reduceEqDiff, reduceCtorEq, Nat.reduceAdd, Nat.reduceMul, Nat.reduceSub, Nat.reduceLeDiff, Nat.reduceLT, ne_eq, not_false_eq_true, not_true_eq_false, decide_true, decide_false, Int.reduceLE, Int.reduceLT, Int.reduceToNat, Int.reduceNeg, Nat.zero_add, Nat.add_zero, Nat.le_refl, Nat.sub_self, Nat.sub_zero, row_of, wrap_ok, iRows_app, iRows_app1, iRows_take, List.mem_cons, List.not_mem_nil, or_false, forall_eq])) | ((refine R2_g rfl rfl (fun hg => ?_) (fun hg => ?_) rfl) <;> (try simp only [Bool.not_true, Bool.not_false] at hg) <;> (try simp (disch := omega) only [go_sem, ↓reduceIte, Nat.reduceEqDiff, reduceCtorEq, Nat.reduceAdd, Nat.reduceMul, Nat.reduceSub, Nat.reduceLeDiff, Nat.reduceLT, ne_eq, not_false_eq_true, not_true_eq_false, decide_true, decide_false, Int.reduceLE, Int.reduceLT, Int.reduceToNat, Int.reduceNeg, Nat.zero_add, Nat.add_zero, Nat.le_refl, Nat.sub_self, Nat.sub_zero, hg, row_of, wrap_ok, iRows_app, iRows_app1, iRows_take, List.mem_cons, List.not_mem_nil, or_false, forall_eq])))
      | (with_reducible refine RT_nil ?_; refine hK _ ?_; clear hK K)
      | (with_reducible refine RL_step fun K' hK' => ?_; first | (refine L2_n ?_; (try simp (disch := omega) only [go_sem, ↓reduceIte, Nat.reduceEqDiff, reduceCtorEq, Nat.reduceAdd, Nat.reduceMul, Nat.reduceSub, Nat.reduceLeDiff, Nat.reduceLT, ne_eq, not_false_eq_true, not_true_eq_false, decide_true, decide_false, Int.reduceLE, Int.reduceLT, Int.reduceToNat, Int.reduceNeg, Nat.zero_add, Nat.add_zero, Nat.le_refl, Nat.sub_self, Nat.sub_zero, row_of, wrap_ok, iRows_app, iRows_app1, iRows_take, List.mem_cons, List.not_mem_nil, or_false, forall_eq])) | (refine L2_gf rfl rfl (by first | with_reducible rfl | assumption | decide) ?_) | (refine L2_gf' rfl rfl (by first | with_reducible rfl | assumption | decide) ?_) | (refine L2_gu rfl rfl ?_) | (refine L2_gt rfl rfl (by first | with_reducible rfl | assumption | decide) ?_; (try simp (disch := omega) only [go_sem, ↓reduceIte, Nat.reduceEqDiff, reduceCtorEq, Nat.reduceAdd, Nat.reduceMul, Nat.reduceSub, Nat.reduceLeDiff, Nat.reduceLT, ne_eq, not_false_eq_true, not_true_eq_false, decide_true, decide_false, Int.reduceLE, Int.reduceLT, Int.reduceToNat, Int.reduceNeg, Nat.zero_add, Nat.add_zero, Nat.le_refl, Nat.sub_self, Nat.sub_zero, row_of, wrap_ok, iRows_app, iRows_app1, iRows_take, List.mem_cons, List.not_mem_nil, or_false, forall_eq])) | ((refine L2_g rfl rfl (fun hg => ?_) (fun hg => ?_) rfl) <;> (try simp only [Bool.not_true, Bool.not_false] at hg) <;> (try simp (disch := omega) only [go_sem, ↓reduceIte, Nat.reduceEqDiff, reduceCtorEq, Nat.reduceAdd, Nat.reduceMul, Nat.reduceSub, Nat.reduceLeDiff, Nat.reduceLT, ne_eq, not_false_eq_true, not_true_eq_false, decide_true, decide_false, Int.reduceLE, Int.reduceLT, Int.reduceToNat, Int.reduceNeg, Nat.zero_add, Nat.add_zero, Nat.le_refl, Nat.sub_self, Nat.sub_zero, hg, row_of, wrap_ok, iRows_app, iRows_app1, iRows_take, List.mem_cons, List.not_mem_nil, or_false, forall_eq])))
      | (with_reducible refine RL_nil ⟨by kernel_rfl, hK _ ?_⟩; clear hK K)
      | (with_reducible refine AL_seq ?_)
      | (with_reducible refine AL_skip ?_)
      | (with_reducible refine AL_nil ?_)
      | (with_reducible refine SeqQ_n ?_)
      | (with_reducible refine BlockQ_n ?_)
      | (refine AL_text2 rfl fun K hK => ?_; simp only [List.map_cons, List.map_nil])
      | (refine AL_draw2 mixed rfl (by kernel_rfl) fun K hK => ?_; simp only [List.map_cons, List.map_nil])
      | (with_reducible refine AL_block ?_)
      | (with_reducible refine AL_exit ?_; simp only [SeqQ, BlockQ, ↓reduceIte, Nat.reduceEqDiff, reduceCtorEq])
      | (refine AL_cond_t' rfl (by first | with_reducible rfl | assumption | decide) ?_)
      | (refine AL_cond_f' rfl (by first | with_reducible rfl | assumption | decide) ?_)
      | (refine AL_condb rfl (fun hg => ?_) (fun hg => ?_) <;> (try simp only [Bool.not_eq_true', Bool.not_eq_false'] at hg))
      | ((with_reducible refine ite_elim (fun hg => ?_) (fun hg => ?_)) <;> (try simp (disch := omega) only [go_sem, ↓reduceIte, Nat.reduceEqDiff, reduceCtorEq, Nat.reduceAdd, Nat.reduceMul, Nat.reduceSub, Nat.reduceLeDiff, Nat.reduceLT, ne_eq, not_false_eq_true, not_true_eq_false, decide_true, decide_false, Int.reduceLE, Int.reduceLT, Int.reduceToNat, Int.reduceNeg, Nat.zero_add, Nat.add_zero, Nat.le_refl, Nat.sub_self, Nat.sub_zero, hg, row_of, wrap_ok, iRows_app, iRows_app1, iRows_take, List.mem_cons, List.not_mem_nil, or_false, forall_eq]))
      | (with_reducible refine And.intro ?_ ?_)
      | (omega))
      (repeat (first | (with_reducible refine AL_nil ?_) | (with_reducible refine SeqQ_n ?_) | (with_reducible refine BlockQ_n ?_))); exact ⟨rusesI i, ⟨by simp [rwithDef, h1], by omega⟩, weak_t [1] _ _ rfl (by decide) ⟨by decide, by decide⟩ (by simp [go_sem]) (by simp [go_sem])⟩
  rintro L ⟨hLe, hL⟩
  (repeat (first | (with_reducible refine AL_seq ?_) | (with_reducible refine AL_skip ?_) | (with_reducible refine AL_nil ?_) | (with_reducible refine SeqQ_n ?_) | (with_reducible refine BlockQ_n ?_))); (first
      | (refine AL_text2 rfl fun K hK => ?_; simp only [List.map_cons, List.map_nil])
      | (refine AL_draw2 mixed rfl (by kernel_rfl) fun K hK => ?_; simp only [List.map_cons, List.map_nil])
      | (with_reducible refine AL_block ?_)
      | (with_reducible refine AL_exit ?_; simp only [SeqQ, BlockQ, ↓reduceIte, Nat.reduceEqDiff, reduceCtorEq])
      | (refine AL_cond_t' rfl (by first | with_reducible rfl | assumption | decide) ?_)
      | (refine AL_cond_f' rfl (by first | with_reducible rfl | assumption | decide) ?_)
      | (refine AL_condb rfl (fun hg => ?_) (fun hg => ?_) <;> (try simp only [Bool.not_eq_true', Bool.not_eq_false'] at hg))); repeat' (first
      | (with_reducible refine hK' _ _ ?_; clear hK' K')
      | (with_reducible refine hK' _ _ _ ?_; clear hK' K')
      | (with_reducible refine RT_step fun K' hK' => ?_; first | (refine R2_n ?_; (try simp (disch := omega) only [go_sem, ↓reduceIte, Nat.reduceEqDiff, reduceCtorEq, Nat.reduceAdd, Nat.reduceMul, Nat.reduceSub, Nat.reduceLeDiff, Nat.reduceLT, ne_eq, not_false_eq_true, not_true_eq_false, decide_true, decide_false, Int.reduceLE, Int.reduceLT, Int.reduceToNat, Int.reduceNeg, Nat.zero_add, Nat.add_zero, Nat.le_refl, Nat.sub_self, Nat.sub_zero, row_of, wrap_ok, iRows_app, iRows_app1, iRows_take, List.mem_cons, List.not_mem_nil, or_false, forall_eq])) | (refine R2_gf rfl rfl (by first | with_reducible rfl | assumption | decide) ?_) | (refine R2_gf' rfl rfl (by first | with_reducible rfl | assumption | decide) ?_) | (refine R2_gu rfl rfl ?_) | (refine R2_gt rfl rfl (by first | with_reducible rfl | assumption | decide) ?_; (try simp (disch := omega) only [go_sem, ↓reduceIte, Nat.reduceEqDiff, reduceCtorEq, Nat.reduceAdd, Nat.reduceMul, Nat.reduceSub, Nat.reduceLeDiff, Nat.reduceLT, ne_eq, not_false_eq_true, not_true_eq_false, decide_true, decide_false, Int.reduceLE, Int.reduceLT, Int.reduceToNat, Int.reduceNeg, Nat.zero_add, Nat.add_zero, Nat.le_refl, Nat.sub_self, Nat.sub_zero, row_of, wrap_ok, iRows_app, iRows_app1, iRows_take, List.mem_cons, List.not_mem_nil, or_false, forall_eq])) | ((refine R2_g rfl rfl (fun hg => ?_) (fun hg => ?_) rfl) <;> (try simp only [Bool.not_true, Bool.not_false] at hg) <;> (try simp (disch := omega) only [go_sem, ↓reduceIte, Nat.reduceEqDiff, reduceCtorEq, Nat.reduceAdd, Nat.reduceMul, Nat.reduceSub, Nat.reduceLeDiff, Nat.reduceLT, ne_eq, not_false_eq_true, not_true_eq_false, decide_true, decide_false, Int.reduceLE, Int.reduceLT, Int.reduceToNat, Int.reduceNeg, Nat.zero_add, Nat.add_zero, Nat.le_refl, Nat.sub_self, Nat.sub_zero, hg, row_of, wrap_ok, iRows_app, iRows_app1, iRows_take, List.mem_cons, List.not_mem_nil, or_false, forall_eq])))
      | (with_reducible refine RT_nil ?_; refine hK _ ?_; clear hK K)
      | (with_reducible refine RL_step fun K' hK' => ?_; first | (refine L2_n ?_; (try simp (disch := omega) only [go_sem, ↓reduceIte, Nat.reduceEqDiff, reduceCtorEq, Nat.reduceAdd, Nat.reduceMul, Nat.reduceSub, Nat.reduceLeDiff, Nat.reduceLT, ne_eq, not_false_eq_true, not_true_eq_false, decide_true, decide_false, Int.reduceLE, Int.reduceLT, Int.reduceToNat, Int.reduceNeg, Nat.zero_add, Nat.add_zero, Nat.le_refl, Nat.sub_self, Nat.sub_zero, row_of, wrap_ok, iRows_app, iRows_app1, iRows_take, List.mem_cons, List.not_mem_nil, or_false, forall_eq])) | (refine L2_gf rfl rfl (by first | with_reducible rfl | assumption | decide) ?_) | (refine L2_gf' rfl rfl (by first | with_reducible rfl | assumption | decide) ?_) | (refine L2_gu rfl rfl ?_) | (refine L2_gt rfl rfl (by first | with_reducible rfl | assumption | decide) ?_; (try simp (disch := omega) only [go_sem, ↓reduceIte, Nat.reduceEqDiff, reduceCtorEq, Nat.reduceAdd, Nat.reduceMul, Nat.reduceSub, Nat.reduceLeDiff, Nat.reduceLT, ne_eq, not_false_eq_true, not_true_eq_false, decide_true, decide_false, Int.reduceLE, Int.reduceLT, Int.reduceToNat, Int.reduceNeg, Nat.zero_add, Nat.add_zero, Nat.le_refl, Nat.sub_self, Nat.sub_zero, row_of, wrap_ok, iRows_app, iRows_app1, iRows_take, List.mem_cons, List.not_mem_nil, or_false, forall_eq])) | ((refine L2_g rfl rfl (fun hg => ?_) (fun hg => ?_) rfl) <;> (try simp only [Bool.not_true, Bool.not_false] at hg) <;> (try simp (disch := omega) only [go_sem, ↓reduceIte, Nat.reduceEqDiff, reduceCtorEq, Nat.reduceAdd, Nat.reduceMul, Nat.reduceSub, Nat.reduceLeDiff, Nat.reduceLT, ne_eq, not_false_eq_true, not_true_eq_false, decide_true, decide_false, Int.reduceLE, Int.reduceLT, Int.reduceToNat, Int.reduceNeg, Nat.zero_add, Nat.add_zero, Nat.le_refl, Nat.sub_self, Nat.sub_zero, hg, row_of, wrap_ok, iRows_app, iRows_app1, iRows_take, List.mem_cons, List.not_mem_nil, or_false, forall_eq])))
      | (with_reducible refine RL_nil ⟨by kernel_rfl, hK _ ?_⟩; clear hK K)
      | ((with_reducible refine ite_elim (fun hg => ?_) (fun hg => ?_)) <;> (try simp (disch := omega) only [go_sem, ↓reduceIte, Nat.reduceEqDiff, reduceCtorEq, Nat.reduceAdd, Nat.reduceMul, Nat.reduceSub, Nat.reduceLeDiff, Nat.reduceLT, ne_eq, not_false_eq_true, not_true_eq_false, decide_true, decide_false, Int.reduceLE, Int.reduceLT, Int.reduceToNat, Int.reduceNeg, Nat.zero_add, Nat.add_zero, Nat.le_refl, Nat.sub_self, Nat.sub_zero, hg, row_of, wrap_ok, iRows_app, iRows_app1, iRows_take, List.mem_cons, List.not_mem_nil, or_false, forall_eq]))
      | (with_reducible refine And.intro ?_ ?_)
      | (omega))
  refine AL_weak (weak_nil 4 1 rfl) ?_ (by simp)
  refine AL_seq ?_
  refine AL_block ?_
  refine AL_loop (fun out : List Int => ⟨tA [(3, .os 1 0 0 L.length), (4, .os 1 1 0 out.length)], tO [some (.rows 1 (iRows L)), some (.rows 1 (iRows out))]⟩)
    (fun out => out = riseN L out.length ∧ out.length ≤ L.length) (fun out => L.length - out.length) [] ⟨rfl, Nat.zero_le _⟩ (weak_t [0, 1] _ _ rfl (by decide) ⟨by decide, by decide⟩ (by simp [go_sem, ]) (by simp [go_sem, ])) ?_
  rintro out ⟨ho1, ho2⟩
  (repeat (first | (with_reducible refine AL_seq ?_) | (with_reducible refine AL_skip ?_) | (with_reducible refine AL_nil ?_) | (with_reducible refine SeqQ_n ?_) | (with_reducible refine BlockQ_n ?_))); (first
      | (refine AL_text2 rfl fun K hK => ?_; simp only [List.map_cons, List.map_nil])
      | (refine AL_draw2 mixed rfl (by kernel_rfl) fun K hK => ?_; simp only [List.map_cons, List.map_nil])
      | (with_reducible refine AL_block ?_)
      | (with_reducible refine AL_exit ?_; simp only [SeqQ, BlockQ, ↓reduceIte, Nat.reduceEqDiff, reduceCtorEq])
      | (refine AL_cond_t' rfl (by first | with_reducible rfl | assumption | decide) ?_)
      | (refine AL_cond_f' rfl (by first | with_reducible rfl | assumption | decide) ?_)
      | (refine AL_condb rfl (fun hg => ?_) (fun hg => ?_) <;> (try simp only [Bool.not_eq_true', Bool.not_eq_false'] at hg))); repeat' (first
      | (with_reducible refine hK' _ _ ?_; clear hK' K')
      | (with_reducible refine hK' _ _ _ ?_; clear hK' K')
      | (with_reducible refine RT_step fun K' hK' => ?_; first | (refine R2_n ?_; (try simp (disch := omega) only [go_sem, ↓reduceIte, Nat.reduceEqDiff, reduceCtorEq, Nat.reduceAdd, Nat.reduceMul, Nat.reduceSub, Nat.reduceLeDiff, Nat.reduceLT, ne_eq, not_false_eq_true, not_true_eq_false, decide_true, decide_false, Int.reduceLE, Int.reduceLT, Int.reduceToNat, Int.reduceNeg, Nat.zero_add, Nat.add_zero, Nat.le_refl, Nat.sub_self, Nat.sub_zero, row_of, wrap_ok, iRows_app, iRows_app1, iRows_take, List.mem_cons, List.not_mem_nil, or_false, forall_eq])) | (refine R2_gf rfl rfl (by first | with_reducible rfl | assumption | decide) ?_) | (refine R2_gf' rfl rfl (by first | with_reducible rfl | assumption | decide) ?_) | (refine R2_gu rfl rfl ?_) | (refine R2_gt rfl rfl (by first | with_reducible rfl | assumption | decide) ?_; (try simp (disch := omega) only [go_sem, ↓reduceIte, Nat.reduceEqDiff, reduceCtorEq, Nat.reduceAdd, Nat.reduceMul, Nat.reduceSub, Nat.reduceLeDiff, Nat.reduceLT, ne_eq, not_false_eq_true, not_true_eq_false, decide_true, decide_false, Int.reduceLE, Int.reduceLT, Int.reduceToNat, Int.reduceNeg, Nat.zero_add, Nat.add_zero, Nat.le_refl, Nat.sub_self, Nat.sub_zero, row_of, wrap_ok, iRows_app, iRows_app1, iRows_take, List.mem_cons, List.not_mem_nil, or_false, forall_eq])) | ((refine R2_g rfl rfl (fun hg => ?_) (fun hg => ?_) rfl) <;> (try simp only [Bool.not_true, Bool.not_false] at hg) <;> (try simp (disch := omega) only [go_sem, ↓reduceIte, Nat.reduceEqDiff, reduceCtorEq, Nat.reduceAdd, Nat.reduceMul, Nat.reduceSub, Nat.reduceLeDiff, Nat.reduceLT, ne_eq, not_false_eq_true, not_true_eq_false, decide_true, decide_false, Int.reduceLE, Int.reduceLT, Int.reduceToNat, Int.reduceNeg, Nat.zero_add, Nat.add_zero, Nat.le_refl, Nat.sub_self, Nat.sub_zero, hg, row_of, wrap_ok, iRows_app, iRows_app1, iRows_take, List.mem_cons, List.not_mem_nil, or_false, forall_eq])))
      | (with_reducible refine RT_nil ?_; refine hK _ ?_; clear hK K)
      | (with_reducible refine RL_step fun K' hK' => ?_; first | (refine L2_n ?_; (try simp (disch := omega) only [go_sem, ↓reduceIte, Nat.reduceEqDiff, reduceCtorEq, Nat.reduceAdd, Nat.reduceMul, Nat.reduceSub, Nat.reduceLeDiff, Nat.reduceLT, ne_eq, not_false_eq_true, not_true_eq_false, decide_true, decide_false, Int.reduceLE, Int.reduceLT, Int.reduceToNat, Int.reduceNeg, Nat.zero_add, Nat.add_zero, Nat.le_refl, Nat.sub_self, Nat.sub_zero, row_of, wrap_ok, iRows_app, iRows_app1, iRows_take, List.mem_cons, List.not_mem_nil, or_false, forall_eq])) | (refine L2_gf rfl rfl (by first | with_reducible rfl | assumption | decide) ?_) | (refine L2_gf' rfl rfl (by first | with_reducible rfl | assumption | decide) ?_) | (refine L2_gu rfl rfl ?_) | (refine L2_gt rfl rfl (by first | with_reducible rfl | assumption | decide) ?_; (try simp (disch := omega) only [go_sem, ↓reduceIte, Nat.reduceEqDiff, reduceCtorEq, Nat.reduceAdd, Nat.reduceMul, Nat.reduceSub, Nat.reduceLeDiff, Nat.reduceLT, ne_eq, not_false_eq_true, not_true_eq_false, decide_true, decide_false, Int.reduceLE, Int.reduceLT, Int.reduceToNat, Int.reduceNeg, Nat.zero_add, Nat.add_zero, Nat.le_refl, Nat.sub_self, Nat.sub_zero, row_of, wrap_ok, iRows_app, iRows_app1, iRows_take, List.mem_cons, List.not_mem_nil, or_false, forall_eq])) | ((refine L2_g rfl rfl (fun hg => ?_) (fun hg => ?_) rfl) <;> (try simp only [Bool.not_true, Bool.not_false] at hg) <;> (try simp (disch := omega) only [go_sem, ↓reduceIte, Nat.reduceEqDiff, reduceCtorEq, Nat.reduceAdd, Nat.reduceMul, Nat.reduceSub, Nat.reduceLeDiff, Nat.reduceLT, ne_eq, not_false_eq_true, not_true_eq_false, decide_true, decide_false, Int.reduceLE, Int.reduceLT, Int.reduceToNat, Int.reduceNeg, Nat.zero_add, Nat.add_zero, Nat.le_refl, Nat.sub_self, Nat.sub_zero, hg, row_of, wrap_ok, iRows_app, iRows_app1, iRows_take, List.mem_cons, List.not_mem_nil, or_false, forall_eq])))
      | (with_reducible refine RL_nil ⟨by kernel_rfl, hK _ ?_⟩; clear hK K)
      | ((with_reducible refine ite_elim (fun hg => ?_) (fun hg => ?_)) <;> (try simp (disch := omega) only [go_sem, ↓reduceIte, Nat.reduceEqDiff, reduceCtorEq, Nat.reduceAdd, Nat.reduceMul, Nat.reduceSub, Nat.reduceLeDiff, Nat.reduceLT, ne_eq, not_false_eq_true, not_true_eq_false, decide_true, decide_false, Int.reduceLE, Int.reduceLT, Int.reduceToNat, Int.reduceNeg, Nat.zero_add, Nat.add_zero, Nat.le_refl, Nat.sub_self, Nat.sub_zero, hg, row_of, wrap_ok, iRows_app, iRows_app1, iRows_take, List.mem_cons, List.not_mem_nil, or_false, forall_eq]))
      | (with_reducible refine And.intro ?_ ?_)
      | (omega))
  cases h2 : decide ((out.length : Int) < (L.length : Int))
  · repeat' (first
      | (with_reducible refine hK' _ _ ?_; clear hK' K')
      | (with_reducible refine hK' _ _ _ ?_; clear hK' K')
      | (with_reducible refine RT_step fun K' hK' => ?_; first | (refine R2_n ?_; (try simp (disch := omega) only [go_sem, ↓reduceIte, Nat.reduceEqDiff, reduceCtorEq, Nat.reduceAdd, Nat.reduceMul, Nat.reduceSub, Nat.reduceLeDiff, Nat.reduceLT, ne_eq, not_false_eq_true, not_true_eq_false, decide_true, decide_false, Int.reduceLE, Int.reduceLT, Int.reduceToNat, Int.reduceNeg, Nat.zero_add, Nat.add_zero, Nat.le_refl, Nat.sub_self, Nat.sub_zero, h2, row_of, wrap_ok, iRows_app, iRows_app1, iRows_take, List.mem_cons, List.not_mem_nil, or_false, forall_eq])) | (refine R2_gf rfl rfl (by first | with_reducible rfl | assumption | decide) ?_) | (refine R2_gf' rfl rfl (by first | with_reducible rfl | assumption | decide) ?_) | (refine R2_gu rfl rfl ?_) | (refine R2_gt rfl rfl (by first | with_reducible rfl | assumption | decide) ?_; (try simp (disch := omega) only [go_sem, ↓reduceIte, Nat.reduceEqDiff, reduceCtorEq, Nat.reduceAdd, Nat.reduceMul, Nat.reduceSub, Nat.reduceLeDiff, Nat.reduceLT, ne_eq, not_false_eq_true, not_true_eq_false, decide_true, decide_false, Int.reduceLE, Int.reduceLT, Int.reduceToNat, Int.reduceNeg, Nat.zero_add, Nat.add_zero, Nat.le_refl, Nat.sub_self, Nat.sub_zero, h2, row_of, wrap_ok, iRows_app, iRows_app1, iRows_take, List.mem_cons, List.not_mem_nil, or_false, forall_eq])) | ((refine R2_g rfl rfl (fun hg => ?_) (fun hg => ?_) rfl) <;> (try simp only [Bool.not_true, Bool.not_false] at hg) <;> (try simp (disch := omega) only [go_sem, ↓reduceIte, Nat.reduceEqDiff, reduceCtorEq, Nat.reduceAdd, Nat.reduceMul, Nat.reduceSub, Nat.reduceLeDiff, Nat.reduceLT, ne_eq, not_false_eq_true, not_true_eq_false, decide_true, decide_false, Int.reduceLE, Int.reduceLT, Int.reduceToNat, Int.reduceNeg, Nat.zero_add, Nat.add_zero, Nat.le_refl, Nat.sub_self, Nat.sub_zero, h2, hg, row_of, wrap_ok, iRows_app, iRows_app1, iRows_take, List.mem_cons, List.not_mem_nil, or_false, forall_eq])))
      | (with_reducible refine RT_nil ?_; refine hK _ ?_; clear hK K)
      | (with_reducible refine RL_step fun K' hK' => ?_; first | (refine L2_n ?_; (try simp (disch := omega) only [go_sem, ↓reduceIte, Nat.reduceEqDiff, reduceCtorEq, Nat.reduceAdd, Nat.reduceMul, Nat.reduceSub, Nat.reduceLeDiff, Nat.reduceLT, ne_eq, not_false_eq_true, not_true_eq_false, decide_true, decide_false, Int.reduceLE, Int.reduceLT, Int.reduceToNat, Int.reduceNeg, Nat.zero_add, Nat.add_zero, Nat.le_refl, Nat.sub_self, Nat.sub_zero, h2, row_of, wrap_ok, iRows_app, iRows_app1, iRows_take, List.mem_cons, List.not_mem_nil, or_false, forall_eq])) | (refine L2_gf rfl rfl (by first | with_reducible rfl | assumption | decide) ?_) | (refine L2_gf' rfl rfl (by first | with_reducible rfl | assumption | decide) ?_) | (refine L2_gu rfl rfl ?_) | (refine L2_gt rfl rfl (by first | with_reducible rfl | assumption | decide) ?_; (try simp (disch := omega) only [go_sem, ↓reduceIte, Nat.reduceEqDiff, reduceCtorEq, Nat.reduceAdd, Nat.reduceMul, Nat.reduceSub, Nat.reduceLeDiff, Nat.reduceLT, ne_eq, not_false_eq_true, not_true_eq_false, decide_true, decide_false, Int.reduceLE, Int.reduceLT, Int.reduceToNat, Int.reduceNeg, Nat.zero_add, Nat.add_zero, Nat.le_refl, Nat.sub_self, Nat.sub_zero, h2, row_of, wrap_ok, iRows_app, iRows_app1, iRows_take, List.mem_cons, List.not_mem_nil, or_false, forall_eq])) | ((refine L2_g rfl rfl (fun hg => ?_) (fun hg => ?_) rfl) <;> (try simp only [Bool.not_true, Bool.not_false] at hg) <;> (try simp (disch := omega) only [go_sem, ↓reduceIte, Nat.reduceEqDiff, reduceCtorEq, Nat.reduceAdd, Nat.reduceMul, Nat.reduceSub, Nat.reduceLeDiff, Nat.reduceLT, ne_eq, not_false_eq_true, not_true_eq_false, decide_true, decide_false, Int.reduceLE, Int.reduceLT, Int.reduceToNat, Int.reduceNeg, Nat.zero_add, Nat.add_zero, Nat.le_refl, Nat.sub_self, Nat.sub_zero, h2, hg, row_of, wrap_ok, iRows_app, iRows_app1, iRows_take, List.mem_cons, List.not_mem_nil, or_false, forall_eq])))
      | (with_reducible refine RL_nil ⟨by kernel_rfl, hK _ ?_⟩; clear hK K)
      | (with_reducible refine AL_seq ?_)
      | (with_reducible refine AL_skip ?_)
      | (with_reducible refine AL_nil ?_)
      | (with_reducible refine SeqQ_n ?_)
      | (with_reducible refine BlockQ_n ?_)
      | (refine AL_text2 rfl fun K hK => ?_; simp only [List.map_cons, List.map_nil])
      | (refine AL_draw2 mixed rfl (by kernel_rfl) fun K hK => ?_; simp only [List.map_cons, List.map_nil])
      | (with_reducible refine AL_block ?_)
      | (with_reducible refine AL_exit ?_; simp only [SeqQ, BlockQ, ↓reduceIte, Nat.reduceEqDiff, reduceCtorEq])
      | (refine AL_cond_t' rfl (by first | with_reducible rfl | assumption | decide) ?_)
      | (refine AL_cond_f' rfl (by first | with_reducible rfl | assumption | decide) ?_)
      | (refine AL_condb rfl (fun hg => ?_) (fun hg => ?_) <;> (try simp only [Bool.not_eq_true', Bool.not_eq_false'] at hg))
      | ((with_reducible refine ite_elim (fun hg => ?_) (fun hg => ?_)) <;> (try simp (disch := omega) only [go_sem, ↓reduceIte, Nat.reduceEqDiff, reduceCtorEq, Nat.reduceAdd, Nat.reduceMul, Nat.reduceSub, Nat.reduceLeDiff, Nat.reduceLT, ne_eq, not_false_eq_true, not_true_eq_false, decide_true, decide_false, Int.reduceLE, Int.reduceLT, Int.reduceToNat, Int.reduceNeg, Nat.zero_add, Nat.add_zero, Nat.le_refl, Nat.sub_self, Nat.sub_zero, h2, hg, row_of, wrap_ok, iRows_app, iRows_app1, iRows_take, List.mem_cons, List.not_mem_nil, or_false, forall_eq]))
      | (with_reducible refine And.intro ?_ ?_)
      | (omega))
    have hk2 : out.length = L.length := by simp at h2; omega
    have hR : out = rvarsI i := by rw [ho1, hk2, hLe]; rfl
    rw [hR]
    (refine AL_ret (PureQ_view (by simp (disch := omega) only [go_sem, ↓reduceIte, Nat.reduceEqDiff, reduceCtorEq, Nat.reduceAdd, Nat.reduceMul, Nat.reduceSub, Nat.reduceLeDiff, Nat.reduceLT, ne_eq, not_false_eq_true, not_true_eq_false, decide_true, decide_false, Int.reduceLE, Int.reduceLT, Int.reduceToNat, Int.reduceNeg, Nat.zero_add, Nat.add_zero, Nat.le_refl, Nat.sub_self, Nat.sub_zero] <;> rfl) (by simp (disch := omega) only [go_sem, ↓reduceIte, Nat.reduceEqDiff, reduceCtorEq, Nat.reduceAdd, Nat.reduceMul, Nat.reduceSub, Nat.reduceLeDiff, Nat.reduceLT, ne_eq, not_false_eq_true, not_true_eq_false, decide_true, decide_false, Int.reduceLE, Int.reduceLT, Int.reduceToNat, Int.reduceNeg, Nat.zero_add, Nat.add_zero, Nat.le_refl, Nat.sub_self, Nat.sub_zero, iRows_take])))
  have h3 : out.length < L.length := by simp at h2; omega
  (repeat (first | (with_reducible refine AL_seq ?_) | (with_reducible refine AL_skip ?_) | (with_reducible refine AL_nil ?_) | (with_reducible refine SeqQ_n ?_) | (with_reducible refine BlockQ_n ?_))); (first
      | (refine AL_text2 rfl fun K hK => ?_; simp only [List.map_cons, List.map_nil])
      | (refine AL_draw2 mixed rfl (by kernel_rfl) fun K hK => ?_; simp only [List.map_cons, List.map_nil])
      | (with_reducible refine AL_block ?_)
      | (with_reducible refine AL_exit ?_; simp only [SeqQ, BlockQ, ↓reduceIte, Nat.reduceEqDiff, reduceCtorEq])
      | (refine AL_cond_t' rfl (by first | with_reducible rfl | assumption | decide) ?_)
      | (refine AL_cond_f' rfl (by first | with_reducible rfl | assumption | decide) ?_)
      | (refine AL_condb rfl (fun hg => ?_) (fun hg => ?_) <;> (try simp only [Bool.not_eq_true', Bool.not_eq_false'] at hg))); repeat' (first
      | (with_reducible refine hK' _ _ ?_; clear hK' K')
      | (with_reducible refine hK' _ _ _ ?_; clear hK' K')
      | (with_reducible refine RT_step fun K' hK' => ?_; first | (refine R2_n ?_; (try simp (disch := omega) only [go_sem, ↓reduceIte, Nat.reduceEqDiff, reduceCtorEq, Nat.reduceAdd, Nat.reduceMul, Nat.reduceSub, Nat.reduceLeDiff, Nat.reduceLT, ne_eq, not_false_eq_true, not_true_eq_false, decide_true, decide_false, Int.reduceLE, Int.reduceLT, Int.reduceToNat, Int.reduceNeg, Nat.zero_add, Nat.add_zero, Nat.le_refl, Nat.sub_self, Nat.sub_zero, h2, row_of, wrap_ok, iRows_app, iRows_app1, iRows_take, List.mem_cons, List.not_mem_nil, or_false, forall_eq])) | (refine R2_gf rfl rfl (by first | with_reducible rfl | assumption | decide) ?_) | (refine R2_gf' rfl rfl (by first | with_reducible rfl | assumption | decide) ?_) | (refine R2_gu rfl rfl ?_) | (refine R2_gt rfl rfl (by first | with_reducible rfl | assumption | decide) ?_; (try simp (disch := omega) only [go_sem, ↓reduceIte, Nat.reduceEqDiff, reduceCtorEq, Nat.reduceAdd, Nat.reduceMul, Nat.reduceSub, Nat.reduceLeDiff, Nat.reduceLT, ne_eq, not_false_eq_true, not_true_eq_false, decide_true, decide_false, Int.reduceLE, Int.reduceLT, Int.reduceToNat, Int.reduceNeg, Nat.zero_add, Nat.add_zero, Nat.le_refl, Nat.sub_self, Nat.sub_zero, h2, row_of, wrap_ok, iRows_app, iRows_app1, iRows_take, List.mem_cons, List.not_mem_nil, or_false, forall_eq])) | ((refine R2_g rfl rfl (fun hg => ?_) (fun hg => ?_) rfl) <;> (try simp only [Bool.not_true, Bool.not_false] at hg) <;> (try simp (disch := omega) only [go_sem, ↓reduceIte, Nat.reduceEqDiff, reduceCtorEq, Nat.reduceAdd, Nat.reduceMul, Nat.reduceSub, Nat.reduceLeDiff, Nat.reduceLT, ne_eq, not_false_eq_true, not_true_eq_false, decide_true, decide_false, Int.reduceLE, Int.reduceLT, Int.reduceToNat, Int.reduceNeg, Nat.zero_add, Nat.add_zero, Nat.le_refl, Nat.sub_self, Nat.sub_zero, h2, hg, row_of, wrap_ok, iRows_app, iRows_app1, iRows_take, List.mem_cons, List.not_mem_nil, or_false, forall_eq])))
      | (with_reducible refine RT_nil ?_; refine hK _ ?_; clear hK K)
      | (with_reducible refine RL_step fun K' hK' => ?_; first | (refine L2_n ?_; (try simp (disch := omega) only [go_sem, ↓reduceIte, Nat.reduceEqDiff, reduceCtorEq, Nat.reduceAdd, Nat.reduceMul, Nat.reduceSub, Nat.reduceLeDiff, Nat.reduceLT, ne_eq, not_false_eq_true, not_true_eq_false, decide_true, decide_false, Int.reduceLE, Int.reduceLT, Int.reduceToNat, Int.reduceNeg, Nat.zero_add, Nat.add_zero, Nat.le_refl, Nat.sub_self, Nat.sub_zero, h2, row_of, wrap_ok, iRows_app, iRows_app1, iRows_take, List.mem_cons, List.not_mem_nil, or_false, forall_eq])) | (refine L2_gf rfl rfl (by first | with_reducible rfl | assumption | decide) ?_) | (refine L2_gf' rfl rfl (by first | with_reducible rfl | assumption | decide) ?_) | (refine L2_gu rfl rfl ?_) | (refine L2_gt rfl rfl (by first | with_reducible rfl | assumption | decide) ?_; (try simp (disch := omega) only [go_sem, ↓reduceIte, Nat.reduceEqDiff, reduceCtorEq, Nat.reduceAdd, Nat.reduceMul, Nat.reduceSub, Nat.reduceLeDiff, Nat.reduceLT, ne_eq, not_false_eq_true, not_true_eq_false, decide_true, decide_false, Int.reduceLE, Int.reduceLT, Int.reduceToNat, Int.reduceNeg, Nat.zero_add, Nat.add_zero, Nat.le_refl, Nat.sub_self, Nat.sub_zero, h2, row_of, wrap_ok, iRows_app, iRows_app1, iRows_take, List.mem_cons, List.not_mem_nil, or_false, forall_eq])) | ((refine L2_g rfl rfl (fun hg => ?_) (fun hg => ?_) rfl) <;> (try simp only [Bool.not_true, Bool.not_false] at hg) <;> (try simp (disch := omega) only [go_sem, ↓reduceIte, Nat.reduceEqDiff, reduceCtorEq, Nat.reduceAdd, Nat.reduceMul, Nat.reduceSub, Nat.reduceLeDiff, Nat.reduceLT, ne_eq, not_false_eq_true, not_true_eq_false, decide_true, decide_false, Int.reduceLE, Int.reduceLT, Int.reduceToNat, Int.reduceNeg, Nat.zero_add, Nat.add_zero, Nat.le_refl, Nat.sub_self, Nat.sub_zero, h2, hg, row_of, wrap_ok, iRows_app, iRows_app1, iRows_take, List.mem_cons, List.not_mem_nil, or_false, forall_eq])))
      | (with_reducible refine RL_nil ⟨by kernel_rfl, hK _ ?_⟩; clear hK K)
      | ((with_reducible refine ite_elim (fun hg => ?_) (fun hg => ?_)) <;> (try simp (disch := omega) only [go_sem, ↓reduceIte, Nat.reduceEqDiff, reduceCtorEq, Nat.reduceAdd, Nat.reduceMul, Nat.reduceSub, Nat.reduceLeDiff, Nat.reduceLT, ne_eq, not_false_eq_true, not_true_eq_false, decide_true, decide_false, Int.reduceLE, Int.reduceLT, Int.reduceToNat, Int.reduceNeg, Nat.zero_add, Nat.add_zero, Nat.le_refl, Nat.sub_self, Nat.sub_zero, h2, hg, row_of, wrap_ok, iRows_app, iRows_app1, iRows_take, List.mem_cons, List.not_mem_nil, or_false, forall_eq]))
      | (with_reducible refine And.intro ?_ ?_)
      | (omega))
  (repeat (first | (with_reducible refine AL_seq ?_) | (with_reducible refine AL_skip ?_) | (with_reducible refine AL_nil ?_) | (with_reducible refine SeqQ_n ?_) | (with_reducible refine BlockQ_n ?_))); (first
      | (refine AL_text2 rfl fun K hK => ?_; simp only [List.map_cons, List.map_nil])
      | (refine AL_draw2 mixed rfl (by kernel_rfl) fun K hK => ?_; simp only [List.map_cons, List.map_nil])
      | (with_reducible refine AL_block ?_)
      | (with_reducible refine AL_exit ?_; simp only [SeqQ, BlockQ, ↓reduceIte, Nat.reduceEqDiff, reduceCtorEq])
      | (refine AL_cond_t' rfl (by first | with_reducible rfl | assumption | decide) ?_)
      | (refine AL_cond_f' rfl (by first | with_reducible rfl | assumption | decide) ?_)
      | (refine AL_condb rfl (fun hg => ?_) (fun hg => ?_) <;> (try simp only [Bool.not_eq_true', Bool.not_eq_false'] at hg))); repeat' (first
      | (with_reducible refine hK' _ _ ?_; clear hK' K')
      | (with_reducible refine hK' _ _ _ ?_; clear hK' K')
      | (with_reducible refine RT_step fun K' hK' => ?_; first | (refine R2_n ?_; (try simp (disch := omega) only [go_sem, ↓reduceIte, Nat.reduceEqDiff, reduceCtorEq, Nat.reduceAdd, Nat.reduceMul, Nat.reduceSub, Nat.reduceLeDiff, Nat.reduceLT, ne_eq, not_false_eq_true, not_true_eq_false, decide_true, decide_false, Int.reduceLE, Int.reduceLT, Int.reduceToNat, Int.reduceNeg, Nat.zero_add, Nat.add_zero, Nat.le_refl, Nat.sub_self, Nat.sub_zero, h2, row_of, wrap_ok, iRows_app, iRows_app1, iRows_take, List.mem_cons, List.not_mem_nil, or_false, forall_eq])) | (refine R2_gf rfl rfl (by first | with_reducible rfl | assumption | decide) ?_) | (refine R2_gf' rfl rfl (by first | with_reducible rfl | assumption | decide) ?_) | (refine R2_gu rfl rfl ?_) | (refine R2_gt rfl rfl (by first | with_reducible rfl | assumption | decide) ?_; (try simp (disch := omega) only [go_sem, ↓reduceIte, Nat.reduceEqDiff, reduceCtorEq, Nat.reduceAdd, Nat.reduceMul, Nat.reduceSub, Nat.reduceLeDiff, Nat.reduceLT, ne_eq, not_false_eq_true, not_true_eq_false, decide_true, decide_false, Int.reduceLE, Int.reduceLT, Int.reduceToNat, Int.reduceNeg, Nat.zero_add, Nat.add_zero, Nat.le_refl, Nat.sub_self, Nat.sub_zero, h2, row_of, wrap_ok, iRows_app, iRows_app1, iRows_take, List.mem_cons, List.not_mem_nil, or_false, forall_eq])) | ((refine R2_g rfl rfl (fun hg => ?_) (fun hg => ?_) rfl) <;> (try simp only [Bool.not_true, Bool.not_false] at hg) <;> (try simp (disch := omega) only [go_sem, ↓reduceIte, Nat.reduceEqDiff, reduceCtorEq, Nat.reduceAdd, Nat.reduceMul, Nat.reduceSub, Nat.reduceLeDiff, Nat.reduceLT, ne_eq, not_false_eq_true, not_true_eq_false, decide_true, decide_false, Int.reduceLE, Int.reduceLT, Int.reduceToNat, Int.reduceNeg, Nat.zero_add, Nat.add_zero, Nat.le_refl, Nat.sub_self, Nat.sub_zero, h2, hg, row_of, wrap_ok, iRows_app, iRows_app1, iRows_take, List.mem_cons, List.not_mem_nil, or_false, forall_eq])))
      | (with_reducible refine RT_nil ?_; refine hK _ ?_; clear hK K)
      | (with_reducible refine RL_step fun K' hK' => ?_; first | (refine L2_n ?_; (try simp (disch := omega) only [go_sem, ↓reduceIte, Nat.reduceEqDiff, reduceCtorEq, Nat.reduceAdd, Nat.reduceMul, Nat.reduceSub, Nat.reduceLeDiff, Nat.reduceLT, ne_eq, not_false_eq_true, not_true_eq_false, decide_true, decide_false, Int.reduceLE, Int.reduceLT, Int.reduceToNat, Int.reduceNeg, Nat.zero_add, Nat.add_zero, Nat.le_refl, Nat.sub_self, Nat.sub_zero, h2, row_of, wrap_ok, iRows_app, iRows_app1, iRows_take, List.mem_cons, List.not_mem_nil, or_false, forall_eq])) | (refine L2_gf rfl rfl (by first | with_reducible rfl | assumption | decide) ?_) | (refine L2_gf' rfl rfl (by first | with_reducible rfl | assumption | decide) ?_) | (refine L2_gu rfl rfl ?_) | (refine L2_gt rfl rfl (by first | with_reducible rfl | assumption | decide) ?_; (try simp (disch := omega) only [go_sem, ↓reduceIte, Nat.reduceEqDiff, reduceCtorEq, Nat.reduceAdd, Nat.reduceMul, Nat.reduceSub, Nat.reduceLeDiff, Nat.reduceLT, ne_eq, not_false_eq_true, not_true_eq_false, decide_true, decide_false, Int.reduceLE, Int.reduceLT, Int.reduceToNat, Int.reduceNeg, Nat.zero_add, Nat.add_zero, Nat.le_refl, Nat.sub_self, Nat.sub_zero, h2, row_of, wrap_ok, iRows_app, iRows_app1, iRows_take, List.mem_cons, List.not_mem_nil, or_false, forall_eq])) | ((refine L2_g rfl rfl (fun hg => ?_) (fun hg => ?_) rfl) <;> (try simp only [Bool.not_true, Bool.not_false] at hg) <;> (try simp (disch := omega) only [go_sem, ↓reduceIte, Nat.reduceEqDiff, reduceCtorEq, Nat.reduceAdd, Nat.reduceMul, Nat.reduceSub, Nat.reduceLeDiff, Nat.reduceLT, ne_eq, not_false_eq_true, not_true_eq_false, decide_true, decide_false, Int.reduceLE, Int.reduceLT, Int.reduceToNat, Int.reduceNeg, Nat.zero_add, Nat.add_zero, Nat.le_refl, Nat.sub_self, Nat.sub_zero, h2, hg, row_of, wrap_ok, iRows_app, iRows_app1, iRows_take, List.mem_cons, List.not_mem_nil, or_false, forall_eq])))
      | (with_reducible refine RL_nil ⟨by kernel_rfl, hK _ ?_⟩; clear hK K)
      | ((with_reducible refine ite_elim (fun hg => ?_) (fun hg => ?_)) <;> (try simp (disch := omega) only [go_sem, ↓reduceIte, Nat.reduceEqDiff, reduceCtorEq, Nat.reduceAdd, Nat.reduceMul, Nat.reduceSub, Nat.reduceLeDiff, Nat.reduceLT, ne_eq, not_false_eq_true, not_true_eq_false, decide_true, decide_false, Int.reduceLE, Int.reduceLT, Int.reduceToNat, Int.reduceNeg, Nat.zero_add, Nat.add_zero, Nat.le_refl, Nat.sub_self, Nat.sub_zero, h2, hg, row_of, wrap_ok, iRows_app, iRows_app1, iRows_take, List.mem_cons, List.not_mem_nil, or_false, forall_eq]))
      | (with_reducible refine And.intro ?_ ?_)
      | (omega))
  (repeat (first | (with_reducible refine AL_seq ?_) | (with_reducible refine AL_skip ?_) | (with_reducible refine AL_nil ?_) | (with_reducible refine SeqQ_n ?_) | (with_reducible refine BlockQ_n ?_))); (first
      | (refine AL_text2 rfl fun K hK => ?_; simp only [List.map_cons, List.map_nil])
      | (refine AL_draw2 mixed rfl (by kernel_rfl) fun K hK => ?_; simp only [List.map_cons, List.map_nil])
      | (with_reducible refine AL_block ?_)
      | (with_reducible refine AL_exit ?_; simp only [SeqQ, BlockQ, ↓reduceIte, Nat.reduceEqDiff, reduceCtorEq])
      | (refine AL_cond_t' rfl (by first | with_reducible rfl | assumption | decide) ?_)
      | (refine AL_cond_f' rfl (by first | with_reducible rfl | assumption | decide) ?_)
      | (refine AL_condb rfl (fun hg => ?_) (fun hg => ?_) <;> (try simp only [Bool.not_eq_true', Bool.not_eq_false'] at hg))); repeat' (first
      | (with_reducible refine hK' _ _ ?_; clear hK' K')
      | (with_reducible refine hK' _ _ _ ?_; clear hK' K')
      | (with_reducible refine RT_step fun K' hK' => ?_; first | (refine R2_n ?_; (try simp (disch := omega) only [go_sem, ↓reduceIte, Nat.reduceEqDiff, reduceCtorEq, Nat.reduceAdd, Nat.reduceMul, Nat.reduceSub, Nat.reduceLeDiff, Nat.reduceLT, ne_eq, not_false_eq_true, not_true_eq_false, decide_true, decide_false, Int.reduceLE, Int.reduceLT, Int.reduceToNat, Int.reduceNeg, Nat.zero_add, Nat.add_zero, Nat.le_refl, Nat.sub_self, Nat.sub_zero, h2, row_of, wrap_ok, iRows_app, iRows_app1, iRows_take, List.mem_cons, List.not_mem_nil, or_false, forall_eq])) | (refine R2_gf rfl rfl (by first | with_reducible rfl | assumption | decide) ?_) | (refine R2_gf' rfl rfl (by first | with_reducible rfl | assumption | decide) ?_) | (refine R2_gu rfl rfl ?_) | (refine R2_gt rfl rfl (by first | with_reducible rfl | assumption | decide) ?_; (try simp (disch := omega) only [go_sem, ↓reduceIte, Nat.reduceEqDiff, reduceCtorEq, Nat.reduceAdd, Nat.reduceMul, Nat.reduceSub, Nat.reduceLeDiff, Nat.reduceLT, ne_eq, not_false_eq_true, not_true_eq_false, decide_true, decide_false, Int.reduceLE, Int.reduceLT, Int.reduceToNat, Int.reduceNeg, Nat.zero_add, Nat.add_zero, Nat.le_refl, Nat.sub_self, Nat.sub_zero, h2, row_of, wrap_ok, iRows_app, iRows_app1, iRows_take, List.mem_cons, List.not_mem_nil, or_false, forall_eq])) | ((refine R2_g rfl rfl (fun hg => ?_) (fun hg => ?_) rfl) <;> (try simp only [Bool.not_true, Bool.not_false] at hg) <;> (try simp (disch := omega) only [go_sem, ↓reduceIte, Nat.reduceEqDiff, reduceCtorEq, Nat.reduceAdd, Nat.reduceMul, Nat.reduceSub, Nat.reduceLeDiff, Nat.reduceLT, ne_eq, not_false_eq_true, not_true_eq_false, decide_true, decide_false, Int.reduceLE, Int.reduceLT, Int.reduceToNat, Int.reduceNeg, Nat.zero_add, Nat.add_zero, Nat.le_refl, Nat.sub_self, Nat.sub_zero, h2, hg, row_of, wrap_ok, iRows_app, iRows_app1, iRows_take, List.mem_cons, List.not_mem_nil, or_false, forall_eq])))
      | (with_reducible refine RT_nil ?_; refine hK _ ?_; clear hK K)
      | (with_reducible refine RL_step fun K' hK' => ?_; first | (refine L2_n ?_; (try simp (disch := omega) only [go_sem, ↓reduceIte, Nat.reduceEqDiff, reduceCtorEq, Nat.reduceAdd, Nat.reduceMul, Nat.reduceSub, Nat.reduceLeDiff, Nat.reduceLT, ne_eq, not_false_eq_true, not_true_eq_false, decide_true, decide_false, Int.reduceLE, Int.reduceLT, Int.reduceToNat, Int.reduceNeg, Nat.zero_add, Nat.add_zero, Nat.le_refl, Nat.sub_self, Nat.sub_zero, h2, row_of, wrap_ok, iRows_app, iRows_app1, iRows_take, List.mem_cons, List.not_mem_nil, or_false, forall_eq])) | (refine L2_gf rfl rfl (by first | with_reducible rfl | assumption | decide) ?_) | (refine L2_gf' rfl rfl (by first | with_reducible rfl | assumption | decide) ?_) | (refine L2_gu rfl rfl ?_) | (refine L2_gt rfl rfl (by first | with_reducible rfl | assumption | decide) ?_; (try simp (disch := omega) only [go_sem, ↓reduceIte, Nat.reduceEqDiff, reduceCtorEq, Nat.reduceAdd, Nat.reduceMul, Nat.reduceSub, Nat.reduceLeDiff, Nat.reduceLT, ne_eq, not_false_eq_true, not_true_eq_false, decide_true, decide_false, Int.reduceLE, Int.reduceLT, Int.reduceToNat, Int.reduceNeg, Nat.zero_add, Nat.add_zero, Nat.le_refl, Nat.sub_self, Nat.sub_zero, h2, row_of, wrap_ok, iRows_app, iRows_app1, iRows_take, List.mem_cons, List.not_mem_nil, or_false, forall_eq])) | ((refine L2_g rfl rfl (fun hg => ?_) (fun hg => ?_) rfl) <;> (try simp only [Bool.not_true, Bool.not_false] at hg) <;> (try simp (disch := omega) only [go_sem, ↓reduceIte, Nat.reduceEqDiff, reduceCtorEq, Nat.reduceAdd, Nat.reduceMul, Nat.reduceSub, Nat.reduceLeDiff, Nat.reduceLT, ne_eq, not_false_eq_true, not_true_eq_false, decide_true, decide_false, Int.reduceLE, Int.reduceLT, Int.reduceToNat, Int.reduceNeg, Nat.zero_add, Nat.add_zero, Nat.le_refl, Nat.sub_self, Nat.sub_zero, h2, hg, row_of, wrap_ok, iRows_app, iRows_app1, iRows_take, List.mem_cons, List.not_mem_nil, or_false, forall_eq])))
      | (with_reducible refine RL_nil ⟨by kernel_rfl, hK _ ?_⟩; clear hK K)
      | ((with_reducible refine ite_elim (fun hg => ?_) (fun hg => ?_)) <;> (try simp (disch := omega) only [go_sem, ↓reduceIte, Nat.reduceEqDiff, reduceCtorEq, Nat.reduceAdd, Nat.reduceMul, Nat.reduceSub, Nat.reduceLeDiff, Nat.reduceLT, ne_eq, not_false_eq_true, not_true_eq_false, decide_true, decide_false, Int.reduceLE, Int.reduceLT, Int.reduceToNat, Int.reduceNeg, Nat.zero_add, Nat.add_zero, Nat.le_refl, Nat.sub_self, Nat.sub_zero, h2, hg, row_of, wrap_ok, iRows_app, iRows_app1, iRows_take, List.mem_cons, List.not_mem_nil, or_false, forall_eq]))
      | (with_reducible refine And.intro ?_ ?_)
      | (omega))
  (repeat (first | (with_reducible refine AL_seq ?_) | (with_reducible refine AL_skip ?_) | (with_reducible refine AL_nil ?_) | (with_reducible refine SeqQ_n ?_) | (with_reducible refine BlockQ_n ?_))); (first
      | (refine AL_text2 rfl fun K hK => ?_; simp only [List.map_cons, List.map_nil])
      | (refine AL_draw2 mixed rfl (by kernel_rfl) fun K hK => ?_; simp only [List.map_cons, List.map_nil])
      | (with_reducible refine AL_block ?_)
      | (with_reducible refine AL_exit ?_; simp only [SeqQ, BlockQ, ↓reduceIte, Nat.reduceEqDiff, reduceCtorEq])
      | (refine AL_cond_t' rfl (by first | with_reducible rfl | assumption | decide) ?_)
      | (refine AL_cond_f' rfl (by first | with_reducible rfl | assumption | decide) ?_)
      | (refine AL_condb rfl (fun hg => ?_) (fun hg => ?_) <;> (try simp only [Bool.not_eq_true', Bool.not_eq_false'] at hg))); repeat' (first
      | (with_reducible refine hK' _ _ ?_; clear hK' K')
      | (with_reducible refine hK' _ _ _ ?_; clear hK' K')
      | (with_reducible refine RT_step fun K' hK' => ?_; first | (refine R2_n ?_; (try simp (disch := omega) only [go_sem, ↓reduceIte, Nat.reduceEqDiff, reduceCtorEq, Nat.reduceAdd, Nat.reduceMul, Nat.reduceSub, Nat.reduceLeDiff, Nat.reduceLT, ne_eq, not_false_eq_true, not_true_eq_false, decide_true, decide_false, Int.reduceLE, Int.reduceLT, Int.reduceToNat, Int.reduceNeg, Nat.zero_add, Nat.add_zero, Nat.le_refl, Nat.sub_self, Nat.sub_zero, h2, row_of, wrap_ok, iRows_app, iRows_app1, iRows_take, List.mem_cons, List.not_mem_nil, or_false, forall_eq])) | (refine R2_gf rfl rfl (by first | with_reducible rfl | assumption | decide) ?_) | (refine R2_gf' rfl rfl (by first | with_reducible rfl | assumption | decide) ?_) | (refine R2_gu rfl rfl ?_) | (refine R2_gt rfl rfl (by first | with_reducible rfl | assumption | decide) ?_; (try simp (disch := omega) only [go_sem, ↓reduceIte, Nat.reduceEqDiff, reduceCtorEq, Nat.reduceAdd, Nat.reduceMul, Nat.reduceSub, Nat.reduceLeDiff, Nat.reduceLT, ne_eq, not_false_eq_true, not_true_eq_false, decide_true, decide_false, Int.reduceLE, Int.reduceLT, Int.reduceToNat, Int.reduceNeg, Nat.zero_add, Nat.add_zero, Nat.le_refl, Nat.sub_self, Nat.sub_zero, h2, row_of, wrap_ok, iRows_app, iRows_app1, iRows_take, List.mem_cons, List.not_mem_nil, or_false, forall_eq])) | ((refine R2_g rfl rfl (fun hg => ?_) (fun hg => ?_) rfl) <;> (try simp only [Bool.not_true, Bool.not_false] at hg) <;> (try simp (disch := omega) only [go_sem, ↓reduceIte, Nat.reduceEqDiff, reduceCtorEq, Nat.reduceAdd, Nat.reduceMul, Nat.reduceSub, Nat.reduceLeDiff, Nat.reduceLT, ne_eq, not_false_eq_true, not_true_eq_false, decide_true, decide_false, Int.reduceLE, Int.reduceLT, Int.reduceToNat, Int.reduceNeg, Nat.zero_add, Nat.add_zero, Nat.le_refl, Nat.sub_self, Nat.sub_zero, h2, hg, row_of, wrap_ok, iRows_app, iRows_app1, iRows_take, List.mem_cons, List.not_mem_nil, or_false, forall_eq])))
      | (with_reducible refine RT_nil ?_; refine hK _ ?_; clear hK K)
      | (with_reducible refine RL_step fun K' hK' => ?_; first | (refine L2_n ?_; (try simp (disch := omega) only [go_sem, ↓reduceIte, Nat.reduceEqDiff, reduceCtorEq, Nat.reduceAdd, Nat.reduceMul, Nat.reduceSub, Nat.reduceLeDiff, Nat.reduceLT, ne_eq, not_false_eq_true, not_true_eq_false, decide_true, decide_false, Int.reduceLE, Int.reduceLT, Int.reduceToNat, Int.reduceNeg, Nat.zero_add, Nat.add_zero, Nat.le_refl, Nat.sub_self, Nat.sub_zero, h2, row_of, wrap_ok, iRows_app, iRows_app1, iRows_take, List.mem_cons, List.not_mem_nil, or_false, forall_eq])) | (refine L2_gf rfl rfl (by first | with_reducible rfl | assumption | decide) ?_) | (refine L2_gf' rfl rfl (by first | with_reducible rfl | assumption | decide) ?_) | (refine L2_gu rfl rfl ?_) | (refine L2_gt rfl rfl (by first | with_reducible rfl | assumption | decide) ?_; (try simp (disch := omega) only [go_sem, ↓reduceIte, Nat.reduceEqDiff, reduceCtorEq, Nat.reduceAdd, Nat.reduceMul, Nat.reduceSub, Nat.reduceLeDiff, Nat.reduceLT, ne_eq, not_false_eq_true, not_true_eq_false, decide_true, decide_false, Int.reduceLE, Int.reduceLT, Int.reduceToNat, Int.reduceNeg, Nat.zero_add, Nat.add_zero, Nat.le_refl, Nat.sub_self, Nat.sub_zero, h2, row_of, wrap_ok, iRows_app, iRows_app1, iRows_take, List.mem_cons, List.not_mem_nil, or_false, forall_eq])) | ((refine L2_g rfl rfl (fun hg => ?_) (fun hg => ?_) rfl) <;> (try simp only [Bool.not_true, Bool.not_false] at hg) <;> (try simp (disch := omega) only [go_sem, ↓reduceIte, Nat.reduceEqDiff, reduceCtorEq, Nat.reduceAdd, Nat.reduceMul, Nat.reduceSub, Nat.reduceLeDiff, Nat.reduceLT, ne_eq, not_false_eq_true, not_true_eq_false, decide_true, decide_false, Int.reduceLE, Int.reduceLT, Int.reduceToNat, Int.reduceNeg, Nat.zero_add, Nat.add_zero, Nat.le_refl, Nat.sub_self, Nat.sub_zero, h2, hg, row_of, wrap_ok, iRows_app, iRows_app1, iRows_take, List.mem_cons, List.not_mem_nil, or_false, forall_eq])))
      | (with_reducible refine RL_nil ⟨by kernel_rfl, hK _ ?_⟩; clear hK K)
      | ((with_reducible refine ite_elim (fun hg => ?_) (fun hg => ?_)) <;> (try simp (disch := omega) only [go_sem, ↓reduceIte, Nat.reduceEqDiff, reduceCtorEq, Nat.reduceAdd, Nat.reduceMul, Nat.reduceSub, Nat.reduceLeDiff, Nat.reduceLT, ne_eq, not_false_eq_true, not_true_eq_false, decide_true, decide_false, Int.reduceLE, Int.reduceLT, Int.reduceToNat, Int.reduceNeg, Nat.zero_add, Nat.add_zero, Nat.le_refl, Nat.sub_self, Nat.sub_zero, h2, hg, row_of, wrap_ok, iRows_app, iRows_app1, iRows_take, List.mem_cons, List.not_mem_nil, or_false, forall_eq]))
      | (with_reducible refine And.intro ?_ ?_)
      | (omega))
  (repeat (first | (with_reducible refine AL_seq ?_) | (with_reducible refine AL_skip ?_) | (with_reducible refine AL_nil ?_) | (with_reducible refine SeqQ_n ?_) | (with_reducible refine BlockQ_n ?_))); (first
      | (refine AL_text2 rfl fun K hK => ?_; simp only [List.map_cons, List.map_nil])
      | (refine AL_draw2 mixed rfl (by kernel_rfl) fun K hK => ?_; simp only [List.map_cons, List.map_nil])
      | (with_reducible refine AL_block ?_)
      | (with_reducible refine AL_exit ?_; simp only [SeqQ, BlockQ, ↓reduceIte, Nat.reduceEqDiff, reduceCtorEq])
      | (refine AL_cond_t' rfl (by first | with_reducible rfl | assumption | decide) ?_)
      | (refine AL_cond_f' rfl (by first | with_reducible rfl | assumption | decide) ?_)
      | (refine AL_condb rfl (fun hg => ?_) (fun hg => ?_) <;> (try simp only [Bool.not_eq_true', Bool.not_eq_false'] at hg))); repeat' (first
      | (with_reducible refine hK' _ _ ?_; clear hK' K')
      | (with_reducible refine hK' _ _ _ ?_; clear hK' K')
      | (with_reducible refine RT_step fun K' hK' => ?_; first | (refine R2_n ?_; (try simp (disch := omega) only [go_sem, ↓reduceIte, Nat.reduceEqDiff, reduceCtorEq, Nat.reduceAdd, Nat.reduceMul, Nat.reduceSub, Nat.reduceLeDiff, Nat.reduceLT, ne_eq, not_false_eq_true, not_true_eq_false, decide_true, decide_false, Int.reduceLE, Int.reduceLT, Int.reduceToNat, Int.reduceNeg, Nat.zero_add, Nat.add_zero, Nat.le_refl, Nat.sub_self, Nat.sub_zero, h2, row_of, wrap_ok, iRows_app, iRows_app1, iRows_take, List.mem_cons, List.not_mem_nil, or_false, forall_eq])) | (refine R2_gf rfl rfl (by first | with_reducible rfl | assumption | decide) ?_) | (refine R2_gf' rfl rfl (by first | with_reducible rfl | assumption | decide) ?_) | (refine R2_gu rfl rfl ?_) | (refine R2_gt rfl rfl (by first | with_reducible rfl | assumption | decide) ?_; (try simp (disch := omega) only [go_sem, ↓reduceIte, Nat.reduceEqDiff, reduceCtorEq, Nat.reduceAdd, Nat.reduceMul, Nat.reduceSub, Nat.reduceLeDiff, Nat.reduceLT, ne_eq, not_false_eq_true, not_true_eq_false, decide_true, decide_false, Int.reduceLE, Int.reduceLT, Int.reduceToNat, Int.reduceNeg, Nat.zero_add, Nat.add_zero, Nat.le_refl, Nat.sub_self, Nat.sub_zero, h2, row_of, wrap_ok, iRows_app, iRows_app1, iRows_take, List.mem_cons, List.not_mem_nil, or_false, forall_eq])) | ((refine R2_g rfl rfl (fun hg => ?_) (fun hg => ?_) rfl) <;> (try simp only [Bool.not_true, Bool.not_false] at hg) <;> (try simp (disch := omega) only [go_sem, ↓reduceIte, Nat.reduceEqDiff, reduceCtorEq, Nat.reduceAdd, Nat.reduceMul, Nat.reduceSub, Nat.reduceLeDiff, Nat.reduceLT, ne_eq, not_false_eq_true, not_true_eq_false, decide_true, decide_false, Int.reduceLE, Int.reduceLT, Int.reduceToNat, Int.reduceNeg, Nat.zero_add, Nat.add_zero, Nat.le_refl, Nat.sub_self, Nat.sub_zero, h2, hg, row_of, wrap_ok, iRows_app, iRows_app1, iRows_take, List.mem_cons, List.not_mem_nil, or_false, forall_eq])))
      | (with_reducible refine RT_nil ?_; refine hK _ ?_; clear hK K)
      | (with_reducible refine RL_step fun K' hK' => ?_; first | (refine L2_n ?_; (try simp (disch := omega) only [go_sem, ↓reduceIte, Nat.reduceEqDiff, reduceCtorEq, Nat.reduceAdd, Nat.reduceMul, Nat.reduceSub, Nat.reduceLeDiff, Nat.reduceLT, ne_eq, not_false_eq_true, not_true_eq_false, decide_true, decide_false, Int.reduceLE, Int.reduceLT, Int.reduceToNat, Int.reduceNeg, Nat.zero_add, Nat.add_zero, Nat.le_refl, Nat.sub_self, Nat.sub_zero, h2, row_of, wrap_ok, iRows_app, iRows_app1, iRows_take, List.mem_cons, List.not_mem_nil, or_false, forall_eq])) | (refine L2_gf rfl rfl (by first | with_reducible rfl | assumption | decide) ?_) | (refine L2_gf' rfl rfl (by first | with_reducible rfl | assumption | decide) ?_) | (refine L2_gu rfl rfl ?_) | (refine L2_gt rfl rfl (by first | with_reducible rfl | assumption | decide) ?_; (try simp (disch := omega) only [go_sem, ↓reduceIte, Nat.reduceEqDiff, reduceCtorEq, Nat.reduceAdd, Nat.reduceMul, Nat.reduceSub, Nat.reduceLeDiff, Nat.reduceLT, ne_eq, not_false_eq_true, not_true_eq_false, decide_true, decide_false, Int.reduceLE, Int.reduceLT, Int.reduceToNat, Int.reduceNeg, Nat.zero_add, Nat.add_zero, Nat.le_refl, Nat.sub_self, Nat.sub_zero, h2, row_of, wrap_ok, iRows_app, iRows_app1, iRows_take, List.mem_cons, List.not_mem_nil, or_false, forall_eq])) | ((refine L2_g rfl rfl (fun hg => ?_) (fun hg => ?_) rfl) <;> (try simp only [Bool.not_true, Bool.not_false] at hg) <;> (try simp (disch := omega) only [go_sem, ↓reduceIte, Nat.reduceEqDiff, reduceCtorEq, Nat.reduceAdd, Nat.reduceMul, Nat.reduceSub, Nat.reduceLeDiff, Nat.reduceLT, ne_eq, not_false_eq_true, not_true_eq_false, decide_true, decide_false, Int.reduceLE, Int.reduceLT, Int.reduceToNat, Int.reduceNeg, Nat.zero_add, Nat.add_zero, Nat.le_refl, Nat.sub_self, Nat.sub_zero, h2, hg, row_of, wrap_ok, iRows_app, iRows_app1, iRows_take, List.mem_cons, List.not_mem_nil, or_false, forall_eq])))
      | (with_reducible refine RL_nil ⟨by kernel_rfl, hK _ ?_⟩; clear hK K)
      | ((with_reducible refine ite_elim (fun hg => ?_) (fun hg => ?_)) <;> (try simp (disch := omega) only [go_sem, ↓reduceIte, Nat.reduceEqDiff, reduceCtorEq, Nat.reduceAdd, Nat.reduceMul, Nat.reduceSub, Nat.reduceLeDiff, Nat.reduceLT, ne_eq, not_false_eq_true, not_true_eq_false, decide_true, decide_false, Int.reduceLE, Int.reduceLT, Int.reduceToNat, Int.reduceNeg, Nat.zero_add, Nat.add_zero, Nat.le_refl, Nat.sub_self, Nat.sub_zero, h2, hg, row_of, wrap_ok, iRows_app, iRows_app1, iRows_take, List.mem_cons, List.not_mem_nil, or_false, forall_eq]))
      | (with_reducible refine And.intro ?_ ?_)
      | (omega))
  let bk : Nat → Int := fun k => (L.take k).foldl (bestF out) (-1)
  refine AL_loop (fun k : Nat => ⟨tA [(3, .os 1 0 0 L.length), (4, .os 1 1 0 out.length), (5, pI (bk k)), (6, pI k)], tO [some (.rows 1 (iRows L)), some (.rows 1 (iRows out))]⟩)
    (fun k => k ≤ L.length) (fun k => L.length - k) 0 (Nat.zero_le _) (weak_t [0, 1] _ _ rfl (by decide) ⟨by decide, by decide⟩ (by simp [go_sem, bk]) (by simp [go_sem, bk])) ?_
  intro k hk
  (repeat (first | (with_reducible refine AL_seq ?_) | (with_reducible refine AL_skip ?_) | (with_reducible refine AL_nil ?_) | (with_reducible refine SeqQ_n ?_) | (with_reducible refine BlockQ_n ?_))); (first
      | (refine AL_text2 rfl fun K hK => ?_; simp only [List.map_cons, List.map_nil])
      | (refine AL_draw2 mixed rfl (by kernel_rfl) fun K hK => ?_; simp only [List.map_cons, List.map_nil])
      | (with_reducible refine AL_block ?_)
      | (with_reducible refine AL_exit ?_; simp only [SeqQ, BlockQ, ↓reduceIte, Nat.reduceEqDiff, reduceCtorEq])
      | (refine AL_cond_t' rfl (by first | with_reducible rfl | assumption | decide) ?_)
      | (refine AL_cond_f' rfl (by first | with_reducible rfl | assumption | decide) ?_)
      | (refine AL_condb rfl (fun hg => ?_) (fun hg => ?_) <;> (try simp only [Bool.not_eq_true', Bool.not_eq_false'] at hg))); repeat' (first
      | (with_reducible refine hK' _ _ ?_; clear hK' K')
      | (with_reducible refine hK' _ _ _ ?_; clear hK' K')
      | (with_reducible refine RT_step fun K' hK' => ?_; first | (refine R2_n ?_; (try simp (disch := omega) only [go_sem, ↓reduceIte, Nat.reduceEqDiff, reduceCtorEq, Nat.reduceAdd, Nat.reduceMul, Nat.reduceSub, Nat.reduceLeDiff, Nat.reduceLT, ne_eq, not_false_eq_true, not_true_eq_false, decide_true, decide_false, Int.reduceLE, Int.reduceLT, Int.reduceToNat, Int.reduceNeg, Nat.zero_add, Nat.add_zero, Nat.le_refl, Nat.sub_self, Nat.sub_zero, row_of, wrap_ok, iRows_app, iRows_app1, iRows_take, List.mem_cons, List.not_mem_nil, or_false, forall_eq])) | (refine R2_gf rfl rfl (by first | with_reducible rfl | assumption | decide) ?_) | (refine R2_gf' rfl rfl (by first | with_reducible rfl | assumption | decide) ?_) | (refine R2_gu rfl rfl ?_) | (refine R2_gt rfl rfl (by first | with_reducible rfl | assumption | decide) ?_; (try simp (disch := omega) only [go_sem, ↓reduceIte, Nat.reduceEqDiff, reduceCtorEq, Nat.reduceAdd, Nat.reduceMul, Nat.reduceSub, Nat.reduceLeDiff, Nat.reduceLT, ne_eq, not_false_eq_true, not_true_eq_false, decide_true, decide_false, Int.reduceLE, Int.reduceLT, Int.reduceToNat, Int.reduceNeg, Nat.zero_add, Nat.add_zero, Nat.le_refl, Nat.sub_self, Nat.sub_zero, row_of, wrap_ok, iRows_app, iRows_app1, iRows_take, List.mem_cons, List.not_mem_nil, or_false, forall_eq])) | ((refine R2_g rfl rfl (fun hg => ?_) (fun hg => ?_) rfl) <;> (try simp only [Bool.not_true, Bool.not_false] at hg) <;> (try simp (disch := omega) only [go_sem, ↓reduceIte, Nat.reduceEqDiff, reduceCtorEq, Nat.reduceAdd, Nat.reduceMul, Nat.reduceSub, Nat.reduceLeDiff, Nat.reduceLT, ne_eq, not_false_eq_true, not_true_eq_false, decide_true, decide_false, Int.reduceLE, Int.reduceLT, Int.reduceToNat, Int.reduceNeg, Nat.zero_add, Nat.add_zero, Nat.le_refl, Nat.sub_self, Nat.sub_zero, hg, row_of, wrap_ok, iRows_app, iRows_app1, iRows_take, List.mem_cons, List.not_mem_nil, or_false, forall_eq])))
      | (with_reducible refine RT_nil ?_; refine hK _ ?_; clear hK K)
      | (with_reducible refine RL_step fun K' hK' => ?_; first | (refine L2_n ?_; (try simp (disch := omega) only [go_sem, ↓reduceIte, Nat.reduceEqDiff, reduceCtorEq, Nat.reduceAdd, Nat.reduceMul, Nat.reduceSub, Nat.reduceLeDiff, Nat.reduceLT, ne_eq, not_false_eq_true, not_true_eq_false, decide_true, decide_false, Int.reduceLE, Int.reduceLT, Int.reduceToNat, Int.reduceNeg, Nat.zero_add, Nat.add_zero, Nat.le_refl, Nat.sub_self, Nat.sub_zero, row_of, wrap_ok, iRows_app, iRows_app1, iRows_take, List.mem_cons, List.not_mem_nil, or_false, forall_eq])) | (refine L2_gf rfl rfl (by first | with_reducible rfl | assumption | decide) ?_) | (refine L2_gf' rfl rfl (by first | with_reducible rfl | assumption | decide) ?_) | (refine L2_gu rfl rfl ?_) | (refine L2_gt rfl rfl (by first | with_reducible rfl | assumption | decide) ?_; (try simp (disch := omega) only [go_sem, ↓reduceIte, Nat.reduceEqDiff, reduceCtorEq, Nat.reduceAdd, Nat.reduceMul, Nat.reduceSub, Nat.reduceLeDiff, Nat.reduceLT, ne_eq, not_false_eq_true, not_true_eq_false, decide_true, decide_false, Int.reduceLE, Int.reduceLT, Int.reduceToNat, Int.reduceNeg, Nat.zero_add, Nat.add_zero, Nat.le_refl, Nat.sub_self, Nat.sub_zero, row_of, wrap_ok, iRows_app, iRows_app1, iRows_take, List.mem_cons, List.not_mem_nil, or_false, forall_eq])) | ((refine L2_g rfl rfl (fun hg => ?_) (fun hg => ?_) rfl) <;> (try simp only [Bool.not_true, Bool.not_false] at hg) <;> (try simp (disch := omega) only [go_sem, ↓reduceIte, Nat.reduceEqDiff, reduceCtorEq, Nat.reduceAdd, Nat.reduceMul, Nat.reduceSub, Nat.reduceLeDiff, Nat.reduceLT, ne_eq, not_false_eq_true, not_true_eq_false, decide_true, decide_false, Int.reduceLE, Int.reduceLT, Int.reduceToNat, Int.reduceNeg, Nat.zero_add, Nat.add_zero, Nat.le_refl, Nat.sub_self, Nat.sub_zero, hg, row_of, wrap_ok, iRows_app, iRows_app1, iRows_take, List.mem_cons, List.not_mem_nil, or_false, forall_eq])))
      | (with_reducible refine RL_nil ⟨by kernel_rfl, hK _ ?_⟩; clear hK K)
      | ((with_reducible refine ite_elim (fun hg => ?_) (fun hg => ?_)) <;> (try simp (disch := omega) only [go_sem, ↓reduceIte, Nat.reduceEqDiff, reduceCtorEq, Nat.reduceAdd, Nat.reduceMul, Nat.reduceSub, Nat.reduceLeDiff, Nat.reduceLT, ne_eq, not_false_eq_true, not_true_eq_false, decide_true, decide_false, Int.reduceLE, Int.reduceLT, Int.reduceToNat, Int.reduceNeg, Nat.zero_add, Nat.add_zero, Nat.le_refl, Nat.sub_self, Nat.sub_zero, hg, row_of, wrap_ok, iRows_app, iRows_app1, iRows_take, List.mem_cons, List.not_mem_nil, or_false, forall_eq]))
      | (with_reducible refine And.intro ?_ ?_)
      | (omega))
  cases h4 : decide ((k : Int) < (L.length : Int))
  · repeat' (first
      | (with_reducible refine hK' _ _ ?_; clear hK' K')
      | (with_reducible refine hK' _ _ _ ?_; clear hK' K')
      | (with_reducible refine RT_step fun K' hK' => ?_; first | (refine R2_n ?_; (try simp (disch := omega) only [go_sem, ↓reduceIte, Nat.reduceEqDiff, reduceCtorEq, Nat.reduceAdd, Nat.reduceMul, Nat.reduceSub, Nat.reduceLeDiff, Nat.reduceLT, ne_eq, not_false_eq_true, not_true_eq_false, decide_true, decide_false, Int.reduceLE, Int.reduceLT, Int.reduceToNat, Int.reduceNeg, Nat.zero_add, Nat.add_zero, Nat.le_refl, Nat.sub_self, Nat.sub_zero, h4, row_of, wrap_ok, iRows_app, iRows_app1, iRows_take, List.mem_cons, List.not_mem_nil, or_false, forall_eq])) | (refine R2_gf rfl rfl (by first | with_reducible rfl | assumption | decide) ?_) | (refine R2_gf' rfl rfl (by first | with_reducible rfl | assumption | decide) ?_) | (refine R2_gu rfl rfl ?_) | (refine R2_gt rfl rfl (by first | with_reducible rfl | assumption | decide) ?_; (try simp (disch := omega) only [go_sem, ↓reduceIte, Nat.reduceEqDiff, reduceCtorEq, Nat.reduceAdd, Nat.reduceMul, Nat.reduceSub, Nat.reduceLeDiff, Nat.reduceLT, ne_eq, not_false_eq_true, not_true_eq_false, decide_true, decide_false, Int.reduceLE, Int.reduceLT, Int.reduceToNat, Int.reduceNeg, Nat.zero_add, Nat.add_zero, Nat.le_refl, Nat.sub_self, Nat.sub_zero, h4, row_of, wrap_ok, iRows_app, iRows_app1, iRows_take, List.mem_cons, List.not_mem_nil, or_false, forall_eq])) | ((refine R2_g rfl rfl (fun hg => ?_) (fun hg => ?_) rfl) <;> (try simp only [Bool.not_true, Bool.not_false] at hg) <;> (try simp (disch := omega) only [go_sem, ↓reduceIte, Nat.reduceEqDiff, reduceCtorEq, Nat.reduceAdd, Nat.reduceMul, Nat.reduceSub, Nat.reduceLeDiff, Nat.reduceLT, ne_eq, not_false_eq_true, not_true_eq_false, decide_true, decide_false, Int.reduceLE, Int.reduceLT, Int.reduceToNat, Int.reduceNeg, Nat.zero_add, Nat.add_zero, Nat.le_refl, Nat.sub_self, Nat.sub_zero, h4, hg, row_of, wrap_ok, iRows_app, iRows_app1, iRows_take, List.mem_cons, List.not_mem_nil, or_false, forall_eq])))
      | (with_reducible refine RT_nil ?_; refine hK _ ?_; clear hK K)
      | (with_reducible refine RL_step fun K' hK' => ?_; first | (refine L2_n ?_; (try simp (disch := omega) only [go_sem, ↓reduceIte, Nat.reduceEqDiff, reduceCtorEq, Nat.reduceAdd, Nat.reduceMul, Nat.reduceSub, Nat.reduceLeDiff, Nat.reduceLT, ne_eq, not_false_eq_true, not_true_eq_false, decide_true, decide_false, Int.reduceLE, Int.reduceLT, Int.reduceToNat, Int.reduceNeg, Nat.zero_add, Nat.add_zero, Nat.le_refl, Nat.sub_self, Nat.sub_zero, h4, row_of, wrap_ok, iRows_app, iRows_app1, iRows_take, List.mem_cons, List.not_mem_nil, or_false, forall_eq])) | (refine L2_gf rfl rfl (by first | with_reducible rfl | assumption | decide) ?_) | (refine L2_gf' rfl rfl (by first | with_reducible rfl | assumption | decide) ?_) | (refine L2_gu rfl rfl ?_) | (refine L2_gt rfl rfl (by first | with_reducible rfl | assumption | decide) ?_; (try simp (disch := omega) only [go_sem, ↓reduceIte, Nat.reduceEqDiff, reduceCtorEq, Nat.reduceAdd, Nat.reduceMul, Nat.reduceSub, Nat.reduceLeDiff, Nat.reduceLT, ne_eq, not_false_eq_true, not_true_eq_false, decide_true, decide_false, Int.reduceLE, Int.reduceLT, Int.reduceToNat, Int.reduceNeg, Nat.zero_add, Nat.add_zero, Nat.le_refl, Nat.sub_self, Nat.sub_zero, h4, row_of, wrap_ok, iRows_app, iRows_app1, iRows_take, List.mem_cons, List.not_mem_nil, or_false, forall_eq])) | ((refine L2_g rfl rfl (fun hg => ?_) (fun hg => ?_) rfl) <;> (try simp only [Bool.not_true, Bool.not_false] at hg) <;> (try simp (disch := omega) only [go_sem, ↓reduceIte, Nat.reduceEqDiff, reduceCtorEq, Nat.reduceAdd, Nat.reduceMul, Nat.reduceSub, Nat.reduceLeDiff, Nat.reduceLT, ne_eq, not_false_eq_true, not_true_eq_false, decide_true, decide_false, Int.reduceLE, Int.reduceLT, Int.reduceToNat, Int.reduceNeg, Nat.zero_add, Nat.add_zero, Nat.le_refl, Nat.sub_self, Nat.sub_zero, h4, hg, row_of, wrap_ok, iRows_app, iRows_app1, iRows_take, List.mem_cons, List.not_mem_nil, or_false, forall_eq])))
      | (with_reducible refine RL_nil ⟨by kernel_rfl, hK _ ?_⟩; clear hK K)
      | (with_reducible refine AL_seq ?_)
      | (with_reducible refine AL_skip ?_)
      | (with_reducible refine AL_nil ?_)
      | (with_reducible refine SeqQ_n ?_)
      | (with_reducible refine BlockQ_n ?_)
      | (refine AL_text2 rfl fun K hK => ?_; simp only [List.map_cons, List.map_nil])
      | (refine AL_draw2 mixed rfl (by kernel_rfl) fun K hK => ?_; simp only [List.map_cons, List.map_nil])
      | (with_reducible refine AL_block ?_)
      | (with_reducible refine AL_exit ?_; simp only [SeqQ, BlockQ, ↓reduceIte, Nat.reduceEqDiff, reduceCtorEq])
      | (refine AL_cond_t' rfl (by first | with_reducible rfl | assumption | decide) ?_)
      | (refine AL_cond_f' rfl (by first | with_reducible rfl | assumption | decide) ?_)
      | (refine AL_condb rfl (fun hg => ?_) (fun hg => ?_) <;> (try simp only [Bool.not_eq_true', Bool.not_eq_false'] at hg))
      | ((with_reducible refine ite_elim (fun hg => ?_) (fun hg => ?_)) <;> (try simp (disch := omega) only [go_sem, ↓reduceIte, Nat.reduceEqDiff, reduceCtorEq, Nat.reduceAdd, Nat.reduceMul, Nat.reduceSub, Nat.reduceLeDiff, Nat.reduceLT, ne_eq, not_false_eq_true, not_true_eq_false, decide_true, decide_false, Int.reduceLE, Int.reduceLT, Int.reduceToNat, Int.reduceNeg, Nat.zero_add, Nat.add_zero, Nat.le_refl, Nat.sub_self, Nat.sub_zero, h4, hg, row_of, wrap_ok, iRows_app, iRows_app1, iRows_take, List.mem_cons, List.not_mem_nil, or_false, forall_eq]))
      | (with_reducible refine And.intro ?_ ?_)
      | (omega))
    have hk2 : k = L.length := by simp at h4; omega
    have hb : bk k = L.foldl (bestF out) (-1) := by simp only [bk, hk2, List.take_length]
    have hr : out ++ [bk k] = riseN L (out.length + 1) := by rw [riseN, ← ho1, hb]
    exact ⟨out ++ [bk k], ⟨by rw [hr, riseN_len], by simp; omega⟩, by simp; omega, (weak_t [0, 2] _ _ rfl (by decide) ⟨by decide, by decide⟩ (by simp [go_sem, ]) (by simp [go_sem, ]))⟩
  have hk2 : k < L.length := by simpa using h4
  have e : bk (k + 1) = bestF out (bk k) L[k] := by
    simp only [bk, List.take_add_one, List.getElem?_eq_getElem hk2, List.foldl_append, Option.toList_some, List.foldl_cons, List.foldl_nil]
  clear ho1 hLe hU
  by_cases ho : out.length = 0
  · have hz4 : ((out.length : Int) == 0) = true := by simp [ho]
    repeat' (first
      | (with_reducible refine hK' _ _ ?_; clear hK' K')
      | (with_reducible refine hK' _ _ _ ?_; clear hK' K')
      | (with_reducible refine RT_step fun K' hK' => ?_; first | (refine R2_n ?_; (try simp (disch := omega) only [go_sem, ↓reduceIte, Nat.reduceEqDiff, reduceCtorEq, Nat.reduceAdd, Nat.reduceMul, Nat.reduceSub, Nat.reduceLeDiff, Nat.reduceLT, ne_eq, not_false_eq_true, not_true_eq_false, decide_true, decide_false, Int.reduceLE, Int.reduceLT, Int.reduceToNat, Int.reduceNeg, Nat.zero_add, Nat.add_zero, Nat.le_refl, Nat.sub_self, Nat.sub_zero, hz4, row_of, wrap_ok, iRows_app, iRows_app1, iRows_take, List.mem_cons, List.not_mem_nil, or_false, forall_eq])) | (refine R2_gf rfl rfl (by first | with_reducible rfl | assumption | decide) ?_) | (refine R2_gf' rfl rfl (by first | with_reducible rfl | assumption | decide) ?_) | (refine R2_gu rfl rfl ?_) | (refine R2_gt rfl rfl (by first | with_reducible rfl | assumption | decide) ?_; (try simp (disch := omega) only [go_sem, ↓reduceIte, Nat.reduceEqDiff, reduceCtorEq, Nat.reduceAdd, Nat.reduceMul, Nat.reduceSub, Nat.reduceLeDiff, Nat.reduceLT, ne_eq, not_false_eq_true, not_true_eq_false, decide_true, decide_false, Int.reduceLE, Int.reduceLT, Int.reduceToNat, Int.reduceNeg, Nat.zero_add, Nat.add_zero, Nat.le_refl, Nat.sub_self, Nat.sub_zero, hz4, row_of, wrap_ok, iRows_app, iRows_app1, iRows_take, List.mem_cons, List.not_mem_nil, or_false, forall_eq])) | ((refine R2_g rfl rfl (fun hg => ?_) (fun hg => ?_) rfl) <;> (try simp only [Bool.not_true, Bool.not_false] at hg) <;> (try simp (disch := omega) only [go_sem, ↓reduceIte, Nat.reduceEqDiff, reduceCtorEq, Nat.reduceAdd, Nat.reduceMul, Nat.reduceSub, Nat.reduceLeDiff, Nat.reduceLT, ne_eq, not_false_eq_true, not_true_eq_false, decide_true, decide_false, Int.reduceLE, Int.reduceLT, Int.reduceToNat, Int.reduceNeg, Nat.zero_add, Nat.add_zero, Nat.le_refl, Nat.sub_self, Nat.sub_zero, hz4, hg, row_of, wrap_ok, iRows_app, iRows_app1, iRows_take, List.mem_cons, List.not_mem_nil, or_false, forall_eq])))
      | (with_reducible refine RT_nil ?_; refine hK _ ?_; clear hK K)
      | (with_reducible refine RL_step fun K' hK' => ?_; first | (refine L2_n ?_; (try simp (disch := omega) only [go_sem, ↓reduceIte, Nat.reduceEqDiff, reduceCtorEq, Nat.reduceAdd, Nat.reduceMul, Nat.reduceSub, Nat.reduceLeDiff, Nat.reduceLT, ne_eq, not_false_eq_true, not_true_eq_false, decide_true, decide_false, Int.reduceLE, Int.reduceLT, Int.reduceToNat, Int.reduceNeg, Nat.zero_add, Nat.add_zero, Nat.le_refl, Nat.sub_self, Nat.sub_zero, hz4, row_of, wrap_ok, iRows_app, iRows_app1, iRows_take, List.mem_cons, List.not_mem_nil, or_false, forall_eq])) | (refine L2_gf rfl rfl (by first | with_reducible rfl | assumption | decide) ?_) | (refine L2_gf' rfl rfl (by first | with_reducible rfl | assumption | decide) ?_) | (refine L2_gu rfl rfl ?_) | (refine L2_gt rfl rfl (by first | with_reducible rfl | assumption | decide) ?_; (try simp (disch := omega) only [go_sem, ↓reduceIte, Nat.reduceEqDiff, reduceCtorEq, Nat.reduceAdd, Nat.reduceMul, Nat.reduceSub, Nat.reduceLeDiff, Nat.reduceLT, ne_eq, not_false_eq_true, not_true_eq_false, decide_true, decide_false, Int.reduceLE, Int.reduceLT, Int.reduceToNat, Int.reduceNeg, Nat.zero_add, Nat.add_zero, Nat.le_refl, Nat.sub_self, Nat.sub_zero, hz4, row_of, wrap_ok, iRows_app, iRows_app1, iRows_take, List.mem_cons, List.not_mem_nil, or_false, forall_eq])) | ((refine L2_g rfl rfl (fun hg => ?_) (fun hg => ?_) rfl) <;> (try simp only [Bool.not_true, Bool.not_false] at hg) <;> (try simp (disch := omega) only [go_sem, ↓reduceIte, Nat.reduceEqDiff, reduceCtorEq, Nat.reduceAdd, Nat.reduceMul, Nat.reduceSub, Nat.reduceLeDiff, Nat.reduceLT, ne_eq, not_false_eq_true, not_true_eq_false, decide_true, decide_false, Int.reduceLE, Int.reduceLT, Int.reduceToNat, Int.reduceNeg, Nat.zero_add, Nat.add_zero, Nat.le_refl, Nat.sub_self, Nat.sub_zero, hz4, hg, row_of, wrap_ok, iRows_app, iRows_app1, iRows_take, List.mem_cons, List.not_mem_nil, or_false, forall_eq])))
      | (with_reducible refine RL_nil ⟨by kernel_rfl, hK _ ?_⟩; clear hK K)
      | (with_reducible refine AL_seq ?_)
      | (with_reducible refine AL_skip ?_)
      | (with_reducible refine AL_nil ?_)
      | (with_reducible refine SeqQ_n ?_)
      | (with_reducible refine BlockQ_n ?_)
      | (refine AL_text2 rfl fun K hK => ?_; simp only [List.map_cons, List.map_nil])
      | (refine AL_draw2 mixed rfl (by kernel_rfl) fun K hK => ?_; simp only [List.map_cons, List.map_nil])
      | (with_reducible refine AL_block ?_)
      | (with_reducible refine AL_exit ?_; simp only [SeqQ, BlockQ, ↓reduceIte, Nat.reduceEqDiff, reduceCtorEq])
      | (refine AL_cond_t' rfl (by first | with_reducible rfl | assumption | decide) ?_)
      | (refine AL_cond_f' rfl (by first | with_reducible rfl | assumption | decide) ?_)
      | (refine AL_condb rfl (fun hg => ?_) (fun hg => ?_) <;> (try simp only [Bool.not_eq_true', Bool.not_eq_false'] at hg))
      | ((with_reducible refine ite_elim (fun hg => ?_) (fun hg => ?_)) <;> (try simp (disch := omega) only [go_sem, ↓reduceIte, Nat.reduceEqDiff, reduceCtorEq, Nat.reduceAdd, Nat.reduceMul, Nat.reduceSub, Nat.reduceLeDiff, Nat.reduceLT, ne_eq, not_false_eq_true, not_true_eq_false, decide_true, decide_false, Int.reduceLE, Int.reduceLT, Int.reduceToNat, Int.reduceNeg, Nat.zero_add, Nat.add_zero, Nat.le_refl, Nat.sub_self, Nat.sub_zero, hz4, hg, row_of, wrap_ok, iRows_app, iRows_app1, iRows_take, List.mem_cons, List.not_mem_nil, or_false, forall_eq]))
      | (with_reducible refine And.intro ?_ ?_)
      | (omega))
    all_goals (have hb := e; clear e; simp only [bestF, aboveOK, *, decide_true, decide_false, eq_self, Bool.true_or, Bool.or_true, Bool.false_or, Bool.or_false, Bool.true_and, Bool.and_true, Bool.false_and, Bool.and_false, if_true, if_false, Bool.false_eq_true] at hb)
    all_goals (repeat (first | (with_reducible refine AL_nil ?_) | (with_reducible refine SeqQ_n ?_) | (with_reducible refine BlockQ_n ?_))); exact ⟨k + 1, by omega, by omega, weak_t [0, 1] _ _ rfl (by decide) ⟨by decide, by decide⟩ (by simp [go_sem, hb]) (by simp [go_sem, hb])⟩
  · have hz : (iRows out)[out.length - 1]? = some [pI (out.getLastD 0)] := by
      rw [row_get (by omega)]
      simp [List.getLastD_eq_getLast?, List.getLast?_eq_getElem?, List.getElem?_eq_getElem (show out.length - 1 < out.length by omega)]
    have hz1 : ((out.length : Int) - 1).toNat = out.length - 1 := by omega
    have hz2 : 0 ≤ (out.length : Int) - 1 := by omega
    have hz4 : ((out.length : Int) == 0) = false := by rw [beq_eq_false_iff_ne]; omega
    have hz3 : (out.length : Int) - 1 < (out.length : Int) := by omega
    repeat' (first
      | (with_reducible refine hK' _ _ ?_; clear hK' K')
      | (with_reducible refine hK' _ _ _ ?_; clear hK' K')
      | (with_reducible refine RT_step fun K' hK' => ?_; first | (refine R2_n ?_; (try simp (disch := omega) only [go_sem, ↓reduceIte, Nat.reduceEqDiff, reduceCtorEq, Nat.reduceAdd, Nat.reduceMul, Nat.reduceSub, Nat.reduceLeDiff, Nat.reduceLT, ne_eq, not_false_eq_true, not_true_eq_false, decide_true, decide_false, Int.reduceLE, Int.reduceLT, Int.reduceToNat, Int.reduceNeg, Nat.zero_add, Nat.add_zero, Nat.le_refl, Nat.sub_self, Nat.sub_zero, hz, hz1, hz2, hz4, hz3, row_of, wrap_ok, iRows_app, iRows_app1, iRows_take, List.mem_cons, List.not_mem_nil, or_false, forall_eq])) | (refine R2_gf rfl rfl (by first | with_reducible rfl | assumption | decide) ?_) | (refine R2_gf' rfl rfl (by first | with_reducible rfl | assumption | decide) ?_) | (refine R2_gu rfl rfl ?_) | (refine R2_gt rfl rfl (by first | with_reducible rfl | assumption | decide) ?_; (try simp (disch := omega) only [go_sem, ↓reduceIte, Nat.reduceEqDiff, reduceCtorEq, Nat.reduceAdd, Nat.reduceMul, Nat.reduceSub, Nat.reduceLeDiff, Nat.reduceLT, ne_eq, not_false_eq_true, not_true_eq_false, decide_true, decide_false, Int.reduceLE, Int.reduceLT, Int.reduceToNat, Int.reduceNeg, Nat.zero_add, Nat.add_zero, Nat.le_refl, Nat.sub_self, Nat.sub_zero, hz, hz1, hz2, hz4, hz3, row_of, wrap_ok, iRows_app, iRows_app1, iRows_take, List.mem_cons, List.not_mem_nil, or_false, forall_eq])) | ((refine R2_g rfl rfl (fun hg => ?_) (fun hg => ?_) rfl) <;> (try simp only [Bool.not_true, Bool.not_false] at hg) <;> (try simp (disch := omega) only [go_sem, ↓reduceIte, Nat.reduceEqDiff, reduceCtorEq, Nat.reduceAdd, Nat.reduceMul, Nat.reduceSub, Nat.reduceLeDiff, Nat.reduceLT, ne_eq, not_false_eq_true, not_true_eq_false, decide_true, decide_false, Int.reduceLE, Int.reduceLT, Int.reduceToNat, Int.reduceNeg, Nat.zero_add, Nat.add_zero, Nat.le_refl, Nat.sub_self, Nat.sub_zero, hz, hz1, hz2, hz4, hz3, hg, row_of, wrap_ok, iRows_app, iRows_app1, iRows_take, List.mem_cons, List.not_mem_nil, or_false, forall_eq])))
      | (with_reducible refine RT_nil ?_; refine hK _ ?_; clear hK K)
      | (with_reducible refine RL_step fun K' hK' => ?_; first | (refine L2_n ?_; (try simp (disch := omega) only [go_sem, ↓reduceIte, Nat.reduceEqDiff, reduceCtorEq, Nat.reduceAdd, Nat.reduceMul, Nat.reduceSub, Nat.reduceLeDiff, Nat.reduceLT, ne_eq, not_false_eq_true, not_true_eq_false, decide_true, decide_false, Int.reduceLE, Int.reduceLT, Int.reduceToNat, Int.reduceNeg, Nat.zero_add, Nat.add_zero, Nat.le_refl, Nat.sub_self, Nat.sub_zero, hz, hz1, hz2, hz4, hz3, row_of, wrap_ok, iRows_app, iRows_app1, iRows_take, List.mem_cons, List.not_mem_nil, or_false, forall_eq])) | (refine L2_gf rfl rfl (by first | with_reducible rfl | assumption | decide) ?_) | (refine L2_gf' rfl rfl (by first | with_reducible rfl | assumption | decide) ?_) | (refine L2_gu rfl rfl ?_) | (refine L2_gt rfl rfl (by first | with_reducible rfl | assumption | decide) ?_; (try simp (disch := omega) only [go_sem, ↓reduceIte, Nat.reduceEqDiff, reduceCtorEq, Nat.reduceAdd, Nat.reduceMul, Nat.reduceSub, Nat.reduceLeDiff, Nat.reduceLT, ne_eq, not_false_eq_true, not_true_eq_false, decide_true, decide_false, Int.reduceLE, Int.reduceLT, Int.reduceToNat, Int.reduceNeg, Nat.zero_add, Nat.add_zero, Nat.le_refl, Nat.sub_self, Nat.sub_zero, hz, hz1, hz2, hz4, hz3, row_of, wrap_ok, iRows_app, iRows_app1, iRows_take, List.mem_cons, List.not_mem_nil, or_false, forall_eq])) | ((refine L2_g rfl rfl (fun hg => ?_) (fun hg => ?_) rfl) <;> (try simp only [Bool.not_true, Bool.not_false] at hg) <;> (try simp (disch := omega) only [go_sem, ↓reduceIte, Nat.reduceEqDiff, reduceCtorEq, Nat.reduceAdd, Nat.reduceMul, Nat.reduceSub, Nat.reduceLeDiff, Nat.reduceLT, ne_eq, not_false_eq_true, not_true_eq_false, decide_true, decide_false, Int.reduceLE, Int.reduceLT, Int.reduceToNat, Int.reduceNeg, Nat.zero_add, Nat.add_zero, Nat.le_refl, Nat.sub_self, Nat.sub_zero, hz, hz1, hz2, hz4, hz3, hg, row_of, wrap_ok, iRows_app, iRows_app1, iRows_take, List.mem_cons, List.not_mem_nil, or_false, forall_eq])))
      | (with_reducible refine RL_nil ⟨by kernel_rfl, hK _ ?_⟩; clear hK K)
      | (with_reducible refine AL_seq ?_)
      | (with_reducible refine AL_skip ?_)
      | (with_reducible refine AL_nil ?_)
      | (with_reducible refine SeqQ_n ?_)
      | (with_reducible refine BlockQ_n ?_)
      | (refine AL_text2 rfl fun K hK => ?_; simp only [List.map_cons, List.map_nil])
      | (refine AL_draw2 mixed rfl (by kernel_rfl) fun K hK => ?_; simp only [List.map_cons, List.map_nil])
      | (with_reducible refine AL_block ?_)
      | (with_reducible refine AL_exit ?_; simp only [SeqQ, BlockQ, ↓reduceIte, Nat.reduceEqDiff, reduceCtorEq])
      | (refine AL_cond_t' rfl (by first | with_reducible rfl | assumption | decide) ?_)
      | (refine AL_cond_f' rfl (by first | with_reducible rfl | assumption | decide) ?_)
      | (refine AL_condb rfl (fun hg => ?_) (fun hg => ?_) <;> (try simp only [Bool.not_eq_true', Bool.not_eq_false'] at hg))
      | ((with_reducible refine ite_elim (fun hg => ?_) (fun hg => ?_)) <;> (try simp (disch := omega) only [go_sem, ↓reduceIte, Nat.reduceEqDiff, reduceCtorEq, Nat.reduceAdd, Nat.reduceMul, Nat.reduceSub, Nat.reduceLeDiff, Nat.reduceLT, ne_eq, not_false_eq_true, not_true_eq_false, decide_true, decide_false, Int.reduceLE, Int.reduceLT, Int.reduceToNat, Int.reduceNeg, Nat.zero_add, Nat.add_zero, Nat.le_refl, Nat.sub_self, Nat.sub_zero, hz, hz1, hz2, hz4, hz3, hg, row_of, wrap_ok, iRows_app, iRows_app1, iRows_take, List.mem_cons, List.not_mem_nil, or_false, forall_eq]))
      | (with_reducible refine And.intro ?_ ?_)
      | (omega))
    all_goals (have hb := e; clear e; simp only [bestF, aboveOK, *, decide_true, decide_false, eq_self, Bool.true_or, Bool.or_true, Bool.false_or, Bool.or_false, Bool.true_and, Bool.and_true, Bool.false_and, Bool.and_false, if_true, if_false, Bool.false_eq_true] at hb)
    all_goals (repeat (first | (with_reducible refine AL_nil ?_) | (with_reducible refine SeqQ_n ?_) | (with_reducible refine BlockQ_n ?_))); exact ⟨k + 1, by omega, by omega, weak_t [0, 1] _ _ rfl (by decide) ⟨by decide, by decide⟩ (by simp [go_sem, hb]) (by simp [go_sem, hb])⟩
end Go.Proofs.YtjlcojgimicfbaaDoor
/- Plain laws on instructions: the program's answers are the document's. -/
namespace Go.Proofs.YtjlcojgimicfbaaDoor
open Go.Am
set_option linter.unusedSimpArgs false
set_option maxRecDepth 100000
set_option maxHeartbeats 4000000

/-! ### Rows that rise -/
theorem strict_ext {a b : List Int} (ha : a.Pairwise (· < ·)) (hb : b.Pairwise (· < ·)) (h : ∀ x, x ∈ a ↔ x ∈ b) : a = b := by
  have hna : a.Nodup := ha.imp (fun h => by omega)
  have hnb : b.Nodup := hb.imp (fun h => by omega)
  refine List.Perm.eq_of_pairwise (le := (· < ·)) (fun x y _ _ h1 h2 => ?_) ha hb ((List.perm_ext_iff_of_nodup hna hnb).2 h)
  omega
theorem sort_le (l : List Int) : (l.mergeSort fun x y => decide (x ≤ y)).Pairwise (· ≤ ·) := by
  have := List.pairwise_mergeSort (le := fun x y : Int => decide (x ≤ y)) (fun a b c h1 h2 => by simp only [decide_eq_true_eq] at *; omega) (fun a b => by simp only [Bool.or_eq_true, decide_eq_true_eq]; omega) l
  exact this.imp (fun h => by simpa using h)

theorem compact_aux (zs : List Int) (h : zs.Pairwise (· ≤ ·)) : ∀ m, m ≤ zs.length → (Lib.compactUpTo zs.toArray m).Pairwise (· < ·) ∧
    (∀ x ∈ Lib.compactUpTo zs.toArray m, ∃ j, j < m ∧ zs.toArray[j]! = x) ∧ (∀ j, j < m → zs.toArray[j]! ∈ Lib.compactUpTo zs.toArray m) := by
  have mono : ∀ i j, i ≤ j → j < zs.length → zs.toArray[i]! ≤ zs.toArray[j]! := by
    intro i j hij hj
    rw [getElem!_pos zs.toArray i (by simp; omega), getElem!_pos zs.toArray j (by simpa using hj)]
    rcases Nat.lt_or_ge i j with h1 | h1
    · exact (List.pairwise_iff_getElem.1 h) i j (by omega) hj h1
    · have : i = j := by omega
      subst this; exact Int.le_refl _
  intro m
  induction m with
  | zero => intro _; simp [Lib.compactUpTo]
  | succ m ih =>
    intro hm
    obtain ⟨i1, i2, i3⟩ := ih (by omega)
    rw [Lib.compactUpTo_succ]
    cases hk : Lib.keeps zs.toArray m
    · have hk' : m ≠ 0 ∧ zs.toArray[m]! = zs.toArray[m - 1]! := by
        simp only [Lib.keeps, decide_eq_false_iff_not, not_or, Decidable.not_not] at hk
        exact hk
      simp only [Bool.false_eq_true, if_false, List.append_nil]
      refine ⟨i1, fun x hx => ?_, fun j hj => ?_⟩
      · obtain ⟨j, h1, h2⟩ := i2 x hx; exact ⟨j, by omega, h2⟩
      · rcases Nat.lt_or_ge j m with h1 | h1
        · exact i3 j h1
        · have : j = m := by omega
          subst this
          rw [hk'.2]; exact i3 _ (by omega)
    · simp only [if_true]
      refine ⟨?_, fun x hx => ?_, fun j hj => ?_⟩
      · rw [List.pairwise_append]
        refine ⟨i1, List.pairwise_singleton _ _, fun a ha b hb => ?_⟩
        obtain ⟨j, h1, rfl⟩ := i2 a ha
        rw [List.mem_singleton] at hb
        subst hb
        have h2 := mono j (m - 1) (by omega) (by omega)
        have h3 := mono (m - 1) m (by omega) (by omega)
        have h4 : zs.toArray[m]! ≠ zs.toArray[m - 1]! := by
          simp only [Lib.keeps, decide_eq_true_eq] at hk
          rcases hk with hk | hk
          · omega
          · exact hk
        omega
      · rcases List.mem_append.1 hx with hx | hx
        · obtain ⟨j, h1, h2⟩ := i2 x hx; exact ⟨j, by omega, h2⟩
        · rw [List.mem_singleton] at hx; exact ⟨m, by omega, hx.symm⟩
      · rcases Nat.lt_or_ge j m with h1 | h1
        · exact List.mem_append_left _ (i3 j h1)
        · have : j = m := by omega
          subst this; simp

theorem compact_strict (zs : List Int) (h : zs.Pairwise (· ≤ ·)) : (Lib.compact zs).Pairwise (· < ·) ∧ ∀ x, x ∈ Lib.compact zs ↔ x ∈ zs := by
  obtain ⟨h1, h2, h3⟩ := compact_aux zs h zs.length (Nat.le_refl _)
  refine ⟨h1, fun x => ⟨fun hx => ?_, fun hx => ?_⟩⟩
  · obtain ⟨j, hj, rfl⟩ := h2 x hx
    rw [getElem!_pos zs.toArray j (by simpa using hj)]
    simp
  · obtain ⟨j, hj, rfl⟩ := List.mem_iff_getElem.1 hx
    have := h3 j hj
    rw [getElem!_pos zs.toArray j (by simpa using hj)] at this
    simpa [Lib.compact] using this

/-! ### The least of those that stand behind -/
theorem best_spec (out : List Int) : ∀ (l : List Int) (b : Int), (∀ x ∈ l, 0 ≤ x) → (b = -1 ∨ 0 ≤ b ∧ aboveOK out b = true) →
    (l.foldl (bestF out) b = -1 ∧ b = -1 ∧ ∀ x ∈ l, aboveOK out x = false) ∨
    (0 ≤ l.foldl (bestF out) b ∧ aboveOK out (l.foldl (bestF out) b) = true ∧ (l.foldl (bestF out) b = b ∨ l.foldl (bestF out) b ∈ l) ∧ (b = -1 ∨ l.foldl (bestF out) b ≤ b) ∧ ∀ x ∈ l, aboveOK out x = true → l.foldl (bestF out) b ≤ x)
  | [], b, _, hb => by
    rcases hb with rfl | ⟨h1, h2⟩
    · exact .inl ⟨rfl, rfl, by simp⟩
    · exact .inr ⟨h1, h2, .inl rfl, .inr (Int.le_refl _), by simp⟩
  | x :: l, b, hl, hb => by
    have hx : 0 ≤ x := hl x (by simp)
    have hl' : ∀ y ∈ l, 0 ≤ y := fun y hy => hl y (by simp [hy])
    simp only [List.foldl_cons]
    by_cases hc : (aboveOK out x && (decide (b < 0) || decide (x < b))) = true
    · have e : bestF out b x = x := by simp only [bestF, hc, if_true]
      rw [e]
      simp only [Bool.and_eq_true, Bool.or_eq_true, decide_eq_true_eq] at hc
      rcases best_spec out l x hl' (.inr ⟨hx, hc.1⟩) with ⟨h1, h2, _⟩ | ⟨h1, h2, h3, h4, h5⟩
      · omega
      · refine .inr ⟨h1, h2, .inr ?_, ?_, fun y hy hy2 => ?_⟩
        · rcases h3 with h3 | h3
          · rw [h3]; simp
          · simp [h3]
        · rcases hb with rfl | ⟨g1, _⟩
          · exact .inl rfl
          · right; omega
        · rcases List.mem_cons.1 hy with rfl | hy
          · omega
          · exact h5 y hy hy2
    · have e : bestF out b x = b := by simp only [bestF, hc]; rfl
      rw [e]
      simp only [Bool.and_eq_true, Bool.or_eq_true, decide_eq_true_eq, not_and, not_or] at hc
      rcases best_spec out l b hl' hb with ⟨h1, h2, h3⟩ | ⟨h1, h2, h3, h4, h5⟩
      · refine .inl ⟨h1, h2, fun y hy => ?_⟩
        rcases List.mem_cons.1 hy with rfl | hy
        · cases hq : aboveOK out y
          · rfl
          · have := hc hq; omega
        · exact h3 y hy
      · refine .inr ⟨h1, h2, ?_, h4, fun y hy hy2 => ?_⟩
        · rcases h3 with h3 | h3
          · exact .inl h3
          · exact .inr (by simp [h3])
        · rcases List.mem_cons.1 hy with rfl | hy
          · have := hc hy2; omega
          · exact h5 y hy hy2

theorem riseN_sort (T S : List Int) (hT : ∀ x ∈ T, 0 ≤ x) (hS : S.Pairwise (· < ·)) (hm : ∀ x, x ∈ S ↔ x ∈ T) : ∀ n, n ≤ S.length → riseN T n = S.take n := by
  intro n
  induction n with
  | zero => intro _; simp [riseN]
  | succ n ih =>
    intro hn
    have hlt : n < S.length := by omega
    have hmono : ∀ i j (hi : i < S.length) (hj : j < S.length), i < j → S[i] < S[j] := fun i j hi hj h => (List.pairwise_iff_getElem.1 hS) i j hi hj h
    have hab : ∀ j (hj : j < S.length), aboveOK (S.take n) S[j] = decide (n ≤ j) := by
      intro j hj
      simp only [aboveOK, List.length_take, Nat.min_eq_left (show n ≤ S.length by omega)]
      rcases Nat.eq_zero_or_pos n with rfl | hp
      · simp
      · have e : (S.take n).getLastD 0 = S[n - 1] := by
          rw [List.getLastD_eq_getLast?, List.getLast?_eq_getElem?]
          simp only [List.length_take, Nat.min_eq_left (show n ≤ S.length by omega)]
          rw [List.getElem?_take]
          simp [show n - 1 < n by omega, show n - 1 < S.length by omega]
        rw [e]
        have h0 : decide (n = 0) = false := by simp; omega
        rw [h0, Bool.false_or]
        by_cases h : n ≤ j
        · have := hmono (n - 1) j (by omega) hj (by omega)
          simp [h, this]
        · have : S[j] ≤ S[n - 1] := by
            rcases Nat.lt_or_ge j (n - 1) with h1 | h1
            · exact Int.le_of_lt (hmono j (n - 1) hj (by omega) h1)
            · have : j = n - 1 := by omega
              subst this; exact Int.le_refl _
          simp [h]; omega
    have key : T.foldl (bestF (S.take n)) (-1) = S[n] := by
      rcases best_spec (S.take n) T (-1) hT (.inl rfl) with ⟨_, _, h3⟩ | ⟨h1, h2, h3, _, h5⟩
      · have := h3 S[n] ((hm _).1 (List.getElem_mem hlt))
        rw [hab n hlt] at this
        simp at this
      · have h3' : T.foldl (bestF (S.take n)) (-1) ∈ T := by
          rcases h3 with h3 | h3
          · omega
          · exact h3
        obtain ⟨j, hj, hj2⟩ := List.mem_iff_getElem.1 ((hm _).2 h3')
        rw [← hj2] at h2 h5 ⊢
        rw [hab j hj] at h2
        have hnj : n ≤ j := by simpa using h2
        have h6 := h5 S[n] ((hm _).1 (List.getElem_mem hlt)) (by rw [hab n hlt]; simp)
        rcases Nat.lt_or_ge n j with h7 | h7
        · have := hmono n j hlt hj h7; omega
        · have : j = n := by omega
          subst this; rfl
    rw [riseN, ih (by omega), key, List.take_succ_eq_append_getElem hlt]

theorem rise_eq (W T : List Int) (hT : ∀ x ∈ T, 0 ≤ x) (hn : T.Nodup) (hm : ∀ x, x ∈ W ↔ x ∈ T) :
    Lib.compact (W.mergeSort fun x y => decide (x ≤ y)) = riseN T T.length := by
  obtain ⟨h1, h2⟩ := compact_strict _ (sort_le W)
  have hlen : (Lib.compact (W.mergeSort fun x y => decide (x ≤ y))).length = T.length := by
    have hnd : (Lib.compact (W.mergeSort fun x y => decide (x ≤ y))).Nodup := h1.imp (fun h => by omega)
    exact ((List.perm_ext_iff_of_nodup hnd hn).2 fun x => by rw [h2, List.mem_mergeSort]; exact hm x).length_eq
  rw [riseN_sort T _ hT h1 (fun x => by rw [h2, List.mem_mergeSort]; exact hm x) T.length (by omega), ← hlen, List.take_length]
end Go.Proofs.YtjlcojgimicfbaaDoor
/- Plain laws on instructions: may it be, what it sets, what it reads. -/
namespace Go.Proofs.YtjlcojgimicfbaaDoor
open Go.Am
set_option linter.unusedSimpArgs false
set_option maxRecDepth 100000
set_option maxHeartbeats 4000000

theorem name_ref (k : Int) : nameOf k = refNameOf k := by
  unfold nameOf refNameOf
  by_cases h : 0 ≤ k ∧ k < 10
  · rw [if_pos h, if_neg (by omega)]
  · rw [if_neg h, if_pos (by omega)]
theorem kind_cases {k : Int} (h0 : 0 ≤ k) (h1 : k < 10) : k = 0 ∨ k = 1 ∨ k = 2 ∨ k = 3 ∨ k = 4 ∨ k = 5 ∨ k = 6 ∨ k = 7 ∨ k = 8 ∨ k = 9 := by omega
theorem nameOf_nil (k : Int) : (nameOf k == []) = decide (k < 0 ∨ 10 ≤ k) := by
  unfold nameOf
  by_cases h : 0 ≤ k ∧ k < 10
  · rw [if_pos h]
    rcases kind_cases h.1 h.2 with rfl | rfl | rfl | rfl | rfl | rfl | rfl | rfl | rfl | rfl <;> decide
  · rw [if_neg h]
    simp; omega
/-- What parts a kind has, told by its number. -/
theorem hasP_kind {k : Int} (h0 : 0 ≤ k) (h1 : k < 10) : hasP k 100 = hasDstR k ∧ hasP k 97 = hasAR k ∧ hasP k 98 = hasBR k ∧ hasP k 99 = (k == 0) ∧ hasP k 102 = (k == 7) := by
  rcases kind_cases h0 h1 with rfl | rfl | rfl | rfl | rfl | rfl | rfl | rfl | rfl | rfl <;> decide

theorem form_ref (i : Ins) : formI i = rformI i := by
  by_cases hk : 0 ≤ i.kind ∧ i.kind < 10
  · obtain ⟨g1, g2, g3, g4, g5⟩ := hasP_kind hk.1 hk.2
    have hm : (0 ≤ leastI i) ↔ (0 ≤ i.dst ∧ 0 ≤ i.a ∧ 0 ≤ i.b ∧ 0 ≤ i.f ∧ 0 ≤ i.x ∧ 0 ≤ i.y ∧ 0 ≤ i.z) := by
      simp only [leastI, leastOf]; omega
    rw [Bool.eq_iff_iff]
    simp only [formI, rformI, offI, roff1, roff2, roff3, roff4, nameOf_nil, hm, bareI, zeroI, Ins.mk.injEq, g1, g2, g3, g4, g5, noneR, Bool.and_eq_true, Bool.not_eq_true', Bool.or_eq_false_iff, Bool.and_eq_false_iff, decide_eq_true_eq, decide_eq_false_iff_not, Bool.not_eq_false', Bool.or_eq_true, beq_iff_eq, bne_eq_false_iff_eq, beq_eq_false_iff_ne, true_and]
    rcases kind_cases hk.1 hk.2 with h | h | h | h | h | h | h | h | h | h <;> simp only [h, hasDstR, hasAR, hasBR] <;> simp <;> omega
  · have h1 : formI i = false := by
      simp only [formI, offI, nameOf_nil]
      have : decide (i.kind < 0 ∨ 10 ≤ i.kind) = true := by simp; omega
      simp [this]
    have h2 : rformI i = false := by
      have : roff1 i = true := by
        simp only [roff1, Bool.or_eq_true, decide_eq_true_eq]; omega
      simp [rformI, this]
    rw [h1, h2]
theorem formI_kind {i : Ins} (h : formI i = true) : 0 ≤ i.kind ∧ i.kind < 10 := by
  simp only [formI, offI, nameOf_nil, Bool.and_eq_true, Bool.not_eq_true', Bool.or_eq_false_iff, decide_eq_false_iff_not] at h
  omega
theorem def_ref (i : Ins) : defI i = rdefI i := by
  unfold defI rdefI
  rw [← form_ref]
  cases h : formI i
  · simp
  · obtain ⟨g1, _⟩ := hasP_kind (formI_kind h).1 (formI_kind h).2
    simp [g1]
theorem uses_ref (i : Ins) : usesI i = rusesI i := by
  unfold usesI rusesI
  rw [← form_ref]
  cases h : formI i
  · simp
  · obtain ⟨_, g2, g3, _⟩ := hasP_kind (formI_kind h).1 (formI_kind h).2
    have hA : (partA i).foldl addL [] = usesA i := by
      simp only [partA, usesA, g2]
      split <;> simp
    have hB : (partB i).foldl addL [] = usesB i := by
      simp only [partB, usesB, g3]
      split
      · rw [List.foldl_append, hA]; simp
      · exact hA
    simp only [if_true, partL, List.foldl_append, hB]

theorem leastI_nonneg {i : Ins} (h : formI i = true) : 0 ≤ i.dst ∧ 0 ≤ i.a ∧ 0 ≤ i.b ∧ 0 ≤ i.f ∧ 0 ≤ i.x ∧ 0 ≤ i.y ∧ 0 ≤ i.z := by
  simp only [formI, Bool.and_eq_true, decide_eq_true_eq] at h
  have h1 := h.1.2
  simp only [leastI, leastOf] at h1
  omega
theorem addL_mem (l : List Int) (n x : Int) : x ∈ addL l n ↔ x ∈ l ∨ x = n := by
  unfold addL
  split
  · rename_i h
    constructor
    · exact .inl
    · rintro (h1 | rfl)
      · exact h1
      · exact h
  · simp
theorem addL_nodup {l : List Int} (h : l.Nodup) (n : Int) : (addL l n).Nodup := by
  unfold addL
  split
  · exact h
  · rename_i hn
    rw [List.nodup_append]
    refine ⟨h, by simp, fun a ha b hb => ?_⟩
    rw [List.mem_singleton] at hb
    subst hb
    intro e; subst e; exact hn ha
theorem foldl_addL_nodup (l : List Int) : ∀ m : List Int, m.Nodup → (l.foldl addL m).Nodup := by
  induction l with
  | nil => intro m h; exact h
  | cons x l ih => intro m h; exact ih _ (addL_nodup h x)
theorem foldl_addL_mem (l : List Int) : ∀ (m : List Int) (x : Int), x ∈ l.foldl addL m ↔ x ∈ m ∨ x ∈ l := by
  induction l with
  | nil => intro m x; simp
  | cons y l ih =>
    intro m x
    simp only [List.foldl_cons, ih, addL_mem, List.mem_cons]
    constructor
    · rintro ((h | h) | h) <;> simp [h]
    · rintro (h | h | h) <;> simp [h]
theorem usesI_nodup (i : Ins) : (usesI i).Nodup := by
  unfold usesI
  split
  · exact foldl_addL_nodup _ _ List.nodup_nil
  · exact List.nodup_nil
theorem partL_nonneg {i : Ins} (h : formI i = true) : ∀ x ∈ partL i, 0 ≤ x := by
  obtain ⟨_, ha, hb, _, hx, hy, hz⟩ := leastI_nonneg h
  intro v hv
  simp only [partL, List.mem_append] at hv
  rcases hv with hv | hv
  · unfold partB partA at hv
    split at hv <;> split at hv <;> simp at hv <;> omega
  · have := List.mem_of_mem_take hv
    simp only [argsI, List.mem_cons, List.not_mem_nil, or_false] at this
    rcases this with rfl | rfl | rfl <;> assumption
theorem usesI_nonneg (i : Ins) : ∀ x ∈ usesI i, 0 ≤ x := by
  intro x hx
  unfold usesI at hx
  split at hx
  · rename_i h
    rcases (foldl_addL_mem _ _ _).1 hx with hx | hx
    · simp at hx
    · exact partL_nonneg h x hx
  · simp at hx
theorem defI_or (i : Ins) : defI i = -1 ∨ 0 ≤ defI i := by
  unfold defI
  split
  · rename_i h
    rw [Bool.and_eq_true] at h
    exact .inr (leastI_nonneg h.2).1
  · exact .inl rfl
theorem vars_ref (i : Ins) : varsI i = rvarsI i := by
  have hmem : ∀ x, x ∈ withDef i ↔ x ∈ rwithDef i := by
    intro x
    unfold withDef rwithDef
    rw [← def_ref, ← uses_ref]
    rcases defI_or i with h | h
    · rw [if_pos h, if_neg (by omega)]
    · rw [if_neg (by omega), if_pos h]
      simp [addL_mem]
  have hnd : (rwithDef i).Nodup := by
    unfold rwithDef
    rw [← uses_ref]
    split
    · exact addL_nodup (usesI_nodup i) _
    · exact usesI_nodup i
  have hnn : ∀ x ∈ rwithDef i, 0 ≤ x := by
    intro x hx
    unfold rwithDef at hx
    rw [← uses_ref] at hx
    split at hx
    · rename_i h
      rcases (addL_mem _ _ _).1 hx with hx | rfl
      · exact usesI_nonneg i x hx
      · exact h
    · exact usesI_nonneg i x hx
  exact rise_eq (withDef i) (rwithDef i) hnn hnd hmem
end Go.Proofs.YtjlcojgimicfbaaDoor
/- The statement InstrIs, as a contract of its function. -/
namespace Go.Proofs.YtjlcojgimicfbaaDoor
open Go.Am
set_option linter.unusedSimpArgs false
set_option maxRecDepth 100000
set_option maxHeartbeats 4000000
variable {Γ : Nat → Option Obj}

theorem c_Uses (hB : Blanks Γ) (i : Ins) : Pure Γ Tryd.prog 13 [ins i] (ints (usesI i)) := by
  refine (ec_Uses hB i).pure ?_
  show view (tO [some (.rows 1 (iRows (usesI i)))]) _ = _
  simp only [go_sem, Nat.zero_add, Nat.le_refl, if_true, iRows_take]
theorem c_refUses (i : Ins) : Pure Γ Tryd.prog 14 [ins i] (ints (rusesI i)) := by
  refine (ec_refUses i).pure ?_
  show view (tO [some (.rows 1 (iRows (rusesI i)))]) _ = _
  simp only [go_sem, Nat.zero_add, Nat.le_refl, if_true, iRows_take]

abbrev iEx : Ins := ⟨0, 3, 0, 1, 1, 0, 0, 0, 0, 0, 0⟩
theorem c_awake5 (hB : Blanks Γ) : Pure Γ Tryd.prog 7 [] (pB true) := by
  have e1 : formI iEx = true := by decide
  have e2 : defI iEx = 0 := by decide
  have e3 : usesI iEx = [1] := by decide
  have e4 : nameOf 3 = [97, 100, 100] := by decide
  refine pure_start0 Tryd.func7 rfl (by simp [Tryd.f7]) ?_
  repeat' (first
      | (with_reducible refine hK' _ _ ?_; clear hK' K')
      | (with_reducible refine hK' _ _ _ ?_; clear hK' K')
      | (with_reducible refine RT_step fun K' hK' => ?_; first | (refine R2_n ?_; (try simp (disch := omega) only [go_sem, ↓reduceIte, Nat.reduceEqDiff, reduceCtorEq, Nat.reduceAdd, Nat.reduceMul, Nat.reduceSub, Nat.reduceLeDiff, Nat.reduceLT, ne_eq, not_false_eq_true, not_true_eq_false, decide_true, decide_false, Int.reduceLE, Int.reduceLT, Int.reduceToNat, Int.reduceNeg, Nat.zero_add, Nat.add_zero, Nat.le_refl, Nat.sub_self, Nat.sub_zero, e1, e2, e3, e4, row_of, wrap_ok, iRows_app, iRows_app1, iRows_take, List.mem_cons, List.not_mem_nil, or_false, forall_eq])) | (refine R2_gf rfl rfl (by first | with_reducible rfl | assumption | decide) ?_) | (refine R2_gf' rfl rfl (by first | with_reducible rfl | assumption | decide) ?_) | (refine R2_gu rfl rfl ?_) | (refine R2_gt rfl rfl (by first | with_reducible rfl | assumption | decide) ?_; (try simp (disch := omega) only [go_sem, ↓reduceIte, Nat.reduceEqDiff, reduceCtorEq, Nat.reduceAdd, Nat.reduceMul, Nat.reduceSub, Nat.reduceLeDiff, Nat.reduceLT, ne_eq, not_false_eq_true, not_true_eq_false, decide_true, decide_false, Int.reduceLE, Int.reduceLT, Int.reduceToNat, Int.reduceNeg, Nat.zero_add, Nat.add_zero, Nat.le_refl, Nat.sub_self, Nat.sub_zero, e1, e2, e3, e4, row_of, wrap_ok, iRows_app, iRows_app1, iRows_take, List.mem_cons, List.not_mem_nil, or_false, forall_eq])) | ((refine R2_g rfl rfl (fun hg => ?_) (fun hg => ?_) rfl) <;> (try simp only [Bool.not_true, Bool.not_false] at hg) <;> (try simp (disch := omega) only [go_sem, ↓reduceIte, Nat.reduceEqDiff, reduceCtorEq, Nat.reduceAdd, Nat.reduceMul, Nat.reduceSub, Nat.reduceLeDiff, Nat.reduceLT, ne_eq, not_false_eq_true, not_true_eq_false, decide_true, decide_false, Int.reduceLE, Int.reduceLT, Int.reduceToNat, Int.reduceNeg, Nat.zero_add, Nat.add_zero, Nat.le_refl, Nat.sub_self, Nat.sub_zero, e1, e2, e3, e4, hg, row_of, wrap_ok, iRows_app, iRows_app1, iRows_take, List.mem_cons, List.not_mem_nil, or_false, forall_eq])))
      | (with_reducible refine RT_nil ?_; refine hK _ ?_; clear hK K)
      | (with_reducible refine RL_step fun K' hK' => ?_; first | (refine L2_n ?_; (try simp (disch := omega) only [go_sem, ↓reduceIte, Nat.reduceEqDiff, reduceCtorEq, Nat.reduceAdd, Nat.reduceMul, Nat.reduceSub, Nat.reduceLeDiff, Nat.reduceLT, ne_eq, not_false_eq_true, not_true_eq_false, decide_true, decide_false, Int.reduceLE, Int.reduceLT, Int.reduceToNat, Int.reduceNeg, Nat.zero_add, Nat.add_zero, Nat.le_refl, Nat.sub_self, Nat.sub_zero, e1, e2, e3, e4, row_of, wrap_ok, iRows_app, iRows_app1, iRows_take, List.mem_cons, List.not_mem_nil, or_false, forall_eq])) | (refine L2_gf rfl rfl (by first | with_reducible rfl | assumption | decide) ?_) | (refine L2_gf' rfl rfl (by first | with_reducible rfl | assumption | decide) ?_) | (refine L2_gu rfl rfl ?_) | (refine L2_gt rfl rfl (by first | with_reducible rfl | assumption | decide) ?_; (try simp (disch := omega) only [go_sem, ↓reduceIte, Nat.reduceEqDiff, reduceCtorEq, Nat.reduceAdd, Nat.reduceMul, Nat.reduceSub, Nat.reduceLeDiff, Nat.reduceLT, ne_eq, not_false_eq_true, not_true_eq_false, decide_true, decide_false, Int.reduceLE, Int.reduceLT, Int.reduceToNat, Int.reduceNeg, Nat.zero_add, Nat.add_zero, Nat.le_refl, Nat.sub_self, Nat.sub_zero, e1, e2, e3, e4, row_of, wrap_ok, iRows_app, iRows_app1, iRows_take, List.mem_cons, List.not_mem_nil, or_false, forall_eq])) | ((refine L2_g rfl rfl (fun hg => ?_) (fun hg => ?_) rfl) <;> (try simp only [Bool.not_true, Bool.not_false] at hg) <;> (try simp (disch := omega) only [go_sem, ↓reduceIte, Nat.reduceEqDiff, reduceCtorEq, Nat.reduceAdd, Nat.reduceMul, Nat.reduceSub, Nat.reduceLeDiff, Nat.reduceLT, ne_eq, not_false_eq_true, not_true_eq_false, decide_true, decide_false, Int.reduceLE, Int.reduceLT, Int.reduceToNat, Int.reduceNeg, Nat.zero_add, Nat.add_zero, Nat.le_refl, Nat.sub_self, Nat.sub_zero, e1, e2, e3, e4, hg, row_of, wrap_ok, iRows_app, iRows_app1, iRows_take, List.mem_cons, List.not_mem_nil, or_false, forall_eq])))
      | (with_reducible refine RL_nil ⟨by kernel_rfl, hK _ ?_⟩; clear hK K)
      | (with_reducible refine AL_seq ?_)
      | (with_reducible refine AL_skip ?_)
      | (with_reducible refine AL_nil ?_)
      | (with_reducible refine SeqQ_n ?_)
      | (with_reducible refine BlockQ_n ?_)
      | (refine AL_text2 rfl fun K hK => ?_; simp only [List.map_cons, List.map_nil])
      | (refine AL_draw2 mixed rfl (by kernel_rfl) fun K hK => ?_; simp only [List.map_cons, List.map_nil])
      | (with_reducible refine AL_block ?_)
      | (with_reducible refine AL_exit ?_; simp only [SeqQ, BlockQ, ↓reduceIte, Nat.reduceEqDiff, reduceCtorEq])
      | (refine AL_cond_t' rfl (by first | with_reducible rfl | assumption | decide) ?_)
      | (refine AL_cond_f' rfl (by first | with_reducible rfl | assumption | decide) ?_)
      | (refine AL_condb rfl (fun hg => ?_) (fun hg => ?_) <;> (try simp only [Bool.not_eq_true', Bool.not_eq_false'] at hg))
      | (refine CallK_pure (c_Form hB iEx) en_8 rfl ?_; (try simp (disch := omega) only [go_sem, ↓reduceIte, Nat.reduceEqDiff, reduceCtorEq, Nat.reduceAdd, Nat.reduceMul, Nat.reduceSub, Nat.reduceLeDiff, Nat.reduceLT, ne_eq, not_false_eq_true, not_true_eq_false, decide_true, decide_false, Int.reduceLE, Int.reduceLT, Int.reduceToNat, Int.reduceNeg, Nat.zero_add, Nat.add_zero, Nat.le_refl, Nat.sub_self, Nat.sub_zero, e1, e2, e3, e4, row_of, wrap_ok, iRows_app, iRows_app1, iRows_take, List.mem_cons, List.not_mem_nil, or_false, forall_eq]))
      | (refine CallK_pure (c_Def hB iEx) en_10 rfl ?_; (try simp (disch := omega) only [go_sem, ↓reduceIte, Nat.reduceEqDiff, reduceCtorEq, Nat.reduceAdd, Nat.reduceMul, Nat.reduceSub, Nat.reduceLeDiff, Nat.reduceLT, ne_eq, not_false_eq_true, not_true_eq_false, decide_true, decide_false, Int.reduceLE, Int.reduceLT, Int.reduceToNat, Int.reduceNeg, Nat.zero_add, Nat.add_zero, Nat.le_refl, Nat.sub_self, Nat.sub_zero, e1, e2, e3, e4, row_of, wrap_ok, iRows_app, iRows_app1, iRows_take, List.mem_cons, List.not_mem_nil, or_false, forall_eq]))
      | (refine CallK_pure (c_Uses hB iEx) en_13 rfl ?_; (try simp (disch := omega) only [go_sem, ↓reduceIte, Nat.reduceEqDiff, reduceCtorEq, Nat.reduceAdd, Nat.reduceMul, Nat.reduceSub, Nat.reduceLeDiff, Nat.reduceLT, ne_eq, not_false_eq_true, not_true_eq_false, decide_true, decide_false, Int.reduceLE, Int.reduceLT, Int.reduceToNat, Int.reduceNeg, Nat.zero_add, Nat.add_zero, Nat.le_refl, Nat.sub_self, Nat.sub_zero, e1, e2, e3, e4, row_of, wrap_ok, iRows_app, iRows_app1, iRows_take, List.mem_cons, List.not_mem_nil, or_false, forall_eq]))
      | (refine CallK_pure ((c_Ints [1] [1]).loose2) en_12 rfl ?_; (try simp (disch := omega) only [go_sem, ↓reduceIte, Nat.reduceEqDiff, reduceCtorEq, Nat.reduceAdd, Nat.reduceMul, Nat.reduceSub, Nat.reduceLeDiff, Nat.reduceLT, ne_eq, not_false_eq_true, not_true_eq_false, decide_true, decide_false, Int.reduceLE, Int.reduceLT, Int.reduceToNat, Int.reduceNeg, Nat.zero_add, Nat.add_zero, Nat.le_refl, Nat.sub_self, Nat.sub_zero, e1, e2, e3, e4, row_of, wrap_ok, iRows_app, iRows_app1, iRows_take, List.mem_cons, List.not_mem_nil, or_false, forall_eq]))
      | (refine CallK_pure (c_Name hB 3) en_17 rfl ?_; (try simp (disch := omega) only [go_sem, ↓reduceIte, Nat.reduceEqDiff, reduceCtorEq, Nat.reduceAdd, Nat.reduceMul, Nat.reduceSub, Nat.reduceLeDiff, Nat.reduceLT, ne_eq, not_false_eq_true, not_true_eq_false, decide_true, decide_false, Int.reduceLE, Int.reduceLT, Int.reduceToNat, Int.reduceNeg, Nat.zero_add, Nat.add_zero, Nat.le_refl, Nat.sub_self, Nat.sub_zero, e1, e2, e3, e4, row_of, wrap_ok, iRows_app, iRows_app1, iRows_take, List.mem_cons, List.not_mem_nil, or_false, forall_eq]))
      | ((with_reducible refine ite_elim (fun hg => ?_) (fun hg => ?_)) <;> (try simp (disch := omega) only [go_sem, ↓reduceIte, Nat.reduceEqDiff, reduceCtorEq, Nat.reduceAdd, Nat.reduceMul, Nat.reduceSub, Nat.reduceLeDiff, Nat.reduceLT, ne_eq, not_false_eq_true, not_true_eq_false, decide_true, decide_false, Int.reduceLE, Int.reduceLT, Int.reduceToNat, Int.reduceNeg, Nat.zero_add, Nat.add_zero, Nat.le_refl, Nat.sub_self, Nat.sub_zero, e1, e2, e3, e4, hg, row_of, wrap_ok, iRows_app, iRows_app1, iRows_take, List.mem_cons, List.not_mem_nil, or_false, forall_eq]))
      | (with_reducible refine And.intro ?_ ?_)
      | (omega))
  (refine AL_ret (PureQ_ret ?_ rfl); simp [go_sem, ])

theorem c_InstrIs (hB : Blanks Γ) (i : Ins) (kind : Int) : Pure Γ Tryd.prog 3 [ins i, pI kind] (pB true) := by
  have e1 := form_ref i
  have e2 := def_ref i
  have e3 := uses_ref i
  have e4 := vars_ref i
  have e5 := name_ref kind
  refine pure_start2 Tryd.func3 rfl (by simp [Tryd.f3]) ?_
  repeat' (first
      | (with_reducible refine hK' _ _ ?_; clear hK' K')
      | (with_reducible refine hK' _ _ _ ?_; clear hK' K')
      | (with_reducible refine RT_step fun K' hK' => ?_; first | (refine R2_n ?_; (try simp (disch := omega) only [go_sem, ↓reduceIte, Nat.reduceEqDiff, reduceCtorEq, Nat.reduceAdd, Nat.reduceMul, Nat.reduceSub, Nat.reduceLeDiff, Nat.reduceLT, ne_eq, not_false_eq_true, not_true_eq_false, decide_true, decide_false, Int.reduceLE, Int.reduceLT, Int.reduceToNat, Int.reduceNeg, Nat.zero_add, Nat.add_zero, Nat.le_refl, Nat.sub_self, Nat.sub_zero, e1, e2, e3, e4, e5, beq_self_eq_true, row_of, wrap_ok, iRows_app, iRows_app1, iRows_take, List.mem_cons, List.not_mem_nil, or_false, forall_eq])) | (refine R2_gf rfl rfl (by first | with_reducible rfl | assumption | decide) ?_) | (refine R2_gf' rfl rfl (by first | with_reducible rfl | assumption | decide) ?_) | (refine R2_gu rfl rfl ?_) | (refine R2_gt rfl rfl (by first | with_reducible rfl | assumption | decide) ?_; (try simp (disch := omega) only [go_sem, ↓reduceIte, Nat.reduceEqDiff, reduceCtorEq, Nat.reduceAdd, Nat.reduceMul, Nat.reduceSub, Nat.reduceLeDiff, Nat.reduceLT, ne_eq, not_false_eq_true, not_true_eq_false, decide_true, decide_false, Int.reduceLE, Int.reduceLT, Int.reduceToNat, Int.reduceNeg, Nat.zero_add, Nat.add_zero, Nat.le_refl, Nat.sub_self, Nat.sub_zero, e1, e2, e3, e4, e5, beq_self_eq_true, row_of, wrap_ok, iRows_app, iRows_app1, iRows_take, List.mem_cons, List.not_mem_nil, or_false, forall_eq])) | ((refine R2_g rfl rfl (fun hg => ?_) (fun hg => ?_) rfl) <;> (try simp only [Bool.not_true, Bool.not_false] at hg) <;> (try simp (disch := omega) only [go_sem, ↓reduceIte, Nat.reduceEqDiff, reduceCtorEq, Nat.reduceAdd, Nat.reduceMul, Nat.reduceSub, Nat.reduceLeDiff, Nat.reduceLT, ne_eq, not_false_eq_true, not_true_eq_false, decide_true, decide_false, Int.reduceLE, Int.reduceLT, Int.reduceToNat, Int.reduceNeg, Nat.zero_add, Nat.add_zero, Nat.le_refl, Nat.sub_self, Nat.sub_zero, e1, e2, e3, e4, e5, beq_self_eq_true, hg, row_of, wrap_ok, iRows_app, iRows_app1, iRows_take, List.mem_cons, List.not_mem_nil, or_false, forall_eq])))
      | (with_reducible refine RT_nil ?_; refine hK _ ?_; clear hK K)
      | (with_reducible refine RL_step fun K' hK' => ?_; first | (refine L2_n ?_; (try simp (disch := omega) only [go_sem, ↓reduceIte, Nat.reduceEqDiff, reduceCtorEq, Nat.reduceAdd, Nat.reduceMul, Nat.reduceSub, Nat.reduceLeDiff, Nat.reduceLT, ne_eq, not_false_eq_true, not_true_eq_false, decide_true, decide_false, Int.reduceLE, Int.reduceLT, Int.reduceToNat, Int.reduceNeg, Nat.zero_add, Nat.add_zero, Nat.le_refl, Nat.sub_self, Nat.sub_zero, e1, e2, e3, e4, e5, beq_self_eq_true, row_of, wrap_ok, iRows_app, iRows_app1, iRows_take, List.mem_cons, List.not_mem_nil, or_false, forall_eq])) | (refine L2_gf rfl rfl (by first | with_reducible rfl | assumption | decide) ?_) | (refine L2_gf' rfl rfl (by first | with_reducible rfl | assumption | decide) ?_) | (refine L2_gu rfl rfl ?_) | (refine L2_gt rfl rfl (by first | with_reducible rfl | assumption | decide) ?_; (try simp (disch := omega) only [go_sem, ↓reduceIte, Nat.reduceEqDiff, reduceCtorEq, Nat.reduceAdd, Nat.reduceMul, Nat.reduceSub, Nat.reduceLeDiff, Nat.reduceLT, ne_eq, not_false_eq_true, not_true_eq_false, decide_true, decide_false, Int.reduceLE, Int.reduceLT, Int.reduceToNat, Int.reduceNeg, Nat.zero_add, Nat.add_zero, Nat.le_refl, Nat.sub_self, Nat.sub_zero, e1, e2, e3, e4, e5, beq_self_eq_true, row_of, wrap_ok, iRows_app, iRows_app1, iRows_take, List.mem_cons, List.not_mem_nil, or_false, forall_eq])) | ((refine L2_g rfl rfl (fun hg => ?_) (fun hg => ?_) rfl) <;> (try simp only [Bool.not_true, Bool.not_false] at hg) <;> (try simp (disch := omega) only [go_sem, ↓reduceIte, Nat.reduceEqDiff, reduceCtorEq, Nat.reduceAdd, Nat.reduceMul, Nat.reduceSub, Nat.reduceLeDiff, Nat.reduceLT, ne_eq, not_false_eq_true, not_true_eq_false, decide_true, decide_false, Int.reduceLE, Int.reduceLT, Int.reduceToNat, Int.reduceNeg, Nat.zero_add, Nat.add_zero, Nat.le_refl, Nat.sub_self, Nat.sub_zero, e1, e2, e3, e4, e5, beq_self_eq_true, hg, row_of, wrap_ok, iRows_app, iRows_app1, iRows_take, List.mem_cons, List.not_mem_nil, or_false, forall_eq])))
      | (with_reducible refine RL_nil ⟨by kernel_rfl, hK _ ?_⟩; clear hK K)
      | (with_reducible refine AL_seq ?_)
      | (with_reducible refine AL_skip ?_)
      | (with_reducible refine AL_nil ?_)
      | (with_reducible refine SeqQ_n ?_)
      | (with_reducible refine BlockQ_n ?_)
      | (refine AL_text2 rfl fun K hK => ?_; simp only [List.map_cons, List.map_nil])
      | (refine AL_draw2 mixed rfl (by kernel_rfl) fun K hK => ?_; simp only [List.map_cons, List.map_nil])
      | (with_reducible refine AL_block ?_)
      | (with_reducible refine AL_exit ?_; simp only [SeqQ, BlockQ, ↓reduceIte, Nat.reduceEqDiff, reduceCtorEq])
      | (refine AL_cond_t' rfl (by first | with_reducible rfl | assumption | decide) ?_)
      | (refine AL_cond_f' rfl (by first | with_reducible rfl | assumption | decide) ?_)
      | (refine AL_condb rfl (fun hg => ?_) (fun hg => ?_) <;> (try simp only [Bool.not_eq_true', Bool.not_eq_false'] at hg))
      | (refine CallK_pure (c_awake5 hB) en_7 rfl ?_; (try simp (disch := omega) only [go_sem, ↓reduceIte, Nat.reduceEqDiff, reduceCtorEq, Nat.reduceAdd, Nat.reduceMul, Nat.reduceSub, Nat.reduceLeDiff, Nat.reduceLT, ne_eq, not_false_eq_true, not_true_eq_false, decide_true, decide_false, Int.reduceLE, Int.reduceLT, Int.reduceToNat, Int.reduceNeg, Nat.zero_add, Nat.add_zero, Nat.le_refl, Nat.sub_self, Nat.sub_zero, e1, e2, e3, e4, e5, beq_self_eq_true, row_of, wrap_ok, iRows_app, iRows_app1, iRows_take, List.mem_cons, List.not_mem_nil, or_false, forall_eq]))
      | (refine CallK_pure (c_Form hB i) en_8 rfl ?_; (try simp (disch := omega) only [go_sem, ↓reduceIte, Nat.reduceEqDiff, reduceCtorEq, Nat.reduceAdd, Nat.reduceMul, Nat.reduceSub, Nat.reduceLeDiff, Nat.reduceLT, ne_eq, not_false_eq_true, not_true_eq_false, decide_true, decide_false, Int.reduceLE, Int.reduceLT, Int.reduceToNat, Int.reduceNeg, Nat.zero_add, Nat.add_zero, Nat.le_refl, Nat.sub_self, Nat.sub_zero, e1, e2, e3, e4, e5, beq_self_eq_true, row_of, wrap_ok, iRows_app, iRows_app1, iRows_take, List.mem_cons, List.not_mem_nil, or_false, forall_eq]))
      | (refine CallK_pure (c_refForm i) en_9 rfl ?_; (try simp (disch := omega) only [go_sem, ↓reduceIte, Nat.reduceEqDiff, reduceCtorEq, Nat.reduceAdd, Nat.reduceMul, Nat.reduceSub, Nat.reduceLeDiff, Nat.reduceLT, ne_eq, not_false_eq_true, not_true_eq_false, decide_true, decide_false, Int.reduceLE, Int.reduceLT, Int.reduceToNat, Int.reduceNeg, Nat.zero_add, Nat.add_zero, Nat.le_refl, Nat.sub_self, Nat.sub_zero, e1, e2, e3, e4, e5, beq_self_eq_true, row_of, wrap_ok, iRows_app, iRows_app1, iRows_take, List.mem_cons, List.not_mem_nil, or_false, forall_eq]))
      | (refine CallK_pure (c_Def hB i) en_10 rfl ?_; (try simp (disch := omega) only [go_sem, ↓reduceIte, Nat.reduceEqDiff, reduceCtorEq, Nat.reduceAdd, Nat.reduceMul, Nat.reduceSub, Nat.reduceLeDiff, Nat.reduceLT, ne_eq, not_false_eq_true, not_true_eq_false, decide_true, decide_false, Int.reduceLE, Int.reduceLT, Int.reduceToNat, Int.reduceNeg, Nat.zero_add, Nat.add_zero, Nat.le_refl, Nat.sub_self, Nat.sub_zero, e1, e2, e3, e4, e5, beq_self_eq_true, row_of, wrap_ok, iRows_app, iRows_app1, iRows_take, List.mem_cons, List.not_mem_nil, or_false, forall_eq]))
      | (refine CallK_pure (c_refDef i) en_11 rfl ?_; (try simp (disch := omega) only [go_sem, ↓reduceIte, Nat.reduceEqDiff, reduceCtorEq, Nat.reduceAdd, Nat.reduceMul, Nat.reduceSub, Nat.reduceLeDiff, Nat.reduceLT, ne_eq, not_false_eq_true, not_true_eq_false, decide_true, decide_false, Int.reduceLE, Int.reduceLT, Int.reduceToNat, Int.reduceNeg, Nat.zero_add, Nat.add_zero, Nat.le_refl, Nat.sub_self, Nat.sub_zero, e1, e2, e3, e4, e5, beq_self_eq_true, row_of, wrap_ok, iRows_app, iRows_app1, iRows_take, List.mem_cons, List.not_mem_nil, or_false, forall_eq]))
      | (refine CallK_pure (c_Uses hB i) en_13 rfl ?_; (try simp (disch := omega) only [go_sem, ↓reduceIte, Nat.reduceEqDiff, reduceCtorEq, Nat.reduceAdd, Nat.reduceMul, Nat.reduceSub, Nat.reduceLeDiff, Nat.reduceLT, ne_eq, not_false_eq_true, not_true_eq_false, decide_true, decide_false, Int.reduceLE, Int.reduceLT, Int.reduceToNat, Int.reduceNeg, Nat.zero_add, Nat.add_zero, Nat.le_refl, Nat.sub_self, Nat.sub_zero, e1, e2, e3, e4, e5, beq_self_eq_true, row_of, wrap_ok, iRows_app, iRows_app1, iRows_take, List.mem_cons, List.not_mem_nil, or_false, forall_eq]))
      | (refine CallK_pure (c_refUses i) en_14 rfl ?_; (try simp (disch := omega) only [go_sem, ↓reduceIte, Nat.reduceEqDiff, reduceCtorEq, Nat.reduceAdd, Nat.reduceMul, Nat.reduceSub, Nat.reduceLeDiff, Nat.reduceLT, ne_eq, not_false_eq_true, not_true_eq_false, decide_true, decide_false, Int.reduceLE, Int.reduceLT, Int.reduceToNat, Int.reduceNeg, Nat.zero_add, Nat.add_zero, Nat.le_refl, Nat.sub_self, Nat.sub_zero, e1, e2, e3, e4, e5, beq_self_eq_true, row_of, wrap_ok, iRows_app, iRows_app1, iRows_take, List.mem_cons, List.not_mem_nil, or_false, forall_eq]))
      | (refine CallK_pure (c_Vars hB i) en_15 rfl ?_; (try simp (disch := omega) only [go_sem, ↓reduceIte, Nat.reduceEqDiff, reduceCtorEq, Nat.reduceAdd, Nat.reduceMul, Nat.reduceSub, Nat.reduceLeDiff, Nat.reduceLT, ne_eq, not_false_eq_true, not_true_eq_false, decide_true, decide_false, Int.reduceLE, Int.reduceLT, Int.reduceToNat, Int.reduceNeg, Nat.zero_add, Nat.add_zero, Nat.le_refl, Nat.sub_self, Nat.sub_zero, e1, e2, e3, e4, e5, beq_self_eq_true, row_of, wrap_ok, iRows_app, iRows_app1, iRows_take, List.mem_cons, List.not_mem_nil, or_false, forall_eq]))
      | (refine CallK_pure (c_refVars i) en_16 rfl ?_; (try simp (disch := omega) only [go_sem, ↓reduceIte, Nat.reduceEqDiff, reduceCtorEq, Nat.reduceAdd, Nat.reduceMul, Nat.reduceSub, Nat.reduceLeDiff, Nat.reduceLT, ne_eq, not_false_eq_true, not_true_eq_false, decide_true, decide_false, Int.reduceLE, Int.reduceLT, Int.reduceToNat, Int.reduceNeg, Nat.zero_add, Nat.add_zero, Nat.le_refl, Nat.sub_self, Nat.sub_zero, e1, e2, e3, e4, e5, beq_self_eq_true, row_of, wrap_ok, iRows_app, iRows_app1, iRows_take, List.mem_cons, List.not_mem_nil, or_false, forall_eq]))
      | (refine CallK_pure (c_Ints _ _) en_12 rfl ?_; (try simp (disch := omega) only [go_sem, ↓reduceIte, Nat.reduceEqDiff, reduceCtorEq, Nat.reduceAdd, Nat.reduceMul, Nat.reduceSub, Nat.reduceLeDiff, Nat.reduceLT, ne_eq, not_false_eq_true, not_true_eq_false, decide_true, decide_false, Int.reduceLE, Int.reduceLT, Int.reduceToNat, Int.reduceNeg, Nat.zero_add, Nat.add_zero, Nat.le_refl, Nat.sub_self, Nat.sub_zero, e1, e2, e3, e4, e5, beq_self_eq_true, row_of, wrap_ok, iRows_app, iRows_app1, iRows_take, List.mem_cons, List.not_mem_nil, or_false, forall_eq]))
      | (refine CallK_pure (c_Name hB kind) en_17 rfl ?_; (try simp (disch := omega) only [go_sem, ↓reduceIte, Nat.reduceEqDiff, reduceCtorEq, Nat.reduceAdd, Nat.reduceMul, Nat.reduceSub, Nat.reduceLeDiff, Nat.reduceLT, ne_eq, not_false_eq_true, not_true_eq_false, decide_true, decide_false, Int.reduceLE, Int.reduceLT, Int.reduceToNat, Int.reduceNeg, Nat.zero_add, Nat.add_zero, Nat.le_refl, Nat.sub_self, Nat.sub_zero, e1, e2, e3, e4, e5, beq_self_eq_true, row_of, wrap_ok, iRows_app, iRows_app1, iRows_take, List.mem_cons, List.not_mem_nil, or_false, forall_eq]))
      | (refine CallK_pure (c_refName kind) en_18 rfl ?_; (try simp (disch := omega) only [go_sem, ↓reduceIte, Nat.reduceEqDiff, reduceCtorEq, Nat.reduceAdd, Nat.reduceMul, Nat.reduceSub, Nat.reduceLeDiff, Nat.reduceLT, ne_eq, not_false_eq_true, not_true_eq_false, decide_true, decide_false, Int.reduceLE, Int.reduceLT, Int.reduceToNat, Int.reduceNeg, Nat.zero_add, Nat.add_zero, Nat.le_refl, Nat.sub_self, Nat.sub_zero, e1, e2, e3, e4, e5, beq_self_eq_true, row_of, wrap_ok, iRows_app, iRows_app1, iRows_take, List.mem_cons, List.not_mem_nil, or_false, forall_eq]))
      | ((with_reducible refine ite_elim (fun hg => ?_) (fun hg => ?_)) <;> (try simp (disch := omega) only [go_sem, ↓reduceIte, Nat.reduceEqDiff, reduceCtorEq, Nat.reduceAdd, Nat.reduceMul, Nat.reduceSub, Nat.reduceLeDiff, Nat.reduceLT, ne_eq, not_false_eq_true, not_true_eq_false, decide_true, decide_false, Int.reduceLE, Int.reduceLT, Int.reduceToNat, Int.reduceNeg, Nat.zero_add, Nat.add_zero, Nat.le_refl, Nat.sub_self, Nat.sub_zero, e1, e2, e3, e4, e5, beq_self_eq_true, hg, row_of, wrap_ok, iRows_app, iRows_app1, iRows_take, List.mem_cons, List.not_mem_nil, or_false, forall_eq]))
      | (with_reducible refine And.intro ?_ ?_)
      | (omega))
  (refine AL_ret (PureQ_ret ?_ rfl); simp [go_sem, ])
end Go.Proofs.YtjlcojgimicfbaaDoor
/- The row of InstrIs: for every input the call returns true, and its arguments read as before; the laid tables as the row lists them. -/
namespace Go.Proofs.YtjlcojgimicfbaaDoor
open Go.Am Go.ChangeShapes Go.WideShapes Go.ChangeAt Go.RowKit
set_option linter.unusedSimpArgs false
set_option maxRecDepth 100000

theorem ownK : ownKnob Tryd.prog.godebug = none := by kernel_rfl
theorem laidOut : laidOutB Tryd.prog = true := by kernel_rfl
theorem gAscii : ∃ g t e n, Tryd.prog.globalNamed "strings.asciiSpace" = some g ∧ (Tryd.prog.globals[g]?).map (·.type) = some t ∧ Tryd.prog.underlying t = some (.array n e) ∧ Tryd.prog.underlying e = some (.int .u8) ∧ Tryd.prog.cellsOf e = 1 ∧ Tryd.prog.cellsOf t = n :=
  ⟨0, 83, 5, 256, by kernel_rfl, by kernel_rfl, by kernel_rfl, by kernel_rfl, by kernel_rfl, by kernel_rfl⟩

theorem tab_of_laid {laid : List (String × DataW Unit)} {W : World} (h : laidMetH Tryd.prog laid W) (hf : laid.filter (fun x => x.1 == "strings.asciiSpace") = [("strings.asciiSpace", Lib.tabData .u8 Lib.asciiSpaceTab)]) :
    Lib.TabIs Tryd.prog W "strings.asciiSpace" .u8 Lib.asciiSpaceTab := by
  obtain ⟨g, t, e, n, h1, h2, h3, h4, h5, h6⟩ := gAscii
  have h' := laidMetH.filter (fun x => x.1 == "strings.asciiSpace") h
  rw [hf, MakeChecks.laidMetH_plain _ _ _ (by rfl)] at h'
  exact Lib.tabIs_of_head h1 h2 h3 h4 h5 h6 h'

theorem blanks_of {W : World} (h : Lib.TabIs Tryd.prog W "strings.asciiSpace" .u8 Lib.asciiSpaceTab) : Blanks fun b => W.heap[b]? := by
  intro w' hw
  obtain ⟨g, t, e, n, h1, _⟩ := gAscii
  unfold Lib.TabIs World.var? at *
  rw [h1] at h ⊢
  simp only [Option.bind_some] at h ⊢
  cases hq : W.heap[g]? with
  | none => simp [hq] at h
  | some o => rw [hw g o hq]; rw [hq] at h; exact h

theorem sh_ins : shOf Tryd.prog 5 24 = some (List.replicate 11 (.int .i64)) := by kernel_rfl
theorem ins_of {ps : List PV} (h : HasShL (List.replicate 11 (.int .i64)) ps) : ∃ i : Ins, ps = i.cells := by
  match ps, h with
  | [a, b, c, d, e, f, g, h, i, j, k], hh =>
    simp only [List.replicate, HasShL, HasSh] at hh
    obtain ⟨⟨a, rfl, _⟩, ⟨b, rfl, _⟩, ⟨c, rfl, _⟩, ⟨d, rfl, _⟩, ⟨e, rfl, _⟩, ⟨f, rfl, _⟩, ⟨g, rfl, _⟩, ⟨h, rfl, _⟩, ⟨i, rfl, _⟩, ⟨j, rfl, _⟩, ⟨k, rfl, _⟩, _⟩ := hh
    exact ⟨⟨a, b, c, d, e, f, g, h, i, j, k⟩, rfl⟩
  | [], hh => simp [List.replicate, HasShL] at hh
  | [_], hh => simp [List.replicate, HasShL] at hh
  | [_, _], hh => simp [List.replicate, HasShL] at hh
  | [_, _, _], hh => simp [List.replicate, HasShL] at hh
  | [_, _, _, _], hh => simp [List.replicate, HasShL] at hh
  | [_, _, _, _, _], hh => simp [List.replicate, HasShL] at hh
  | [_, _, _, _, _, _], hh => simp [List.replicate, HasShL] at hh
  | [_, _, _, _, _, _, _], hh => simp [List.replicate, HasShL] at hh
  | [_, _, _, _, _, _, _, _], hh => simp [List.replicate, HasShL] at hh
  | [_, _, _, _, _, _, _, _, _], hh => simp [List.replicate, HasShL] at hh
  | [_, _, _, _, _, _, _, _, _, _], hh => simp [List.replicate, HasShL] at hh
  | _ :: _ :: _ :: _ :: _ :: _ :: _ :: _ :: _ :: _ :: _ :: _ :: _, hh => simp [List.replicate, HasShL] at hh

theorem ext_below {w w' : World} (h : Ext w (fun _ => False) w' (fun _ => False)) : Below w.heap.size w { w' with tape := w.tape } ∧ World.Alike w' { w' with tape := w.tape } :=
  ⟨⟨h.os, rfl, h.out, h.size, fun k hk => (h.keep k hk fun h => h).1⟩, rfl, rfl, rfl⟩

theorem laidAscii : Rows.instrIsRow.laid.filter (fun x => x.1 == "strings.asciiSpace") = [("strings.asciiSpace", Lib.tabData .u8 Lib.asciiSpaceTab)] := by kernel_rfl
theorem door_met2 (os : Os) (args : Array Value) : laidMetH Tryd.prog Rows.instrIsRow.laid ((World.doorLaid Tryd.prog 2000 os).forCall (fun _ _ => 0) ⟨#[], args, []⟩).memory :=
  laidMetH_of_parts3 (fuel := 8) (laidMet_of_run' 8 (by kernel_rfl) (by kernel_rfl)) (by kernel_rfl) (by kernel_rfl)

end Go.Proofs.YtjlcojgimicfbaaDoor
/- The row of InstrIs: for every input the call returns true, and its arguments read as before; the laid tables as the row lists them. -/
namespace Go.Proofs.YtjlcojgimicfbaaDoor
open Go.Am Go.ChangeShapes Go.WideShapes Go.ChangeAt Go.RowKit
set_option linter.unusedSimpArgs false
set_option maxRecDepth 100000

theorem instrIs_lifted (os : Os) (started : os.Started) (H : Type) (enc : TypeId × Value → H) :
    ReturnsInHanded {} Tryd.checked os 3 .any (fun w args => (Rows.instrIsSpec.pre enc Tryd.prog Tryd.f3 [] false w args ∧ laidMetH Tryd.prog Rows.instrIsRow.laid w) ∧ sizedMet enc Tryd.prog Tryd.f3 (OpenSpec.ofChange Rows.instrIsSpec) false w args)
      (Rows.instrIsSpec.post enc Tryd.prog Tryd.f3 false true false false) := by
  refine returnsInHanded_of_change_and (C := Tryd.checked) (X := fun w _ => laidMetH Tryd.prog Rows.instrIsRow.laid w) (fun _ _ _ hh h => h.of_heap hh) ownK started (by kernel_rfl) Tryd.func3
    (ChangeSpec.witness_shaped (enc := enc) (C := Tryd.checked) (os := os) (X := fun w _ => laidMetH Tryd.prog Rows.instrIsRow.laid w) false (World.doorLaid Tryd.prog 2000 os) #[.agg #[.int .i64 0, .int .i64 0, .int .i64 0, .int .i64 0, .int .i64 0, .int .i64 0, .int .i64 0, .int .i64 0, .int .i64 0, .int .i64 0, .int .i64 0], .int .i64 0] 8 rfl (World.shaped_of_RefB (by kernel_rfl) (by kernel_rfl)) (by kernel_rfl) (by kernel_rfl) (by kernel_rfl) (door_met2 os _)) ?_
  intro W base args ds gs before hval0 hW _ hsz0 hL _
  have hval : ∀ (j : Nat) t v, Tryd.f3.params[j]? = some t → args[j]? = some v → Value.okWide Tryd.prog W .any base t v := hval0
  have hW' := hW
  obtain ⟨p, q, hA0, hV, rfl, hfz, hnd⟩ := hW
  have hA : DataW.TrodAll enc Tryd.prog W 0 (fun _ => true) true Tryd.f3.params.toList args.toList ds p := hA0
  have hsz : (DataW.weightsEach Tryd.prog (Tryd.f3.params.toList ++ []) (ds ++ gs)).all (· ≤ reachBytes) = true := hsz0
  rw [Tryd.params3] at hA hval hsz
  obtain ⟨v0, v1, d0, d1, p0, p1, rfl, rfl, rfl, h0, h1⟩ := trodAll_two hA
  obtain ⟨rfl, rfl⟩ := trodVars_none hV
  have k0 := h0
  have k1 := h1
  have lt0 : ∀ x ∈ p0, x.block < W.heap.size := by obtain ⟨m, hm⟩ := k0; exact DataW.trod_lt m _ _ _ hm
  obtain ⟨cs, rfl, hcs⟩ := okWide_struct (by kernel_rfl : Tryd.prog.underlying 24 = some (.struct (Tryd.prog.fieldsOf 24))) (hval 0 24 v0 rfl rfl)
  obtain ⟨n, rfl, rfl, rfl, hwn⟩ := open_int Tryd.underlying3 (hval 1 3 v1 rfl rfl) h1
  obtain ⟨fuel, hf⟩ := h0
  obtain ⟨ps, hps, hrep⟩ := trod_sh 5 fuel _ _ _ _ sh_ins hf (fun m hm => by
    have hm' := List.all_eq_true.1 hsz m (DataW.weights_mem_each (j := 0) rfl rfl m hm)
    simp only [decide_eq_true_eq] at hm'
    have := reachBytes_lt
    omega)
  obtain ⟨i, rfl⟩ := ins_of hps
  have htab := tab_of_laid hL laidAscii
  refine (c_InstrIs (Γ := fun b => W.heap[b]?) (blanks_of htab) i n (fun _ => False) W #[.agg cs, .int .i64 n] ⟨fun _ h => h.elim, fun b o h => ⟨h, fun h => h⟩⟩ ?_).mono ?_
  · have h1 : PRep W (fun _ => False) (ins i) (.agg cs) := .agg i.cells cs (by simpa [Value.cells] using hrep.1) (fun j p y g1 g2 => hrep.2 j p y g1 (by simpa [Value.cells] using g2))
    exact (PReps.one h1).append (.one (.v (.int .i64 n)))
  · rintro e W' ⟨y, rfl, hy, hx⟩
    have hy' : y = .bool true := by cases hy; rfl
    subst hy'
    obtain ⟨bel, al⟩ := ext_below hx
    refine ⟨_, rfl, ChangeSpec.post_alike ?_ al⟩
    exact ⟨_, _, _, [], _, [], hW', trodAll_mk1 (shut_bool Tryd.underlying4 _), trodAll_cons_mk (Below.trod laidOut (by kernel_rfl) (of_decide_eq_true (by kernel_rfl)) k0 bel lt0) (trodAll_cons_mk (shut_int Tryd.underlying3 hwn) trodAll_mk0), rfl, bel.frame _, fun h => by cases h⟩

theorem instrIs_row : Rows.InstrIsSaid :=
  OpenClaim.holds_of_wide 3 Tryd.f3 rfl rfl rfl rfl rfl rfl rfl ⟨rfl, rfl, rfl, rfl, rfl⟩ rfl rfl rfl rfl rfl (by kernel_rfl) Tryd.func3 (by kernel_rfl)
    (of_decide_eq_true (by kernel_rfl)) (by unfold Func.isWrapper; first | (rw [if_pos (by decide +kernel)]; kernel_rfl) | (rw [if_neg (by decide +kernel)]; exact ⟨rfl, rfl⟩))
    (fun os started H enc _ => instrIs_lifted os started H enc)
end Go.Proofs.YtjlcojgimicfbaaDoor
/- InstrIs, the tied card: for every input the call returns true and its arguments read as before, where unicode.White_Space and strings.asciiSpace hold what the program's text lays. -/
namespace Go.Proofs.YtjlcojgimicfbaaDoor
open Go

theorem instrIs_holds : Rows.InstrIsCardSaid :=
  Claim7.holds_tied_plain_at .later [] [.listed, .data] true Rows.instrIsCard.stood.harness true
    instrIs_row (fun _ h => by cases h) (by kernel_rfl) (fun _ h => by cases h) instrIs_row_tie rfl ⟨rfl, rfl⟩ (by kernel_rfl) rfl
    (fun f fn hf hfn => by
      obtain rfl : f = 3 := Option.some.inj ((show Tryd.prog.funcNamed "bywash/bywashlaw05.InstrIs" = some 3 by kernel_rfl).symm.trans hf) |>.symm
      obtain rfl : fn = Tryd.f3 := (Option.some.inj (Tryd.func3.symm.trans hfn)).symm
      exact ⟨by kernel_rfl, fun j t ht => by
        rw [Tryd.params3] at ht
        have hm : t ∈ [24, 3] := by simpa using Array.mem_of_getElem? ht
        have hall : ([24, 3].all fun u => !Tryd.prog.wantsStandIn u) = true := by kernel_rfl
        exact (show Tryd.prog.wantsStandIn t = false by simpa using List.all_eq_true.1 hall t hm)⟩)
    (by kernel_rfl)
end Go.Proofs.YtjlcojgimicfbaaDoor
