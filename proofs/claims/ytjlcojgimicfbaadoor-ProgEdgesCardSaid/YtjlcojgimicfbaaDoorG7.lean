/- Proof text of this claim, part 7: Programs: the document's parts, and the example.. Its conditions are those of the statement: the laid tables as the row lists them. -/
import Derived.Test.YtjlcojgimicfbaaDoorF6
/- Programs: the document's parts, and the example. -/
namespace Go.Proofs.YtjlcojgimicfbaaDoor
open Go.Am Go
set_option linter.unusedSimpArgs false
set_option maxRecDepth 100000
set_option maxHeartbeats 4000000
variable {Γ : Nat → Option Obj}

abbrev awakeP : List FunD := [⟨0, 0, [⟨true, [], []⟩]⟩]
theorem aw_fun : funO awakeP 0 = some ⟨0, 0, [⟨true, [], []⟩]⟩ := by decide +kernel
theorem aw_sane : saneD awakeP = true := by decide +kernel
theorem aw_block : newBlock awakeP 0 = 1 := by decide +kernel
theorem aw_id : newId awakeP = 0 := by decide +kernel
theorem c_awake (hB : Blanks Γ) (hE : ErrT Γ) : Pure Γ Tryd.prog 19 [] (pB true) := by
  have h1 := c_Fun hB hE awakeP 0
  rw [aw_fun] at h1
  have h2 := c_Sane hB hE awakeP
  rw [show (checkD awakeP).isNone = true from aw_sane] at h2
  have h3 := c_NewBlock hB hE awakeP 0
  rw [aw_block] at h3
  have h4 := c_NewId hB hE awakeP
  rw [aw_id] at h4
  refine pure_start0 Tryd.func19 rfl (by simp [Tryd.f19]) ?_
  repeat' (first
 | (with_reducible refine Mk_i ?_; try simp (disch := omega) only [go_sem, seval, irw])
 | ((with_reducible first | refine hK' _ _ ?_ | refine hK' _ _ _ ?_); clear hK' K')
 | (with_reducible refine RT_step fun K' hK' => ?_; first | refine R2_n ?_ | refine Rf rfl rfl ?_ | refine Rf' rfl rfl ?_ | refine R2_gu rfl rfl ?_ | refine Rt rfl rfl ?_ | refine R2_g rfl rfl (fun hg => ?_) (fun hg => ?_) rfl)
 | (with_reducible refine RT_nil ?_; refine hK _ ?_; clear hK K)
 | (with_reducible refine MkG_i ?_; (try simp only [bnq] at hg); (try (have hgp := hg; simp only [bdq] at hgp)); try simp (disch := omega) only [go_sem, seval, irw, hg])
 | (with_reducible refine RL_step fun K' hK' => ?_; first | refine L2_n ?_ | refine Lf rfl rfl ?_ | refine Lf' rfl rfl ?_ | refine L2_gu rfl rfl ?_ | refine Lt rfl rfl ?_ | refine L2_g rfl rfl (fun hg => ?_) (fun hg => ?_) rfl)
 | (with_reducible refine RL_nil ⟨by kernel_rfl, hK _ ?_⟩; clear hK K)
 | (with_reducible first | refine AL_seq ?_ | refine AL_skip ?_ | refine AL_nil ?_ | refine SeqQ_n ?_ | refine BlockQ_n ?_)
 | (refine AL_text2 rfl fun K hK => ?_; simp only [List.map])
 | (refine AL_draw2 mixed rfl (by kernel_rfl) fun K hK => ?_; simp only [List.map])
 | (with_reducible refine AL_block ?_)
 | (with_reducible refine AL_exit ?_; simp only [SeqQ, BlockQ, go_sem, seval])
 | (refine Ct rfl ?_)
 | (refine Cf rfl ?_)
 | (refine AL_condb rfl (fun hg => ?_) (fun hg => ?_) <;> ((try simp only [bnq] at hg); (try (have hgp := hg; simp only [bdq] at hgp))))
 | (refine CallK_pureM (Pure.lo h1 rfl) en_25 rfl ?_)
 | (refine CallK_pureM (Pure.lo h2 rfl) en_21 rfl ?_)
 | (refine CallK_pureM (Pure.lo h3 rfl) en_24 rfl ?_)
 | (refine CallK_pureM (Pure.lo h4 rfl) en_22 rfl ?_)
 | (with_reducible first | refine ite_elimM (fun hg => ?_) (fun hg => ?_) | refine And.intro ?_ ?_)
 | omega)
  (refine AL_ret (PureQ_ret ?_ rfl); simp [go_sem, ])

def fewB (b : BlkD) : Bool := decide (b.code.length ≤ 30) && decide (b.succ.length ≤ 30)
def fewF (f : FunD) : Bool := decide (f.blocks.length ≤ 20) && f.blocks.all fewB
def fewD (p : List FunD) : Bool := decide (p.length ≤ 10) && p.all fewF
theorem c_Few (p : List FunD) : Pure Γ Tryd.prog 20 [progV p] (pB (fewD p)) := by
  refine pure_start1 Tryd.func20 rfl (by simp [Tryd.f20]) ?_
  refine AL_seq ?_
  refine AL_len 0 (full := false) (rows := funRows p) rfl rfl (.agg (by simp) (.refl _)) fun hl => ?_
  simp only [funRows, List.length_map] at hl
  by_cases h0 : 10 < p.length
  · have h0' : decide (10 < (p.length : Int)) = true := by simp; omega
    have : fewD p = false := by simp [fewD]; intro h; omega
    rw [this]
    repeat' (first
 | (with_reducible refine Mk_i ?_; try simp (disch := omega) only [go_sem, seval, irw, h0'])
 | ((with_reducible first | refine hK' _ _ ?_ | refine hK' _ _ _ ?_); clear hK' K')
 | (with_reducible refine RT_step fun K' hK' => ?_; first | refine R2_n ?_ | refine Rf rfl rfl ?_ | refine Rf' rfl rfl ?_ | refine R2_gu rfl rfl ?_ | refine Rt rfl rfl ?_ | refine R2_g rfl rfl (fun hg => ?_) (fun hg => ?_) rfl)
 | (with_reducible refine RT_nil ?_; refine hK _ ?_; clear hK K)
 | (with_reducible refine MkG_i ?_; (try simp only [bnq] at hg); (try (have hgp := hg; simp only [bdq] at hgp)); try simp (disch := omega) only [go_sem, seval, irw, h0', hg])
 | (with_reducible refine RL_step fun K' hK' => ?_; first | refine L2_n ?_ | refine Lf rfl rfl ?_ | refine Lf' rfl rfl ?_ | refine L2_gu rfl rfl ?_ | refine Lt rfl rfl ?_ | refine L2_g rfl rfl (fun hg => ?_) (fun hg => ?_) rfl)
 | (with_reducible refine RL_nil ⟨by kernel_rfl, hK _ ?_⟩; clear hK K)
 | (with_reducible first | refine AL_seq ?_ | refine AL_skip ?_ | refine AL_nil ?_ | refine SeqQ_n ?_ | refine BlockQ_n ?_)
 | (refine AL_text2 rfl fun K hK => ?_; simp only [List.map])
 | (refine AL_draw2 mixed rfl (by kernel_rfl) fun K hK => ?_; simp only [List.map])
 | (with_reducible refine AL_block ?_)
 | (with_reducible refine AL_exit ?_; simp only [SeqQ, BlockQ, go_sem, seval])
 | (refine Ct rfl ?_)
 | (refine Cf rfl ?_)
 | (refine AL_condb rfl (fun hg => ?_) (fun hg => ?_) <;> ((try simp only [bnq] at hg); (try (have hgp := hg; simp only [bdq] at hgp))))
 | (with_reducible first | refine ite_elimM (fun hg => ?_) (fun hg => ?_) | refine And.intro ?_ ?_)
 | omega)
    (refine AL_ret (PureQ_ret ?_ rfl); simp [go_sem, ])
  have h0' : decide (10 < (p.length : Int)) = false := by simp; omega
  have h0'' : decide (p.length ≤ 10) = true := by simp; omega
  rw [fewD, h0'', Bool.true_and]
  repeat' (first
 | (with_reducible refine Mk_i ?_; try simp (disch := omega) only [go_sem, seval, irw, h0'])
 | ((with_reducible first | refine hK' _ _ ?_ | refine hK' _ _ _ ?_); clear hK' K')
 | (with_reducible refine RT_step fun K' hK' => ?_; first | refine R2_n ?_ | refine Rf rfl rfl ?_ | refine Rf' rfl rfl ?_ | refine R2_gu rfl rfl ?_ | refine Rt rfl rfl ?_ | refine R2_g rfl rfl (fun hg => ?_) (fun hg => ?_) rfl)
 | (with_reducible refine RT_nil ?_; refine hK _ ?_; clear hK K)
 | (with_reducible refine MkG_i ?_; (try simp only [bnq] at hg); (try (have hgp := hg; simp only [bdq] at hgp)); try simp (disch := omega) only [go_sem, seval, irw, h0', hg])
 | (with_reducible refine RL_step fun K' hK' => ?_; first | refine L2_n ?_ | refine Lf rfl rfl ?_ | refine Lf' rfl rfl ?_ | refine L2_gu rfl rfl ?_ | refine Lt rfl rfl ?_ | refine L2_g rfl rfl (fun hg => ?_) (fun hg => ?_) rfl)
 | (with_reducible refine RL_nil ⟨by kernel_rfl, hK _ ?_⟩; clear hK K)
 | (with_reducible first | refine AL_seq ?_ | refine AL_skip ?_ | refine AL_nil ?_ | refine SeqQ_n ?_ | refine BlockQ_n ?_)
 | (refine AL_text2 rfl fun K hK => ?_; simp only [List.map])
 | (refine AL_draw2 mixed rfl (by kernel_rfl) fun K hK => ?_; simp only [List.map])
 | (with_reducible refine AL_block ?_)
 | (with_reducible refine AL_exit ?_; simp only [SeqQ, BlockQ, go_sem, seval])
 | (refine Ct rfl ?_)
 | (refine Cf rfl ?_)
 | (refine AL_condb rfl (fun hg => ?_) (fun hg => ?_) <;> ((try simp only [bnq] at hg); (try (have hgp := hg; simp only [bdq] at hgp))))
 | (with_reducible first | refine ite_elimM (fun hg => ?_) (fun hg => ?_) | refine And.intro ?_ ?_)
 | omega)
  (repeat (with_reducible first | refine AL_seq ?_ | refine AL_skip ?_ | refine AL_block ?_ | refine AL_nil ?_ | refine SeqQ_n ?_ | refine BlockQ_n ?_))
  refine AL_loop (fun k : Nat => ⟨tA [(1, .op 1 0 0 0), (3, pI k)], tO [some (.rows 1 [[.sl false (funRows p)]])]⟩)
    (fun k => k ≤ p.length ∧ (p.drop k).all fewF = p.all fewF) (fun k => p.length - k) 0 ⟨Nat.zero_le _, rfl⟩ (weak_t [0] _ _ rfl (by decide) ⟨by decide, by decide⟩ (by simp [go_sem, ]) (by simp [go_sem, ])) ?_
  rintro k ⟨hk, hf⟩
  (repeat (with_reducible first | refine AL_seq ?_ | refine AL_skip ?_ | refine AL_nil ?_ | refine SeqQ_n ?_ | refine BlockQ_n ?_)); (first
 | (refine AL_text2 rfl fun K hK => ?_; simp only [List.map])
 | (refine AL_draw2 mixed rfl (by kernel_rfl) fun K hK => ?_; simp only [List.map])
 | (with_reducible refine AL_block ?_)
 | (with_reducible refine AL_exit ?_; simp only [SeqQ, BlockQ, go_sem, seval])
 | (refine Ct rfl ?_)
 | (refine Cf rfl ?_)
 | (refine AL_condb rfl (fun hg => ?_) (fun hg => ?_) <;> ((try simp only [bnq] at hg); (try (have hgp := hg; simp only [bdq] at hgp))))); repeat' (first
 | (with_reducible refine Mk_i ?_; try simp (disch := omega) only [go_sem, seval, irw])
 | ((with_reducible first | refine hK' _ _ ?_ | refine hK' _ _ _ ?_); clear hK' K')
 | (with_reducible refine RT_step fun K' hK' => ?_; first | refine R2_n ?_ | refine Rf rfl rfl ?_ | refine Rf' rfl rfl ?_ | refine R2_gu rfl rfl ?_ | refine Rt rfl rfl ?_ | refine R2_g rfl rfl (fun hg => ?_) (fun hg => ?_) rfl)
 | (with_reducible refine RT_nil ?_; refine hK _ ?_; clear hK K)
 | (with_reducible refine MkG_i ?_; (try simp only [bnq] at hg); (try (have hgp := hg; simp only [bdq] at hgp)); try simp (disch := omega) only [go_sem, seval, irw, hg])
 | (with_reducible refine RL_step fun K' hK' => ?_; first | refine L2_n ?_ | refine Lf rfl rfl ?_ | refine Lf' rfl rfl ?_ | refine L2_gu rfl rfl ?_ | refine Lt rfl rfl ?_ | refine L2_g rfl rfl (fun hg => ?_) (fun hg => ?_) rfl)
 | (with_reducible refine RL_nil ⟨by kernel_rfl, hK _ ?_⟩; clear hK K)
 | (with_reducible first | refine ite_elimM (fun hg => ?_) (fun hg => ?_) | refine And.intro ?_ ?_)
 | omega)
  cases h2 : decide ((k : Int) < (p.length : Int))
  · have hk2 : p.length ≤ k := by simp at h2; omega
    rw [List.drop_of_length_le hk2] at hf
    rw [← hf]
    repeat' (first
 | (with_reducible refine Mk_i ?_; try simp (disch := omega) only [go_sem, seval, irw, h2])
 | ((with_reducible first | refine hK' _ _ ?_ | refine hK' _ _ _ ?_); clear hK' K')
 | (with_reducible refine RT_step fun K' hK' => ?_; first | refine R2_n ?_ | refine Rf rfl rfl ?_ | refine Rf' rfl rfl ?_ | refine R2_gu rfl rfl ?_ | refine Rt rfl rfl ?_ | refine R2_g rfl rfl (fun hg => ?_) (fun hg => ?_) rfl)
 | (with_reducible refine RT_nil ?_; refine hK _ ?_; clear hK K)
 | (with_reducible refine MkG_i ?_; (try simp only [bnq] at hg); (try (have hgp := hg; simp only [bdq] at hgp)); try simp (disch := omega) only [go_sem, seval, irw, h2, hg])
 | (with_reducible refine RL_step fun K' hK' => ?_; first | refine L2_n ?_ | refine Lf rfl rfl ?_ | refine Lf' rfl rfl ?_ | refine L2_gu rfl rfl ?_ | refine Lt rfl rfl ?_ | refine L2_g rfl rfl (fun hg => ?_) (fun hg => ?_) rfl)
 | (with_reducible refine RL_nil ⟨by kernel_rfl, hK _ ?_⟩; clear hK K)
 | (with_reducible first | refine AL_seq ?_ | refine AL_skip ?_ | refine AL_nil ?_ | refine SeqQ_n ?_ | refine BlockQ_n ?_)
 | (refine AL_text2 rfl fun K hK => ?_; simp only [List.map])
 | (refine AL_draw2 mixed rfl (by kernel_rfl) fun K hK => ?_; simp only [List.map])
 | (with_reducible refine AL_block ?_)
 | (with_reducible refine AL_exit ?_; simp only [SeqQ, BlockQ, go_sem, seval])
 | (refine Ct rfl ?_)
 | (refine Cf rfl ?_)
 | (refine AL_condb rfl (fun hg => ?_) (fun hg => ?_) <;> ((try simp only [bnq] at hg); (try (have hgp := hg; simp only [bdq] at hgp))))
 | (with_reducible first | refine ite_elimM (fun hg => ?_) (fun hg => ?_) | refine And.intro ?_ ?_)
 | omega)
    (refine AL_ret (PureQ_ret ?_ rfl); simp [go_sem, ])
  have hk2 : k < p.length := by simpa using h2
  rw [List.drop_eq_getElem_cons hk2, List.all_cons, fewF] at hf
  repeat' (first
 | (with_reducible refine Mk_i ?_; try simp (disch := omega) only [go_sem, seval, irw, h2])
 | ((with_reducible first | refine hK' _ _ ?_ | refine hK' _ _ _ ?_); clear hK' K')
 | (with_reducible refine RT_step fun K' hK' => ?_; first | refine R2_n ?_ | refine Rf rfl rfl ?_ | refine Rf' rfl rfl ?_ | refine R2_gu rfl rfl ?_ | refine Rt rfl rfl ?_ | refine R2_g rfl rfl (fun hg => ?_) (fun hg => ?_) rfl)
 | (with_reducible refine RT_nil ?_; refine hK _ ?_; clear hK K)
 | (with_reducible refine MkG_i ?_; (try simp only [bnq] at hg); (try (have hgp := hg; simp only [bdq] at hgp)); try simp (disch := omega) only [go_sem, seval, irw, h2, hg])
 | (with_reducible refine RL_step fun K' hK' => ?_; first | refine L2_n ?_ | refine Lf rfl rfl ?_ | refine Lf' rfl rfl ?_ | refine L2_gu rfl rfl ?_ | refine Lt rfl rfl ?_ | refine L2_g rfl rfl (fun hg => ?_) (fun hg => ?_) rfl)
 | (with_reducible refine RL_nil ⟨by kernel_rfl, hK _ ?_⟩; clear hK K)
 | (with_reducible first | refine AL_seq ?_ | refine AL_skip ?_ | refine AL_nil ?_ | refine SeqQ_n ?_ | refine BlockQ_n ?_)
 | (refine AL_text2 rfl fun K hK => ?_; simp only [List.map])
 | (refine AL_draw2 mixed rfl (by kernel_rfl) fun K hK => ?_; simp only [List.map])
 | (with_reducible refine AL_block ?_)
 | (with_reducible refine AL_exit ?_; simp only [SeqQ, BlockQ, go_sem, seval])
 | (refine Ct rfl ?_)
 | (refine Cf rfl ?_)
 | (refine AL_condb rfl (fun hg => ?_) (fun hg => ?_) <;> ((try simp only [bnq] at hg); (try (have hgp := hg; simp only [bdq] at hgp))))
 | (with_reducible first | refine ite_elimM (fun hg => ?_) (fun hg => ?_) | refine And.intro ?_ ?_)
 | omega)
  · rw [← hf, show decide (p[k].blocks.length ≤ 20) = false by simp; omega, Bool.false_and, Bool.false_and]
    (refine AL_ret (PureQ_ret ?_ rfl); simp [go_sem, ])
  rw [show decide (p[k].blocks.length ≤ 20) = true by simp; omega, Bool.true_and] at hf
  (repeat (with_reducible first | refine AL_seq ?_ | refine AL_skip ?_ | refine AL_block ?_ | refine AL_nil ?_ | refine SeqQ_n ?_ | refine BlockQ_n ?_))
  refine AL_loop (fun j : Nat => ⟨tA [(1, .op 1 0 0 0), (3, pI k), (4, pI j)], tO [some (.rows 1 [[.sl false (funRows p)]])]⟩)
    (fun j => j ≤ p[k].blocks.length ∧ (p[k].blocks.drop j).all fewB = p[k].blocks.all fewB) (fun j => p[k].blocks.length - j) 0 ⟨Nat.zero_le _, rfl⟩ (weak_t [0] _ _ rfl (by decide) ⟨by decide, by decide⟩ (by simp [go_sem, ]) (by simp [go_sem, ])) ?_
  rintro j ⟨hj, hfj⟩
  (repeat (with_reducible first | refine AL_seq ?_ | refine AL_skip ?_ | refine AL_nil ?_ | refine SeqQ_n ?_ | refine BlockQ_n ?_)); (first
 | (refine AL_text2 rfl fun K hK => ?_; simp only [List.map])
 | (refine AL_draw2 mixed rfl (by kernel_rfl) fun K hK => ?_; simp only [List.map])
 | (with_reducible refine AL_block ?_)
 | (with_reducible refine AL_exit ?_; simp only [SeqQ, BlockQ, go_sem, seval])
 | (refine Ct rfl ?_)
 | (refine Cf rfl ?_)
 | (refine AL_condb rfl (fun hg => ?_) (fun hg => ?_) <;> ((try simp only [bnq] at hg); (try (have hgp := hg; simp only [bdq] at hgp))))); repeat' (first
 | (with_reducible refine Mk_i ?_; try simp (disch := omega) only [go_sem, seval, irw])
 | ((with_reducible first | refine hK' _ _ ?_ | refine hK' _ _ _ ?_); clear hK' K')
 | (with_reducible refine RT_step fun K' hK' => ?_; first | refine R2_n ?_ | refine Rf rfl rfl ?_ | refine Rf' rfl rfl ?_ | refine R2_gu rfl rfl ?_ | refine Rt rfl rfl ?_ | refine R2_g rfl rfl (fun hg => ?_) (fun hg => ?_) rfl)
 | (with_reducible refine RT_nil ?_; refine hK _ ?_; clear hK K)
 | (with_reducible refine MkG_i ?_; (try simp only [bnq] at hg); (try (have hgp := hg; simp only [bdq] at hgp)); try simp (disch := omega) only [go_sem, seval, irw, hg])
 | (with_reducible refine RL_step fun K' hK' => ?_; first | refine L2_n ?_ | refine Lf rfl rfl ?_ | refine Lf' rfl rfl ?_ | refine L2_gu rfl rfl ?_ | refine Lt rfl rfl ?_ | refine L2_g rfl rfl (fun hg => ?_) (fun hg => ?_) rfl)
 | (with_reducible refine RL_nil ⟨by kernel_rfl, hK _ ?_⟩; clear hK K)
 | (with_reducible first | refine ite_elimM (fun hg => ?_) (fun hg => ?_) | refine And.intro ?_ ?_)
 | omega)
  cases h4 : decide ((j : Int) < (p[k].blocks.length : Int))
  · have hj2 : p[k].blocks.length ≤ j := by simp at h4; omega
    rw [List.drop_of_length_le hj2] at hfj
    rw [← hfj, List.all_nil, Bool.true_and] at hf
    repeat' (first
 | (with_reducible refine Mk_i ?_; try simp (disch := omega) only [go_sem, seval, irw, h4])
 | ((with_reducible first | refine hK' _ _ ?_ | refine hK' _ _ _ ?_); clear hK' K')
 | (with_reducible refine RT_step fun K' hK' => ?_; first | refine R2_n ?_ | refine Rf rfl rfl ?_ | refine Rf' rfl rfl ?_ | refine R2_gu rfl rfl ?_ | refine Rt rfl rfl ?_ | refine R2_g rfl rfl (fun hg => ?_) (fun hg => ?_) rfl)
 | (with_reducible refine RT_nil ?_; refine hK _ ?_; clear hK K)
 | (with_reducible refine MkG_i ?_; (try simp only [bnq] at hg); (try (have hgp := hg; simp only [bdq] at hgp)); try simp (disch := omega) only [go_sem, seval, irw, h4, hg])
 | (with_reducible refine RL_step fun K' hK' => ?_; first | refine L2_n ?_ | refine Lf rfl rfl ?_ | refine Lf' rfl rfl ?_ | refine L2_gu rfl rfl ?_ | refine Lt rfl rfl ?_ | refine L2_g rfl rfl (fun hg => ?_) (fun hg => ?_) rfl)
 | (with_reducible refine RL_nil ⟨by kernel_rfl, hK _ ?_⟩; clear hK K)
 | (with_reducible first | refine AL_seq ?_ | refine AL_skip ?_ | refine AL_nil ?_ | refine SeqQ_n ?_ | refine BlockQ_n ?_)
 | (refine AL_text2 rfl fun K hK => ?_; simp only [List.map])
 | (refine AL_draw2 mixed rfl (by kernel_rfl) fun K hK => ?_; simp only [List.map])
 | (with_reducible refine AL_block ?_)
 | (with_reducible refine AL_exit ?_; simp only [SeqQ, BlockQ, go_sem, seval])
 | (refine Ct rfl ?_)
 | (refine Cf rfl ?_)
 | (refine AL_condb rfl (fun hg => ?_) (fun hg => ?_) <;> ((try simp only [bnq] at hg); (try (have hgp := hg; simp only [bdq] at hgp))))
 | (with_reducible first | refine ite_elimM (fun hg => ?_) (fun hg => ?_) | refine And.intro ?_ ?_)
 | omega)
    exact ⟨k + 1, ⟨hk2, hf⟩, by omega, (weak_t [0] _ _ rfl (by decide) ⟨by decide, by decide⟩ (by simp [go_sem, ]) (by simp [go_sem, ]))⟩
  have hj2 : j < p[k].blocks.length := by simpa using h4
  rw [List.drop_eq_getElem_cons hj2, List.all_cons, fewB] at hfj
  repeat' (first
 | (with_reducible refine Mk_i ?_; try simp (disch := omega) only [go_sem, seval, irw, h4])
 | ((with_reducible first | refine hK' _ _ ?_ | refine hK' _ _ _ ?_); clear hK' K')
 | (with_reducible refine RT_step fun K' hK' => ?_; first | refine R2_n ?_ | refine Rf rfl rfl ?_ | refine Rf' rfl rfl ?_ | refine R2_gu rfl rfl ?_ | refine Rt rfl rfl ?_ | refine R2_g rfl rfl (fun hg => ?_) (fun hg => ?_) rfl)
 | (with_reducible refine RT_nil ?_; refine hK _ ?_; clear hK K)
 | (with_reducible refine MkG_i ?_; (try simp only [bnq] at hg); (try (have hgp := hg; simp only [bdq] at hgp)); try simp (disch := omega) only [go_sem, seval, irw, h4, hg])
 | (with_reducible refine RL_step fun K' hK' => ?_; first | refine L2_n ?_ | refine Lf rfl rfl ?_ | refine Lf' rfl rfl ?_ | refine L2_gu rfl rfl ?_ | refine Lt rfl rfl ?_ | refine L2_g rfl rfl (fun hg => ?_) (fun hg => ?_) rfl)
 | (with_reducible refine RL_nil ⟨by kernel_rfl, hK _ ?_⟩; clear hK K)
 | (with_reducible first | refine AL_seq ?_ | refine AL_skip ?_ | refine AL_nil ?_ | refine SeqQ_n ?_ | refine BlockQ_n ?_)
 | (refine AL_text2 rfl fun K hK => ?_; simp only [List.map])
 | (refine AL_draw2 mixed rfl (by kernel_rfl) fun K hK => ?_; simp only [List.map])
 | (with_reducible refine AL_block ?_)
 | (with_reducible refine AL_exit ?_; simp only [SeqQ, BlockQ, go_sem, seval])
 | (refine Ct rfl ?_)
 | (refine Cf rfl ?_)
 | (refine AL_condb rfl (fun hg => ?_) (fun hg => ?_) <;> ((try simp only [bnq] at hg); (try (have hgp := hg; simp only [bdq] at hgp))))
 | (with_reducible first | refine ite_elimM (fun hg => ?_) (fun hg => ?_) | refine And.intro ?_ ?_)
 | omega)
  all_goals first
    | (have hq : (decide (p[k].blocks[j].code.length ≤ 30) && decide (p[k].blocks[j].succ.length ≤ 30)) = false := by
        simp only [Bool.and_eq_false_iff, decide_eq_false_iff_not]
        omega
       rw [hq, Bool.false_and] at hfj
       rw [← hfj, Bool.false_and] at hf
       rw [← hf]
       (refine AL_ret (PureQ_ret ?_ rfl); simp [go_sem, ]))
    | skip
  have hq : (decide (p[k].blocks[j].code.length ≤ 30) && decide (p[k].blocks[j].succ.length ≤ 30)) = true := by
    simp only [Bool.and_eq_true, decide_eq_true_eq]
    omega
  rw [hq, Bool.true_and] at hfj
  exact ⟨j + 1, ⟨hj2, hfj⟩, by omega, (weak_t [0] _ _ rfl (by decide) ⟨by decide, by decide⟩ (by simp [go_sem, ]) (by simp [go_sem, ]))⟩

theorem few_len {p : List FunD} (h : fewD p = true) : p.length ≤ 10 ∧ (∀ (k : Nat) (hk : k < p.length), p[k].blocks.length ≤ 20 ∧ ∀ (j : Nat) (hj : j < p[k].blocks.length), p[k].blocks[j].code.length ≤ 30 ∧ p[k].blocks[j].succ.length ≤ 30) := by
  simp only [fewD, fewF, fewB, Bool.and_eq_true, decide_eq_true_eq, List.all_eq_true] at h
  exact ⟨h.1, fun k hk => ⟨(h.2 _ (List.getElem_mem hk)).1, fun j hj => (h.2 _ (List.getElem_mem hk)).2 _ (List.getElem_mem hj)⟩⟩
@[go_sem] theorem insRows_len (l : List Ins) : (∀ r : List PV, r ∈ insRows l → r.length = 11) = True := by
  refine eq_true fun r hr => ?_
  obtain ⟨i, _, rfl⟩ := List.mem_map.1 hr
  rfl
@[go_sem] theorem insRows_cell (l : List Ins) : ((insRows l).all fun r => r.all cellP) = true := by
  refine List.all_eq_true.2 fun r hr => ?_
  obtain ⟨i, _, rfl⟩ := List.mem_map.1 hr
  rfl
@[go_sem] theorem insRows_pl (l : List Ins) : (insRows l).all isPL = true := by
  refine List.all_eq_true.2 fun r hr => ?_
  obtain ⟨i, _, rfl⟩ := List.mem_map.1 hr
  rfl
@[go_sem] theorem insRows_take (l : List Ins) : List.take l.length (insRows l) = insRows l := List.take_of_length_le (by simp)
theorem insRows_app (l m : List Ins) : insRows l ++ insRows m = insRows (l ++ m) := by simp
@[go_sem] theorem ins_ren (f : Nat → Nat) : renL f ∘ Ins.cells = Ins.cells := funext fun _ => rfl
def instrsB : List BlkD → List Ins
  | [] => []
  | b :: r => b.code ++ instrsB r
def instrsD : List FunD → List Ins
  | [] => []
  | f :: r => instrsB f.blocks ++ instrsD r
theorem c_Instrs (p : List FunD) (hp : fewD p = true) : Pure Γ Tryd.prog 23 [progV p] (.sl false (insRows (instrsD p))) := by
  refine pure_start1 Tryd.func23 rfl (by simp [Tryd.f23]) ?_
  refine AL_seq ?_
  refine AL_len 0 (full := false) (rows := funRows p) rfl rfl (.agg (by simp) (.refl _)) fun hl => ?_
  simp only [funRows, List.length_map] at hl
  repeat' (first
 | (with_reducible refine Mk_i ?_; try simp (disch := omega) only [go_sem, seval, irw])
 | ((with_reducible first | refine hK' _ _ ?_ | refine hK' _ _ _ ?_); clear hK' K')
 | (with_reducible refine RT_step fun K' hK' => ?_; first | refine R2_n ?_ | refine Rf rfl rfl ?_ | refine Rf' rfl rfl ?_ | refine R2_gu rfl rfl ?_ | refine Rt rfl rfl ?_ | refine R2_g rfl rfl (fun hg => ?_) (fun hg => ?_) rfl)
 | (with_reducible refine RT_nil ?_; refine hK _ ?_; clear hK K)
 | (with_reducible refine MkG_i ?_; (try simp only [bnq] at hg); (try (have hgp := hg; simp only [bdq] at hgp)); try simp (disch := omega) only [go_sem, seval, irw, hg])
 | (with_reducible refine RL_step fun K' hK' => ?_; first | refine L2_n ?_ | refine Lf rfl rfl ?_ | refine Lf' rfl rfl ?_ | refine L2_gu rfl rfl ?_ | refine Lt rfl rfl ?_ | refine L2_g rfl rfl (fun hg => ?_) (fun hg => ?_) rfl)
 | (with_reducible refine RL_nil ⟨by kernel_rfl, hK _ ?_⟩; clear hK K)
 | (with_reducible first | refine AL_seq ?_ | refine AL_skip ?_ | refine AL_nil ?_ | refine SeqQ_n ?_ | refine BlockQ_n ?_)
 | (refine AL_text2 rfl fun K hK => ?_; simp only [List.map])
 | (refine AL_draw2 mixed rfl (by kernel_rfl) fun K hK => ?_; simp only [List.map])
 | (with_reducible refine AL_block ?_)
 | (with_reducible refine AL_exit ?_; simp only [SeqQ, BlockQ, go_sem, seval])
 | (refine Ct rfl ?_)
 | (refine Cf rfl ?_)
 | (refine AL_condb rfl (fun hg => ?_) (fun hg => ?_) <;> ((try simp only [bnq] at hg); (try (have hgp := hg; simp only [bdq] at hgp))))
 | (with_reducible first | refine ite_elimM (fun hg => ?_) (fun hg => ?_) | refine And.intro ?_ ?_)
 | omega)
  (repeat (with_reducible first | refine AL_seq ?_ | refine AL_skip ?_ | refine AL_block ?_ | refine AL_nil ?_ | refine SeqQ_n ?_ | refine BlockQ_n ?_))
  obtain ⟨hp1, hp2⟩ := few_len hp
  refine AL_weak (weak_nil 3 11 rfl) ?_ (by simp)
  refine AL_loop (fun x : Nat × List Ins => ⟨tA [(1, .op 1 0 0 0), (3, .os 11 1 0 x.2.length), (4, pI x.1)], tO [some (.rows 1 [[.sl false (funRows p)]]), some (.rows 11 (insRows x.2))]⟩)
    (fun x => x.1 ≤ p.length ∧ x.2.length ≤ 600 * x.1 ∧ x.2 ++ instrsD (p.drop x.1) = instrsD p) (fun x => p.length - x.1) (0, []) ⟨Nat.zero_le _, Nat.zero_le _, rfl⟩ (weak_t [0, 1] _ _ rfl (by decide) ⟨by decide, by decide⟩ (by simp [go_sem, ]) (by simp [go_sem, ])) ?_
  rintro ⟨k, L⟩ ⟨hk, hL, hf⟩
  simp only at hk hL hf ⊢
  (repeat (with_reducible first | refine AL_seq ?_ | refine AL_skip ?_ | refine AL_nil ?_ | refine SeqQ_n ?_ | refine BlockQ_n ?_)); (first
 | (refine AL_text2 rfl fun K hK => ?_; simp only [List.map])
 | (refine AL_draw2 mixed rfl (by kernel_rfl) fun K hK => ?_; simp only [List.map])
 | (with_reducible refine AL_block ?_)
 | (with_reducible refine AL_exit ?_; simp only [SeqQ, BlockQ, go_sem, seval])
 | (refine Ct rfl ?_)
 | (refine Cf rfl ?_)
 | (refine AL_condb rfl (fun hg => ?_) (fun hg => ?_) <;> ((try simp only [bnq] at hg); (try (have hgp := hg; simp only [bdq] at hgp))))); repeat' (first
 | (with_reducible refine Mk_i ?_; try simp (disch := omega) only [go_sem, seval, irw])
 | ((with_reducible first | refine hK' _ _ ?_ | refine hK' _ _ _ ?_); clear hK' K')
 | (with_reducible refine RT_step fun K' hK' => ?_; first | refine R2_n ?_ | refine Rf rfl rfl ?_ | refine Rf' rfl rfl ?_ | refine R2_gu rfl rfl ?_ | refine Rt rfl rfl ?_ | refine R2_g rfl rfl (fun hg => ?_) (fun hg => ?_) rfl)
 | (with_reducible refine RT_nil ?_; refine hK _ ?_; clear hK K)
 | (with_reducible refine MkG_i ?_; (try simp only [bnq] at hg); (try (have hgp := hg; simp only [bdq] at hgp)); try simp (disch := omega) only [go_sem, seval, irw, hg])
 | (with_reducible refine RL_step fun K' hK' => ?_; first | refine L2_n ?_ | refine Lf rfl rfl ?_ | refine Lf' rfl rfl ?_ | refine L2_gu rfl rfl ?_ | refine Lt rfl rfl ?_ | refine L2_g rfl rfl (fun hg => ?_) (fun hg => ?_) rfl)
 | (with_reducible refine RL_nil ⟨by kernel_rfl, hK _ ?_⟩; clear hK K)
 | (with_reducible first | refine ite_elimM (fun hg => ?_) (fun hg => ?_) | refine And.intro ?_ ?_)
 | omega)
  cases h2 : decide ((k : Int) < (p.length : Int))
  · have hk2 : p.length ≤ k := by simp at h2; omega
    rw [List.drop_of_length_le hk2, instrsD, List.append_nil] at hf
    rw [← hf]
    repeat' (first
 | (with_reducible refine Mk_i ?_; try simp (disch := omega) only [go_sem, seval, irw, h2])
 | ((with_reducible first | refine hK' _ _ ?_ | refine hK' _ _ _ ?_); clear hK' K')
 | (with_reducible refine RT_step fun K' hK' => ?_; first | refine R2_n ?_ | refine Rf rfl rfl ?_ | refine Rf' rfl rfl ?_ | refine R2_gu rfl rfl ?_ | refine Rt rfl rfl ?_ | refine R2_g rfl rfl (fun hg => ?_) (fun hg => ?_) rfl)
 | (with_reducible refine RT_nil ?_; refine hK _ ?_; clear hK K)
 | (with_reducible refine MkG_i ?_; (try simp only [bnq] at hg); (try (have hgp := hg; simp only [bdq] at hgp)); try simp (disch := omega) only [go_sem, seval, irw, h2, hg])
 | (with_reducible refine RL_step fun K' hK' => ?_; first | refine L2_n ?_ | refine Lf rfl rfl ?_ | refine Lf' rfl rfl ?_ | refine L2_gu rfl rfl ?_ | refine Lt rfl rfl ?_ | refine L2_g rfl rfl (fun hg => ?_) (fun hg => ?_) rfl)
 | (with_reducible refine RL_nil ⟨by kernel_rfl, hK _ ?_⟩; clear hK K)
 | (with_reducible first | refine AL_seq ?_ | refine AL_skip ?_ | refine AL_nil ?_ | refine SeqQ_n ?_ | refine BlockQ_n ?_)
 | (refine AL_text2 rfl fun K hK => ?_; simp only [List.map])
 | (refine AL_draw2 mixed rfl (by kernel_rfl) fun K hK => ?_; simp only [List.map])
 | (with_reducible refine AL_block ?_)
 | (with_reducible refine AL_exit ?_; simp only [SeqQ, BlockQ, go_sem, seval])
 | (refine Ct rfl ?_)
 | (refine Cf rfl ?_)
 | (refine AL_condb rfl (fun hg => ?_) (fun hg => ?_) <;> ((try simp only [bnq] at hg); (try (have hgp := hg; simp only [bdq] at hgp))))
 | (with_reducible first | refine ite_elimM (fun hg => ?_) (fun hg => ?_) | refine And.intro ?_ ?_)
 | omega)
    (refine AL_ret (PureQ_view (by simp (disch := omega) only [go_sem, seval] <;> rfl) (by simp (disch := omega) only [go_sem, seval, irw])))
  have hk2 : k < p.length := by simpa using h2
  rw [List.drop_eq_getElem_cons hk2, instrsD] at hf
  obtain ⟨hq1, hq2⟩ := hp2 k hk2
  repeat' (first
 | (with_reducible refine Mk_i ?_; try simp (disch := omega) only [go_sem, seval, irw, h2])
 | ((with_reducible first | refine hK' _ _ ?_ | refine hK' _ _ _ ?_); clear hK' K')
 | (with_reducible refine RT_step fun K' hK' => ?_; first | refine R2_n ?_ | refine Rf rfl rfl ?_ | refine Rf' rfl rfl ?_ | refine R2_gu rfl rfl ?_ | refine Rt rfl rfl ?_ | refine R2_g rfl rfl (fun hg => ?_) (fun hg => ?_) rfl)
 | (with_reducible refine RT_nil ?_; refine hK _ ?_; clear hK K)
 | (with_reducible refine MkG_i ?_; (try simp only [bnq] at hg); (try (have hgp := hg; simp only [bdq] at hgp)); try simp (disch := omega) only [go_sem, seval, irw, h2, hg])
 | (with_reducible refine RL_step fun K' hK' => ?_; first | refine L2_n ?_ | refine Lf rfl rfl ?_ | refine Lf' rfl rfl ?_ | refine L2_gu rfl rfl ?_ | refine Lt rfl rfl ?_ | refine L2_g rfl rfl (fun hg => ?_) (fun hg => ?_) rfl)
 | (with_reducible refine RL_nil ⟨by kernel_rfl, hK _ ?_⟩; clear hK K)
 | (with_reducible first | refine AL_seq ?_ | refine AL_skip ?_ | refine AL_nil ?_ | refine SeqQ_n ?_ | refine BlockQ_n ?_)
 | (refine AL_text2 rfl fun K hK => ?_; simp only [List.map])
 | (refine AL_draw2 mixed rfl (by kernel_rfl) fun K hK => ?_; simp only [List.map])
 | (with_reducible refine AL_block ?_)
 | (with_reducible refine AL_exit ?_; simp only [SeqQ, BlockQ, go_sem, seval])
 | (refine Ct rfl ?_)
 | (refine Cf rfl ?_)
 | (refine AL_condb rfl (fun hg => ?_) (fun hg => ?_) <;> ((try simp only [bnq] at hg); (try (have hgp := hg; simp only [bdq] at hgp))))
 | (with_reducible first | refine ite_elimM (fun hg => ?_) (fun hg => ?_) | refine And.intro ?_ ?_)
 | omega)
  (repeat (with_reducible first | refine AL_seq ?_ | refine AL_skip ?_ | refine AL_block ?_ | refine AL_nil ?_ | refine SeqQ_n ?_ | refine BlockQ_n ?_))
  refine AL_loop (fun x : Nat × List Ins => ⟨tA [(1, .op 1 0 0 0), (3, .os 11 1 0 x.2.length), (4, pI k), (5, pI x.1)], tO [some (.rows 1 [[.sl false (funRows p)]]), some (.rows 11 (insRows x.2))]⟩)
    (fun x => x.1 ≤ p[k].blocks.length ∧ x.2.length ≤ 600 * k + 30 * x.1 ∧ x.2 ++ instrsB (p[k].blocks.drop x.1) = L ++ instrsB p[k].blocks) (fun x => p[k].blocks.length - x.1) (0, L) ⟨Nat.zero_le _, by simpa using hL, rfl⟩ (weak_t [0, 1] _ _ rfl (by decide) ⟨by decide, by decide⟩ (by simp [go_sem, ]) (by simp [go_sem, ])) ?_
  rintro ⟨j, M⟩ ⟨hj, hM, hfj⟩
  simp only at hj hM hfj ⊢
  (repeat (with_reducible first | refine AL_seq ?_ | refine AL_skip ?_ | refine AL_nil ?_ | refine SeqQ_n ?_ | refine BlockQ_n ?_)); (first
 | (refine AL_text2 rfl fun K hK => ?_; simp only [List.map])
 | (refine AL_draw2 mixed rfl (by kernel_rfl) fun K hK => ?_; simp only [List.map])
 | (with_reducible refine AL_block ?_)
 | (with_reducible refine AL_exit ?_; simp only [SeqQ, BlockQ, go_sem, seval])
 | (refine Ct rfl ?_)
 | (refine Cf rfl ?_)
 | (refine AL_condb rfl (fun hg => ?_) (fun hg => ?_) <;> ((try simp only [bnq] at hg); (try (have hgp := hg; simp only [bdq] at hgp))))); repeat' (first
 | (with_reducible refine Mk_i ?_; try simp (disch := omega) only [go_sem, seval, irw])
 | ((with_reducible first | refine hK' _ _ ?_ | refine hK' _ _ _ ?_); clear hK' K')
 | (with_reducible refine RT_step fun K' hK' => ?_; first | refine R2_n ?_ | refine Rf rfl rfl ?_ | refine Rf' rfl rfl ?_ | refine R2_gu rfl rfl ?_ | refine Rt rfl rfl ?_ | refine R2_g rfl rfl (fun hg => ?_) (fun hg => ?_) rfl)
 | (with_reducible refine RT_nil ?_; refine hK _ ?_; clear hK K)
 | (with_reducible refine MkG_i ?_; (try simp only [bnq] at hg); (try (have hgp := hg; simp only [bdq] at hgp)); try simp (disch := omega) only [go_sem, seval, irw, hg])
 | (with_reducible refine RL_step fun K' hK' => ?_; first | refine L2_n ?_ | refine Lf rfl rfl ?_ | refine Lf' rfl rfl ?_ | refine L2_gu rfl rfl ?_ | refine Lt rfl rfl ?_ | refine L2_g rfl rfl (fun hg => ?_) (fun hg => ?_) rfl)
 | (with_reducible refine RL_nil ⟨by kernel_rfl, hK _ ?_⟩; clear hK K)
 | (with_reducible first | refine ite_elimM (fun hg => ?_) (fun hg => ?_) | refine And.intro ?_ ?_)
 | omega)
  cases h4 : decide ((j : Int) < (p[k].blocks.length : Int))
  · have hj2 : p[k].blocks.length ≤ j := by simp at h4; omega
    rw [List.drop_of_length_le hj2, instrsB, List.append_nil] at hfj
    repeat' (first
 | (with_reducible refine Mk_i ?_; try simp (disch := omega) only [go_sem, seval, irw, h4])
 | ((with_reducible first | refine hK' _ _ ?_ | refine hK' _ _ _ ?_); clear hK' K')
 | (with_reducible refine RT_step fun K' hK' => ?_; first | refine R2_n ?_ | refine Rf rfl rfl ?_ | refine Rf' rfl rfl ?_ | refine R2_gu rfl rfl ?_ | refine Rt rfl rfl ?_ | refine R2_g rfl rfl (fun hg => ?_) (fun hg => ?_) rfl)
 | (with_reducible refine RT_nil ?_; refine hK _ ?_; clear hK K)
 | (with_reducible refine MkG_i ?_; (try simp only [bnq] at hg); (try (have hgp := hg; simp only [bdq] at hgp)); try simp (disch := omega) only [go_sem, seval, irw, h4, hg])
 | (with_reducible refine RL_step fun K' hK' => ?_; first | refine L2_n ?_ | refine Lf rfl rfl ?_ | refine Lf' rfl rfl ?_ | refine L2_gu rfl rfl ?_ | refine Lt rfl rfl ?_ | refine L2_g rfl rfl (fun hg => ?_) (fun hg => ?_) rfl)
 | (with_reducible refine RL_nil ⟨by kernel_rfl, hK _ ?_⟩; clear hK K)
 | (with_reducible first | refine AL_seq ?_ | refine AL_skip ?_ | refine AL_nil ?_ | refine SeqQ_n ?_ | refine BlockQ_n ?_)
 | (refine AL_text2 rfl fun K hK => ?_; simp only [List.map])
 | (refine AL_draw2 mixed rfl (by kernel_rfl) fun K hK => ?_; simp only [List.map])
 | (with_reducible refine AL_block ?_)
 | (with_reducible refine AL_exit ?_; simp only [SeqQ, BlockQ, go_sem, seval])
 | (refine Ct rfl ?_)
 | (refine Cf rfl ?_)
 | (refine AL_condb rfl (fun hg => ?_) (fun hg => ?_) <;> ((try simp only [bnq] at hg); (try (have hgp := hg; simp only [bdq] at hgp))))
 | (with_reducible first | refine ite_elimM (fun hg => ?_) (fun hg => ?_) | refine And.intro ?_ ?_)
 | omega)
    exact ⟨(k + 1, M), ⟨hk2, by show M.length ≤ 600 * (k + 1); omega, by show M ++ _ = _; rw [hfj, List.append_assoc]; exact hf⟩, by show p.length - (k + 1) < p.length - k; omega, (weak_t [0, 1] _ _ rfl (by decide) ⟨by decide, by decide⟩ (by simp [go_sem, ]) (by simp [go_sem, ]))⟩
  have hj2 : j < p[k].blocks.length := by simpa using h4
  rw [List.drop_eq_getElem_cons hj2, instrsB] at hfj
  obtain ⟨hq3, _⟩ := hq2 j hj2
  repeat' (first
 | (with_reducible refine Mk_i ?_; try simp (disch := omega) only [go_sem, seval, irw, h4])
 | ((with_reducible first | refine hK' _ _ ?_ | refine hK' _ _ _ ?_); clear hK' K')
 | (with_reducible refine RT_step fun K' hK' => ?_; first | refine R2_n ?_ | refine Rf rfl rfl ?_ | refine Rf' rfl rfl ?_ | refine R2_gu rfl rfl ?_ | refine Rt rfl rfl ?_ | refine R2_g rfl rfl (fun hg => ?_) (fun hg => ?_) rfl)
 | (with_reducible refine RT_nil ?_; refine hK _ ?_; clear hK K)
 | (with_reducible refine MkG_i ?_; (try simp only [bnq] at hg); (try (have hgp := hg; simp only [bdq] at hgp)); try simp (disch := omega) only [go_sem, seval, irw, h4, hg])
 | (with_reducible refine RL_step fun K' hK' => ?_; first | refine L2_n ?_ | refine Lf rfl rfl ?_ | refine Lf' rfl rfl ?_ | refine L2_gu rfl rfl ?_ | refine Lt rfl rfl ?_ | refine L2_g rfl rfl (fun hg => ?_) (fun hg => ?_) rfl)
 | (with_reducible refine RL_nil ⟨by kernel_rfl, hK _ ?_⟩; clear hK K)
 | (with_reducible first | refine AL_seq ?_ | refine AL_skip ?_ | refine AL_nil ?_ | refine SeqQ_n ?_ | refine BlockQ_n ?_)
 | (refine AL_text2 rfl fun K hK => ?_; simp only [List.map])
 | (refine AL_draw2 mixed rfl (by kernel_rfl) fun K hK => ?_; simp only [List.map])
 | (with_reducible refine AL_block ?_)
 | (with_reducible refine AL_exit ?_; simp only [SeqQ, BlockQ, go_sem, seval])
 | (refine Ct rfl ?_)
 | (refine Cf rfl ?_)
 | (refine AL_condb rfl (fun hg => ?_) (fun hg => ?_) <;> ((try simp only [bnq] at hg); (try (have hgp := hg; simp only [bdq] at hgp))))
 | (with_reducible first | refine ite_elimM (fun hg => ?_) (fun hg => ?_) | refine And.intro ?_ ?_)
 | omega)
  exact ⟨(j + 1, M ++ p[k].blocks[j].code), ⟨hj2, by simp only [List.length_append]; omega, by show (M ++ _) ++ _ = _; rw [List.append_assoc]; exact hfj⟩, by show p[k].blocks.length - (j + 1) < p[k].blocks.length - j; omega, (weak_t [0, 2] _ _ rfl (by decide) ⟨by decide, by decide⟩ (by simp [go_sem, ]) (by simp [go_sem, ]))⟩
end Go.Proofs.YtjlcojgimicfbaaDoor
/- Programs: what new numbers are, in plain words. -/
namespace Go.Proofs.YtjlcojgimicfbaaDoor
open Go.Am Go
set_option linter.unusedSimpArgs false
set_option maxRecDepth 100000

theorem leastF_spec (g : Int → Bool) : ∀ (n k : Nat), (leastF g k n = -1 ∧ ∀ j : Nat, k ≤ j → j < k + n → g j = true) ∨
    (∃ m : Nat, k ≤ m ∧ m < k + n ∧ leastF g k n = m ∧ g m = false ∧ ∀ j : Nat, k ≤ j → j < m → g j = true)
  | 0, k => .inl ⟨rfl, fun j h1 h2 => absurd h2 (by omega)⟩
  | n + 1, k => by
    rw [leastF]
    cases h : g k with
    | false => exact .inr ⟨k, Nat.le_refl _, by omega, by simp, h, fun j h1 h2 => absurd h2 (by omega)⟩
    | true =>
      rw [if_pos rfl]
      rcases leastF_spec g n (k + 1) with ⟨h1, h2⟩ | ⟨m, h1, h2, h3, h4, h5⟩
      · exact .inl ⟨h1, fun j g1 g2 => (Nat.eq_or_lt_of_le g1).elim (fun e => e ▸ h) fun e => h2 j e (by omega)⟩
      · exact .inr ⟨m, by omega, by omega, h3, h4, fun j g1 g2 => (Nat.eq_or_lt_of_le g1).elim (fun e => e ▸ h) fun e => h5 j e g2⟩

theorem mib_get_put (es : List (Int × Bool)) (k j : Int) (v : Bool) : mibGet (mibPut es k v) j = if j = k then some v else mibGet es j := by
  induction es with
  | nil => simp only [mibPut, mibGet]
  | cons e r ih =>
    obtain ⟨a, b⟩ := e
    simp only [mibPut]
    split
    · rename_i h; simp only [mibGet]; split <;> simp_all
    · rename_i h; simp only [mibGet, ih]; split <;> split <;> simp_all
theorem has_put (es : List (Int × Bool)) (k j : Int) : hasE (mibPut es k true) j = (decide (j = k) || hasE es j) := by
  simp only [hasE, mib_get_put]; split <;> simp [*]
theorem has_putI (L : List Ins) (es : List (Int × Bool)) (j : Int) : hasE (putI es L) j = (decide (j ∈ L.map (·.id)) || hasE es j) := by
  induction L generalizing es with
  | nil => simp [putI]
  | cons i r ih => simp only [putI, ih, has_put, List.map_cons, List.mem_cons]; by_cases h1 : j = i.id <;> simp [h1]
theorem has_putB (L : List BlkD) (es : List (Int × Bool)) (j : Int) : hasE (putB es L) j = (decide (j ∈ (instrsB L).map (·.id)) || hasE es j) := by
  induction L generalizing es with
  | nil => simp [putB, instrsB]
  | cons i r ih =>
    simp only [putB, ih, has_putI, instrsB, List.map_append, List.mem_append, Bool.decide_or]
    generalize decide (j ∈ List.map (·.id) (instrsB r)) = a
    generalize decide (j ∈ List.map (·.id) i.code) = b
    cases a <;> cases b <;> rfl
theorem has_putF (L : List FunD) (es : List (Int × Bool)) (j : Int) : hasE (putF es L) j = (decide (j ∈ (instrsD L).map (·.id)) || hasE es j) := by
  induction L generalizing es with
  | nil => simp [putF, instrsD]
  | cons i r ih =>
    simp only [putF, ih, has_putB, instrsD, List.map_append, List.mem_append, Bool.decide_or]
    generalize decide (j ∈ List.map (·.id) (instrsD r)) = a
    generalize decide (j ∈ List.map (·.id) (instrsB i.blocks)) = b
    cases a <;> cases b <;> rfl
theorem has_liveE : ∀ (L : List BlkD) (es : List (Int × Bool)) (k j : Nat), hasE (liveE es k L) j = if k ≤ j ∧ j < k + L.length then ((L[j - k]?).map (·.live)).getD false else hasE es j
  | [], es, k, j => by rw [if_neg (by simp only [List.length_nil]; omega)]; rfl
  | b :: r, es, k, j => by
    rw [liveE, has_liveE r, hasE, mib_get_put]
    by_cases h1 : j = k
    · subst h1; rw [if_neg (by omega), if_pos rfl, if_pos (by simp)]; simp
    · by_cases h2 : k + 1 ≤ j ∧ j < k + 1 + r.length
      · rw [if_pos h2, if_pos ⟨by omega, by simp; omega⟩, show j - k = (j - (k + 1)) + 1 by omega, List.getElem?_cons_succ]
      · rw [if_neg h2, if_neg (by omega), if_neg (by simp; omega)]
theorem has_live (x : FunD) (j : Nat) : hasE (liveE [] 0 x.blocks) j = liveD x j := by
  rw [has_liveE]
  simp only [liveD]
  split
  · simp
  · rename_i h
    rw [List.getElem?_eq_none (by simp; omega)]
    simp [hasE, mibGet]

theorem blocks_sane {p : List FunD} {f : FunD} : ∀ (l : List BlkD), firstS (blockS p f) l = [] → ∀ b ∈ l, blockS p f b = []
  | [], _, b, h => by simp at h
  | c :: r, hc, b, h => by
    rw [firstS] at hc
    cases hg : (blockS p f c == []) with
    | false => rw [hg, if_neg (by simp)] at hc; rw [hc] at hg; simp at hg
    | true =>
      rw [hg, if_pos rfl] at hc
      rcases List.mem_cons.1 h with rfl | h
      · simpa using hg
      · exact blocks_sane r hc b h
theorem mem_instrsB {i : Ins} : ∀ {l : List BlkD}, i ∈ instrsB l → ∃ b ∈ l, i ∈ b.code
  | [], h => by simp [instrsB] at h
  | b :: r, h => by
    rw [instrsB, List.mem_append] at h
    rcases h with h | h
    · exact ⟨b, List.mem_cons_self .., h⟩
    · obtain ⟨c, h1, h2⟩ := mem_instrsB h; exact ⟨c, List.mem_cons_of_mem _ h1, h2⟩
theorem mem_instrsD {i : Ins} : ∀ {l : List FunD}, i ∈ instrsD l → ∃ f ∈ l, ∃ b ∈ f.blocks, i ∈ b.code
  | [], h => by simp [instrsD] at h
  | f :: r, h => by
    rw [instrsD, List.mem_append] at h
    rcases h with h | h
    · exact ⟨f, List.mem_cons_self .., mem_instrsB h⟩
    · obtain ⟨g, h1, h2⟩ := mem_instrsD h; exact ⟨g, List.mem_cons_of_mem _ h1, h2⟩
theorem sane_block {p : List FunD} (h : saneD p = true) {f : FunD} (hf : f ∈ p) {b : BlkD} (hb : b ∈ f.blocks) : (b.live = true ∨ b.code = [] ∧ b.succ = []) ∧ risesB b.succ = true ∧ (∀ s ∈ b.succ, liveD f s = true) ∧ b.code.length ≤ 16 ∧ ∀ i ∈ b.code, instrOKD p f i = true := by
  have h1 := blocks_sane f.blocks (sane_fun h hf).2.2 b hb
  unfold blockS at h1
  split at h1
  · exact absurd h1 (by simp [txtParts])
  · rename_i g1
    split at h1
    · exact absurd h1 (by simp [txtEdges])
    · rename_i g2
      split at h1
      · exact absurd h1 (by simp [txtInstrs])
      · rename_i g3
        simp only [Bool.or_eq_true, Bool.not_eq_true', Bool.and_eq_true, decide_eq_true_eq, List.any_eq_true, not_or, not_and, not_exists, Bool.not_eq_false] at g1 g2 g3
        refine ⟨?_, g2.1, fun s hs => g2.2 s hs, by omega, fun i hi => g3.2 i hi⟩
        cases hl : b.live
        · right
          have := g1 hl
          exact ⟨List.length_eq_zero_iff.1 (by omega), List.length_eq_zero_iff.1 (by omega)⟩
        · exact .inl rfl
theorem instr_ok {p : List FunD} {f : FunD} {i : Ins} (h : instrOKD p f i = true) : formI i = true ∧ 0 ≤ i.id ∧ i.id < 96 := by
  have h1 : formI i = true := by
    simp only [instrOKD, Bool.and_eq_true] at h; exact h.1.1
  refine ⟨h1, ?_⟩
  simp only [formI, offI, Bool.and_eq_true, Bool.not_eq_true', Bool.or_eq_false_iff, decide_eq_false_iff_not] at h1
  omega
theorem sane_id {p : List FunD} (h : saneD p = true) {i : Ins} (hi : i ∈ instrsD p) : 0 ≤ i.id ∧ i.id < 96 := by
  obtain ⟨f, hf, b, hb, hi⟩ := mem_instrsD hi
  exact (instr_ok ((sane_block h hf hb).2.2.2.2 i hi)).2
end Go.Proofs.YtjlcojgimicfbaaDoor
/- New numbers are new: the walk. -/
namespace Go.Proofs.YtjlcojgimicfbaaDoor
open Go.Am Go
set_option linter.unusedSimpArgs false
set_option maxRecDepth 100000
set_option maxHeartbeats 4000000
variable {Γ : Nat → Option Obj}

def mRows (g : Nat → Bool) : List (List PV) := (List.range 96).map fun j => [pB (g j)]
theorem mRows_get (g : Nat → Bool) {k : Nat} (h : k < 96) : (mRows g)[k]? = some [pB (g k)] := by simp [mRows, List.getElem?_range h]
theorem mRows_set (g : Nat → Bool) {k : Nat} (h : k < 96) : (mRows g).set k [pB true] = mRows fun j => decide (j = k) || g j := by
  apply List.ext_getElem?
  intro i
  rw [List.getElem?_set]
  by_cases hi : i < 96
  · rw [mRows_get _ hi]
    by_cases e : k = i
    · subst e; simp [mRows, h]
    · rw [if_neg e, mRows_get _ hi]; simp [show ¬ i = k by omega]
  · have h1 : (mRows g)[i]? = none := List.getElem?_eq_none (by simp [mRows]; omega)
    have h2 : (mRows fun j => decide (j = k) || g j)[i]? = none := List.getElem?_eq_none (by simp [mRows]; omega)
    rw [if_neg (by omega), h1, h2]
def metG (L : List Ins) (k : Nat) (j : Nat) : Bool := decide ((j : Int) ∈ (L.take k).map (·.id))
theorem metG_succ (L : List Ins) (k : Nat) (h : k < L.length) (n : Nat) (hn : L[k].id = n) : (fun j => decide (j = n) || metG L k j) = metG L (k + 1) := by
  funext j
  simp only [metG, List.take_add_one, List.getElem?_eq_getElem h, List.map_append, List.mem_append, Option.toList_some, List.map_cons, List.map_nil, List.mem_singleton, hn]
  by_cases e : j = n
  · simp [e]
  · have : ¬ ((j : Int) = n) := by omega
    simp [e, this]
theorem mRows_ren (f : Nat → Nat) (g : Nat → Bool) : (mRows g).map (renL f) = mRows g := by
  simp only [mRows, List.map_map]; rfl
@[go_sem] theorem mRows_ok (k : Nat) (g : Nat → Bool) : (∀ x : List PV, x ∈ mRows g → okL k x = true) = True := by
  refine eq_true fun x hx => ?_
  obtain ⟨j, _, rfl⟩ := List.mem_map.1 hx
  rfl
attribute [go_sem] mRows_ren
theorem liveD_some (x : FunD) (b : Int) : (if liveD x b = true then x.blocks[b.toNat]? else none).isSome = liveD x b := by
  cases h : liveD x b
  · rfl
  · obtain ⟨h1, h2⟩ := liveD_get h
    rw [if_pos rfl, List.getElem?_eq_getElem (by omega)]; rfl
theorem mRows_zero (L : List Ins) : mRows (metG L 0) = [[PV.v (Value.bool false)], [PV.v (Value.bool false)], [PV.v (Value.bool false)], [PV.v (Value.bool false)], [PV.v (Value.bool false)], [PV.v (Value.bool false)], [PV.v (Value.bool false)], [PV.v (Value.bool false)], [PV.v (Value.bool false)], [PV.v (Value.bool false)], [PV.v (Value.bool false)], [PV.v (Value.bool false)], [PV.v (Value.bool false)], [PV.v (Value.bool false)], [PV.v (Value.bool false)], [PV.v (Value.bool false)], [PV.v (Value.bool false)], [PV.v (Value.bool false)], [PV.v (Value.bool false)], [PV.v (Value.bool false)], [PV.v (Value.bool false)], [PV.v (Value.bool false)], [PV.v (Value.bool false)], [PV.v (Value.bool false)], [PV.v (Value.bool false)], [PV.v (Value.bool false)], [PV.v (Value.bool false)], [PV.v (Value.bool false)], [PV.v (Value.bool false)], [PV.v (Value.bool false)], [PV.v (Value.bool false)], [PV.v (Value.bool false)], [PV.v (Value.bool false)], [PV.v (Value.bool false)], [PV.v (Value.bool false)], [PV.v (Value.bool false)], [PV.v (Value.bool false)], [PV.v (Value.bool false)], [PV.v (Value.bool false)], [PV.v (Value.bool false)], [PV.v (Value.bool false)], [PV.v (Value.bool false)], [PV.v (Value.bool false)], [PV.v (Value.bool false)], [PV.v (Value.bool false)], [PV.v (Value.bool false)], [PV.v (Value.bool false)], [PV.v (Value.bool false)], [PV.v (Value.bool false)], [PV.v (Value.bool false)], [PV.v (Value.bool false)], [PV.v (Value.bool false)], [PV.v (Value.bool false)], [PV.v (Value.bool false)], [PV.v (Value.bool false)], [PV.v (Value.bool false)], [PV.v (Value.bool false)], [PV.v (Value.bool false)], [PV.v (Value.bool false)], [PV.v (Value.bool false)], [PV.v (Value.bool false)], [PV.v (Value.bool false)], [PV.v (Value.bool false)], [PV.v (Value.bool false)], [PV.v (Value.bool false)], [PV.v (Value.bool false)], [PV.v (Value.bool false)], [PV.v (Value.bool false)], [PV.v (Value.bool false)], [PV.v (Value.bool false)], [PV.v (Value.bool false)], [PV.v (Value.bool false)], [PV.v (Value.bool false)], [PV.v (Value.bool false)], [PV.v (Value.bool false)], [PV.v (Value.bool false)], [PV.v (Value.bool false)], [PV.v (Value.bool false)], [PV.v (Value.bool false)], [PV.v (Value.bool false)], [PV.v (Value.bool false)], [PV.v (Value.bool false)], [PV.v (Value.bool false)], [PV.v (Value.bool false)], [PV.v (Value.bool false)], [PV.v (Value.bool false)], [PV.v (Value.bool false)], [PV.v (Value.bool false)], [PV.v (Value.bool false)], [PV.v (Value.bool false)], [PV.v (Value.bool false)], [PV.v (Value.bool false)], [PV.v (Value.bool false)], [PV.v (Value.bool false)], [PV.v (Value.bool false)], [PV.v (Value.bool false)]] := rfl
theorem c_ProgFresh (hB : Blanks Γ) (hE : ErrT Γ) (p : List FunD) (f : Int) : Pure Γ Tryd.prog 4 [progV p, pI f] (pB true) := by
  refine pure_start2 Tryd.func4 rfl (by simp [Tryd.f4]) ?_
  refine AL_seq ?_
  (repeat (with_reducible first | refine AL_seq ?_ | refine AL_skip ?_ | refine AL_nil ?_ | refine SeqQ_n ?_ | refine BlockQ_n ?_)); (first
 | (refine AL_text2 rfl fun K hK => ?_; simp only [List.map])
 | (refine AL_draw2 mixed rfl (by kernel_rfl) fun K hK => ?_; simp only [List.map])
 | (with_reducible refine AL_block ?_)
 | (with_reducible refine AL_exit ?_; simp only [SeqQ, BlockQ, go_sem, seval])
 | (refine Ct rfl ?_)
 | (refine Cf rfl ?_)
 | (refine AL_condb rfl (fun hg => ?_) (fun hg => ?_) <;> ((try simp only [bnq] at hg); (try (have hgp := hg; simp only [bdq] at hgp))))); repeat' (first
 | (with_reducible refine Mk_i ?_; try simp (disch := omega) only [go_sem, seval, irw])
 | ((with_reducible first | refine hK' _ _ ?_ | refine hK' _ _ _ ?_); clear hK' K')
 | (with_reducible refine RT_step fun K' hK' => ?_; first | refine R2_n ?_ | refine Rf rfl rfl ?_ | refine Rf' rfl rfl ?_ | refine R2_gu rfl rfl ?_ | refine Rt rfl rfl ?_ | refine R2_g rfl rfl (fun hg => ?_) (fun hg => ?_) rfl)
 | (with_reducible refine RT_nil ?_; refine hK _ ?_; clear hK K)
 | (with_reducible refine MkG_i ?_; (try simp only [bnq] at hg); (try (have hgp := hg; simp only [bdq] at hgp)); try simp (disch := omega) only [go_sem, seval, irw, hg])
 | (with_reducible refine RL_step fun K' hK' => ?_; first | refine L2_n ?_ | refine Lf rfl rfl ?_ | refine Lf' rfl rfl ?_ | refine L2_gu rfl rfl ?_ | refine Lt rfl rfl ?_ | refine L2_g rfl rfl (fun hg => ?_) (fun hg => ?_) rfl)
 | (with_reducible refine RL_nil ⟨by kernel_rfl, hK _ ?_⟩; clear hK K)
 | (with_reducible first | refine ite_elimM (fun hg => ?_) (fun hg => ?_) | refine And.intro ?_ ?_)
 | omega)
  (repeat (with_reducible first | refine AL_seq ?_ | refine AL_skip ?_ | refine AL_nil ?_ | refine SeqQ_n ?_ | refine BlockQ_n ?_)); (first
 | (refine AL_text2 rfl fun K hK => ?_; simp only [List.map])
 | (refine AL_draw2 mixed rfl (by kernel_rfl) fun K hK => ?_; simp only [List.map])
 | (with_reducible refine AL_block ?_)
 | (with_reducible refine AL_exit ?_; simp only [SeqQ, BlockQ, go_sem, seval])
 | (refine Ct rfl ?_)
 | (refine Cf rfl ?_)
 | (refine AL_condb rfl (fun hg => ?_) (fun hg => ?_) <;> ((try simp only [bnq] at hg); (try (have hgp := hg; simp only [bdq] at hgp))))); repeat' (first
 | (with_reducible refine Mk_i ?_; try simp (disch := omega) only [go_sem, seval, irw])
 | ((with_reducible first | refine hK' _ _ ?_ | refine hK' _ _ _ ?_); clear hK' K')
 | (with_reducible refine RT_step fun K' hK' => ?_; first | refine R2_n ?_ | refine Rf rfl rfl ?_ | refine Rf' rfl rfl ?_ | refine R2_gu rfl rfl ?_ | refine Rt rfl rfl ?_ | refine R2_g rfl rfl (fun hg => ?_) (fun hg => ?_) rfl)
 | (with_reducible refine RT_nil ?_; refine hK _ ?_; clear hK K)
 | (with_reducible refine MkG_i ?_; (try simp only [bnq] at hg); (try (have hgp := hg; simp only [bdq] at hgp)); try simp (disch := omega) only [go_sem, seval, irw, hg])
 | (with_reducible refine RL_step fun K' hK' => ?_; first | refine L2_n ?_ | refine Lf rfl rfl ?_ | refine Lf' rfl rfl ?_ | refine L2_gu rfl rfl ?_ | refine Lt rfl rfl ?_ | refine L2_g rfl rfl (fun hg => ?_) (fun hg => ?_) rfl)
 | (with_reducible refine RL_nil ⟨by kernel_rfl, hK _ ?_⟩; clear hK K)
 | (refine CallK_pureM (c_awake hB hE) en_19 rfl ?_)
 | (with_reducible first | refine ite_elimM (fun hg => ?_) (fun hg => ?_) | refine And.intro ?_ ?_)
 | omega)
  cases h1 : fewD p
  · repeat' (first
 | (with_reducible refine Mk_i ?_; try simp (disch := omega) only [go_sem, seval, irw, h1])
 | ((with_reducible first | refine hK' _ _ ?_ | refine hK' _ _ _ ?_); clear hK' K')
 | (with_reducible refine RT_step fun K' hK' => ?_; first | refine R2_n ?_ | refine Rf rfl rfl ?_ | refine Rf' rfl rfl ?_ | refine R2_gu rfl rfl ?_ | refine Rt rfl rfl ?_ | refine R2_g rfl rfl (fun hg => ?_) (fun hg => ?_) rfl)
 | (with_reducible refine RT_nil ?_; refine hK _ ?_; clear hK K)
 | (with_reducible refine MkG_i ?_; (try simp only [bnq] at hg); (try (have hgp := hg; simp only [bdq] at hgp)); try simp (disch := omega) only [go_sem, seval, irw, h1, hg])
 | (with_reducible refine RL_step fun K' hK' => ?_; first | refine L2_n ?_ | refine Lf rfl rfl ?_ | refine Lf' rfl rfl ?_ | refine L2_gu rfl rfl ?_ | refine Lt rfl rfl ?_ | refine L2_g rfl rfl (fun hg => ?_) (fun hg => ?_) rfl)
 | (with_reducible refine RL_nil ⟨by kernel_rfl, hK _ ?_⟩; clear hK K)
 | (with_reducible first | refine AL_seq ?_ | refine AL_skip ?_ | refine AL_nil ?_ | refine SeqQ_n ?_ | refine BlockQ_n ?_)
 | (refine AL_text2 rfl fun K hK => ?_; simp only [List.map])
 | (refine AL_draw2 mixed rfl (by kernel_rfl) fun K hK => ?_; simp only [List.map])
 | (with_reducible refine AL_block ?_)
 | (with_reducible refine AL_exit ?_; simp only [SeqQ, BlockQ, go_sem, seval])
 | (refine Ct rfl ?_)
 | (refine Cf rfl ?_)
 | (refine AL_condb rfl (fun hg => ?_) (fun hg => ?_) <;> ((try simp only [bnq] at hg); (try (have hgp := hg; simp only [bdq] at hgp))))
 | (refine CallK_pureM (c_Few p) en_20 rfl ?_)
 | (with_reducible first | refine ite_elimM (fun hg => ?_) (fun hg => ?_) | refine And.intro ?_ ?_)
 | omega)
    (refine AL_ret (PureQ_ret ?_ rfl); simp [go_sem, ])
  cases h2 : saneD p
  · repeat' (first
 | (with_reducible refine Mk_i ?_; try simp (disch := omega) only [go_sem, seval, irw, h1, h2])
 | ((with_reducible first | refine hK' _ _ ?_ | refine hK' _ _ _ ?_); clear hK' K')
 | (with_reducible refine RT_step fun K' hK' => ?_; first | refine R2_n ?_ | refine Rf rfl rfl ?_ | refine Rf' rfl rfl ?_ | refine R2_gu rfl rfl ?_ | refine Rt rfl rfl ?_ | refine R2_g rfl rfl (fun hg => ?_) (fun hg => ?_) rfl)
 | (with_reducible refine RT_nil ?_; refine hK _ ?_; clear hK K)
 | (with_reducible refine MkG_i ?_; (try simp only [bnq] at hg); (try (have hgp := hg; simp only [bdq] at hgp)); try simp (disch := omega) only [go_sem, seval, irw, h1, h2, hg])
 | (with_reducible refine RL_step fun K' hK' => ?_; first | refine L2_n ?_ | refine Lf rfl rfl ?_ | refine Lf' rfl rfl ?_ | refine L2_gu rfl rfl ?_ | refine Lt rfl rfl ?_ | refine L2_g rfl rfl (fun hg => ?_) (fun hg => ?_) rfl)
 | (with_reducible refine RL_nil ⟨by kernel_rfl, hK _ ?_⟩; clear hK K)
 | (with_reducible first | refine AL_seq ?_ | refine AL_skip ?_ | refine AL_nil ?_ | refine SeqQ_n ?_ | refine BlockQ_n ?_)
 | (refine AL_text2 rfl fun K hK => ?_; simp only [List.map])
 | (refine AL_draw2 mixed rfl (by kernel_rfl) fun K hK => ?_; simp only [List.map])
 | (with_reducible refine AL_block ?_)
 | (with_reducible refine AL_exit ?_; simp only [SeqQ, BlockQ, go_sem, seval])
 | (refine Ct rfl ?_)
 | (refine Cf rfl ?_)
 | (refine AL_condb rfl (fun hg => ?_) (fun hg => ?_) <;> ((try simp only [bnq] at hg); (try (have hgp := hg; simp only [bdq] at hgp))))
 | (refine CallK_pureM (c_Few p) en_20 rfl ?_)
 | (refine CallK_pureM (c_Sane hB hE p) en_21 rfl ?_)
 | (with_reducible first | refine ite_elimM (fun hg => ?_) (fun hg => ?_) | refine And.intro ?_ ?_)
 | omega)
    (refine AL_ret (PureQ_ret ?_ rfl); simp [go_sem, ])
  repeat' (first
 | (with_reducible refine Mk_i ?_; try simp (disch := omega) only [go_sem, seval, irw, h1, h2])
 | ((with_reducible first | refine hK' _ _ ?_ | refine hK' _ _ _ ?_); clear hK' K')
 | (with_reducible refine RT_step fun K' hK' => ?_; first | refine R2_n ?_ | refine Rf rfl rfl ?_ | refine Rf' rfl rfl ?_ | refine R2_gu rfl rfl ?_ | refine Rt rfl rfl ?_ | refine R2_g rfl rfl (fun hg => ?_) (fun hg => ?_) rfl)
 | (with_reducible refine RT_nil ?_; refine hK _ ?_; clear hK K)
 | (with_reducible refine MkG_i ?_; (try simp only [bnq] at hg); (try (have hgp := hg; simp only [bdq] at hgp)); try simp (disch := omega) only [go_sem, seval, irw, h1, h2, hg])
 | (with_reducible refine RL_step fun K' hK' => ?_; first | refine L2_n ?_ | refine Lf rfl rfl ?_ | refine Lf' rfl rfl ?_ | refine L2_gu rfl rfl ?_ | refine Lt rfl rfl ?_ | refine L2_g rfl rfl (fun hg => ?_) (fun hg => ?_) rfl)
 | (with_reducible refine RL_nil ⟨by kernel_rfl, hK _ ?_⟩; clear hK K)
 | (with_reducible first | refine AL_seq ?_ | refine AL_skip ?_ | refine AL_nil ?_ | refine SeqQ_n ?_ | refine BlockQ_n ?_)
 | (refine AL_text2 rfl fun K hK => ?_; simp only [List.map])
 | (refine AL_draw2 mixed rfl (by kernel_rfl) fun K hK => ?_; simp only [List.map])
 | (with_reducible refine AL_block ?_)
 | (with_reducible refine AL_exit ?_; simp only [SeqQ, BlockQ, go_sem, seval])
 | (refine Ct rfl ?_)
 | (refine Cf rfl ?_)
 | (refine AL_condb rfl (fun hg => ?_) (fun hg => ?_) <;> ((try simp only [bnq] at hg); (try (have hgp := hg; simp only [bdq] at hgp))))
 | (refine CallK_pureM (c_Few p) en_20 rfl ?_)
 | (refine CallK_pureM (c_Sane hB hE p) en_21 rfl ?_)
 | (refine CallK_pureM (c_NewId hB hE p) en_22 rfl ?_)
 | (refine CallK_pureM (c_Instrs p h1) en_23 rfl ?_)
 | (with_reducible first | refine ite_elimM (fun hg => ?_) (fun hg => ?_) | refine And.intro ?_ ?_)
 | omega)
  generalize hL : instrsD p = L
  have hid : ∀ i ∈ L, 0 ≤ i.id ∧ i.id < 96 := fun i hi => sane_id h2 (hL ▸ hi)
  refine AL_len 7 (full := false) (rows := insRows L) rfl rfl (.refl _) fun hl => ?_
  simp only [insRows, List.length_map] at hl
  refine AL_loop (fun k : Nat => ⟨tA [(1, pI f), (2, .op 1 0 0 0), (5, pB true), (6, pI (newId p)), (7, .sl false (insRows L)), (8, .os 1 1 0 96), (9, pI k)], tO [some (.rows 1 [[.sl false (funRows p)]]), some (.rows 1 (mRows (metG L k)))]⟩)
    (fun k => k ≤ L.length) (fun k => L.length - k) 0 (Nat.zero_le _) (weak_t [0, 1] _ _ rfl (by decide) ⟨by decide, by decide⟩ (by simp [go_sem, mRows_zero]) (by simp [go_sem, mRows_zero])) ?_
  intro k hk
  (repeat (with_reducible first | refine AL_seq ?_ | refine AL_skip ?_ | refine AL_nil ?_ | refine SeqQ_n ?_ | refine BlockQ_n ?_)); (first
 | (refine AL_text2 rfl fun K hK => ?_; simp only [List.map])
 | (refine AL_draw2 mixed rfl (by kernel_rfl) fun K hK => ?_; simp only [List.map])
 | (with_reducible refine AL_block ?_)
 | (with_reducible refine AL_exit ?_; simp only [SeqQ, BlockQ, go_sem, seval])
 | (refine Ct rfl ?_)
 | (refine Cf rfl ?_)
 | (refine AL_condb rfl (fun hg => ?_) (fun hg => ?_) <;> ((try simp only [bnq] at hg); (try (have hgp := hg; simp only [bdq] at hgp))))); repeat' (first
 | (with_reducible refine Mk_i ?_; try simp (disch := omega) only [go_sem, seval, irw])
 | ((with_reducible first | refine hK' _ _ ?_ | refine hK' _ _ _ ?_); clear hK' K')
 | (with_reducible refine RT_step fun K' hK' => ?_; first | refine R2_n ?_ | refine Rf rfl rfl ?_ | refine Rf' rfl rfl ?_ | refine R2_gu rfl rfl ?_ | refine Rt rfl rfl ?_ | refine R2_g rfl rfl (fun hg => ?_) (fun hg => ?_) rfl)
 | (with_reducible refine RT_nil ?_; refine hK _ ?_; clear hK K)
 | (with_reducible refine MkG_i ?_; (try simp only [bnq] at hg); (try (have hgp := hg; simp only [bdq] at hgp)); try simp (disch := omega) only [go_sem, seval, irw, hg])
 | (with_reducible refine RL_step fun K' hK' => ?_; first | refine L2_n ?_ | refine Lf rfl rfl ?_ | refine Lf' rfl rfl ?_ | refine L2_gu rfl rfl ?_ | refine Lt rfl rfl ?_ | refine L2_g rfl rfl (fun hg => ?_) (fun hg => ?_) rfl)
 | (with_reducible refine RL_nil ⟨by kernel_rfl, hK _ ?_⟩; clear hK K)
 | (with_reducible first | refine ite_elimM (fun hg => ?_) (fun hg => ?_) | refine And.intro ?_ ?_)
 | omega)
  cases h3 : decide ((k : Int) < (L.length : Int))
  · have hk2 : k = L.length := by simp at h3; omega
    subst hk2
    repeat' (first
 | (with_reducible refine Mk_i ?_; try simp (disch := omega) only [go_sem, seval, irw, h3])
 | ((with_reducible first | refine hK' _ _ ?_ | refine hK' _ _ _ ?_); clear hK' K')
 | (with_reducible refine RT_step fun K' hK' => ?_; first | refine R2_n ?_ | refine Rf rfl rfl ?_ | refine Rf' rfl rfl ?_ | refine R2_gu rfl rfl ?_ | refine Rt rfl rfl ?_ | refine R2_g rfl rfl (fun hg => ?_) (fun hg => ?_) rfl)
 | (with_reducible refine RT_nil ?_; refine hK _ ?_; clear hK K)
 | (with_reducible refine MkG_i ?_; (try simp only [bnq] at hg); (try (have hgp := hg; simp only [bdq] at hgp)); try simp (disch := omega) only [go_sem, seval, irw, h3, hg])
 | (with_reducible refine RL_step fun K' hK' => ?_; first | refine L2_n ?_ | refine Lf rfl rfl ?_ | refine Lf' rfl rfl ?_ | refine L2_gu rfl rfl ?_ | refine Lt rfl rfl ?_ | refine L2_g rfl rfl (fun hg => ?_) (fun hg => ?_) rfl)
 | (with_reducible refine RL_nil ⟨by kernel_rfl, hK _ ?_⟩; clear hK K)
 | (with_reducible first | refine AL_seq ?_ | refine AL_skip ?_ | refine AL_nil ?_ | refine SeqQ_n ?_ | refine BlockQ_n ?_)
 | (refine AL_text2 rfl fun K hK => ?_; simp only [List.map])
 | (refine AL_draw2 mixed rfl (by kernel_rfl) fun K hK => ?_; simp only [List.map])
 | (with_reducible refine AL_block ?_)
 | (with_reducible refine AL_exit ?_; simp only [SeqQ, BlockQ, go_sem, seval])
 | (refine Ct rfl ?_)
 | (refine Cf rfl ?_)
 | (refine AL_condb rfl (fun hg => ?_) (fun hg => ?_) <;> ((try simp only [bnq] at hg); (try (have hgp := hg; simp only [bdq] at hgp))))
 | (with_reducible first | refine ite_elimM (fun hg => ?_) (fun hg => ?_) | refine And.intro ?_ ?_)
 | omega)
    have hn := has_putF p []
    rw [hL] at hn
    simp only [hasE, mibGet, Option.getD_none, Bool.or_false] at hn
    have hN : newId p = leastF (hasE (putF [] p)) 0 96 := by simp [newId, h2]
    have hs := leastF_spec (hasE (putF [] p)) 96 0
    rw [← hN] at hs
    have hg : ∀ j : Nat, metG L L.length j = hasE (putF [] p) j := fun j => by rw [metG, List.take_length, hasE, hn]
    generalize newId p = n at hs
    generalize metG L L.length = g at hg
    refine AL_loop (fun k : Nat => ⟨tA [(1, pI f), (2, .op 1 0 0 0), (5, pB true), (6, pI n), (8, .os 1 1 0 96), (10, pI k)], tO [some (.rows 1 [[.sl false (funRows p)]]), some (.rows 1 (mRows g))]⟩)
      (fun k => k ≤ 96) (fun k => 96 - k) 0 (Nat.zero_le _) (weak_t [0, 1] _ _ rfl (by decide) ⟨by decide, by decide⟩ (by simp [go_sem, ]) (by simp [go_sem, ])) ?_
    intro k hk
    (repeat (with_reducible first | refine AL_seq ?_ | refine AL_skip ?_ | refine AL_nil ?_ | refine SeqQ_n ?_ | refine BlockQ_n ?_)); (first
 | (refine AL_text2 rfl fun K hK => ?_; simp only [List.map])
 | (refine AL_draw2 mixed rfl (by kernel_rfl) fun K hK => ?_; simp only [List.map])
 | (with_reducible refine AL_block ?_)
 | (with_reducible refine AL_exit ?_; simp only [SeqQ, BlockQ, go_sem, seval])
 | (refine Ct rfl ?_)
 | (refine Cf rfl ?_)
 | (refine AL_condb rfl (fun hg => ?_) (fun hg => ?_) <;> ((try simp only [bnq] at hg); (try (have hgp := hg; simp only [bdq] at hgp))))); repeat' (first
 | (with_reducible refine Mk_i ?_; try simp (disch := omega) only [go_sem, seval, irw])
 | ((with_reducible first | refine hK' _ _ ?_ | refine hK' _ _ _ ?_); clear hK' K')
 | (with_reducible refine RT_step fun K' hK' => ?_; first | refine R2_n ?_ | refine Rf rfl rfl ?_ | refine Rf' rfl rfl ?_ | refine R2_gu rfl rfl ?_ | refine Rt rfl rfl ?_ | refine R2_g rfl rfl (fun hg => ?_) (fun hg => ?_) rfl)
 | (with_reducible refine RT_nil ?_; refine hK _ ?_; clear hK K)
 | (with_reducible refine MkG_i ?_; (try simp only [bnq] at hg); (try (have hgp := hg; simp only [bdq] at hgp)); try simp (disch := omega) only [go_sem, seval, irw, hg])
 | (with_reducible refine RL_step fun K' hK' => ?_; first | refine L2_n ?_ | refine Lf rfl rfl ?_ | refine Lf' rfl rfl ?_ | refine L2_gu rfl rfl ?_ | refine Lt rfl rfl ?_ | refine L2_g rfl rfl (fun hg => ?_) (fun hg => ?_) rfl)
 | (with_reducible refine RL_nil ⟨by kernel_rfl, hK _ ?_⟩; clear hK K)
 | (with_reducible first | refine ite_elimM (fun hg => ?_) (fun hg => ?_) | refine And.intro ?_ ?_)
 | omega)
    cases h4 : decide ((k : Int) < 96)
    · have hk2 : k = 96 := by simp at h4; omega
      have hn96 : decide (n < 96) = true := by
        rw [decide_eq_true_eq]
        rcases hs with ⟨q1, q2⟩ | ⟨m, q1, q2, q3, q4, q5⟩ <;> omega
      have hNB := c_NewBlock hB hE p f
      have hFu := c_Fun hB hE p f
      have hBl := c_Block hB hE p f
      unfold newBlock at hNB
      unfold blockO at hBl
      have hx12 := funD_le p f
      cases hx : funO p f with
      | none =>
        rw [hx] at hNB hFu
        repeat' (first
 | (with_reducible refine Mk_i ?_; try simp (disch := omega) only [go_sem, seval, irw, h4])
 | ((with_reducible first | refine hK' _ _ ?_ | refine hK' _ _ _ ?_); clear hK' K')
 | (with_reducible refine RT_step fun K' hK' => ?_; first | refine R2_n ?_ | refine Rf rfl rfl ?_ | refine Rf' rfl rfl ?_ | refine R2_gu rfl rfl ?_ | refine Rt rfl rfl ?_ | refine R2_g rfl rfl (fun hg => ?_) (fun hg => ?_) rfl)
 | (with_reducible refine RT_nil ?_; refine hK _ ?_; clear hK K)
 | (with_reducible refine MkG_i ?_; (try simp only [bnq] at hg); (try (have hgp := hg; simp only [bdq] at hgp)); try simp (disch := omega) only [go_sem, seval, irw, h4, hg])
 | (with_reducible refine RL_step fun K' hK' => ?_; first | refine L2_n ?_ | refine Lf rfl rfl ?_ | refine Lf' rfl rfl ?_ | refine L2_gu rfl rfl ?_ | refine Lt rfl rfl ?_ | refine L2_g rfl rfl (fun hg => ?_) (fun hg => ?_) rfl)
 | (with_reducible refine RL_nil ⟨by kernel_rfl, hK _ ?_⟩; clear hK K)
 | (with_reducible first | refine AL_seq ?_ | refine AL_skip ?_ | refine AL_nil ?_ | refine SeqQ_n ?_ | refine BlockQ_n ?_)
 | (refine AL_text2 rfl fun K hK => ?_; simp only [List.map])
 | (refine AL_draw2 mixed rfl (by kernel_rfl) fun K hK => ?_; simp only [List.map])
 | (with_reducible refine AL_block ?_)
 | (with_reducible refine AL_exit ?_; simp only [SeqQ, BlockQ, go_sem, seval])
 | (refine Ct rfl ?_)
 | (refine Cf rfl ?_)
 | (refine AL_condb rfl (fun hg => ?_) (fun hg => ?_) <;> ((try simp only [bnq] at hg); (try (have hgp := hg; simp only [bdq] at hgp))))
 | (refine CallK_pureM (hNB) en_24 rfl ?_)
 | (refine CallK_pureM (hFu) en_25 rfl ?_)
 | (with_reducible first | refine ite_elimM (fun hg => ?_) (fun hg => ?_) | refine And.intro ?_ ?_)
 | omega)
        (refine AL_ret (PureQ_ret ?_ rfl); simp [go_sem, ])
      | some x =>
        rw [hx] at hNB hFu hBl hx12
        simp only [Option.getD_some, Option.bind_some] at hNB hFu hBl hx12
        repeat' (first
 | (with_reducible refine Mk_i ?_; try simp (disch := omega) only [go_sem, seval, irw, h4])
 | ((with_reducible first | refine hK' _ _ ?_ | refine hK' _ _ _ ?_); clear hK' K')
 | (with_reducible refine RT_step fun K' hK' => ?_; first | refine R2_n ?_ | refine Rf rfl rfl ?_ | refine Rf' rfl rfl ?_ | refine R2_gu rfl rfl ?_ | refine Rt rfl rfl ?_ | refine R2_g rfl rfl (fun hg => ?_) (fun hg => ?_) rfl)
 | (with_reducible refine RT_nil ?_; refine hK _ ?_; clear hK K)
 | (with_reducible refine MkG_i ?_; (try simp only [bnq] at hg); (try (have hgp := hg; simp only [bdq] at hgp)); try simp (disch := omega) only [go_sem, seval, irw, h4, hg])
 | (with_reducible refine RL_step fun K' hK' => ?_; first | refine L2_n ?_ | refine Lf rfl rfl ?_ | refine Lf' rfl rfl ?_ | refine L2_gu rfl rfl ?_ | refine Lt rfl rfl ?_ | refine L2_g rfl rfl (fun hg => ?_) (fun hg => ?_) rfl)
 | (with_reducible refine RL_nil ⟨by kernel_rfl, hK _ ?_⟩; clear hK K)
 | (with_reducible first | refine AL_seq ?_ | refine AL_skip ?_ | refine AL_nil ?_ | refine SeqQ_n ?_ | refine BlockQ_n ?_)
 | (refine AL_text2 rfl fun K hK => ?_; simp only [List.map])
 | (refine AL_draw2 mixed rfl (by kernel_rfl) fun K hK => ?_; simp only [List.map])
 | (with_reducible refine AL_block ?_)
 | (with_reducible refine AL_exit ?_; simp only [SeqQ, BlockQ, go_sem, seval])
 | (refine Ct rfl ?_)
 | (refine Cf rfl ?_)
 | (refine AL_condb rfl (fun hg => ?_) (fun hg => ?_) <;> ((try simp only [bnq] at hg); (try (have hgp := hg; simp only [bdq] at hgp))))
 | (refine CallK_pureM (hNB) en_24 rfl ?_)
 | (refine CallK_pureM (hFu) en_25 rfl ?_)
 | (with_reducible first | refine ite_elimM (fun hg => ?_) (fun hg => ?_) | refine And.intro ?_ ?_)
 | omega)
        have hs2 := leastF_spec (hasE (liveE [] 0 x.blocks)) 12 0
        simp only [has_live] at hs2
        generalize leastF (hasE (liveE [] 0 x.blocks)) 0 12 = b at hs2
        refine AL_loop (fun k : Nat => ⟨tA [(1, pI f), (2, .op 1 0 0 0), (5, pB true), (6, pI n), (11, pI b), (12, .op 3 1 0 0), (14, pI k)], tO [some (.rows 1 [[.sl false (funRows p)]]), some (.rows 3 [x.cells])]⟩)
          (fun k => k ≤ 12) (fun k => 12 - k) 0 (Nat.zero_le _) (weak_t [0, 2] _ _ rfl (by decide) ⟨by decide, by decide⟩ (by simp [go_sem, ]) (by simp [go_sem, ])) ?_
        intro k hk
        (repeat (with_reducible first | refine AL_seq ?_ | refine AL_skip ?_ | refine AL_nil ?_ | refine SeqQ_n ?_ | refine BlockQ_n ?_)); (first
 | (refine AL_text2 rfl fun K hK => ?_; simp only [List.map])
 | (refine AL_draw2 mixed rfl (by kernel_rfl) fun K hK => ?_; simp only [List.map])
 | (with_reducible refine AL_block ?_)
 | (with_reducible refine AL_exit ?_; simp only [SeqQ, BlockQ, go_sem, seval])
 | (refine Ct rfl ?_)
 | (refine Cf rfl ?_)
 | (refine AL_condb rfl (fun hg => ?_) (fun hg => ?_) <;> ((try simp only [bnq] at hg); (try (have hgp := hg; simp only [bdq] at hgp))))); repeat' (first
 | (with_reducible refine Mk_i ?_; try simp (disch := omega) only [go_sem, seval, irw])
 | ((with_reducible first | refine hK' _ _ ?_ | refine hK' _ _ _ ?_); clear hK' K')
 | (with_reducible refine RT_step fun K' hK' => ?_; first | refine R2_n ?_ | refine Rf rfl rfl ?_ | refine Rf' rfl rfl ?_ | refine R2_gu rfl rfl ?_ | refine Rt rfl rfl ?_ | refine R2_g rfl rfl (fun hg => ?_) (fun hg => ?_) rfl)
 | (with_reducible refine RT_nil ?_; refine hK _ ?_; clear hK K)
 | (with_reducible refine MkG_i ?_; (try simp only [bnq] at hg); (try (have hgp := hg; simp only [bdq] at hgp)); try simp (disch := omega) only [go_sem, seval, irw, hg])
 | (with_reducible refine RL_step fun K' hK' => ?_; first | refine L2_n ?_ | refine Lf rfl rfl ?_ | refine Lf' rfl rfl ?_ | refine L2_gu rfl rfl ?_ | refine Lt rfl rfl ?_ | refine L2_g rfl rfl (fun hg => ?_) (fun hg => ?_) rfl)
 | (with_reducible refine RL_nil ⟨by kernel_rfl, hK _ ?_⟩; clear hK K)
 | (with_reducible first | refine ite_elimM (fun hg => ?_) (fun hg => ?_) | refine And.intro ?_ ?_)
 | omega)
        cases h5 : decide ((k : Int) < 12)
        · have hb12 : decide (b < 12) = true := by
            rw [decide_eq_true_eq]
            rcases hs2 with ⟨q1, q2⟩ | ⟨m, q1, q2, q3, q4, q5⟩ <;> omega
          have hx12' : decide ((x.blocks.length : Int) ≤ 12) = true := by rw [decide_eq_true_eq]; omega
          repeat' (first
 | (with_reducible refine Mk_i ?_; try simp (disch := omega) only [go_sem, seval, irw, h5, hb12, hx12', hn96])
 | ((with_reducible first | refine hK' _ _ ?_ | refine hK' _ _ _ ?_); clear hK' K')
 | (with_reducible refine RT_step fun K' hK' => ?_; first | refine R2_n ?_ | refine Rf rfl rfl ?_ | refine Rf' rfl rfl ?_ | refine R2_gu rfl rfl ?_ | refine Rt rfl rfl ?_ | refine R2_g rfl rfl (fun hg => ?_) (fun hg => ?_) rfl)
 | (with_reducible refine RT_nil ?_; refine hK _ ?_; clear hK K)
 | (with_reducible refine MkG_i ?_; (try simp only [bnq] at hg); (try (have hgp := hg; simp only [bdq] at hgp)); try simp (disch := omega) only [go_sem, seval, irw, h5, hb12, hx12', hn96, hg])
 | (with_reducible refine RL_step fun K' hK' => ?_; first | refine L2_n ?_ | refine Lf rfl rfl ?_ | refine Lf' rfl rfl ?_ | refine L2_gu rfl rfl ?_ | refine Lt rfl rfl ?_ | refine L2_g rfl rfl (fun hg => ?_) (fun hg => ?_) rfl)
 | (with_reducible refine RL_nil ⟨by kernel_rfl, hK _ ?_⟩; clear hK K)
 | (with_reducible first | refine AL_seq ?_ | refine AL_skip ?_ | refine AL_nil ?_ | refine SeqQ_n ?_ | refine BlockQ_n ?_)
 | (refine AL_text2 rfl fun K hK => ?_; simp only [List.map])
 | (refine AL_draw2 mixed rfl (by kernel_rfl) fun K hK => ?_; simp only [List.map])
 | (with_reducible refine AL_block ?_)
 | (with_reducible refine AL_exit ?_; simp only [SeqQ, BlockQ, go_sem, seval])
 | (refine Ct rfl ?_)
 | (refine Cf rfl ?_)
 | (refine AL_condb rfl (fun hg => ?_) (fun hg => ?_) <;> ((try simp only [bnq] at hg); (try (have hgp := hg; simp only [bdq] at hgp))))
 | (with_reducible first | refine ite_elimM (fun hg => ?_) (fun hg => ?_) | refine And.intro ?_ ?_)
 | omega)
          (refine AL_ret (PureQ_ret ?_ rfl); simp [go_sem, ])
        have hk3 : k < 12 := by simp at h5; omega
        have hBk := hBl k
        rw [liveD_some] at hBk
        generalize (if liveD x k = true then x.blocks[(k : Int).toNat]? else none).getD zeroB = y at hBk
        cases hq : liveD x k
        · rw [hq] at hBk
          have a1 : decide (b < 0) = false := by
            rw [decide_eq_false_iff_not]
            rcases hs2 with ⟨q1, q2⟩ | ⟨m, q1, q2, q3, q4, q5⟩
            · exact absurd (q2 k (by omega) (by omega)) (by rw [hq]; simp)
            · omega
          have a2 : decide ((k : Int) < b) = false := by
            rw [decide_eq_false_iff_not]
            intro h
            rcases hs2 with ⟨q1, q2⟩ | ⟨m, q1, q2, q3, q4, q5⟩
            · omega
            · exact absurd (q5 k (by omega) (by omega)) (by rw [hq]; simp)
          repeat' (first
 | (with_reducible refine Mk_i ?_; try simp (disch := omega) only [go_sem, seval, irw, h5, a1, a2])
 | ((with_reducible first | refine hK' _ _ ?_ | refine hK' _ _ _ ?_); clear hK' K')
 | (with_reducible refine RT_step fun K' hK' => ?_; first | refine R2_n ?_ | refine Rf rfl rfl ?_ | refine Rf' rfl rfl ?_ | refine R2_gu rfl rfl ?_ | refine Rt rfl rfl ?_ | refine R2_g rfl rfl (fun hg => ?_) (fun hg => ?_) rfl)
 | (with_reducible refine RT_nil ?_; refine hK _ ?_; clear hK K)
 | (with_reducible refine MkG_i ?_; (try simp only [bnq] at hg); (try (have hgp := hg; simp only [bdq] at hgp)); try simp (disch := omega) only [go_sem, seval, irw, h5, a1, a2, hg])
 | (with_reducible refine RL_step fun K' hK' => ?_; first | refine L2_n ?_ | refine Lf rfl rfl ?_ | refine Lf' rfl rfl ?_ | refine L2_gu rfl rfl ?_ | refine Lt rfl rfl ?_ | refine L2_g rfl rfl (fun hg => ?_) (fun hg => ?_) rfl)
 | (with_reducible refine RL_nil ⟨by kernel_rfl, hK _ ?_⟩; clear hK K)
 | (with_reducible first | refine AL_seq ?_ | refine AL_skip ?_ | refine AL_nil ?_ | refine SeqQ_n ?_ | refine BlockQ_n ?_)
 | (refine AL_text2 rfl fun K hK => ?_; simp only [List.map])
 | (refine AL_draw2 mixed rfl (by kernel_rfl) fun K hK => ?_; simp only [List.map])
 | (with_reducible refine AL_block ?_)
 | (with_reducible refine AL_exit ?_; simp only [SeqQ, BlockQ, go_sem, seval])
 | (refine Ct rfl ?_)
 | (refine Cf rfl ?_)
 | (refine AL_condb rfl (fun hg => ?_) (fun hg => ?_) <;> ((try simp only [bnq] at hg); (try (have hgp := hg; simp only [bdq] at hgp))))
 | (refine CallK_pureM (hBk) en_26 rfl ?_)
 | (with_reducible first | refine ite_elimM (fun hg => ?_) (fun hg => ?_) | refine And.intro ?_ ?_)
 | omega)
          all_goals exact ⟨k + 1, hk3, by omega, (weak_t [0, 1] _ _ rfl (by decide) ⟨by decide, by decide⟩ (by simp [go_sem, ]) (by simp [go_sem, ]))⟩
        · rw [hq] at hBk
          have a3 : ((k : Int) == b) = false := by
            rw [beq_eq_false_iff_ne]
            intro h
            rcases hs2 with ⟨q1, q2⟩ | ⟨m, q1, q2, q3, q4, q5⟩
            · omega
            · rw [show m = k by omega, hq] at q4; cases q4
          repeat' (first
 | (with_reducible refine Mk_i ?_; try simp (disch := omega) only [go_sem, seval, irw, h5, a3])
 | ((with_reducible first | refine hK' _ _ ?_ | refine hK' _ _ _ ?_); clear hK' K')
 | (with_reducible refine RT_step fun K' hK' => ?_; first | refine R2_n ?_ | refine Rf rfl rfl ?_ | refine Rf' rfl rfl ?_ | refine R2_gu rfl rfl ?_ | refine Rt rfl rfl ?_ | refine R2_g rfl rfl (fun hg => ?_) (fun hg => ?_) rfl)
 | (with_reducible refine RT_nil ?_; refine hK _ ?_; clear hK K)
 | (with_reducible refine MkG_i ?_; (try simp only [bnq] at hg); (try (have hgp := hg; simp only [bdq] at hgp)); try simp (disch := omega) only [go_sem, seval, irw, h5, a3, hg])
 | (with_reducible refine RL_step fun K' hK' => ?_; first | refine L2_n ?_ | refine Lf rfl rfl ?_ | refine Lf' rfl rfl ?_ | refine L2_gu rfl rfl ?_ | refine Lt rfl rfl ?_ | refine L2_g rfl rfl (fun hg => ?_) (fun hg => ?_) rfl)
 | (with_reducible refine RL_nil ⟨by kernel_rfl, hK _ ?_⟩; clear hK K)
 | (with_reducible first | refine AL_seq ?_ | refine AL_skip ?_ | refine AL_nil ?_ | refine SeqQ_n ?_ | refine BlockQ_n ?_)
 | (refine AL_text2 rfl fun K hK => ?_; simp only [List.map])
 | (refine AL_draw2 mixed rfl (by kernel_rfl) fun K hK => ?_; simp only [List.map])
 | (with_reducible refine AL_block ?_)
 | (with_reducible refine AL_exit ?_; simp only [SeqQ, BlockQ, go_sem, seval])
 | (refine Ct rfl ?_)
 | (refine Cf rfl ?_)
 | (refine AL_condb rfl (fun hg => ?_) (fun hg => ?_) <;> ((try simp only [bnq] at hg); (try (have hgp := hg; simp only [bdq] at hgp))))
 | (refine CallK_pureM (hBk) en_26 rfl ?_)
 | (with_reducible first | refine ite_elimM (fun hg => ?_) (fun hg => ?_) | refine And.intro ?_ ?_)
 | omega)
          all_goals exact ⟨k + 1, hk3, by omega, (weak_t [0, 1] _ _ rfl (by decide) ⟨by decide, by decide⟩ (by simp [go_sem, ]) (by simp [go_sem, ]))⟩
    have hk2 : k < 96 := by simp at h4; omega
    have g1 := mRows_get g hk2
    have hgk := hg k
    cases hq : g k
    · rw [hq] at g1 hgk
      have a1 : decide (n < 0) = false := by
        rw [decide_eq_false_iff_not]
        rcases hs with ⟨q1, q2⟩ | ⟨m, q1, q2, q3, q4, q5⟩
        · exact absurd (q2 k (by omega) (by omega)) (by rw [← hgk]; simp)
        · omega
      have a2 : decide ((k : Int) < n) = false := by
        rw [decide_eq_false_iff_not]
        intro h
        rcases hs with ⟨q1, q2⟩ | ⟨m, q1, q2, q3, q4, q5⟩
        · omega
        · exact absurd (q5 k (by omega) (by omega)) (by rw [← hgk]; simp)
      repeat' (first
 | (with_reducible refine Mk_i ?_; try simp (disch := omega) only [go_sem, seval, irw, h4, g1, a1, a2])
 | ((with_reducible first | refine hK' _ _ ?_ | refine hK' _ _ _ ?_); clear hK' K')
 | (with_reducible refine RT_step fun K' hK' => ?_; first | refine R2_n ?_ | refine Rf rfl rfl ?_ | refine Rf' rfl rfl ?_ | refine R2_gu rfl rfl ?_ | refine Rt rfl rfl ?_ | refine R2_g rfl rfl (fun hg => ?_) (fun hg => ?_) rfl)
 | (with_reducible refine RT_nil ?_; refine hK _ ?_; clear hK K)
 | (with_reducible refine MkG_i ?_; (try simp only [bnq] at hg); (try (have hgp := hg; simp only [bdq] at hgp)); try simp (disch := omega) only [go_sem, seval, irw, h4, g1, a1, a2, hg])
 | (with_reducible refine RL_step fun K' hK' => ?_; first | refine L2_n ?_ | refine Lf rfl rfl ?_ | refine Lf' rfl rfl ?_ | refine L2_gu rfl rfl ?_ | refine Lt rfl rfl ?_ | refine L2_g rfl rfl (fun hg => ?_) (fun hg => ?_) rfl)
 | (with_reducible refine RL_nil ⟨by kernel_rfl, hK _ ?_⟩; clear hK K)
 | (with_reducible first | refine AL_seq ?_ | refine AL_skip ?_ | refine AL_nil ?_ | refine SeqQ_n ?_ | refine BlockQ_n ?_)
 | (refine AL_text2 rfl fun K hK => ?_; simp only [List.map])
 | (refine AL_draw2 mixed rfl (by kernel_rfl) fun K hK => ?_; simp only [List.map])
 | (with_reducible refine AL_block ?_)
 | (with_reducible refine AL_exit ?_; simp only [SeqQ, BlockQ, go_sem, seval])
 | (refine Ct rfl ?_)
 | (refine Cf rfl ?_)
 | (refine AL_condb rfl (fun hg => ?_) (fun hg => ?_) <;> ((try simp only [bnq] at hg); (try (have hgp := hg; simp only [bdq] at hgp))))
 | (with_reducible first | refine ite_elimM (fun hg => ?_) (fun hg => ?_) | refine And.intro ?_ ?_)
 | omega)
      all_goals exact ⟨k + 1, hk2, by omega, (weak_t [0, 1] _ _ rfl (by decide) ⟨by decide, by decide⟩ (by simp [go_sem, ]) (by simp [go_sem, ]))⟩
    · rw [hq] at g1 hgk
      have a3 : ((k : Int) == n) = false := by
        rw [beq_eq_false_iff_ne]
        intro h
        rcases hs with ⟨q1, q2⟩ | ⟨m, q1, q2, q3, q4, q5⟩
        · omega
        · rw [show m = k by omega, ← hgk] at q4; cases q4
      repeat' (first
 | (with_reducible refine Mk_i ?_; try simp (disch := omega) only [go_sem, seval, irw, h4, g1, a3])
 | ((with_reducible first | refine hK' _ _ ?_ | refine hK' _ _ _ ?_); clear hK' K')
 | (with_reducible refine RT_step fun K' hK' => ?_; first | refine R2_n ?_ | refine Rf rfl rfl ?_ | refine Rf' rfl rfl ?_ | refine R2_gu rfl rfl ?_ | refine Rt rfl rfl ?_ | refine R2_g rfl rfl (fun hg => ?_) (fun hg => ?_) rfl)
 | (with_reducible refine RT_nil ?_; refine hK _ ?_; clear hK K)
 | (with_reducible refine MkG_i ?_; (try simp only [bnq] at hg); (try (have hgp := hg; simp only [bdq] at hgp)); try simp (disch := omega) only [go_sem, seval, irw, h4, g1, a3, hg])
 | (with_reducible refine RL_step fun K' hK' => ?_; first | refine L2_n ?_ | refine Lf rfl rfl ?_ | refine Lf' rfl rfl ?_ | refine L2_gu rfl rfl ?_ | refine Lt rfl rfl ?_ | refine L2_g rfl rfl (fun hg => ?_) (fun hg => ?_) rfl)
 | (with_reducible refine RL_nil ⟨by kernel_rfl, hK _ ?_⟩; clear hK K)
 | (with_reducible first | refine AL_seq ?_ | refine AL_skip ?_ | refine AL_nil ?_ | refine SeqQ_n ?_ | refine BlockQ_n ?_)
 | (refine AL_text2 rfl fun K hK => ?_; simp only [List.map])
 | (refine AL_draw2 mixed rfl (by kernel_rfl) fun K hK => ?_; simp only [List.map])
 | (with_reducible refine AL_block ?_)
 | (with_reducible refine AL_exit ?_; simp only [SeqQ, BlockQ, go_sem, seval])
 | (refine Ct rfl ?_)
 | (refine Cf rfl ?_)
 | (refine AL_condb rfl (fun hg => ?_) (fun hg => ?_) <;> ((try simp only [bnq] at hg); (try (have hgp := hg; simp only [bdq] at hgp))))
 | (with_reducible first | refine ite_elimM (fun hg => ?_) (fun hg => ?_) | refine And.intro ?_ ?_)
 | omega)
      all_goals exact ⟨k + 1, hk2, by omega, (weak_t [0, 1] _ _ rfl (by decide) ⟨by decide, by decide⟩ (by simp [go_sem, ]) (by simp [go_sem, ]))⟩
  have hk2 : k < L.length := by simpa using h3
  obtain ⟨k1, k2⟩ := hid _ (List.getElem_mem hk2)
  obtain ⟨n, hn⟩ := Int.eq_ofNat_of_zero_le k1
  have hn2 : n < 96 := by omega
  have hn3 : (n : Int) < 96 := by omega
  have g1 := mRows_get (metG L k) hn2
  have g2 := mRows_set (metG L k) hn2
  rw [metG_succ L k hk2 n hn] at g2
  repeat' (first
 | (with_reducible refine Mk_i ?_; try simp (disch := omega) only [go_sem, seval, irw, h3, hn, g1, g2, hn2, hn3])
 | ((with_reducible first | refine hK' _ _ ?_ | refine hK' _ _ _ ?_); clear hK' K')
 | (with_reducible refine RT_step fun K' hK' => ?_; first | refine R2_n ?_ | refine Rf rfl rfl ?_ | refine Rf' rfl rfl ?_ | refine R2_gu rfl rfl ?_ | refine Rt rfl rfl ?_ | refine R2_g rfl rfl (fun hg => ?_) (fun hg => ?_) rfl)
 | (with_reducible refine RT_nil ?_; refine hK _ ?_; clear hK K)
 | (with_reducible refine MkG_i ?_; (try simp only [bnq] at hg); (try (have hgp := hg; simp only [bdq] at hgp)); try simp (disch := omega) only [go_sem, seval, irw, h3, hn, g1, g2, hn2, hn3, hg])
 | (with_reducible refine RL_step fun K' hK' => ?_; first | refine L2_n ?_ | refine Lf rfl rfl ?_ | refine Lf' rfl rfl ?_ | refine L2_gu rfl rfl ?_ | refine Lt rfl rfl ?_ | refine L2_g rfl rfl (fun hg => ?_) (fun hg => ?_) rfl)
 | (with_reducible refine RL_nil ⟨by kernel_rfl, hK _ ?_⟩; clear hK K)
 | (with_reducible first | refine AL_seq ?_ | refine AL_skip ?_ | refine AL_nil ?_ | refine SeqQ_n ?_ | refine BlockQ_n ?_)
 | (refine AL_text2 rfl fun K hK => ?_; simp only [List.map])
 | (refine AL_draw2 mixed rfl (by kernel_rfl) fun K hK => ?_; simp only [List.map])
 | (with_reducible refine AL_block ?_)
 | (with_reducible refine AL_exit ?_; simp only [SeqQ, BlockQ, go_sem, seval])
 | (refine Ct rfl ?_)
 | (refine Cf rfl ?_)
 | (refine AL_condb rfl (fun hg => ?_) (fun hg => ?_) <;> ((try simp only [bnq] at hg); (try (have hgp := hg; simp only [bdq] at hgp))))
 | (with_reducible first | refine ite_elimM (fun hg => ?_) (fun hg => ?_) | refine And.intro ?_ ?_)
 | omega)
  exact ⟨k + 1, hk2, by omega, (weak_t [0, 1] _ _ rfl (by decide) ⟨by decide, by decide⟩ (by simp [go_sem, ]) (by simp [go_sem, ]))⟩
end Go.Proofs.YtjlcojgimicfbaaDoor
/- A program is read as it stands: the walk. -/
namespace Go.Proofs.YtjlcojgimicfbaaDoor
open Go.Am Go
set_option linter.unusedSimpArgs false
set_option maxRecDepth 100000
set_option maxHeartbeats 4000000
variable {Γ : Nat → Option Obj}

theorem predsF_nil {b : Int} : ∀ {l : List BlkD} {k : Nat}, (∀ x ∈ l, b ∉ x.succ) → predsF b k l = []
  | [], _, _ => rfl
  | x :: r, k, h => by
    rw [predsF, if_neg (h x (List.mem_cons_self ..)), predsF_nil fun y hy => h y (List.mem_cons_of_mem _ hy)]; rfl
theorem preds_dead {p : List FunD} {f b : Int} {x : FunD} (hs : saneD p = true) (hx : funO p f = some x) (hb : liveD x b = false) : predsD p f b = [] := by
  obtain ⟨h0, h1, _, h2⟩ := funO_some hx
  unfold predsD
  rw [hx]
  refine predsF_nil fun y hy hm => ?_
  have := (sane_block hs (List.mem_of_getElem? h2) hy).2.2.1 b hm
  rw [hb] at this; cases this
theorem funO_in {p : List FunD} {f : Int} (hs : saneD p = true) (h0 : 0 ≤ f) (h1 : f < p.length) : funO p f = some (p[f.toNat]'(by omega)) := by
  rw [funO, if_neg (by omega), if_neg (by omega), if_pos hs]
  exact List.getElem?_eq_getElem (by omega)

theorem ne_ins {x y : Operand} (i j : Ins) : BinR Tryd.prog .neq 24 x y (.agg #[.int .i64 i.id, .int .i64 i.kind, .int .i64 i.dst, .int .i64 i.a, .int .i64 i.b, .int .i64 i.c, .int .i64 i.f, .int .i64 i.n, .int .i64 i.x, .int .i64 i.y, .int .i64 i.z])
    (.agg #[.int .i64 j.id, .int .i64 j.kind, .int .i64 j.dst, .int .i64 j.a, .int .i64 j.b, .int .i64 j.c, .int .i64 j.f, .int .i64 j.n, .int .i64 j.x, .int .i64 j.y, .int .i64 j.z]) (.bool (!decide (i = j))) := by
  intro w
  have h := eq_ins (x := x) (y := y) i j w
  rw [Sem.run_bind, run_eqGuard_agg w .eql 24 x y _ _ (by kernel_rfl)] at h
  rw [Sem.run_bind, run_eqGuard_agg w .neq 24 x y _ _ (by kernel_rfl)]
  simp only [Result.andThen] at h ⊢
  rw [run_eql_struct] at h
  rw [run_neq_struct]
  generalize Sem.run Tryd.prog (Op.equalIn 10000 _ _ _) w = q at h ⊢
  cases q <;> simp_all [Result.andThen]

theorem c_ProgParts (hB : Blanks Γ) (hE : ErrT Γ) (p : List FunD) (f b pos : Int) : Pure Γ Tryd.prog 6 [progV p, pI f, pI b, pI pos] (pB true) := by
  refine pure_start4 Tryd.func6 rfl (by simp [Tryd.f6]) ?_
  refine AL_seq ?_
  (repeat (with_reducible first | refine AL_seq ?_ | refine AL_skip ?_ | refine AL_nil ?_ | refine SeqQ_n ?_ | refine BlockQ_n ?_)); (first
 | (refine AL_text2 rfl fun K hK => ?_; simp only [List.map])
 | (refine AL_draw2 mixed rfl (by kernel_rfl) fun K hK => ?_; simp only [List.map])
 | (with_reducible refine AL_block ?_)
 | (with_reducible refine AL_exit ?_; simp only [SeqQ, BlockQ, go_sem, seval])
 | (refine Ct rfl ?_)
 | (refine Cf rfl ?_)
 | (refine AL_condb rfl (fun hg => ?_) (fun hg => ?_) <;> ((try simp only [bnq] at hg); (try (have hgp := hg; simp only [bdq] at hgp))))); repeat' (first
 | (with_reducible refine Mk_i ?_; try simp (disch := omega) only [go_sem, seval, irw])
 | ((with_reducible first | refine hK' _ _ ?_ | refine hK' _ _ _ ?_); clear hK' K')
 | (with_reducible refine RT_step fun K' hK' => ?_; first | refine R2_n ?_ | refine Rf rfl rfl ?_ | refine Rf' rfl rfl ?_ | refine R2_gu rfl rfl ?_ | refine Rt rfl rfl ?_ | refine R2_g rfl rfl (fun hg => ?_) (fun hg => ?_) rfl)
 | (with_reducible refine RT_nil ?_; refine hK _ ?_; clear hK K)
 | (with_reducible refine MkG_i ?_; (try simp only [bnq] at hg); (try (have hgp := hg; simp only [bdq] at hgp)); try simp (disch := omega) only [go_sem, seval, irw, hg])
 | (with_reducible refine RL_step fun K' hK' => ?_; first | refine L2_n ?_ | refine Lf rfl rfl ?_ | refine Lf' rfl rfl ?_ | refine L2_gu rfl rfl ?_ | refine Lt rfl rfl ?_ | refine L2_g rfl rfl (fun hg => ?_) (fun hg => ?_) rfl)
 | (with_reducible refine RL_nil ⟨by kernel_rfl, hK _ ?_⟩; clear hK K)
 | (with_reducible first | refine ite_elimM (fun hg => ?_) (fun hg => ?_) | refine And.intro ?_ ?_)
 | omega)
  (repeat (with_reducible first | refine AL_seq ?_ | refine AL_skip ?_ | refine AL_nil ?_ | refine SeqQ_n ?_ | refine BlockQ_n ?_)); (first
 | (refine AL_text2 rfl fun K hK => ?_; simp only [List.map])
 | (refine AL_draw2 mixed rfl (by kernel_rfl) fun K hK => ?_; simp only [List.map])
 | (with_reducible refine AL_block ?_)
 | (with_reducible refine AL_exit ?_; simp only [SeqQ, BlockQ, go_sem, seval])
 | (refine Ct rfl ?_)
 | (refine Cf rfl ?_)
 | (refine AL_condb rfl (fun hg => ?_) (fun hg => ?_) <;> ((try simp only [bnq] at hg); (try (have hgp := hg; simp only [bdq] at hgp))))); repeat' (first
 | (with_reducible refine Mk_i ?_; try simp (disch := omega) only [go_sem, seval, irw])
 | ((with_reducible first | refine hK' _ _ ?_ | refine hK' _ _ _ ?_); clear hK' K')
 | (with_reducible refine RT_step fun K' hK' => ?_; first | refine R2_n ?_ | refine Rf rfl rfl ?_ | refine Rf' rfl rfl ?_ | refine R2_gu rfl rfl ?_ | refine Rt rfl rfl ?_ | refine R2_g rfl rfl (fun hg => ?_) (fun hg => ?_) rfl)
 | (with_reducible refine RT_nil ?_; refine hK _ ?_; clear hK K)
 | (with_reducible refine MkG_i ?_; (try simp only [bnq] at hg); (try (have hgp := hg; simp only [bdq] at hgp)); try simp (disch := omega) only [go_sem, seval, irw, hg])
 | (with_reducible refine RL_step fun K' hK' => ?_; first | refine L2_n ?_ | refine Lf rfl rfl ?_ | refine Lf' rfl rfl ?_ | refine L2_gu rfl rfl ?_ | refine Lt rfl rfl ?_ | refine L2_g rfl rfl (fun hg => ?_) (fun hg => ?_) rfl)
 | (with_reducible refine RL_nil ⟨by kernel_rfl, hK _ ?_⟩; clear hK K)
 | (refine CallK_pureM (c_awake hB hE) en_19 rfl ?_)
 | (with_reducible first | refine ite_elimM (fun hg => ?_) (fun hg => ?_) | refine And.intro ?_ ?_)
 | omega)
  cases h1 : fewD p
  · repeat' (first
 | (with_reducible refine Mk_i ?_; try simp (disch := omega) only [go_sem, seval, irw, h1])
 | ((with_reducible first | refine hK' _ _ ?_ | refine hK' _ _ _ ?_); clear hK' K')
 | (with_reducible refine RT_step fun K' hK' => ?_; first | refine R2_n ?_ | refine Rf rfl rfl ?_ | refine Rf' rfl rfl ?_ | refine R2_gu rfl rfl ?_ | refine Rt rfl rfl ?_ | refine R2_g rfl rfl (fun hg => ?_) (fun hg => ?_) rfl)
 | (with_reducible refine RT_nil ?_; refine hK _ ?_; clear hK K)
 | (with_reducible refine MkG_i ?_; (try simp only [bnq] at hg); (try (have hgp := hg; simp only [bdq] at hgp)); try simp (disch := omega) only [go_sem, seval, irw, h1, hg])
 | (with_reducible refine RL_step fun K' hK' => ?_; first | refine L2_n ?_ | refine Lf rfl rfl ?_ | refine Lf' rfl rfl ?_ | refine L2_gu rfl rfl ?_ | refine Lt rfl rfl ?_ | refine L2_g rfl rfl (fun hg => ?_) (fun hg => ?_) rfl)
 | (with_reducible refine RL_nil ⟨by kernel_rfl, hK _ ?_⟩; clear hK K)
 | (with_reducible first | refine AL_seq ?_ | refine AL_skip ?_ | refine AL_nil ?_ | refine SeqQ_n ?_ | refine BlockQ_n ?_)
 | (refine AL_text2 rfl fun K hK => ?_; simp only [List.map])
 | (refine AL_draw2 mixed rfl (by kernel_rfl) fun K hK => ?_; simp only [List.map])
 | (with_reducible refine AL_block ?_)
 | (with_reducible refine AL_exit ?_; simp only [SeqQ, BlockQ, go_sem, seval])
 | (refine Ct rfl ?_)
 | (refine Cf rfl ?_)
 | (refine AL_condb rfl (fun hg => ?_) (fun hg => ?_) <;> ((try simp only [bnq] at hg); (try (have hgp := hg; simp only [bdq] at hgp))))
 | (refine CallK_pureM (c_Few p) en_20 rfl ?_)
 | (with_reducible first | refine ite_elimM (fun hg => ?_) (fun hg => ?_) | refine And.intro ?_ ?_)
 | omega)
    (refine AL_ret (PureQ_ret ?_ rfl); simp [go_sem, ])
  cases h2 : saneD p
  · repeat' (first
 | (with_reducible refine Mk_i ?_; try simp (disch := omega) only [go_sem, seval, irw, h1, h2])
 | ((with_reducible first | refine hK' _ _ ?_ | refine hK' _ _ _ ?_); clear hK' K')
 | (with_reducible refine RT_step fun K' hK' => ?_; first | refine R2_n ?_ | refine Rf rfl rfl ?_ | refine Rf' rfl rfl ?_ | refine R2_gu rfl rfl ?_ | refine Rt rfl rfl ?_ | refine R2_g rfl rfl (fun hg => ?_) (fun hg => ?_) rfl)
 | (with_reducible refine RT_nil ?_; refine hK _ ?_; clear hK K)
 | (with_reducible refine MkG_i ?_; (try simp only [bnq] at hg); (try (have hgp := hg; simp only [bdq] at hgp)); try simp (disch := omega) only [go_sem, seval, irw, h1, h2, hg])
 | (with_reducible refine RL_step fun K' hK' => ?_; first | refine L2_n ?_ | refine Lf rfl rfl ?_ | refine Lf' rfl rfl ?_ | refine L2_gu rfl rfl ?_ | refine Lt rfl rfl ?_ | refine L2_g rfl rfl (fun hg => ?_) (fun hg => ?_) rfl)
 | (with_reducible refine RL_nil ⟨by kernel_rfl, hK _ ?_⟩; clear hK K)
 | (with_reducible first | refine AL_seq ?_ | refine AL_skip ?_ | refine AL_nil ?_ | refine SeqQ_n ?_ | refine BlockQ_n ?_)
 | (refine AL_text2 rfl fun K hK => ?_; simp only [List.map])
 | (refine AL_draw2 mixed rfl (by kernel_rfl) fun K hK => ?_; simp only [List.map])
 | (with_reducible refine AL_block ?_)
 | (with_reducible refine AL_exit ?_; simp only [SeqQ, BlockQ, go_sem, seval])
 | (refine Ct rfl ?_)
 | (refine Cf rfl ?_)
 | (refine AL_condb rfl (fun hg => ?_) (fun hg => ?_) <;> ((try simp only [bnq] at hg); (try (have hgp := hg; simp only [bdq] at hgp))))
 | (refine CallK_pureM (c_Few p) en_20 rfl ?_)
 | (refine CallK_pureM (c_Sane hB hE p) en_21 rfl ?_)
 | (with_reducible first | refine ite_elimM (fun hg => ?_) (fun hg => ?_) | refine And.intro ?_ ?_)
 | omega)
    (refine AL_ret (PureQ_ret ?_ rfl); simp [go_sem, ])
  (repeat (with_reducible first | refine AL_seq ?_ | refine AL_skip ?_ | refine AL_nil ?_ | refine SeqQ_n ?_ | refine BlockQ_n ?_)); (first
 | (refine AL_text2 rfl fun K hK => ?_; simp only [List.map])
 | (refine AL_draw2 mixed rfl (by kernel_rfl) fun K hK => ?_; simp only [List.map])
 | (with_reducible refine AL_block ?_)
 | (with_reducible refine AL_exit ?_; simp only [SeqQ, BlockQ, go_sem, seval])
 | (refine Ct rfl ?_)
 | (refine Cf rfl ?_)
 | (refine AL_condb rfl (fun hg => ?_) (fun hg => ?_) <;> ((try simp only [bnq] at hg); (try (have hgp := hg; simp only [bdq] at hgp))))); repeat' (first
 | (with_reducible refine Mk_i ?_; try simp (disch := omega) only [go_sem, seval, irw, h1, h2])
 | ((with_reducible first | refine hK' _ _ ?_ | refine hK' _ _ _ ?_); clear hK' K')
 | (with_reducible refine RT_step fun K' hK' => ?_; first | refine R2_n ?_ | refine Rf rfl rfl ?_ | refine Rf' rfl rfl ?_ | refine R2_gu rfl rfl ?_ | refine Rt rfl rfl ?_ | refine R2_g rfl rfl (fun hg => ?_) (fun hg => ?_) rfl)
 | (with_reducible refine RT_nil ?_; refine hK _ ?_; clear hK K)
 | (with_reducible refine MkG_i ?_; (try simp only [bnq] at hg); (try (have hgp := hg; simp only [bdq] at hgp)); try simp (disch := omega) only [go_sem, seval, irw, h1, h2, hg])
 | (with_reducible refine RL_step fun K' hK' => ?_; first | refine L2_n ?_ | refine Lf rfl rfl ?_ | refine Lf' rfl rfl ?_ | refine L2_gu rfl rfl ?_ | refine Lt rfl rfl ?_ | refine L2_g rfl rfl (fun hg => ?_) (fun hg => ?_) rfl)
 | (with_reducible refine RL_nil ⟨by kernel_rfl, hK _ ?_⟩; clear hK K)
 | (refine CallK_pureM (c_Few p) en_20 rfl ?_)
 | (refine CallK_pureM (c_Sane hB hE p) en_21 rfl ?_)
 | (with_reducible first | refine ite_elimM (fun hg => ?_) (fun hg => ?_) | refine And.intro ?_ ?_)
 | omega)
  (repeat (with_reducible first | refine AL_seq ?_ | refine AL_skip ?_ | refine AL_nil ?_ | refine SeqQ_n ?_ | refine BlockQ_n ?_)); (first
 | (refine AL_text2 rfl fun K hK => ?_; simp only [List.map])
 | (refine AL_draw2 mixed rfl (by kernel_rfl) fun K hK => ?_; simp only [List.map])
 | (with_reducible refine AL_block ?_)
 | (with_reducible refine AL_exit ?_; simp only [SeqQ, BlockQ, go_sem, seval])
 | (refine Ct rfl ?_)
 | (refine Cf rfl ?_)
 | (refine AL_condb rfl (fun hg => ?_) (fun hg => ?_) <;> ((try simp only [bnq] at hg); (try (have hgp := hg; simp only [bdq] at hgp))))); repeat' (first
 | (with_reducible refine Mk_i ?_; try simp (disch := omega) only [go_sem, seval, irw])
 | ((with_reducible first | refine hK' _ _ ?_ | refine hK' _ _ _ ?_); clear hK' K')
 | (with_reducible refine RT_step fun K' hK' => ?_; first | refine R2_n ?_ | refine Rf rfl rfl ?_ | refine Rf' rfl rfl ?_ | refine R2_gu rfl rfl ?_ | refine Rt rfl rfl ?_ | refine R2_g rfl rfl (fun hg => ?_) (fun hg => ?_) rfl)
 | (with_reducible refine RT_nil ?_; refine hK _ ?_; clear hK K)
 | (with_reducible refine MkG_i ?_; (try simp only [bnq] at hg); (try (have hgp := hg; simp only [bdq] at hgp)); try simp (disch := omega) only [go_sem, seval, irw, hg])
 | (with_reducible refine RL_step fun K' hK' => ?_; first | refine L2_n ?_ | refine Lf rfl rfl ?_ | refine Lf' rfl rfl ?_ | refine L2_gu rfl rfl ?_ | refine Lt rfl rfl ?_ | refine L2_g rfl rfl (fun hg => ?_) (fun hg => ?_) rfl)
 | (with_reducible refine RL_nil ⟨by kernel_rfl, hK _ ?_⟩; clear hK K)
 | (with_reducible first | refine ite_elimM (fun hg => ?_) (fun hg => ?_) | refine And.intro ?_ ?_)
 | omega)
  have hFu := c_Fun hB hE p f
  have hBl := c_Block hB hE p f b
  have hAt := c_At hB hE p f b pos
  have hPr := c_Preds hB hE p f b
  by_cases hf : 0 ≤ f ∧ f < p.length
  · obtain ⟨hf0, hf1⟩ := hf
    have hfk : f.toNat < p.length := by omega
    have hx := funO_in h2 hf0 hf1
    rw [hx] at hFu
    have hbo : blockO p f b = if liveD p[f.toNat] b then p[f.toNat].blocks[b.toNat]? else none := by rw [blockO, hx]; rfl
    cases hl : liveD p[f.toNat] b
    · have hbn : blockO p f b = none := by rw [hbo, hl]; rfl
      have hao : atO p f b pos = none := by rw [atO, hbn]; rfl
      rw [hbn] at hBl
      rw [hao] at hAt
      rw [preds_dead h2 hx hl] at hPr
      have f0 : decide (0 ≤ f) = true := decide_eq_true hf0
      have f1 : decide (f < (p.length : Int)) = true := decide_eq_true hf1
      by_cases hb : 0 ≤ b ∧ b < p[f.toNat].blocks.length
      · obtain ⟨hb0, hb1⟩ := hb
        have hbk : b.toNat < p[f.toNat].blocks.length := by omega
        have hlv : p[f.toNat].blocks[b.toNat].live = false := by rw [← liveD_in hb0 hbk]; exact hl
        have f2 : decide (0 ≤ b) = true := decide_eq_true hb0
        have f3 : decide (b < (p[f.toNat].blocks.length : Int)) = true := decide_eq_true hb1
        repeat' (first
 | (with_reducible refine Mk_i ?_; try simp (disch := omega) only [go_sem, seval, irw, hlv, f0, f1, f2, f3])
 | ((with_reducible first | refine hK' _ _ ?_ | refine hK' _ _ _ ?_); clear hK' K')
 | (with_reducible refine RT_step fun K' hK' => ?_; first | refine R2_n ?_ | refine Rf rfl rfl ?_ | refine Rf' rfl rfl ?_ | refine R2_gu rfl rfl ?_ | refine Rt rfl rfl ?_ | refine R2_g rfl rfl (fun hg => ?_) (fun hg => ?_) rfl)
 | (with_reducible refine RT_nil ?_; refine hK _ ?_; clear hK K)
 | (with_reducible refine MkG_i ?_; (try simp only [bnq] at hg); (try (have hgp := hg; simp only [bdq] at hgp)); try simp (disch := omega) only [go_sem, seval, irw, hlv, f0, f1, f2, f3, hg])
 | (with_reducible refine RL_step fun K' hK' => ?_; first | refine L2_n ?_ | refine Lf rfl rfl ?_ | refine Lf' rfl rfl ?_ | refine L2_gu rfl rfl ?_ | refine Lt rfl rfl ?_ | refine L2_g rfl rfl (fun hg => ?_) (fun hg => ?_) rfl)
 | (with_reducible refine RL_nil ⟨by kernel_rfl, hK _ ?_⟩; clear hK K)
 | (with_reducible first | refine AL_seq ?_ | refine AL_skip ?_ | refine AL_nil ?_ | refine SeqQ_n ?_ | refine BlockQ_n ?_)
 | (refine AL_text2 rfl fun K hK => ?_; simp only [List.map])
 | (refine AL_draw2 mixed rfl (by kernel_rfl) fun K hK => ?_; simp only [List.map])
 | (with_reducible refine AL_block ?_)
 | (with_reducible refine AL_exit ?_; simp only [SeqQ, BlockQ, go_sem, seval])
 | (refine Ct rfl ?_)
 | (refine Cf rfl ?_)
 | (refine AL_condb rfl (fun hg => ?_) (fun hg => ?_) <;> ((try simp only [bnq] at hg); (try (have hgp := hg; simp only [bdq] at hgp))))
 | (refine CallK_pureM (hFu) en_25 rfl ?_)
 | (refine CallK_pureM (hBl) en_26 rfl ?_)
 | (refine CallK_pureM (hAt) en_28 rfl ?_)
 | (refine CallK_pureM (hPr) en_27 rfl ?_)
 | (with_reducible first | refine ite_elimM (fun hg => ?_) (fun hg => ?_) | refine And.intro ?_ ?_)
 | omega)
        all_goals (refine AL_ret (PureQ_ret ?_ rfl); simp [go_sem, ])
      · repeat' (first
 | (with_reducible refine Mk_i ?_; try simp (disch := omega) only [go_sem, seval, irw, f0, f1])
 | ((with_reducible first | refine hK' _ _ ?_ | refine hK' _ _ _ ?_); clear hK' K')
 | (with_reducible refine RT_step fun K' hK' => ?_; first | refine R2_n ?_ | refine Rf rfl rfl ?_ | refine Rf' rfl rfl ?_ | refine R2_gu rfl rfl ?_ | refine Rt rfl rfl ?_ | refine R2_g rfl rfl (fun hg => ?_) (fun hg => ?_) rfl)
 | (with_reducible refine RT_nil ?_; refine hK _ ?_; clear hK K)
 | (with_reducible refine MkG_i ?_; (try simp only [bnq] at hg); (try (have hgp := hg; simp only [bdq] at hgp)); try simp (disch := omega) only [go_sem, seval, irw, f0, f1, hg])
 | (with_reducible refine RL_step fun K' hK' => ?_; first | refine L2_n ?_ | refine Lf rfl rfl ?_ | refine Lf' rfl rfl ?_ | refine L2_gu rfl rfl ?_ | refine Lt rfl rfl ?_ | refine L2_g rfl rfl (fun hg => ?_) (fun hg => ?_) rfl)
 | (with_reducible refine RL_nil ⟨by kernel_rfl, hK _ ?_⟩; clear hK K)
 | (with_reducible first | refine AL_seq ?_ | refine AL_skip ?_ | refine AL_nil ?_ | refine SeqQ_n ?_ | refine BlockQ_n ?_)
 | (refine AL_text2 rfl fun K hK => ?_; simp only [List.map])
 | (refine AL_draw2 mixed rfl (by kernel_rfl) fun K hK => ?_; simp only [List.map])
 | (with_reducible refine AL_block ?_)
 | (with_reducible refine AL_exit ?_; simp only [SeqQ, BlockQ, go_sem, seval])
 | (refine Ct rfl ?_)
 | (refine Cf rfl ?_)
 | (refine AL_condb rfl (fun hg => ?_) (fun hg => ?_) <;> ((try simp only [bnq] at hg); (try (have hgp := hg; simp only [bdq] at hgp))))
 | (refine CallK_pureM (hFu) en_25 rfl ?_)
 | (refine CallK_pureM (hBl) en_26 rfl ?_)
 | (refine CallK_pureM (hAt) en_28 rfl ?_)
 | (refine CallK_pureM (hPr) en_27 rfl ?_)
 | (with_reducible first | refine ite_elimM (fun hg => ?_) (fun hg => ?_) | refine And.intro ?_ ?_)
 | omega)
        all_goals (refine AL_ret (PureQ_ret ?_ rfl); simp [go_sem, ])
    · obtain ⟨hb0, hb1⟩ := liveD_get hl
      have hbk : b.toNat < p[f.toNat].blocks.length := by omega
      have hlv : p[f.toNat].blocks[b.toNat].live = true := by rw [← liveD_in hb0 hbk]; exact hl
      rw [hl, if_pos rfl, List.getElem?_eq_getElem hbk] at hbo
      rw [hbo] at hBl
      have hao : atO p f b pos = if 0 ≤ pos then p[f.toNat].blocks[b.toNat].code[pos.toNat]? else none := by rw [atO, hbo]; rfl
      have f0 : decide (0 ≤ f) = true := decide_eq_true hf0
      have f1 : decide (f < (p.length : Int)) = true := decide_eq_true hf1
      have f2 : decide (0 ≤ b) = true := decide_eq_true hb0
      have f3 : decide (b < (p[f.toNat].blocks.length : Int)) = true := decide_eq_true hb1
      by_cases hq : 0 ≤ pos ∧ pos < p[f.toNat].blocks[b.toNat].code.length
      · obtain ⟨hq0, hq1⟩ := hq
        have hqk : pos.toNat < p[f.toNat].blocks[b.toNat].code.length := by omega
        rw [if_pos hq0, List.getElem?_eq_getElem hqk] at hao
        rw [hao] at hAt
        have f4 : decide (0 ≤ pos) = true := decide_eq_true hq0
        have f5 : decide (pos < (p[f.toNat].blocks[b.toNat].code.length : Int)) = true := decide_eq_true hq1
        repeat' (first
 | (with_reducible refine Mk_i ?_; try simp (disch := omega) only [go_sem, seval, irw, hlv, f0, f1, f2, f3, f4, f5])
 | ((with_reducible first | refine hK' _ _ ?_ | refine hK' _ _ _ ?_); clear hK' K')
 | (with_reducible refine RT_step fun K' hK' => ?_; first | refine R2_n ?_ | refine Rf rfl rfl ?_ | refine Rf' rfl rfl ?_ | refine R2_gu rfl rfl ?_ | refine Rt rfl rfl ?_ | refine R2_g rfl rfl (fun hg => ?_) (fun hg => ?_) rfl)
 | (with_reducible refine RT_nil ?_; refine hK _ ?_; clear hK K)
 | (with_reducible refine MkG_i ?_; (try simp only [bnq] at hg); (try (have hgp := hg; simp only [bdq] at hgp)); try simp (disch := omega) only [go_sem, seval, irw, hlv, f0, f1, f2, f3, f4, f5, hg])
 | (with_reducible refine RL_step fun K' hK' => ?_; first | refine L2_n ?_ | refine Lf rfl rfl ?_ | refine Lf' rfl rfl ?_ | refine L2_gu rfl rfl ?_ | refine Lt rfl rfl ?_ | refine L2_g rfl rfl (fun hg => ?_) (fun hg => ?_) rfl)
 | (with_reducible refine RL_nil ⟨by kernel_rfl, hK _ ?_⟩; clear hK K)
 | (with_reducible first | refine AL_seq ?_ | refine AL_skip ?_ | refine AL_nil ?_ | refine SeqQ_n ?_ | refine BlockQ_n ?_)
 | (refine AL_text2 rfl fun K hK => ?_; simp only [List.map])
 | (refine AL_draw2 mixed rfl (by kernel_rfl) fun K hK => ?_; simp only [List.map])
 | (with_reducible refine AL_block ?_)
 | (with_reducible refine AL_exit ?_; simp only [SeqQ, BlockQ, go_sem, seval])
 | (refine Ct rfl ?_)
 | (refine Cf rfl ?_)
 | (refine AL_condb rfl (fun hg => ?_) (fun hg => ?_) <;> ((try simp only [bnq] at hg); (try (have hgp := hg; simp only [bdq] at hgp))))
 | (refine CallK_pureM (hFu) en_25 rfl ?_)
 | (refine CallK_pureM (hBl) en_26 rfl ?_)
 | (refine CallK_pureM (hAt) en_28 rfl ?_)
 | (refine CallK_pureM (hPr) en_27 rfl ?_)
 | (with_reducible first | refine ite_elimM (fun hg => ?_) (fun hg => ?_) | refine And.intro ?_ ?_)
 | omega)
        refine ⟨_, ne_ins _ _, ?_⟩
        repeat' (first
 | (with_reducible refine Mk_i ?_; try simp (disch := omega) only [go_sem, seval, irw, hlv, f0, f1, f2, f3, f4, f5])
 | ((with_reducible first | refine hK' _ _ ?_ | refine hK' _ _ _ ?_); clear hK' K')
 | (with_reducible refine RT_step fun K' hK' => ?_; first | refine R2_n ?_ | refine Rf rfl rfl ?_ | refine Rf' rfl rfl ?_ | refine R2_gu rfl rfl ?_ | refine Rt rfl rfl ?_ | refine R2_g rfl rfl (fun hg => ?_) (fun hg => ?_) rfl)
 | (with_reducible refine RT_nil ?_; refine hK _ ?_; clear hK K)
 | (with_reducible refine MkG_i ?_; (try simp only [bnq] at hg); (try (have hgp := hg; simp only [bdq] at hgp)); try simp (disch := omega) only [go_sem, seval, irw, hlv, f0, f1, f2, f3, f4, f5, hg])
 | (with_reducible refine RL_step fun K' hK' => ?_; first | refine L2_n ?_ | refine Lf rfl rfl ?_ | refine Lf' rfl rfl ?_ | refine L2_gu rfl rfl ?_ | refine Lt rfl rfl ?_ | refine L2_g rfl rfl (fun hg => ?_) (fun hg => ?_) rfl)
 | (with_reducible refine RL_nil ⟨by kernel_rfl, hK _ ?_⟩; clear hK K)
 | (with_reducible first | refine AL_seq ?_ | refine AL_skip ?_ | refine AL_nil ?_ | refine SeqQ_n ?_ | refine BlockQ_n ?_)
 | (refine AL_text2 rfl fun K hK => ?_; simp only [List.map])
 | (refine AL_draw2 mixed rfl (by kernel_rfl) fun K hK => ?_; simp only [List.map])
 | (with_reducible refine AL_block ?_)
 | (with_reducible refine AL_exit ?_; simp only [SeqQ, BlockQ, go_sem, seval])
 | (refine Ct rfl ?_)
 | (refine Cf rfl ?_)
 | (refine AL_condb rfl (fun hg => ?_) (fun hg => ?_) <;> ((try simp only [bnq] at hg); (try (have hgp := hg; simp only [bdq] at hgp))))
 | (refine CallK_pureM (hFu) en_25 rfl ?_)
 | (refine CallK_pureM (hBl) en_26 rfl ?_)
 | (refine CallK_pureM (hAt) en_28 rfl ?_)
 | (refine CallK_pureM (hPr) en_27 rfl ?_)
 | (with_reducible first | refine ite_elimM (fun hg => ?_) (fun hg => ?_) | refine And.intro ?_ ?_)
 | omega)
        (refine AL_ret (PureQ_ret ?_ rfl); simp [go_sem, ])
      · have hao' : atO p f b pos = none := by
          rw [hao]
          split
          · exact List.getElem?_eq_none (by omega)
          · rfl
        rw [hao'] at hAt
        repeat' (first
 | (with_reducible refine Mk_i ?_; try simp (disch := omega) only [go_sem, seval, irw, hlv, f0, f1, f2, f3])
 | ((with_reducible first | refine hK' _ _ ?_ | refine hK' _ _ _ ?_); clear hK' K')
 | (with_reducible refine RT_step fun K' hK' => ?_; first | refine R2_n ?_ | refine Rf rfl rfl ?_ | refine Rf' rfl rfl ?_ | refine R2_gu rfl rfl ?_ | refine Rt rfl rfl ?_ | refine R2_g rfl rfl (fun hg => ?_) (fun hg => ?_) rfl)
 | (with_reducible refine RT_nil ?_; refine hK _ ?_; clear hK K)
 | (with_reducible refine MkG_i ?_; (try simp only [bnq] at hg); (try (have hgp := hg; simp only [bdq] at hgp)); try simp (disch := omega) only [go_sem, seval, irw, hlv, f0, f1, f2, f3, hg])
 | (with_reducible refine RL_step fun K' hK' => ?_; first | refine L2_n ?_ | refine Lf rfl rfl ?_ | refine Lf' rfl rfl ?_ | refine L2_gu rfl rfl ?_ | refine Lt rfl rfl ?_ | refine L2_g rfl rfl (fun hg => ?_) (fun hg => ?_) rfl)
 | (with_reducible refine RL_nil ⟨by kernel_rfl, hK _ ?_⟩; clear hK K)
 | (with_reducible first | refine AL_seq ?_ | refine AL_skip ?_ | refine AL_nil ?_ | refine SeqQ_n ?_ | refine BlockQ_n ?_)
 | (refine AL_text2 rfl fun K hK => ?_; simp only [List.map])
 | (refine AL_draw2 mixed rfl (by kernel_rfl) fun K hK => ?_; simp only [List.map])
 | (with_reducible refine AL_block ?_)
 | (with_reducible refine AL_exit ?_; simp only [SeqQ, BlockQ, go_sem, seval])
 | (refine Ct rfl ?_)
 | (refine Cf rfl ?_)
 | (refine AL_condb rfl (fun hg => ?_) (fun hg => ?_) <;> ((try simp only [bnq] at hg); (try (have hgp := hg; simp only [bdq] at hgp))))
 | (refine CallK_pureM (hFu) en_25 rfl ?_)
 | (refine CallK_pureM (hBl) en_26 rfl ?_)
 | (refine CallK_pureM (hAt) en_28 rfl ?_)
 | (refine CallK_pureM (hPr) en_27 rfl ?_)
 | (with_reducible first | refine ite_elimM (fun hg => ?_) (fun hg => ?_) | refine And.intro ?_ ?_)
 | omega)
        all_goals (refine AL_ret (PureQ_ret ?_ rfl); simp [go_sem, ])
  · have hx : funO p f = none := by
      unfold funO
      split
      · rfl
      · split
        · rfl
        · omega
    have hbn : blockO p f b = none := by rw [blockO, hx]; rfl
    have hao : atO p f b pos = none := by rw [atO, hbn]; rfl
    have hpr : predsD p f b = [] := by rw [predsD, hx]; rfl
    rw [hx] at hFu
    rw [hbn] at hBl
    rw [hao] at hAt
    rw [hpr] at hPr
    repeat' (first
 | (with_reducible refine Mk_i ?_; try simp (disch := omega) only [go_sem, seval, irw])
 | ((with_reducible first | refine hK' _ _ ?_ | refine hK' _ _ _ ?_); clear hK' K')
 | (with_reducible refine RT_step fun K' hK' => ?_; first | refine R2_n ?_ | refine Rf rfl rfl ?_ | refine Rf' rfl rfl ?_ | refine R2_gu rfl rfl ?_ | refine Rt rfl rfl ?_ | refine R2_g rfl rfl (fun hg => ?_) (fun hg => ?_) rfl)
 | (with_reducible refine RT_nil ?_; refine hK _ ?_; clear hK K)
 | (with_reducible refine MkG_i ?_; (try simp only [bnq] at hg); (try (have hgp := hg; simp only [bdq] at hgp)); try simp (disch := omega) only [go_sem, seval, irw, hg])
 | (with_reducible refine RL_step fun K' hK' => ?_; first | refine L2_n ?_ | refine Lf rfl rfl ?_ | refine Lf' rfl rfl ?_ | refine L2_gu rfl rfl ?_ | refine Lt rfl rfl ?_ | refine L2_g rfl rfl (fun hg => ?_) (fun hg => ?_) rfl)
 | (with_reducible refine RL_nil ⟨by kernel_rfl, hK _ ?_⟩; clear hK K)
 | (with_reducible first | refine AL_seq ?_ | refine AL_skip ?_ | refine AL_nil ?_ | refine SeqQ_n ?_ | refine BlockQ_n ?_)
 | (refine AL_text2 rfl fun K hK => ?_; simp only [List.map])
 | (refine AL_draw2 mixed rfl (by kernel_rfl) fun K hK => ?_; simp only [List.map])
 | (with_reducible refine AL_block ?_)
 | (with_reducible refine AL_exit ?_; simp only [SeqQ, BlockQ, go_sem, seval])
 | (refine Ct rfl ?_)
 | (refine Cf rfl ?_)
 | (refine AL_condb rfl (fun hg => ?_) (fun hg => ?_) <;> ((try simp only [bnq] at hg); (try (have hgp := hg; simp only [bdq] at hgp))))
 | (refine CallK_pureM (hFu) en_25 rfl ?_)
 | (refine CallK_pureM (hBl) en_26 rfl ?_)
 | (refine CallK_pureM (hAt) en_28 rfl ?_)
 | (refine CallK_pureM (hPr) en_27 rfl ?_)
 | (with_reducible first | refine ite_elimM (fun hg => ?_) (fun hg => ?_) | refine And.intro ?_ ?_)
 | omega)
    all_goals (refine AL_ret (PureQ_ret ?_ rfl); simp [go_sem, ])
end Go.Proofs.YtjlcojgimicfbaaDoor
/- What follows is preceded: the counts and the walk. -/
namespace Go.Proofs.YtjlcojgimicfbaaDoor
open Go.Am Go
set_option linter.unusedSimpArgs false
set_option maxRecDepth 100000
set_option maxHeartbeats 4000000
variable {Γ : Nat → Option Obj}

theorem bin_and {P : Program} {t : TypeId} {x y : Operand} {k : IntKind} {a b : Int} : binS P .and t x y (.int k a) (.int k b) = some (.int k (bits .and k a b)) := by simp [binS, eqGuard, sc_pure, binOp, intBits_and]
theorem bin_rem {P : Program} {t : TypeId} {x y : Operand} {k : IntKind} {a b : Int} (h : b ≠ 0) : binS P .rem t x y (.int k a) (.int k b) = some (.int k (a.tmod b)) := by simp [binS, eqGuard, sc_pure, binOp, Op.intDiv, h]
attribute [go_sem] bin_and bin_rem
theorem and_low (a : Int) : 0 ≤ bits .and .i64 a 65535 := by
  have h : ((BitVec.ofInt 64 a &&& BitVec.ofInt 64 65535).toNat : Int) ≤ 65535 := by
    rw [BitVec.toNat_and]
    have := Nat.and_le_right (n := (BitVec.ofInt 64 a).toNat) (m := (BitVec.ofInt 64 65535).toNat)
    have e : (BitVec.ofInt 64 65535).toNat = 65535 := by decide
    omega
  have e : bits .and .i64 a 65535 = ((BitVec.ofInt 64 a &&& BitVec.ofInt 64 65535).toNat : Int) := by
    show IntKind.wrap .i64 ((BitVec.ofInt 64 a &&& BitVec.ofInt 64 65535).toNat : Int) = _
    exact wrap_ok (by omega) (by omega)
  rw [e]; omega

/-! ### Counts -/
def sumN (f : Nat → Nat) : Nat → Nat
  | 0 => 0
  | n + 1 => sumN f n + f n
theorem sumN_add (f g : Nat → Nat) (n : Nat) : sumN (fun b => f b + g b) n = sumN f n + sumN g n := by
  induction n with
  | zero => rfl
  | succ n ih => simp only [sumN, ih]; omega
theorem sumN_zero (n : Nat) : sumN (fun _ => 0) n = 0 := by
  induction n with
  | zero => rfl
  | succ n ih => simp only [sumN, ih]
theorem sumN_one (a : Int) (n : Nat) (h0 : 0 ≤ a) (h1 : a < n) : sumN (fun b => if (b : Int) = a then 1 else 0) n = 1 := by
  induction n with
  | zero => omega
  | succ n ih =>
    simp only [sumN]
    by_cases e : (n : Int) = a
    · rw [if_pos e]
      have : ∀ m, m ≤ n → sumN (fun b => if (b : Int) = a then 1 else 0) m = 0 := by
        intro m
        induction m with
        | zero => intro _; rfl
        | succ m ih2 => intro hm; simp only [sumN]; rw [ih2 (by omega), if_neg (by omega)]
      rw [this n (Nat.le_refl _)]
    · rw [if_neg e, ih (by omega)]
theorem sumN_mem (n : Nat) : ∀ s : List Int, s.Nodup → (∀ a ∈ s, 0 ≤ a ∧ a < n) → sumN (fun b => if (b : Int) ∈ s then 1 else 0) n = s.length
  | [], _, _ => by simp [sumN_zero]
  | a :: s, hn, hr => by
    obtain ⟨h1, h2⟩ := List.nodup_cons.1 hn
    have e : (fun b : Nat => if (b : Int) ∈ a :: s then 1 else 0) = fun b : Nat => (if (b : Int) = a then 1 else 0) + (if (b : Int) ∈ s then 1 else 0) := by
      funext b
      by_cases e : (b : Int) = a
      · subst e; simp [h1]
      · simp [e]
    rw [e, sumN_add, sumN_one a n (hr a (by simp)).1 (hr a (by simp)).2, sumN_mem n s h2 fun x hx => hr x (by simp [hx])]
    simp; omega
theorem sumN_preds (n : Nat) : ∀ (L : List BlkD) (k : Nat), (∀ x ∈ L, x.succ.Nodup ∧ ∀ a ∈ x.succ, 0 ≤ a ∧ a < n) → sumN (fun b => (predsF b k L).length) n = (L.map fun x => x.succ.length).sum
  | [], _, _ => by simp [predsF, sumN_zero]
  | x :: r, k, h => by
    have e : (fun b : Nat => (predsF b k (x :: r)).length) = fun b : Nat => (if (b : Int) ∈ x.succ then 1 else 0) + (predsF b (k + 1) r).length := by
      funext b
      rw [predsF]
      split <;> simp <;> omega
    rw [e, sumN_add, sumN_mem n x.succ (h x (by simp)).1 (h x (by simp)).2, sumN_preds n r (k + 1) fun y hy => h y (by simp [hy])]
    simp
theorem rises_nodup : ∀ {l : List Int}, risesB l = true → l.Nodup ∧ ∀ a ∈ l.head?, ∀ b ∈ l, a ≤ b
  | [], _ => by simp
  | [a], _ => by simp
  | a :: b :: r, h => by
    simp only [risesB, Bool.and_eq_true, decide_eq_true_eq] at h
    obtain ⟨h1, h2⟩ := rises_nodup h.2
    have h3 : ∀ c ∈ b :: r, b ≤ c := h2 b (by simp)
    refine ⟨List.nodup_cons.2 ⟨fun hm => ?_, h1⟩, ?_⟩
    · have := h3 a hm; omega
    · intro c hc d hd
      simp at hc; subst hc
      rcases List.mem_cons.1 hd with rfl | hd
      · exact Int.le_refl _
      · have := h3 d hd; omega
theorem predsF_le {b : Int} : ∀ {L : List BlkD} {k : Nat}, (predsF b k L).length ≤ L.length
  | [], _ => Nat.le_refl _
  | x :: r, k => by
    have := predsF_le (b := b) (L := r) (k := k + 1)
    rw [predsF]; split <;> simp <;> omega
theorem predsF_get {b : Int} : ∀ {L : List BlkD} {k : Nat} {j : Int}, j ∈ predsF b k L → ∃ i : Nat, ∃ h : i < L.length, j = (k + i : Nat) ∧ b ∈ (L[i]).succ
  | [], _, _, h => by simp [predsF] at h
  | x :: r, k, j, h => by
    rw [predsF, List.mem_append] at h
    rcases h with h | h
    · split at h
      · rename_i hb; simp at h; exact ⟨0, by simp, by simp [h], hb⟩
      · simp at h
    · obtain ⟨i, h1, h2, h3⟩ := predsF_get h
      exact ⟨i + 1, by simpa using h1, by rw [h2]; congr 1; omega, by simpa using h3⟩
theorem predsF_rise {b : Int} : ∀ {L : List BlkD} {k : Nat}, (predsF b k L).Pairwise (· < ·) ∧ ∀ j ∈ predsF b k L, (k : Int) ≤ j
  | [], _ => by simp [predsF]
  | x :: r, k => by
    obtain ⟨h1, h2⟩ := predsF_rise (b := b) (L := r) (k := k + 1)
    rw [predsF]
    split
    · refine ⟨List.pairwise_cons.2 ⟨fun j hj => ?_, h1⟩, fun j hj => ?_⟩
      · have := h2 j hj; omega
      · rcases List.mem_cons.1 hj with rfl | hj
        · omega
        · have := h2 j hj; omega
    · exact ⟨h1, fun j hj => by have := h2 j (by simpa using hj); omega⟩
theorem pw_get {l : List Int} (h : l.Pairwise (· < ·)) {k : Nat} (hk : k + 1 < l.length) : l[k] < l[k + 1] :=
  List.pairwise_iff_getElem.1 h k (k + 1) (by omega) hk (by omega)
end Go.Proofs.YtjlcojgimicfbaaDoor
