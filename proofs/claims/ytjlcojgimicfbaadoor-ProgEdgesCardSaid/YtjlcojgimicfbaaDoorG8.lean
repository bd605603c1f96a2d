/- Proof text of this claim, part 8: What follows is preceded: the walk.. Its conditions are those of the statement: the laid tables as the row lists them. -/
import Derived.Test.YtjlcojgimicfbaaDoorG7
/- What follows is preceded: the walk. -/
namespace Go.Proofs.YtjlcojgimicfbaaDoor
open Go.Am Go
set_option linter.unusedSimpArgs false
set_option maxRecDepth 100000
set_option maxHeartbeats 4000000
variable {Γ : Nat → Option Obj}

theorem sane_edges {p : List FunD} (hs : saneD p = true) {x : FunD} (hx : x ∈ p) : ∀ y ∈ x.blocks, y.succ.Nodup ∧ ∀ a ∈ y.succ, 0 ≤ a ∧ a < x.blocks.length := fun y hy => by
  obtain ⟨_, h2, h3, _⟩ := sane_block hs hx hy
  exact ⟨(rises_nodup h2).1, fun a ha => liveD_get (h3 a ha)⟩
theorem sane_pred {p : List FunD} (hs : saneD p = true) {x : FunD} (hx : x ∈ p) {b : Int} {i : Nat} (hi : i < x.blocks.length) (hm : b ∈ x.blocks[i].succ) : liveD x i = true := by
  rw [liveD_in (by omega) (by simpa using hi)]
  rcases (sane_block hs hx (List.getElem_mem hi)).1 with h | ⟨_, h⟩
  · simpa using h
  · rw [h] at hm; cases hm
abbrev folN (x : FunD) (k : Nat) : Nat := ((x.blocks.take k).map fun y => y.succ.length).sum
abbrev preN (x : FunD) (k : Nat) : Nat := sumN (fun b => (predsF b 0 x.blocks).length) k
theorem folN_succ {x : FunD} {k : Nat} (h : k < x.blocks.length) : folN x (k + 1) = folN x k + x.blocks[k].succ.length := by
  simp only [folN, List.take_add_one, List.getElem?_eq_getElem h, Option.toList_some, List.map_append, List.map_cons, List.map_nil, List.sum_append, List.sum_cons, List.sum_nil, Nat.add_zero]
theorem preN_succ {x : FunD} {k : Nat} : preN x (k + 1) = preN x k + (predsF k 0 x.blocks).length := rfl

theorem c_ProgEdges (hB : Blanks Γ) (hE : ErrT Γ) (p : List FunD) (f : Int) : Pure Γ Tryd.prog 5 [progV p, pI f] (pB true) := by
  refine pure_start2 Tryd.func5 rfl (by simp [Tryd.f5]) ?_
  refine AL_seq ?_
  (repeat (with_reducible first | refine AL_seq ?_ | refine AL_skip ?_ | refine AL_nil ?_ | refine SeqQ_n ?_ | refine BlockQ_n ?_)); (first
 | (refine AL_text2 rfl fun K hK => ?_; simp only [List.map])
 | (refine AL_draw2 mixed rfl (by kernel_rfl) fun K hK => ?_; simp only [List.map])
 | (with_reducible refine AL_block ?_)
 | (with_reducible refine AL_exit ?_; simp only [SeqQ, BlockQ, go_sem, seval])
 | (refine Ct rfl ?_)
 | (refine Cf rfl ?_)
 | (refine AL_condb rfl (fun hg => ?_) (fun hg => ?_) <;> ((try simp only [bnq] at hg); (try (have hgp := hg; simp only [bdq] at hgp))))); repeat' (first
 | (with_reducible refine Mk_i ?_; try simp (disch := omega) only [go_sem, seval, irw])
 | ((with_reducible first | refine hK' _ _ ?_ | refine hK' _ _ _ ?_); clear hK' K')
 | (with_reducible refine RT_step fun K' hK' => ?_; first | refine R2_n ?_ | refine Rf rfl rfl ?_ | refine Rf' rfl rfl ?_ | refine R2_gu rfl rfl ?_ | refine Rt rfl rfl ?_ | refine R2_g rfl rfl (fun hg => ?_) (fun hg => ?_) rfl)
 | (with_reducible refine RT_nil ?_; refine hK _ ?_; clear hK K)
 | (with_reducible refine MkG_i ?_; (try simp only [bnq] at hg); (try (have hgp := hg; simp only [bdq] at hgp)); try simp (disch := omega) only [go_sem, seval, irw, hg])
 | (with_reducible refine RL_step fun K' hK' => ?_; first | refine L2_n ?_ | refine Lf rfl rfl ?_ | refine Lf' rfl rfl ?_ | refine L2_gu rfl rfl ?_ | refine Lt rfl rfl ?_ | refine L2_g rfl rfl (fun hg => ?_) (fun hg => ?_) rfl)
 | (with_reducible refine RL_nil ⟨by kernel_rfl, hK _ ?_⟩; clear hK K)
 | (with_reducible first | refine ite_elimM (fun hg => ?_) (fun hg => ?_) | refine And.intro ?_ ?_)
 | omega)
  (repeat (with_reducible first | refine AL_seq ?_ | refine AL_skip ?_ | refine AL_nil ?_ | refine SeqQ_n ?_ | refine BlockQ_n ?_)); (first
 | (refine AL_text2 rfl fun K hK => ?_; simp only [List.map])
 | (refine AL_draw2 mixed rfl (by kernel_rfl) fun K hK => ?_; simp only [List.map])
 | (with_reducible refine AL_block ?_)
 | (with_reducible refine AL_exit ?_; simp only [SeqQ, BlockQ, go_sem, seval])
 | (refine Ct rfl ?_)
 | (refine Cf rfl ?_)
 | (refine AL_condb rfl (fun hg => ?_) (fun hg => ?_) <;> ((try simp only [bnq] at hg); (try (have hgp := hg; simp only [bdq] at hgp))))); repeat' (first
 | (with_reducible refine Mk_i ?_; try simp (disch := omega) only [go_sem, seval, irw])
 | ((with_reducible first | refine hK' _ _ ?_ | refine hK' _ _ _ ?_); clear hK' K')
 | (with_reducible refine RT_step fun K' hK' => ?_; first | refine R2_n ?_ | refine Rf rfl rfl ?_ | refine Rf' rfl rfl ?_ | refine R2_gu rfl rfl ?_ | refine Rt rfl rfl ?_ | refine R2_g rfl rfl (fun hg => ?_) (fun hg => ?_) rfl)
 | (with_reducible refine RT_nil ?_; refine hK _ ?_; clear hK K)
 | (with_reducible refine MkG_i ?_; (try simp only [bnq] at hg); (try (have hgp := hg; simp only [bdq] at hgp)); try simp (disch := omega) only [go_sem, seval, irw, hg])
 | (with_reducible refine RL_step fun K' hK' => ?_; first | refine L2_n ?_ | refine Lf rfl rfl ?_ | refine Lf' rfl rfl ?_ | refine L2_gu rfl rfl ?_ | refine Lt rfl rfl ?_ | refine L2_g rfl rfl (fun hg => ?_) (fun hg => ?_) rfl)
 | (with_reducible refine RL_nil ⟨by kernel_rfl, hK _ ?_⟩; clear hK K)
 | (refine CallK_pureM (c_awake hB hE) en_19 rfl ?_)
 | (with_reducible first | refine ite_elimM (fun hg => ?_) (fun hg => ?_) | refine And.intro ?_ ?_)
 | omega)
  cases h1 : fewD p
  · repeat' (first
 | (with_reducible refine Mk_i ?_; try simp (disch := omega) only [go_sem, seval, irw, h1])
 | ((with_reducible first | refine hK' _ _ ?_ | refine hK' _ _ _ ?_); clear hK' K')
 | (with_reducible refine RT_step fun K' hK' => ?_; first | refine R2_n ?_ | refine Rf rfl rfl ?_ | refine Rf' rfl rfl ?_ | refine R2_gu rfl rfl ?_ | refine Rt rfl rfl ?_ | refine R2_g rfl rfl (fun hg => ?_) (fun hg => ?_) rfl)
 | (with_reducible refine RT_nil ?_; refine hK _ ?_; clear hK K)
 | (with_reducible refine MkG_i ?_; (try simp only [bnq] at hg); (try (have hgp := hg; simp only [bdq] at hgp)); try simp (disch := omega) only [go_sem, seval, irw, h1, hg])
 | (with_reducible refine RL_step fun K' hK' => ?_; first | refine L2_n ?_ | refine Lf rfl rfl ?_ | refine Lf' rfl rfl ?_ | refine L2_gu rfl rfl ?_ | refine Lt rfl rfl ?_ | refine L2_g rfl rfl (fun hg => ?_) (fun hg => ?_) rfl)
 | (with_reducible refine RL_nil ⟨by kernel_rfl, hK _ ?_⟩; clear hK K)
 | (with_reducible first | refine AL_seq ?_ | refine AL_skip ?_ | refine AL_nil ?_ | refine SeqQ_n ?_ | refine BlockQ_n ?_)
 | (refine AL_text2 rfl fun K hK => ?_; simp only [List.map])
 | (refine AL_draw2 mixed rfl (by kernel_rfl) fun K hK => ?_; simp only [List.map])
 | (with_reducible refine AL_block ?_)
 | (with_reducible refine AL_exit ?_; simp only [SeqQ, BlockQ, go_sem, seval])
 | (refine Ct rfl ?_)
 | (refine Cf rfl ?_)
 | (refine AL_condb rfl (fun hg => ?_) (fun hg => ?_) <;> ((try simp only [bnq] at hg); (try (have hgp := hg; simp only [bdq] at hgp))))
 | (refine CallK_pureM (c_Few p) en_20 rfl ?_)
 | (with_reducible first | refine ite_elimM (fun hg => ?_) (fun hg => ?_) | refine And.intro ?_ ?_)
 | omega)
    (refine AL_ret (PureQ_ret ?_ rfl); simp [go_sem, ])
  cases h2 : saneD p
  · repeat' (first
 | (with_reducible refine Mk_i ?_; try simp (disch := omega) only [go_sem, seval, irw, h1, h2])
 | ((with_reducible first | refine hK' _ _ ?_ | refine hK' _ _ _ ?_); clear hK' K')
 | (with_reducible refine RT_step fun K' hK' => ?_; first | refine R2_n ?_ | refine Rf rfl rfl ?_ | refine Rf' rfl rfl ?_ | refine R2_gu rfl rfl ?_ | refine Rt rfl rfl ?_ | refine R2_g rfl rfl (fun hg => ?_) (fun hg => ?_) rfl)
 | (with_reducible refine RT_nil ?_; refine hK _ ?_; clear hK K)
 | (with_reducible refine MkG_i ?_; (try simp only [bnq] at hg); (try (have hgp := hg; simp only [bdq] at hgp)); try simp (disch := omega) only [go_sem, seval, irw, h1, h2, hg])
 | (with_reducible refine RL_step fun K' hK' => ?_; first | refine L2_n ?_ | refine Lf rfl rfl ?_ | refine Lf' rfl rfl ?_ | refine L2_gu rfl rfl ?_ | refine Lt rfl rfl ?_ | refine L2_g rfl rfl (fun hg => ?_) (fun hg => ?_) rfl)
 | (with_reducible refine RL_nil ⟨by kernel_rfl, hK _ ?_⟩; clear hK K)
 | (with_reducible first | refine AL_seq ?_ | refine AL_skip ?_ | refine AL_nil ?_ | refine SeqQ_n ?_ | refine BlockQ_n ?_)
 | (refine AL_text2 rfl fun K hK => ?_; simp only [List.map])
 | (refine AL_draw2 mixed rfl (by kernel_rfl) fun K hK => ?_; simp only [List.map])
 | (with_reducible refine AL_block ?_)
 | (with_reducible refine AL_exit ?_; simp only [SeqQ, BlockQ, go_sem, seval])
 | (refine Ct rfl ?_)
 | (refine Cf rfl ?_)
 | (refine AL_condb rfl (fun hg => ?_) (fun hg => ?_) <;> ((try simp only [bnq] at hg); (try (have hgp := hg; simp only [bdq] at hgp))))
 | (refine CallK_pureM (c_Few p) en_20 rfl ?_)
 | (refine CallK_pureM (c_Sane hB hE p) en_21 rfl ?_)
 | (with_reducible first | refine ite_elimM (fun hg => ?_) (fun hg => ?_) | refine And.intro ?_ ?_)
 | omega)
    (refine AL_ret (PureQ_ret ?_ rfl); simp [go_sem, ])
  obtain ⟨hp1, hp2⟩ := few_len h1
  by_cases h3 : p.length = 0
  · have f1 : ((p.length : Int) == 0) = true := by rw [beq_iff_eq]; omega
    repeat' (first
 | (with_reducible refine Mk_i ?_; try simp (disch := omega) only [go_sem, seval, irw, h1, h2, f1])
 | ((with_reducible first | refine hK' _ _ ?_ | refine hK' _ _ _ ?_); clear hK' K')
 | (with_reducible refine RT_step fun K' hK' => ?_; first | refine R2_n ?_ | refine Rf rfl rfl ?_ | refine Rf' rfl rfl ?_ | refine R2_gu rfl rfl ?_ | refine Rt rfl rfl ?_ | refine R2_g rfl rfl (fun hg => ?_) (fun hg => ?_) rfl)
 | (with_reducible refine RT_nil ?_; refine hK _ ?_; clear hK K)
 | (with_reducible refine MkG_i ?_; (try simp only [bnq] at hg); (try (have hgp := hg; simp only [bdq] at hgp)); try simp (disch := omega) only [go_sem, seval, irw, h1, h2, f1, hg])
 | (with_reducible refine RL_step fun K' hK' => ?_; first | refine L2_n ?_ | refine Lf rfl rfl ?_ | refine Lf' rfl rfl ?_ | refine L2_gu rfl rfl ?_ | refine Lt rfl rfl ?_ | refine L2_g rfl rfl (fun hg => ?_) (fun hg => ?_) rfl)
 | (with_reducible refine RL_nil ⟨by kernel_rfl, hK _ ?_⟩; clear hK K)
 | (with_reducible first | refine AL_seq ?_ | refine AL_skip ?_ | refine AL_nil ?_ | refine SeqQ_n ?_ | refine BlockQ_n ?_)
 | (refine AL_text2 rfl fun K hK => ?_; simp only [List.map])
 | (refine AL_draw2 mixed rfl (by kernel_rfl) fun K hK => ?_; simp only [List.map])
 | (with_reducible refine AL_block ?_)
 | (with_reducible refine AL_exit ?_; simp only [SeqQ, BlockQ, go_sem, seval])
 | (refine Ct rfl ?_)
 | (refine Cf rfl ?_)
 | (refine AL_condb rfl (fun hg => ?_) (fun hg => ?_) <;> ((try simp only [bnq] at hg); (try (have hgp := hg; simp only [bdq] at hgp))))
 | (refine CallK_pureM (c_Few p) en_20 rfl ?_)
 | (refine CallK_pureM (c_Sane hB hE p) en_21 rfl ?_)
 | (with_reducible first | refine ite_elimM (fun hg => ?_) (fun hg => ?_) | refine And.intro ?_ ?_)
 | omega)
    (refine AL_ret (PureQ_ret ?_ rfl); simp [go_sem, ])
  have f1 : ((p.length : Int) == 0) = false := by rw [beq_eq_false_iff_ne]; omega
  have f2 : (p.length : Int) ≠ 0 := by omega
  have hg0 := Int.tmod_nonneg (p.length : Int) (and_low f)
  have hg1 := Int.tmod_lt_of_pos (bits .and .i64 f 65535) (show 0 < (p.length : Int) by omega)
  (repeat (with_reducible first | refine AL_seq ?_ | refine AL_skip ?_ | refine AL_nil ?_ | refine SeqQ_n ?_ | refine BlockQ_n ?_)); (first
 | (refine AL_text2 rfl fun K hK => ?_; simp only [List.map])
 | (refine AL_draw2 mixed rfl (by kernel_rfl) fun K hK => ?_; simp only [List.map])
 | (with_reducible refine AL_block ?_)
 | (with_reducible refine AL_exit ?_; simp only [SeqQ, BlockQ, go_sem, seval])
 | (refine Ct rfl ?_)
 | (refine Cf rfl ?_)
 | (refine AL_condb rfl (fun hg => ?_) (fun hg => ?_) <;> ((try simp only [bnq] at hg); (try (have hgp := hg; simp only [bdq] at hgp))))); repeat' (first
 | (with_reducible refine Mk_i ?_; try simp (disch := omega) only [go_sem, seval, irw, h1, h2, f1])
 | ((with_reducible first | refine hK' _ _ ?_ | refine hK' _ _ _ ?_); clear hK' K')
 | (with_reducible refine RT_step fun K' hK' => ?_; first | refine R2_n ?_ | refine Rf rfl rfl ?_ | refine Rf' rfl rfl ?_ | refine R2_gu rfl rfl ?_ | refine Rt rfl rfl ?_ | refine R2_g rfl rfl (fun hg => ?_) (fun hg => ?_) rfl)
 | (with_reducible refine RT_nil ?_; refine hK _ ?_; clear hK K)
 | (with_reducible refine MkG_i ?_; (try simp only [bnq] at hg); (try (have hgp := hg; simp only [bdq] at hgp)); try simp (disch := omega) only [go_sem, seval, irw, h1, h2, f1, hg])
 | (with_reducible refine RL_step fun K' hK' => ?_; first | refine L2_n ?_ | refine Lf rfl rfl ?_ | refine Lf' rfl rfl ?_ | refine L2_gu rfl rfl ?_ | refine Lt rfl rfl ?_ | refine L2_g rfl rfl (fun hg => ?_) (fun hg => ?_) rfl)
 | (with_reducible refine RL_nil ⟨by kernel_rfl, hK _ ?_⟩; clear hK K)
 | (refine CallK_pureM (c_Few p) en_20 rfl ?_)
 | (refine CallK_pureM (c_Sane hB hE p) en_21 rfl ?_)
 | (with_reducible first | refine ite_elimM (fun hg => ?_) (fun hg => ?_) | refine And.intro ?_ ?_)
 | omega)
  (repeat (with_reducible first | refine AL_seq ?_ | refine AL_skip ?_ | refine AL_nil ?_ | refine SeqQ_n ?_ | refine BlockQ_n ?_)); (first
 | (refine AL_text2 rfl fun K hK => ?_; simp only [List.map])
 | (refine AL_draw2 mixed rfl (by kernel_rfl) fun K hK => ?_; simp only [List.map])
 | (with_reducible refine AL_block ?_)
 | (with_reducible refine AL_exit ?_; simp only [SeqQ, BlockQ, go_sem, seval])
 | (refine Ct rfl ?_)
 | (refine Cf rfl ?_)
 | (refine AL_condb rfl (fun hg => ?_) (fun hg => ?_) <;> ((try simp only [bnq] at hg); (try (have hgp := hg; simp only [bdq] at hgp))))); repeat' (first
 | (with_reducible refine Mk_i ?_; try simp (disch := omega) only [go_sem, seval, irw])
 | ((with_reducible first | refine hK' _ _ ?_ | refine hK' _ _ _ ?_); clear hK' K')
 | (with_reducible refine RT_step fun K' hK' => ?_; first | refine R2_n ?_ | refine Rf rfl rfl ?_ | refine Rf' rfl rfl ?_ | refine R2_gu rfl rfl ?_ | refine Rt rfl rfl ?_ | refine R2_g rfl rfl (fun hg => ?_) (fun hg => ?_) rfl)
 | (with_reducible refine RT_nil ?_; refine hK _ ?_; clear hK K)
 | (with_reducible refine MkG_i ?_; (try simp only [bnq] at hg); (try (have hgp := hg; simp only [bdq] at hgp)); try simp (disch := omega) only [go_sem, seval, irw, hg])
 | (with_reducible refine RL_step fun K' hK' => ?_; first | refine L2_n ?_ | refine Lf rfl rfl ?_ | refine Lf' rfl rfl ?_ | refine L2_gu rfl rfl ?_ | refine Lt rfl rfl ?_ | refine L2_g rfl rfl (fun hg => ?_) (fun hg => ?_) rfl)
 | (with_reducible refine RL_nil ⟨by kernel_rfl, hK _ ?_⟩; clear hK K)
 | (with_reducible first | refine ite_elimM (fun hg => ?_) (fun hg => ?_) | refine And.intro ?_ ?_)
 | omega)
  (repeat (with_reducible first | refine AL_seq ?_ | refine AL_skip ?_ | refine AL_nil ?_ | refine SeqQ_n ?_ | refine BlockQ_n ?_)); (first
 | (refine AL_text2 rfl fun K hK => ?_; simp only [List.map])
 | (refine AL_draw2 mixed rfl (by kernel_rfl) fun K hK => ?_; simp only [List.map])
 | (with_reducible refine AL_block ?_)
 | (with_reducible refine AL_exit ?_; simp only [SeqQ, BlockQ, go_sem, seval])
 | (refine Ct rfl ?_)
 | (refine Cf rfl ?_)
 | (refine AL_condb rfl (fun hg => ?_) (fun hg => ?_) <;> ((try simp only [bnq] at hg); (try (have hgp := hg; simp only [bdq] at hgp))))); repeat' (first
 | (with_reducible refine Mk_i ?_; try simp (disch := omega) only [go_sem, seval, irw])
 | ((with_reducible first | refine hK' _ _ ?_ | refine hK' _ _ _ ?_); clear hK' K')
 | (with_reducible refine RT_step fun K' hK' => ?_; first | refine R2_n ?_ | refine Rf rfl rfl ?_ | refine Rf' rfl rfl ?_ | refine R2_gu rfl rfl ?_ | refine Rt rfl rfl ?_ | refine R2_g rfl rfl (fun hg => ?_) (fun hg => ?_) rfl)
 | (with_reducible refine RT_nil ?_; refine hK _ ?_; clear hK K)
 | (with_reducible refine MkG_i ?_; (try simp only [bnq] at hg); (try (have hgp := hg; simp only [bdq] at hgp)); try simp (disch := omega) only [go_sem, seval, irw, hg])
 | (with_reducible refine RL_step fun K' hK' => ?_; first | refine L2_n ?_ | refine Lf rfl rfl ?_ | refine Lf' rfl rfl ?_ | refine L2_gu rfl rfl ?_ | refine Lt rfl rfl ?_ | refine L2_g rfl rfl (fun hg => ?_) (fun hg => ?_) rfl)
 | (with_reducible refine RL_nil ⟨by kernel_rfl, hK _ ?_⟩; clear hK K)
 | (with_reducible first | refine ite_elimM (fun hg => ?_) (fun hg => ?_) | refine And.intro ?_ ?_)
 | omega)
  generalize (bits .and .i64 f 65535).tmod (p.length : Int) = g at hg0 hg1 ⊢
  clear f1 f2
  have hgk : g.toNat < p.length := by omega
  have hx : funO p g = some p[g.toNat] := by
    rw [funO, if_neg (by omega), if_neg (by omega), if_pos h2]
    exact List.getElem?_eq_getElem hgk
  have hxm : p[g.toNat] ∈ p := List.getElem_mem hgk
  obtain ⟨_, hq⟩ := hp2 _ hgk
  have hx12 := (blks_le (sane_fun h2 hxm).2.1).2
  have hsd := sane_edges h2 hxm
  have hsp := fun b i hi => sane_pred (b := b) h2 hxm (i := i) hi
  have hFu := c_Fun hB hE p g
  have hBl := c_Block hB hE p g
  have hPr := c_Preds hB hE p g
  unfold predsD at hPr
  unfold blockO at hBl
  simp only [hx, Option.getD_some, Option.isSome_some, Option.bind_some] at hFu hBl hPr
  clear hx
  generalize p[g.toNat] = x at *
  have hend : preN x x.blocks.length = folN x x.blocks.length := by
    rw [preN, sumN_preds x.blocks.length x.blocks 0 hsd, folN, List.take_length]
  repeat' (first
 | (with_reducible refine Mk_i ?_; try simp (disch := omega) only [go_sem, seval, irw])
 | ((with_reducible first | refine hK' _ _ ?_ | refine hK' _ _ _ ?_); clear hK' K')
 | (with_reducible refine RT_step fun K' hK' => ?_; first | refine R2_n ?_ | refine Rf rfl rfl ?_ | refine Rf' rfl rfl ?_ | refine R2_gu rfl rfl ?_ | refine Rt rfl rfl ?_ | refine R2_g rfl rfl (fun hg => ?_) (fun hg => ?_) rfl)
 | (with_reducible refine RT_nil ?_; refine hK _ ?_; clear hK K)
 | (with_reducible refine MkG_i ?_; (try simp only [bnq] at hg); (try (have hgp := hg; simp only [bdq] at hgp)); try simp (disch := omega) only [go_sem, seval, irw, hg])
 | (with_reducible refine RL_step fun K' hK' => ?_; first | refine L2_n ?_ | refine Lf rfl rfl ?_ | refine Lf' rfl rfl ?_ | refine L2_gu rfl rfl ?_ | refine Lt rfl rfl ?_ | refine L2_g rfl rfl (fun hg => ?_) (fun hg => ?_) rfl)
 | (with_reducible refine RL_nil ⟨by kernel_rfl, hK _ ?_⟩; clear hK K)
 | (with_reducible first | refine AL_seq ?_ | refine AL_skip ?_ | refine AL_nil ?_ | refine SeqQ_n ?_ | refine BlockQ_n ?_)
 | (refine AL_text2 rfl fun K hK => ?_; simp only [List.map])
 | (refine AL_draw2 mixed rfl (by kernel_rfl) fun K hK => ?_; simp only [List.map])
 | (with_reducible refine AL_block ?_)
 | (with_reducible refine AL_exit ?_; simp only [SeqQ, BlockQ, go_sem, seval])
 | (refine Ct rfl ?_)
 | (refine Cf rfl ?_)
 | (refine AL_condb rfl (fun hg => ?_) (fun hg => ?_) <;> ((try simp only [bnq] at hg); (try (have hgp := hg; simp only [bdq] at hgp))))
 | (refine CallK_pureM (hFu) en_25 rfl ?_)
 | (with_reducible first | refine ite_elimM (fun hg => ?_) (fun hg => ?_) | refine And.intro ?_ ?_)
 | omega)
  refine AL_loop (fun k : Nat => ⟨tA [(2, .op 1 0 0 0), (5, pB true), (6, pI g), (7, .op 3 1 0 0), (9, pI (folN x k)), (10, pI (preN x k)), (11, pI k)], tO [some (.rows 1 [[.sl false (funRows p)]]), some (.rows 3 [x.cells])]⟩)
    (fun k => k ≤ x.blocks.length ∧ folN x k ≤ 30 * k ∧ preN x k ≤ 20 * k) (fun k => x.blocks.length - k) 0 ⟨Nat.zero_le _, Nat.zero_le _, Nat.zero_le _⟩ (weak_t [0, 1] _ _ rfl (by decide) ⟨by decide, by decide⟩ (by simp [go_sem, folN, preN, sumN]) (by simp [go_sem, folN, preN, sumN])) ?_
  rintro k ⟨hk, hk1, hk2⟩
  (repeat (with_reducible first | refine AL_seq ?_ | refine AL_skip ?_ | refine AL_nil ?_ | refine SeqQ_n ?_ | refine BlockQ_n ?_)); (first
 | (refine AL_text2 rfl fun K hK => ?_; simp only [List.map])
 | (refine AL_draw2 mixed rfl (by kernel_rfl) fun K hK => ?_; simp only [List.map])
 | (with_reducible refine AL_block ?_)
 | (with_reducible refine AL_exit ?_; simp only [SeqQ, BlockQ, go_sem, seval])
 | (refine Ct rfl ?_)
 | (refine Cf rfl ?_)
 | (refine AL_condb rfl (fun hg => ?_) (fun hg => ?_) <;> ((try simp only [bnq] at hg); (try (have hgp := hg; simp only [bdq] at hgp))))); repeat' (first
 | (with_reducible refine Mk_i ?_; try simp (disch := omega) only [go_sem, seval, irw])
 | ((with_reducible first | refine hK' _ _ ?_ | refine hK' _ _ _ ?_); clear hK' K')
 | (with_reducible refine RT_step fun K' hK' => ?_; first | refine R2_n ?_ | refine Rf rfl rfl ?_ | refine Rf' rfl rfl ?_ | refine R2_gu rfl rfl ?_ | refine Rt rfl rfl ?_ | refine R2_g rfl rfl (fun hg => ?_) (fun hg => ?_) rfl)
 | (with_reducible refine RT_nil ?_; refine hK _ ?_; clear hK K)
 | (with_reducible refine MkG_i ?_; (try simp only [bnq] at hg); (try (have hgp := hg; simp only [bdq] at hgp)); try simp (disch := omega) only [go_sem, seval, irw, hg])
 | (with_reducible refine RL_step fun K' hK' => ?_; first | refine L2_n ?_ | refine Lf rfl rfl ?_ | refine Lf' rfl rfl ?_ | refine L2_gu rfl rfl ?_ | refine Lt rfl rfl ?_ | refine L2_g rfl rfl (fun hg => ?_) (fun hg => ?_) rfl)
 | (with_reducible refine RL_nil ⟨by kernel_rfl, hK _ ?_⟩; clear hK K)
 | (with_reducible first | refine ite_elimM (fun hg => ?_) (fun hg => ?_) | refine And.intro ?_ ?_)
 | omega)
  cases h4 : decide ((k : Int) < (x.blocks.length : Int))
  · have hk3 : k = x.blocks.length := by simp at h4; omega
    subst hk3
    rw [hend]
    repeat' (first
 | (with_reducible refine Mk_i ?_; try simp (disch := omega) only [go_sem, seval, irw, h4])
 | ((with_reducible first | refine hK' _ _ ?_ | refine hK' _ _ _ ?_); clear hK' K')
 | (with_reducible refine RT_step fun K' hK' => ?_; first | refine R2_n ?_ | refine Rf rfl rfl ?_ | refine Rf' rfl rfl ?_ | refine R2_gu rfl rfl ?_ | refine Rt rfl rfl ?_ | refine R2_g rfl rfl (fun hg => ?_) (fun hg => ?_) rfl)
 | (with_reducible refine RT_nil ?_; refine hK _ ?_; clear hK K)
 | (with_reducible refine MkG_i ?_; (try simp only [bnq] at hg); (try (have hgp := hg; simp only [bdq] at hgp)); try simp (disch := omega) only [go_sem, seval, irw, h4, hg])
 | (with_reducible refine RL_step fun K' hK' => ?_; first | refine L2_n ?_ | refine Lf rfl rfl ?_ | refine Lf' rfl rfl ?_ | refine L2_gu rfl rfl ?_ | refine Lt rfl rfl ?_ | refine L2_g rfl rfl (fun hg => ?_) (fun hg => ?_) rfl)
 | (with_reducible refine RL_nil ⟨by kernel_rfl, hK _ ?_⟩; clear hK K)
 | (with_reducible first | refine AL_seq ?_ | refine AL_skip ?_ | refine AL_nil ?_ | refine SeqQ_n ?_ | refine BlockQ_n ?_)
 | (refine AL_text2 rfl fun K hK => ?_; simp only [List.map])
 | (refine AL_draw2 mixed rfl (by kernel_rfl) fun K hK => ?_; simp only [List.map])
 | (with_reducible refine AL_block ?_)
 | (with_reducible refine AL_exit ?_; simp only [SeqQ, BlockQ, go_sem, seval])
 | (refine Ct rfl ?_)
 | (refine Cf rfl ?_)
 | (refine AL_condb rfl (fun hg => ?_) (fun hg => ?_) <;> ((try simp only [bnq] at hg); (try (have hgp := hg; simp only [bdq] at hgp))))
 | (with_reducible first | refine ite_elimM (fun hg => ?_) (fun hg => ?_) | refine And.intro ?_ ?_)
 | omega)
    (refine AL_ret (PureQ_ret ?_ rfl); simp [go_sem, ])
  have hk3 : k < x.blocks.length := by simpa using h4
  have e1 := folN_succ hk3
  have e2 : preN x (k + 1) = preN x k + (predsF k 0 x.blocks).length := preN_succ
  have b1 := (hq k hk3).2
  have b2 := predsF_le (b := (k : Int)) (L := x.blocks) (k := 0)
  have b3 : (predsF k 0 x.blocks).length ≤ 20 := by omega
  have hPk := hPr k
  have hgt : ∀ j ∈ predsF k 0 x.blocks, ∃ i : Nat, ∃ h : i < x.blocks.length, j = i ∧ (k : Int) ∈ x.blocks[i].succ := fun j hj => by
    obtain ⟨i, q1, q2, q3⟩ := predsF_get hj
    exact ⟨i, q1, by rw [q2]; omega, q3⟩
  have hri := (predsF_rise (b := (k : Int)) (L := x.blocks) (k := 0)).1
  generalize predsF k 0 x.blocks = L at e2 b2 b3 hPk hgt hri
  generalize folN x k = fo at e1 hk1 ⊢
  generalize preN x k = pr at e2 hk2 ⊢
  repeat' (first
 | (with_reducible refine Mk_i ?_; try simp (disch := omega) only [go_sem, seval, irw, h4])
 | ((with_reducible first | refine hK' _ _ ?_ | refine hK' _ _ _ ?_); clear hK' K')
 | (with_reducible refine RT_step fun K' hK' => ?_; first | refine R2_n ?_ | refine Rf rfl rfl ?_ | refine Rf' rfl rfl ?_ | refine R2_gu rfl rfl ?_ | refine Rt rfl rfl ?_ | refine R2_g rfl rfl (fun hg => ?_) (fun hg => ?_) rfl)
 | (with_reducible refine RT_nil ?_; refine hK _ ?_; clear hK K)
 | (with_reducible refine MkG_i ?_; (try simp only [bnq] at hg); (try (have hgp := hg; simp only [bdq] at hgp)); try simp (disch := omega) only [go_sem, seval, irw, h4, hg])
 | (with_reducible refine RL_step fun K' hK' => ?_; first | refine L2_n ?_ | refine Lf rfl rfl ?_ | refine Lf' rfl rfl ?_ | refine L2_gu rfl rfl ?_ | refine Lt rfl rfl ?_ | refine L2_g rfl rfl (fun hg => ?_) (fun hg => ?_) rfl)
 | (with_reducible refine RL_nil ⟨by kernel_rfl, hK _ ?_⟩; clear hK K)
 | (with_reducible first | refine AL_seq ?_ | refine AL_skip ?_ | refine AL_nil ?_ | refine SeqQ_n ?_ | refine BlockQ_n ?_)
 | (refine AL_text2 rfl fun K hK => ?_; simp only [List.map])
 | (refine AL_draw2 mixed rfl (by kernel_rfl) fun K hK => ?_; simp only [List.map])
 | (with_reducible refine AL_block ?_)
 | (with_reducible refine AL_exit ?_; simp only [SeqQ, BlockQ, go_sem, seval])
 | (refine Ct rfl ?_)
 | (refine Cf rfl ?_)
 | (refine AL_condb rfl (fun hg => ?_) (fun hg => ?_) <;> ((try simp only [bnq] at hg); (try (have hgp := hg; simp only [bdq] at hgp))))
 | (refine CallK_pureM (hPk) en_27 rfl ?_)
 | (with_reducible first | refine ite_elimM (fun hg => ?_) (fun hg => ?_) | refine And.intro ?_ ?_)
 | omega)
  (repeat (with_reducible first | refine AL_seq ?_ | refine AL_skip ?_ | refine AL_block ?_ | refine AL_nil ?_ | refine SeqQ_n ?_ | refine BlockQ_n ?_))
  refine AL_len 12 (full := false) (rows := iRows L) rfl rfl (.refl _) fun _ => ?_
  refine AL_loop (fun m : Nat => ⟨tA [(2, .op 1 0 0 0), (5, pB true), (6, pI g), (7, .op 3 1 0 0), (9, pI ((fo : Int) + x.blocks[k].succ.length)), (10, pI ((pr : Int) + L.length)), (11, pI k), (12, ints L), (13, pI m)], tO [some (.rows 1 [[.sl false (funRows p)]]), some (.rows 3 [x.cells])]⟩)
    (fun m => m ≤ L.length) (fun m => L.length - m) 0 (Nat.zero_le _) (weak_t [0, 1] _ _ rfl (by decide) ⟨by decide, by decide⟩ (by simp [go_sem, ]) (by simp [go_sem, ])) ?_
  intro m hm
  (repeat (with_reducible first | refine AL_seq ?_ | refine AL_skip ?_ | refine AL_nil ?_ | refine SeqQ_n ?_ | refine BlockQ_n ?_)); (first
 | (refine AL_text2 rfl fun K hK => ?_; simp only [List.map])
 | (refine AL_draw2 mixed rfl (by kernel_rfl) fun K hK => ?_; simp only [List.map])
 | (with_reducible refine AL_block ?_)
 | (with_reducible refine AL_exit ?_; simp only [SeqQ, BlockQ, go_sem, seval])
 | (refine Ct rfl ?_)
 | (refine Cf rfl ?_)
 | (refine AL_condb rfl (fun hg => ?_) (fun hg => ?_) <;> ((try simp only [bnq] at hg); (try (have hgp := hg; simp only [bdq] at hgp))))); repeat' (first
 | (with_reducible refine Mk_i ?_; try simp (disch := omega) only [go_sem, seval, irw])
 | ((with_reducible first | refine hK' _ _ ?_ | refine hK' _ _ _ ?_); clear hK' K')
 | (with_reducible refine RT_step fun K' hK' => ?_; first | refine R2_n ?_ | refine Rf rfl rfl ?_ | refine Rf' rfl rfl ?_ | refine R2_gu rfl rfl ?_ | refine Rt rfl rfl ?_ | refine R2_g rfl rfl (fun hg => ?_) (fun hg => ?_) rfl)
 | (with_reducible refine RT_nil ?_; refine hK _ ?_; clear hK K)
 | (with_reducible refine MkG_i ?_; (try simp only [bnq] at hg); (try (have hgp := hg; simp only [bdq] at hgp)); try simp (disch := omega) only [go_sem, seval, irw, hg])
 | (with_reducible refine RL_step fun K' hK' => ?_; first | refine L2_n ?_ | refine Lf rfl rfl ?_ | refine Lf' rfl rfl ?_ | refine L2_gu rfl rfl ?_ | refine Lt rfl rfl ?_ | refine L2_g rfl rfl (fun hg => ?_) (fun hg => ?_) rfl)
 | (with_reducible refine RL_nil ⟨by kernel_rfl, hK _ ?_⟩; clear hK K)
 | (with_reducible first | refine ite_elimM (fun hg => ?_) (fun hg => ?_) | refine And.intro ?_ ?_)
 | omega)
  cases h5 : decide ((m : Int) < (L.length : Int))
  · repeat' (first
 | (with_reducible refine Mk_i ?_; try simp (disch := omega) only [go_sem, seval, irw, h5])
 | ((with_reducible first | refine hK' _ _ ?_ | refine hK' _ _ _ ?_); clear hK' K')
 | (with_reducible refine RT_step fun K' hK' => ?_; first | refine R2_n ?_ | refine Rf rfl rfl ?_ | refine Rf' rfl rfl ?_ | refine R2_gu rfl rfl ?_ | refine Rt rfl rfl ?_ | refine R2_g rfl rfl (fun hg => ?_) (fun hg => ?_) rfl)
 | (with_reducible refine RT_nil ?_; refine hK _ ?_; clear hK K)
 | (with_reducible refine MkG_i ?_; (try simp only [bnq] at hg); (try (have hgp := hg; simp only [bdq] at hgp)); try simp (disch := omega) only [go_sem, seval, irw, h5, hg])
 | (with_reducible refine RL_step fun K' hK' => ?_; first | refine L2_n ?_ | refine Lf rfl rfl ?_ | refine Lf' rfl rfl ?_ | refine L2_gu rfl rfl ?_ | refine Lt rfl rfl ?_ | refine L2_g rfl rfl (fun hg => ?_) (fun hg => ?_) rfl)
 | (with_reducible refine RL_nil ⟨by kernel_rfl, hK _ ?_⟩; clear hK K)
 | (with_reducible first | refine AL_seq ?_ | refine AL_skip ?_ | refine AL_nil ?_ | refine SeqQ_n ?_ | refine BlockQ_n ?_)
 | (refine AL_text2 rfl fun K hK => ?_; simp only [List.map])
 | (refine AL_draw2 mixed rfl (by kernel_rfl) fun K hK => ?_; simp only [List.map])
 | (with_reducible refine AL_block ?_)
 | (with_reducible refine AL_exit ?_; simp only [SeqQ, BlockQ, go_sem, seval])
 | (refine Ct rfl ?_)
 | (refine Cf rfl ?_)
 | (refine AL_condb rfl (fun hg => ?_) (fun hg => ?_) <;> ((try simp only [bnq] at hg); (try (have hgp := hg; simp only [bdq] at hgp))))
 | (with_reducible first | refine ite_elimM (fun hg => ?_) (fun hg => ?_) | refine And.intro ?_ ?_)
 | omega)
    exact ⟨k + 1, ⟨hk3, by rw [e1]; omega, by rw [e2]; omega⟩, by omega, (weak_t [0, 1] _ _ rfl (by decide) ⟨by decide, by decide⟩ (by simp [go_sem, e1, e2]) (by simp [go_sem, e1, e2]))⟩
  have hm2 : m < L.length := by simpa using h5
  obtain ⟨i, hi, hli, hkm⟩ := hgt L[m] (List.getElem_mem hm2)
  have hBk := hBl L[m]
  rw [hli, hsp _ i hi hkm, if_pos rfl, Int.toNat_natCast, List.getElem?_eq_getElem hi] at hBk
  simp only [Option.getD_some, Option.isSome_some] at hBk
  repeat' (first
 | (with_reducible refine Mk_i ?_; try simp (disch := omega) only [go_sem, seval, irw, h5, hli])
 | ((with_reducible first | refine hK' _ _ ?_ | refine hK' _ _ _ ?_); clear hK' K')
 | (with_reducible refine RT_step fun K' hK' => ?_; first | refine R2_n ?_ | refine Rf rfl rfl ?_ | refine Rf' rfl rfl ?_ | refine R2_gu rfl rfl ?_ | refine Rt rfl rfl ?_ | refine R2_g rfl rfl (fun hg => ?_) (fun hg => ?_) rfl)
 | (with_reducible refine RT_nil ?_; refine hK _ ?_; clear hK K)
 | (with_reducible refine MkG_i ?_; (try simp only [bnq] at hg); (try (have hgp := hg; simp only [bdq] at hgp)); try simp (disch := omega) only [go_sem, seval, irw, h5, hli, hg])
 | (with_reducible refine RL_step fun K' hK' => ?_; first | refine L2_n ?_ | refine Lf rfl rfl ?_ | refine Lf' rfl rfl ?_ | refine L2_gu rfl rfl ?_ | refine Lt rfl rfl ?_ | refine L2_g rfl rfl (fun hg => ?_) (fun hg => ?_) rfl)
 | (with_reducible refine RL_nil ⟨by kernel_rfl, hK _ ?_⟩; clear hK K)
 | (with_reducible first | refine AL_seq ?_ | refine AL_skip ?_ | refine AL_nil ?_ | refine SeqQ_n ?_ | refine BlockQ_n ?_)
 | (refine AL_text2 rfl fun K hK => ?_; simp only [List.map])
 | (refine AL_draw2 mixed rfl (by kernel_rfl) fun K hK => ?_; simp only [List.map])
 | (with_reducible refine AL_block ?_)
 | (with_reducible refine AL_exit ?_; simp only [SeqQ, BlockQ, go_sem, seval])
 | (refine Ct rfl ?_)
 | (refine Cf rfl ?_)
 | (refine AL_condb rfl (fun hg => ?_) (fun hg => ?_) <;> ((try simp only [bnq] at hg); (try (have hgp := hg; simp only [bdq] at hgp))))
 | (refine CallK_pureM (hBk) en_26 rfl ?_)
 | (with_reducible first | refine ite_elimM (fun hg => ?_) (fun hg => ?_) | refine And.intro ?_ ?_)
 | omega)
  (repeat (with_reducible first | refine AL_seq ?_ | refine AL_skip ?_ | refine AL_block ?_ | refine AL_nil ?_ | refine SeqQ_n ?_ | refine BlockQ_n ?_))
  have hs30 := (hq i hi).2
  have hro : m = 0 ∨ ∃ n, m = n + 1 ∧ ∃ h : n < L.length, L[n] < L[m] := by
    rcases Nat.eq_zero_or_pos m with e | e
    · exact .inl e
    · obtain ⟨n, rfl⟩ : ∃ n, m = n + 1 := ⟨m - 1, by omega⟩
      exact .inr ⟨n, rfl, by omega, pw_get hri hm2⟩
  generalize hy : x.blocks[i] = y at hkm hs30 ⊢
  refine AL_loop (fun j : Nat => ⟨tA [(2, .op 1 0 0 0), (5, pB true), (6, pI g), (7, .op 3 1 0 0), (9, pI ((fo : Int) + x.blocks[k].succ.length)), (10, pI ((pr : Int) + L.length)), (11, pI k), (12, ints L), (13, pI m), (14, .op 3 2 0 0), (15, pB true), (16, pB (decide ((k : Int) ∈ y.succ.take j))), (17, pI j)], tO [some (.rows 1 [[.sl false (funRows p)]]), some (.rows 3 [x.cells]), some (.rows 3 [y.cells])]⟩)
    (fun j => j ≤ y.succ.length) (fun j => y.succ.length - j) 0 (Nat.zero_le _) (weak_t [0, 1, 2] _ _ rfl (by decide) ⟨by decide, by decide⟩ (by simp [go_sem, ]) (by simp [go_sem, ])) ?_
  intro j hj
  (repeat (with_reducible first | refine AL_seq ?_ | refine AL_skip ?_ | refine AL_nil ?_ | refine SeqQ_n ?_ | refine BlockQ_n ?_)); (first
 | (refine AL_text2 rfl fun K hK => ?_; simp only [List.map])
 | (refine AL_draw2 mixed rfl (by kernel_rfl) fun K hK => ?_; simp only [List.map])
 | (with_reducible refine AL_block ?_)
 | (with_reducible refine AL_exit ?_; simp only [SeqQ, BlockQ, go_sem, seval])
 | (refine Ct rfl ?_)
 | (refine Cf rfl ?_)
 | (refine AL_condb rfl (fun hg => ?_) (fun hg => ?_) <;> ((try simp only [bnq] at hg); (try (have hgp := hg; simp only [bdq] at hgp))))); repeat' (first
 | (with_reducible refine Mk_i ?_; try simp (disch := omega) only [go_sem, seval, irw])
 | ((with_reducible first | refine hK' _ _ ?_ | refine hK' _ _ _ ?_); clear hK' K')
 | (with_reducible refine RT_step fun K' hK' => ?_; first | refine R2_n ?_ | refine Rf rfl rfl ?_ | refine Rf' rfl rfl ?_ | refine R2_gu rfl rfl ?_ | refine Rt rfl rfl ?_ | refine R2_g rfl rfl (fun hg => ?_) (fun hg => ?_) rfl)
 | (with_reducible refine RT_nil ?_; refine hK _ ?_; clear hK K)
 | (with_reducible refine MkG_i ?_; (try simp only [bnq] at hg); (try (have hgp := hg; simp only [bdq] at hgp)); try simp (disch := omega) only [go_sem, seval, irw, hg])
 | (with_reducible refine RL_step fun K' hK' => ?_; first | refine L2_n ?_ | refine Lf rfl rfl ?_ | refine Lf' rfl rfl ?_ | refine L2_gu rfl rfl ?_ | refine Lt rfl rfl ?_ | refine L2_g rfl rfl (fun hg => ?_) (fun hg => ?_) rfl)
 | (with_reducible refine RL_nil ⟨by kernel_rfl, hK _ ?_⟩; clear hK K)
 | (with_reducible first | refine ite_elimM (fun hg => ?_) (fun hg => ?_) | refine And.intro ?_ ?_)
 | omega)
  cases h6 : decide ((j : Int) < (y.succ.length : Int))
  · have hj2 : j = y.succ.length := by simp at h6; omega
    subst hj2
    have hfd : decide ((k : Int) ∈ List.take y.succ.length y.succ) = true := by rw [List.take_length]; exact decide_eq_true hkm
    rw [hfd]
    rcases hro with rfl | ⟨n, rfl, hn, hlt⟩
    · repeat' (first
 | (with_reducible refine Mk_i ?_; try simp (disch := omega) only [go_sem, seval, irw, h6])
 | ((with_reducible first | refine hK' _ _ ?_ | refine hK' _ _ _ ?_); clear hK' K')
 | (with_reducible refine RT_step fun K' hK' => ?_; first | refine R2_n ?_ | refine Rf rfl rfl ?_ | refine Rf' rfl rfl ?_ | refine R2_gu rfl rfl ?_ | refine Rt rfl rfl ?_ | refine R2_g rfl rfl (fun hg => ?_) (fun hg => ?_) rfl)
 | (with_reducible refine RT_nil ?_; refine hK _ ?_; clear hK K)
 | (with_reducible refine MkG_i ?_; (try simp only [bnq] at hg); (try (have hgp := hg; simp only [bdq] at hgp)); try simp (disch := omega) only [go_sem, seval, irw, h6, hg])
 | (with_reducible refine RL_step fun K' hK' => ?_; first | refine L2_n ?_ | refine Lf rfl rfl ?_ | refine Lf' rfl rfl ?_ | refine L2_gu rfl rfl ?_ | refine Lt rfl rfl ?_ | refine L2_g rfl rfl (fun hg => ?_) (fun hg => ?_) rfl)
 | (with_reducible refine RL_nil ⟨by kernel_rfl, hK _ ?_⟩; clear hK K)
 | (with_reducible first | refine AL_seq ?_ | refine AL_skip ?_ | refine AL_nil ?_ | refine SeqQ_n ?_ | refine BlockQ_n ?_)
 | (refine AL_text2 rfl fun K hK => ?_; simp only [List.map])
 | (refine AL_draw2 mixed rfl (by kernel_rfl) fun K hK => ?_; simp only [List.map])
 | (with_reducible refine AL_block ?_)
 | (with_reducible refine AL_exit ?_; simp only [SeqQ, BlockQ, go_sem, seval])
 | (refine Ct rfl ?_)
 | (refine Cf rfl ?_)
 | (refine AL_condb rfl (fun hg => ?_) (fun hg => ?_) <;> ((try simp only [bnq] at hg); (try (have hgp := hg; simp only [bdq] at hgp))))
 | (with_reducible first | refine ite_elimM (fun hg => ?_) (fun hg => ?_) | refine And.intro ?_ ?_)
 | omega)
      exact ⟨1, by omega, by omega, (weak_t [0, 1] _ _ rfl (by decide) ⟨by decide, by decide⟩ (by simp [go_sem, ]) (by simp [go_sem, ]))⟩
    · rw [hli] at hlt
      have g1 : decide (0 < ((n + 1 : Nat) : Int)) = true := by rw [decide_eq_true_eq]; omega
      have g2 : (((n + 1 : Nat) : Int) - 1).toNat = n := by omega
      have g3 : 0 ≤ ((n + 1 : Nat) : Int) - 1 := by omega
      have g4 : decide ((i : Int) ≤ L[n]) = false := by rw [decide_eq_false_iff_not]; omega
      repeat' (first
 | (with_reducible refine Mk_i ?_; try simp (disch := omega) only [go_sem, seval, irw, h6, hli, g1, g2, g3, g4])
 | ((with_reducible first | refine hK' _ _ ?_ | refine hK' _ _ _ ?_); clear hK' K')
 | (with_reducible refine RT_step fun K' hK' => ?_; first | refine R2_n ?_ | refine Rf rfl rfl ?_ | refine Rf' rfl rfl ?_ | refine R2_gu rfl rfl ?_ | refine Rt rfl rfl ?_ | refine R2_g rfl rfl (fun hg => ?_) (fun hg => ?_) rfl)
 | (with_reducible refine RT_nil ?_; refine hK _ ?_; clear hK K)
 | (with_reducible refine MkG_i ?_; (try simp only [bnq] at hg); (try (have hgp := hg; simp only [bdq] at hgp)); try simp (disch := omega) only [go_sem, seval, irw, h6, hli, g1, g2, g3, g4, hg])
 | (with_reducible refine RL_step fun K' hK' => ?_; first | refine L2_n ?_ | refine Lf rfl rfl ?_ | refine Lf' rfl rfl ?_ | refine L2_gu rfl rfl ?_ | refine Lt rfl rfl ?_ | refine L2_g rfl rfl (fun hg => ?_) (fun hg => ?_) rfl)
 | (with_reducible refine RL_nil ⟨by kernel_rfl, hK _ ?_⟩; clear hK K)
 | (with_reducible first | refine AL_seq ?_ | refine AL_skip ?_ | refine AL_nil ?_ | refine SeqQ_n ?_ | refine BlockQ_n ?_)
 | (refine AL_text2 rfl fun K hK => ?_; simp only [List.map])
 | (refine AL_draw2 mixed rfl (by kernel_rfl) fun K hK => ?_; simp only [List.map])
 | (with_reducible refine AL_block ?_)
 | (with_reducible refine AL_exit ?_; simp only [SeqQ, BlockQ, go_sem, seval])
 | (refine Ct rfl ?_)
 | (refine Cf rfl ?_)
 | (refine AL_condb rfl (fun hg => ?_) (fun hg => ?_) <;> ((try simp only [bnq] at hg); (try (have hgp := hg; simp only [bdq] at hgp))))
 | (with_reducible first | refine ite_elimM (fun hg => ?_) (fun hg => ?_) | refine And.intro ?_ ?_)
 | omega)
      exact ⟨n + 1 + 1, by omega, by omega, (weak_t [0, 1] _ _ rfl (by decide) ⟨by decide, by decide⟩ (by simp [go_sem, ]) (by simp [go_sem, ]))⟩
  have hj2 : j < y.succ.length := by simpa using h6
  have hst : decide ((k : Int) ∈ y.succ.take (j + 1)) = (decide ((k : Int) ∈ y.succ.take j) || (y.succ[j] == (k : Int))) := by
    rw [List.take_succ_eq_append_getElem hj2]
    simp only [List.mem_append, List.mem_singleton, Bool.decide_or]
    congr 1
    by_cases e : (k : Int) = y.succ[j]
    · simp [e]
    · simp [e, Ne.symm e]
  cases h7 : decide ((k : Int) ∈ y.succ.take j)
  · rw [h7, Bool.false_or] at hst
    repeat' (first
 | (with_reducible refine Mk_i ?_; try simp (disch := omega) only [go_sem, seval, irw, h6])
 | ((with_reducible first | refine hK' _ _ ?_ | refine hK' _ _ _ ?_); clear hK' K')
 | (with_reducible refine RT_step fun K' hK' => ?_; first | refine R2_n ?_ | refine Rf rfl rfl ?_ | refine Rf' rfl rfl ?_ | refine R2_gu rfl rfl ?_ | refine Rt rfl rfl ?_ | refine R2_g rfl rfl (fun hg => ?_) (fun hg => ?_) rfl)
 | (with_reducible refine RT_nil ?_; refine hK _ ?_; clear hK K)
 | (with_reducible refine MkG_i ?_; (try simp only [bnq] at hg); (try (have hgp := hg; simp only [bdq] at hgp)); try simp (disch := omega) only [go_sem, seval, irw, h6, hg])
 | (with_reducible refine RL_step fun K' hK' => ?_; first | refine L2_n ?_ | refine Lf rfl rfl ?_ | refine Lf' rfl rfl ?_ | refine L2_gu rfl rfl ?_ | refine Lt rfl rfl ?_ | refine L2_g rfl rfl (fun hg => ?_) (fun hg => ?_) rfl)
 | (with_reducible refine RL_nil ⟨by kernel_rfl, hK _ ?_⟩; clear hK K)
 | (with_reducible first | refine AL_seq ?_ | refine AL_skip ?_ | refine AL_nil ?_ | refine SeqQ_n ?_ | refine BlockQ_n ?_)
 | (refine AL_text2 rfl fun K hK => ?_; simp only [List.map])
 | (refine AL_draw2 mixed rfl (by kernel_rfl) fun K hK => ?_; simp only [List.map])
 | (with_reducible refine AL_block ?_)
 | (with_reducible refine AL_exit ?_; simp only [SeqQ, BlockQ, go_sem, seval])
 | (refine Ct rfl ?_)
 | (refine Cf rfl ?_)
 | (refine AL_condb rfl (fun hg => ?_) (fun hg => ?_) <;> ((try simp only [bnq] at hg); (try (have hgp := hg; simp only [bdq] at hgp))))
 | (with_reducible first | refine ite_elimM (fun hg => ?_) (fun hg => ?_) | refine And.intro ?_ ?_)
 | omega)
    exact ⟨j + 1, hj2, by omega, (weak_t [0, 1, 2] _ _ rfl (by decide) ⟨by decide, by decide⟩ (by simp [go_sem, hst]) (by simp [go_sem, hst]))⟩
  · rw [h7, Bool.true_or] at hst
    repeat' (first
 | (with_reducible refine Mk_i ?_; try simp (disch := omega) only [go_sem, seval, irw, h6])
 | ((with_reducible first | refine hK' _ _ ?_ | refine hK' _ _ _ ?_); clear hK' K')
 | (with_reducible refine RT_step fun K' hK' => ?_; first | refine R2_n ?_ | refine Rf rfl rfl ?_ | refine Rf' rfl rfl ?_ | refine R2_gu rfl rfl ?_ | refine Rt rfl rfl ?_ | refine R2_g rfl rfl (fun hg => ?_) (fun hg => ?_) rfl)
 | (with_reducible refine RT_nil ?_; refine hK _ ?_; clear hK K)
 | (with_reducible refine MkG_i ?_; (try simp only [bnq] at hg); (try (have hgp := hg; simp only [bdq] at hgp)); try simp (disch := omega) only [go_sem, seval, irw, h6, hg])
 | (with_reducible refine RL_step fun K' hK' => ?_; first | refine L2_n ?_ | refine Lf rfl rfl ?_ | refine Lf' rfl rfl ?_ | refine L2_gu rfl rfl ?_ | refine Lt rfl rfl ?_ | refine L2_g rfl rfl (fun hg => ?_) (fun hg => ?_) rfl)
 | (with_reducible refine RL_nil ⟨by kernel_rfl, hK _ ?_⟩; clear hK K)
 | (with_reducible first | refine AL_seq ?_ | refine AL_skip ?_ | refine AL_nil ?_ | refine SeqQ_n ?_ | refine BlockQ_n ?_)
 | (refine AL_text2 rfl fun K hK => ?_; simp only [List.map])
 | (refine AL_draw2 mixed rfl (by kernel_rfl) fun K hK => ?_; simp only [List.map])
 | (with_reducible refine AL_block ?_)
 | (with_reducible refine AL_exit ?_; simp only [SeqQ, BlockQ, go_sem, seval])
 | (refine Ct rfl ?_)
 | (refine Cf rfl ?_)
 | (refine AL_condb rfl (fun hg => ?_) (fun hg => ?_) <;> ((try simp only [bnq] at hg); (try (have hgp := hg; simp only [bdq] at hgp))))
 | (with_reducible first | refine ite_elimM (fun hg => ?_) (fun hg => ?_) | refine And.intro ?_ ?_)
 | omega)
    exact ⟨j + 1, hj2, by omega, (weak_t [0, 1, 2] _ _ rfl (by decide) ⟨by decide, by decide⟩ (by simp [go_sem, hst]) (by simp [go_sem, hst]))⟩
end Go.Proofs.YtjlcojgimicfbaaDoor
