/- Proof text of this claim, part 4: The document's word on instructions: may it be, what it sets.. Its conditions are those of the statement: the laid tables as the row lists them. -/
import Derived.Test.YtjlcojgimicfbaaDoorF3
import Derived.Test.YtjlcojgimicfbaaDoorF2
/- The document's word on instructions: may it be, what it sets. -/
namespace Go.Proofs.YtjlcojgimicfbaaDoor
open Go.Am
set_option linter.unusedSimpArgs false
set_option maxRecDepth 100000
set_option maxHeartbeats 4000000
variable {Γ : Nat → Option Obj}

def defI (i : Ins) : Int := if hasP i.kind 100 && formI i then i.dst else -1
theorem c_Def (hB : Blanks Γ) (i : Ins) : Pure Γ Tryd.prog 10 [ins i] (pI (defI i)) := by
  refine pure_of_AW Tryd.func10 rfl (by simp [Tryd.f10]) ?_; refine AL_start ?_; repeat (refine AL_seq ?_)
  refine AL_text (nx := 0) rfl fun K hK => ?_; simp (disch := omega) only [go_sem, seval]; refine hK _ ?_; clear hK K; repeat (first | (refine AL_skip ?_) | (refine AL_seq ?_) | (refine AL_cond_t rfl ?_) | (refine AL_cond_f rfl ?_))
  cases h0 : hasP i.kind 100
  · refine AL_text (nx := 1) rfl fun K hK => ?_
    (repeat (refine RW_cutc 5 fun K' hK' => ?_; (try simp (disch := omega) only [go_sem, seval, h0]); (repeat (first | (refine CallK_pure (c_has hB i 100) en_35 rfl ?_; (try simp (disch := omega) only [go_sem, seval, h0])))); refine hK' _ _ _ ?_; clear hK' K')); (try simp (disch := omega) only [go_sem, seval, h0])
    refine hK _ ?_; clear hK K; repeat (first | (refine AL_skip ?_) | (refine AL_seq ?_) | (refine AL_cond_t rfl ?_) | (refine AL_cond_f rfl ?_))
    refine AL_text (nx := 1) rfl fun K hK => ?_; simp (disch := omega) only [go_sem, seval]; refine hK _ ?_; clear hK K; repeat (first | (refine AL_skip ?_) | (refine AL_seq ?_) | (refine AL_cond_t rfl ?_) | (refine AL_cond_f rfl ?_))
    refine AL_ret (PureQ_ret (by simp [go_sem, defI, h0]) rfl)
  cases h1 : formI i
  · refine AL_text (nx := 1) rfl fun K hK => ?_
    (repeat (refine RW_cutc 5 fun K' hK' => ?_; (try simp (disch := omega) only [go_sem, seval, h0, h1]); (repeat (first | (refine CallK_pure (c_has hB i 100) en_35 rfl ?_; (try simp (disch := omega) only [go_sem, seval, h0, h1])) | (refine CallK_pure (c_Form hB i) en_8 rfl ?_; (try simp (disch := omega) only [go_sem, seval, h0, h1])))); refine hK' _ _ _ ?_; clear hK' K')); (try simp (disch := omega) only [go_sem, seval, h0, h1])
    refine hK _ ?_; clear hK K; repeat (first | (refine AL_skip ?_) | (refine AL_seq ?_) | (refine AL_cond_t rfl ?_) | (refine AL_cond_f rfl ?_))
    refine AL_text (nx := 1) rfl fun K hK => ?_; simp (disch := omega) only [go_sem, seval]; refine hK _ ?_; clear hK K; repeat (first | (refine AL_skip ?_) | (refine AL_seq ?_) | (refine AL_cond_t rfl ?_) | (refine AL_cond_f rfl ?_))
    refine AL_ret (PureQ_ret (by simp [go_sem, defI, h0, h1]) rfl)
  · refine AL_text (nx := 1) rfl fun K hK => ?_
    (repeat (refine RW_cutc 5 fun K' hK' => ?_; (try simp (disch := omega) only [go_sem, seval, h0, h1]); (repeat (first | (refine CallK_pure (c_has hB i 100) en_35 rfl ?_; (try simp (disch := omega) only [go_sem, seval, h0, h1])) | (refine CallK_pure (c_Form hB i) en_8 rfl ?_; (try simp (disch := omega) only [go_sem, seval, h0, h1])))); refine hK' _ _ _ ?_; clear hK' K')); (try simp (disch := omega) only [go_sem, seval, h0, h1])
    refine hK _ ?_; clear hK K; repeat (first | (refine AL_skip ?_) | (refine AL_seq ?_) | (refine AL_cond_t rfl ?_) | (refine AL_cond_f rfl ?_))
    refine AL_text (nx := 1) rfl fun K hK => ?_; simp (disch := omega) only [go_sem, seval]; refine hK _ ?_; clear hK K; repeat (first | (refine AL_skip ?_) | (refine AL_seq ?_) | (refine AL_cond_t rfl ?_) | (refine AL_cond_f rfl ?_))
    refine AL_ret (PureQ_ret (by simp [go_sem, defI, h0, h1]) rfl)

def roff1 (i : Ins) : Bool := decide (i.kind < 0) || decide (9 < i.kind) || decide (i.id < 0) || decide (95 < i.id) || decide (i.n < 0) || decide (3 < i.n)
def roff2 (i : Ins) : Bool := !noneR (hasDstR i.kind) i.dst || !noneR (hasAR i.kind) i.a || !noneR (hasBR i.kind) i.b || !noneR (i.kind == 7) i.f || !noneR (i.kind == 7) i.n
def roff3 (i : Ins) : Bool := (i.kind != 0 && i.c != 0) || decide (i.c < -2147483648) || decide (2147483647 < i.c)
def roff4 (i : Ins) : Bool := !noneR (decide (0 < i.n)) i.x || !noneR (decide (1 < i.n)) i.y || !noneR (decide (2 < i.n)) i.z
def rformI (i : Ins) : Bool := !roff1 i && !roff2 i && !roff3 i && !roff4 i

theorem c_refForm (i : Ins) : Pure Γ Tryd.prog 9 [ins i] (pB (rformI i)) := by
  refine pure_of_AW Tryd.func9 rfl (by simp [Tryd.f9]) ?_; refine AL_start ?_; repeat (refine AL_seq ?_)
  refine AL_text (nx := 0) rfl fun K hK => ?_; simp (disch := omega) only [go_sem, seval]; refine hK _ ?_; clear hK K; repeat (first | (refine AL_skip ?_) | (refine AL_seq ?_) | (refine AL_cond_t rfl ?_) | (refine AL_cond_f rfl ?_))
  refine AL_text (nx := 1) rfl fun K hK => ?_; simp (disch := omega) only [go_sem, seval]; refine hK _ ?_; clear hK K; repeat (first | (refine AL_skip ?_) | (refine AL_seq ?_) | (refine AL_cond_t rfl ?_) | (refine AL_cond_f rfl ?_))
  by_cases h1 : i.kind < 0
  · refine AL_text (nx := 1) rfl fun K hK => ?_
    (repeat (refine RW_cutc 5 fun K' hK' => ?_; (try simp (disch := omega) only [go_sem, seval, h1]); refine hK' _ _ _ ?_; clear hK' K')); (try simp (disch := omega) only [go_sem, seval, h1])
    refine hK _ ?_; clear hK K; repeat (first | (refine AL_skip ?_) | (refine AL_seq ?_) | (refine AL_cond_t rfl ?_) | (refine AL_cond_f rfl ?_))
    refine AL_text (nx := 1) rfl fun K hK => ?_; simp (disch := omega) only [go_sem, seval]; refine hK _ ?_; clear hK K; repeat (first | (refine AL_skip ?_) | (refine AL_seq ?_) | (refine AL_cond_t rfl ?_) | (refine AL_cond_f rfl ?_))
    refine AL_ret (PureQ_ret (by simp [go_sem, rformI, roff1, h1]) rfl)
  by_cases h2 : 9 < i.kind
  · refine AL_text (nx := 1) rfl fun K hK => ?_
    (repeat (refine RW_cutc 5 fun K' hK' => ?_; (try simp (disch := omega) only [go_sem, seval, h1, h2]); refine hK' _ _ _ ?_; clear hK' K')); (try simp (disch := omega) only [go_sem, seval, h1, h2])
    refine hK _ ?_; clear hK K; repeat (first | (refine AL_skip ?_) | (refine AL_seq ?_) | (refine AL_cond_t rfl ?_) | (refine AL_cond_f rfl ?_))
    refine AL_text (nx := 1) rfl fun K hK => ?_; simp (disch := omega) only [go_sem, seval]; refine hK _ ?_; clear hK K; repeat (first | (refine AL_skip ?_) | (refine AL_seq ?_) | (refine AL_cond_t rfl ?_) | (refine AL_cond_f rfl ?_))
    refine AL_ret (PureQ_ret (by simp [go_sem, rformI, roff1, h1, h2]) rfl)
  by_cases h3 : i.id < 0
  · refine AL_text (nx := 1) rfl fun K hK => ?_
    (repeat (refine RW_cutc 5 fun K' hK' => ?_; (try simp (disch := omega) only [go_sem, seval, h1, h2, h3]); refine hK' _ _ _ ?_; clear hK' K')); (try simp (disch := omega) only [go_sem, seval, h1, h2, h3])
    refine hK _ ?_; clear hK K; repeat (first | (refine AL_skip ?_) | (refine AL_seq ?_) | (refine AL_cond_t rfl ?_) | (refine AL_cond_f rfl ?_))
    refine AL_text (nx := 1) rfl fun K hK => ?_; simp (disch := omega) only [go_sem, seval]; refine hK _ ?_; clear hK K; repeat (first | (refine AL_skip ?_) | (refine AL_seq ?_) | (refine AL_cond_t rfl ?_) | (refine AL_cond_f rfl ?_))
    refine AL_ret (PureQ_ret (by simp [go_sem, rformI, roff1, h1, h2, h3]) rfl)
  by_cases h4 : 95 < i.id
  · refine AL_text (nx := 1) rfl fun K hK => ?_
    (repeat (refine RW_cutc 5 fun K' hK' => ?_; (try simp (disch := omega) only [go_sem, seval, h1, h2, h3, h4]); refine hK' _ _ _ ?_; clear hK' K')); (try simp (disch := omega) only [go_sem, seval, h1, h2, h3, h4])
    refine hK _ ?_; clear hK K; repeat (first | (refine AL_skip ?_) | (refine AL_seq ?_) | (refine AL_cond_t rfl ?_) | (refine AL_cond_f rfl ?_))
    refine AL_text (nx := 1) rfl fun K hK => ?_; simp (disch := omega) only [go_sem, seval]; refine hK _ ?_; clear hK K; repeat (first | (refine AL_skip ?_) | (refine AL_seq ?_) | (refine AL_cond_t rfl ?_) | (refine AL_cond_f rfl ?_))
    refine AL_ret (PureQ_ret (by simp [go_sem, rformI, roff1, h1, h2, h3, h4]) rfl)
  by_cases h5 : i.n < 0
  · refine AL_text (nx := 1) rfl fun K hK => ?_
    (repeat (refine RW_cutc 5 fun K' hK' => ?_; (try simp (disch := omega) only [go_sem, seval, h1, h2, h3, h4, h5]); refine hK' _ _ _ ?_; clear hK' K')); (try simp (disch := omega) only [go_sem, seval, h1, h2, h3, h4, h5])
    refine hK _ ?_; clear hK K; repeat (first | (refine AL_skip ?_) | (refine AL_seq ?_) | (refine AL_cond_t rfl ?_) | (refine AL_cond_f rfl ?_))
    refine AL_text (nx := 1) rfl fun K hK => ?_; simp (disch := omega) only [go_sem, seval]; refine hK _ ?_; clear hK K; repeat (first | (refine AL_skip ?_) | (refine AL_seq ?_) | (refine AL_cond_t rfl ?_) | (refine AL_cond_f rfl ?_))
    refine AL_ret (PureQ_ret (by simp [go_sem, rformI, roff1, h1, h2, h3, h4, h5]) rfl)
  by_cases h6 : 3 < i.n
  · refine AL_text (nx := 1) rfl fun K hK => ?_
    (repeat (refine RW_cutc 5 fun K' hK' => ?_; (try simp (disch := omega) only [go_sem, seval, h1, h2, h3, h4, h5, h6]); refine hK' _ _ _ ?_; clear hK' K')); (try simp (disch := omega) only [go_sem, seval, h1, h2, h3, h4, h5, h6])
    refine hK _ ?_; clear hK K; repeat (first | (refine AL_skip ?_) | (refine AL_seq ?_) | (refine AL_cond_t rfl ?_) | (refine AL_cond_f rfl ?_))
    refine AL_text (nx := 1) rfl fun K hK => ?_; simp (disch := omega) only [go_sem, seval]; refine hK _ ?_; clear hK K; repeat (first | (refine AL_skip ?_) | (refine AL_seq ?_) | (refine AL_cond_t rfl ?_) | (refine AL_cond_f rfl ?_))
    refine AL_ret (PureQ_ret (by simp [go_sem, rformI, roff1, h1, h2, h3, h4, h5, h6]) rfl)
  refine AL_text (nx := 1) rfl fun K hK => ?_
  (repeat (refine RW_cutc 5 fun K' hK' => ?_; (try simp (disch := omega) only [go_sem, seval, h1, h2, h3, h4, h5, h6]); refine hK' _ _ _ ?_; clear hK' K')); (try simp (disch := omega) only [go_sem, seval, h1, h2, h3, h4, h5, h6])
  refine hK _ ?_; clear hK K; repeat (first | (refine AL_skip ?_) | (refine AL_seq ?_) | (refine AL_cond_t rfl ?_) | (refine AL_cond_f rfl ?_))
  have hr1 : roff1 i = false := by simp [roff1, h1, h2, h3, h4, h5, h6]
  clear h1 h2 h3 h4 h5 h6
  refine AL_weak (st2 := ⟨ofA [(1, .op 11 0 0 0), (3, pI i.kind)], ofO [some (.rows 11 [i.cells])]⟩) (weak_sub [0] _ _ rfl (by decide) ⟨by decide, by decide⟩ (by simp [go_sem]) (by simp [go_sem])) ?_ (by simp)
  refine AL_draw (nx := 1) mixed rfl (by kernel_rfl) fun K hK => ?_
  by_cases h1 : noneR (hasDstR i.kind) i.dst = false
  · (repeat (refine RW_cutc 5 fun K' hK' => ?_; (try simp (disch := omega) only [go_sem, seval, h1]); (repeat (first | (refine CallK_pure (c_none _ _) en_31 rfl ?_; (try simp (disch := omega) only [go_sem, seval, h1])) | (refine CallK_pure (c_hasDst _) en_32 rfl ?_; (try simp (disch := omega) only [go_sem, seval, h1])) | (refine CallK_pure (c_hasA _) en_33 rfl ?_; (try simp (disch := omega) only [go_sem, seval, h1])) | (refine CallK_pure (c_hasB _) en_34 rfl ?_; (try simp (disch := omega) only [go_sem, seval, h1])))); refine hK' _ _ _ ?_; clear hK' K')); (try simp (disch := omega) only [go_sem, seval, h1])
    refine ⟨by kernel_rfl, hK _ ?_⟩; clear hK K; repeat (first | (refine AL_skip ?_) | (refine AL_seq ?_) | (refine AL_cond_t rfl ?_) | (refine AL_cond_f rfl ?_))
    refine AL_text (nx := 1) rfl fun K hK => ?_; simp (disch := omega) only [go_sem, seval]; refine hK _ ?_; clear hK K; repeat (first | (refine AL_skip ?_) | (refine AL_seq ?_) | (refine AL_cond_t rfl ?_) | (refine AL_cond_f rfl ?_))
    refine AL_ret (PureQ_ret (by simp [go_sem, rformI, roff2, h1]) rfl)
  rw [Bool.not_eq_false] at h1
  by_cases h2 : noneR (hasAR i.kind) i.a = false
  · (repeat (refine RW_cutc 5 fun K' hK' => ?_; (try simp (disch := omega) only [go_sem, seval, h1, h2]); (repeat (first | (refine CallK_pure (c_none _ _) en_31 rfl ?_; (try simp (disch := omega) only [go_sem, seval, h1, h2])) | (refine CallK_pure (c_hasDst _) en_32 rfl ?_; (try simp (disch := omega) only [go_sem, seval, h1, h2])) | (refine CallK_pure (c_hasA _) en_33 rfl ?_; (try simp (disch := omega) only [go_sem, seval, h1, h2])) | (refine CallK_pure (c_hasB _) en_34 rfl ?_; (try simp (disch := omega) only [go_sem, seval, h1, h2])))); refine hK' _ _ _ ?_; clear hK' K')); (try simp (disch := omega) only [go_sem, seval, h1, h2])
    refine ⟨by kernel_rfl, hK _ ?_⟩; clear hK K; repeat (first | (refine AL_skip ?_) | (refine AL_seq ?_) | (refine AL_cond_t rfl ?_) | (refine AL_cond_f rfl ?_))
    refine AL_text (nx := 1) rfl fun K hK => ?_; simp (disch := omega) only [go_sem, seval]; refine hK _ ?_; clear hK K; repeat (first | (refine AL_skip ?_) | (refine AL_seq ?_) | (refine AL_cond_t rfl ?_) | (refine AL_cond_f rfl ?_))
    refine AL_ret (PureQ_ret (by simp [go_sem, rformI, roff2, h1, h2]) rfl)
  rw [Bool.not_eq_false] at h2
  by_cases h3 : noneR (hasBR i.kind) i.b = false
  · (repeat (refine RW_cutc 5 fun K' hK' => ?_; (try simp (disch := omega) only [go_sem, seval, h1, h2, h3]); (repeat (first | (refine CallK_pure (c_none _ _) en_31 rfl ?_; (try simp (disch := omega) only [go_sem, seval, h1, h2, h3])) | (refine CallK_pure (c_hasDst _) en_32 rfl ?_; (try simp (disch := omega) only [go_sem, seval, h1, h2, h3])) | (refine CallK_pure (c_hasA _) en_33 rfl ?_; (try simp (disch := omega) only [go_sem, seval, h1, h2, h3])) | (refine CallK_pure (c_hasB _) en_34 rfl ?_; (try simp (disch := omega) only [go_sem, seval, h1, h2, h3])))); refine hK' _ _ _ ?_; clear hK' K')); (try simp (disch := omega) only [go_sem, seval, h1, h2, h3])
    refine ⟨by kernel_rfl, hK _ ?_⟩; clear hK K; repeat (first | (refine AL_skip ?_) | (refine AL_seq ?_) | (refine AL_cond_t rfl ?_) | (refine AL_cond_f rfl ?_))
    refine AL_text (nx := 1) rfl fun K hK => ?_; simp (disch := omega) only [go_sem, seval]; refine hK _ ?_; clear hK K; repeat (first | (refine AL_skip ?_) | (refine AL_seq ?_) | (refine AL_cond_t rfl ?_) | (refine AL_cond_f rfl ?_))
    refine AL_ret (PureQ_ret (by simp [go_sem, rformI, roff2, h1, h2, h3]) rfl)
  rw [Bool.not_eq_false] at h3
  by_cases h4 : noneR (i.kind == 7) i.f = false
  · (repeat (refine RW_cutc 5 fun K' hK' => ?_; (try simp (disch := omega) only [go_sem, seval, h1, h2, h3, h4]); (repeat (first | (refine CallK_pure (c_none _ _) en_31 rfl ?_; (try simp (disch := omega) only [go_sem, seval, h1, h2, h3, h4])) | (refine CallK_pure (c_hasDst _) en_32 rfl ?_; (try simp (disch := omega) only [go_sem, seval, h1, h2, h3, h4])) | (refine CallK_pure (c_hasA _) en_33 rfl ?_; (try simp (disch := omega) only [go_sem, seval, h1, h2, h3, h4])) | (refine CallK_pure (c_hasB _) en_34 rfl ?_; (try simp (disch := omega) only [go_sem, seval, h1, h2, h3, h4])))); refine hK' _ _ _ ?_; clear hK' K')); (try simp (disch := omega) only [go_sem, seval, h1, h2, h3, h4])
    refine ⟨by kernel_rfl, hK _ ?_⟩; clear hK K; repeat (first | (refine AL_skip ?_) | (refine AL_seq ?_) | (refine AL_cond_t rfl ?_) | (refine AL_cond_f rfl ?_))
    refine AL_text (nx := 1) rfl fun K hK => ?_; simp (disch := omega) only [go_sem, seval]; refine hK _ ?_; clear hK K; repeat (first | (refine AL_skip ?_) | (refine AL_seq ?_) | (refine AL_cond_t rfl ?_) | (refine AL_cond_f rfl ?_))
    refine AL_ret (PureQ_ret (by simp [go_sem, rformI, roff2, h1, h2, h3, h4]) rfl)
  rw [Bool.not_eq_false] at h4
  by_cases h5 : noneR (i.kind == 7) i.n = false
  · (repeat (refine RW_cutc 5 fun K' hK' => ?_; (try simp (disch := omega) only [go_sem, seval, h1, h2, h3, h4, h5]); (repeat (first | (refine CallK_pure (c_none _ _) en_31 rfl ?_; (try simp (disch := omega) only [go_sem, seval, h1, h2, h3, h4, h5])) | (refine CallK_pure (c_hasDst _) en_32 rfl ?_; (try simp (disch := omega) only [go_sem, seval, h1, h2, h3, h4, h5])) | (refine CallK_pure (c_hasA _) en_33 rfl ?_; (try simp (disch := omega) only [go_sem, seval, h1, h2, h3, h4, h5])) | (refine CallK_pure (c_hasB _) en_34 rfl ?_; (try simp (disch := omega) only [go_sem, seval, h1, h2, h3, h4, h5])))); refine hK' _ _ _ ?_; clear hK' K')); (try simp (disch := omega) only [go_sem, seval, h1, h2, h3, h4, h5])
    refine ⟨by kernel_rfl, hK _ ?_⟩; clear hK K; repeat (first | (refine AL_skip ?_) | (refine AL_seq ?_) | (refine AL_cond_t rfl ?_) | (refine AL_cond_f rfl ?_))
    refine AL_text (nx := 1) rfl fun K hK => ?_; simp (disch := omega) only [go_sem, seval]; refine hK _ ?_; clear hK K; repeat (first | (refine AL_skip ?_) | (refine AL_seq ?_) | (refine AL_cond_t rfl ?_) | (refine AL_cond_f rfl ?_))
    refine AL_ret (PureQ_ret (by simp [go_sem, rformI, roff2, h1, h2, h3, h4, h5]) rfl)
  rw [Bool.not_eq_false] at h5
  (repeat (refine RW_cutc 5 fun K' hK' => ?_; (try simp (disch := omega) only [go_sem, seval, h1, h2, h3, h4, h5]); (repeat (first | (refine CallK_pure (c_none _ _) en_31 rfl ?_; (try simp (disch := omega) only [go_sem, seval, h1, h2, h3, h4, h5])) | (refine CallK_pure (c_hasDst _) en_32 rfl ?_; (try simp (disch := omega) only [go_sem, seval, h1, h2, h3, h4, h5])) | (refine CallK_pure (c_hasA _) en_33 rfl ?_; (try simp (disch := omega) only [go_sem, seval, h1, h2, h3, h4, h5])) | (refine CallK_pure (c_hasB _) en_34 rfl ?_; (try simp (disch := omega) only [go_sem, seval, h1, h2, h3, h4, h5])))); refine hK' _ _ _ ?_; clear hK' K')); (try simp (disch := omega) only [go_sem, seval, h1, h2, h3, h4, h5])
  refine ⟨by kernel_rfl, hK _ ?_⟩; clear hK K; repeat (first | (refine AL_skip ?_) | (refine AL_seq ?_) | (refine AL_cond_t rfl ?_) | (refine AL_cond_f rfl ?_))
  have hr2 : roff2 i = false := by simp [roff2, h1, h2, h3, h4, h5]
  clear h1 h2 h3 h4 h5
  refine AL_weak (st2 := ⟨ofA [(1, .op 11 0 0 0), (3, pI i.kind)], ofO [some (.rows 11 [i.cells])]⟩) (weak_sub [0] _ _ rfl (by decide) ⟨by decide, by decide⟩ (by simp [go_sem]) (by simp [go_sem])) ?_ (by simp)
  refine AL_cut (fun _ : Unit => ⟨ofA [(1, .op 11 0 0 0), (87, pB (roff3 i))], ofO [some (.rows 11 [i.cells])]⟩) (fun _ => True) ?_ ?_
  · cases hk : (i.kind != 0)
    · by_cases h1 : i.c < -2147483648
      · refine AL_text (nx := 1) rfl fun K hK => ?_
        (repeat (refine RW_cutc 5 fun K' hK' => ?_; (try simp (disch := omega) only [go_sem, seval, hk, h1]); refine hK' _ _ _ ?_; clear hK' K')); (try simp (disch := omega) only [go_sem, seval, hk, h1])
        refine hK _ ?_; clear hK K; repeat (first | (refine AL_skip ?_) | (refine AL_seq ?_) | (refine AL_cond_t rfl ?_) | (refine AL_cond_f rfl ?_))
        exact AL_cutend ⟨(), trivial, weak_sub [0] _ _ rfl (by decide) ⟨by decide, by decide⟩ (by simp [go_sem]) (by simp [go_sem, roff3, hk, h1])⟩
      · refine AL_text (nx := 1) rfl fun K hK => ?_
        (repeat (refine RW_cutc 5 fun K' hK' => ?_; (try simp (disch := omega) only [go_sem, seval, hk, h1]); refine hK' _ _ _ ?_; clear hK' K')); (try simp (disch := omega) only [go_sem, seval, hk, h1])
        refine hK _ ?_; clear hK K; repeat (first | (refine AL_skip ?_) | (refine AL_seq ?_) | (refine AL_cond_t rfl ?_) | (refine AL_cond_f rfl ?_))
        exact AL_cutend ⟨(), trivial, weak_sub [0] _ _ rfl (by decide) ⟨by decide, by decide⟩ (by simp [go_sem]) (by simp [go_sem, roff3, hk, h1])⟩
    · cases hc : (i.c != 0)
      · have h0 : i.c = 0 := by simpa using hc
        have h1 : ¬ i.c < -2147483648 := by omega
        have h2 : ¬ 2147483647 < i.c := by omega
        refine AL_text (nx := 1) rfl fun K hK => ?_
        (repeat (refine RW_cutc 5 fun K' hK' => ?_; (try simp (disch := omega) only [go_sem, seval, hk, hc, h1, h2]); refine hK' _ _ _ ?_; clear hK' K')); (try simp (disch := omega) only [go_sem, seval, hk, hc, h1, h2])
        refine hK _ ?_; clear hK K; repeat (first | (refine AL_skip ?_) | (refine AL_seq ?_) | (refine AL_cond_t rfl ?_) | (refine AL_cond_f rfl ?_))
        exact AL_cutend ⟨(), trivial, weak_sub [0] _ _ rfl (by decide) ⟨by decide, by decide⟩ (by simp [go_sem]) (by simp [go_sem, roff3, h0])⟩
      · refine AL_text (nx := 1) rfl fun K hK => ?_
        (repeat (refine RW_cutc 5 fun K' hK' => ?_; (try simp (disch := omega) only [go_sem, seval, hk, hc]); refine hK' _ _ _ ?_; clear hK' K')); (try simp (disch := omega) only [go_sem, seval, hk, hc])
        refine hK _ ?_; clear hK K; repeat (first | (refine AL_skip ?_) | (refine AL_seq ?_) | (refine AL_cond_t rfl ?_) | (refine AL_cond_f rfl ?_))
        exact AL_cutend ⟨(), trivial, weak_sub [0] _ _ rfl (by decide) ⟨by decide, by decide⟩ (by simp [go_sem]) (by simp [go_sem, roff3, hk, hc])⟩
  rintro ⟨⟩ _
  cases hr3 : roff3 i
  · repeat (first | (refine AL_skip ?_) | (refine AL_seq ?_) | (refine AL_cond_t rfl ?_) | (refine AL_cond_f rfl ?_))
    refine AL_text (nx := 1) rfl fun K hK => ?_; simp (disch := omega) only [go_sem, seval]; refine hK _ ?_; clear hK K; repeat (first | (refine AL_skip ?_) | (refine AL_seq ?_) | (refine AL_cond_t rfl ?_) | (refine AL_cond_f rfl ?_))
    refine AL_block ?_
    refine AL_loop (fun k : Nat => ⟨ofA [(1, .op 11 0 0 0), (4, pI k)], ofO [some (.rows 11 [i.cells])]⟩)
      (fun k => k ≤ 3 ∧ (1 ≤ k → noneR (decide (0 < i.n)) i.x = true) ∧ (2 ≤ k → noneR (decide (1 < i.n)) i.y = true) ∧ (3 ≤ k → noneR (decide (2 < i.n)) i.z = true)) (fun k => 3 - k) 0 ⟨by omega, by omega, by omega, by omega⟩ (weak_sub [0] _ _ rfl (by decide) ⟨by decide, by decide⟩ (by simp [go_sem]) (by simp [go_sem])) ?_
    rintro k ⟨hk, hx, hy, hz⟩
    have h4 : k = 0 ∨ k = 1 ∨ k = 2 ∨ k = 3 := by omega
    repeat (refine AL_seq ?_)
    rcases h4 with rfl | rfl | rfl | rfl
    · refine AL_text (nx := 1) rfl fun K hK => ?_
      simp (disch := omega) only [go_sem, seval]
      refine hK _ ?_; clear hK K; repeat (first | (refine AL_skip ?_) | (refine AL_seq ?_) | (refine AL_cond_t rfl ?_) | (refine AL_cond_f rfl ?_))
      refine AL_block ?_
      repeat (refine AL_seq ?_)
      cases hq : noneR (decide ((0 : Int) < i.n)) i.x
      · refine AL_draw (nx := 1) mixed rfl (by kernel_rfl) fun K hK => ?_
        (repeat (refine RW_cutc 5 fun K' hK' => ?_; (try simp (disch := omega) only [go_sem, seval, hq]); (repeat (first | (refine CallK_pure (c_none _ _) en_31 rfl ?_; (try simp (disch := omega) only [go_sem, seval, hq])))); refine hK' _ _ _ ?_; clear hK' K')); (try simp (disch := omega) only [go_sem, seval, hq])
        refine ⟨by kernel_rfl, hK _ ?_⟩; clear hK K; repeat (first | (refine AL_skip ?_) | (refine AL_seq ?_) | (refine AL_cond_t rfl ?_) | (refine AL_cond_f rfl ?_))
        refine AL_text (nx := 1) rfl fun K hK => ?_; simp (disch := omega) only [go_sem, seval]; refine hK _ ?_; clear hK K; repeat (first | (refine AL_skip ?_) | (refine AL_seq ?_) | (refine AL_cond_t rfl ?_) | (refine AL_cond_f rfl ?_))
        refine AL_ret (PureQ_ret (by simp [go_sem, rformI, roff4, hq]) rfl)
      · refine AL_draw (nx := 1) mixed rfl (by kernel_rfl) fun K hK => ?_
        (repeat (refine RW_cutc 5 fun K' hK' => ?_; (try simp (disch := omega) only [go_sem, seval, hq]); (repeat (first | (refine CallK_pure (c_none _ _) en_31 rfl ?_; (try simp (disch := omega) only [go_sem, seval, hq])))); refine hK' _ _ _ ?_; clear hK' K')); (try simp (disch := omega) only [go_sem, seval, hq])
        refine ⟨by kernel_rfl, hK _ ?_⟩; clear hK K; repeat (first | (refine AL_skip ?_) | (refine AL_seq ?_) | (refine AL_cond_t rfl ?_) | (refine AL_cond_f rfl ?_))
        refine AL_text (nx := 1) rfl fun K hK => ?_; simp (disch := omega) only [go_sem, seval]; refine hK _ ?_; clear hK K; repeat (first | (refine AL_skip ?_) | (refine AL_seq ?_) | (refine AL_cond_t rfl ?_) | (refine AL_cond_f rfl ?_))
        exact AL_round ⟨1, ⟨by omega, fun _ => rfl, by omega, by omega⟩, by omega, weak_sub [0] _ _ rfl (by decide) ⟨by decide, by decide⟩ (by simp [go_sem]) (by first | (simp [go_sem]; done) | (simp [go_sem]; decide))⟩
    · refine AL_text (nx := 1) rfl fun K hK => ?_
      simp (disch := omega) only [go_sem, seval]
      refine hK _ ?_; clear hK K; repeat (first | (refine AL_skip ?_) | (refine AL_seq ?_) | (refine AL_cond_t rfl ?_) | (refine AL_cond_f rfl ?_))
      refine AL_block ?_
      repeat (refine AL_seq ?_)
      cases hq : noneR (decide ((1 : Int) < i.n)) i.y
      · refine AL_draw (nx := 1) mixed rfl (by kernel_rfl) fun K hK => ?_
        (repeat (refine RW_cutc 5 fun K' hK' => ?_; (try simp (disch := omega) only [go_sem, seval, hq]); (repeat (first | (refine CallK_pure (c_none _ _) en_31 rfl ?_; (try simp (disch := omega) only [go_sem, seval, hq])))); refine hK' _ _ _ ?_; clear hK' K')); (try simp (disch := omega) only [go_sem, seval, hq])
        refine ⟨by kernel_rfl, hK _ ?_⟩; clear hK K; repeat (first | (refine AL_skip ?_) | (refine AL_seq ?_) | (refine AL_cond_t rfl ?_) | (refine AL_cond_f rfl ?_))
        refine AL_text (nx := 1) rfl fun K hK => ?_; simp (disch := omega) only [go_sem, seval]; refine hK _ ?_; clear hK K; repeat (first | (refine AL_skip ?_) | (refine AL_seq ?_) | (refine AL_cond_t rfl ?_) | (refine AL_cond_f rfl ?_))
        refine AL_ret (PureQ_ret (by simp [go_sem, rformI, roff4, hq]) rfl)
      · refine AL_draw (nx := 1) mixed rfl (by kernel_rfl) fun K hK => ?_
        (repeat (refine RW_cutc 5 fun K' hK' => ?_; (try simp (disch := omega) only [go_sem, seval, hq]); (repeat (first | (refine CallK_pure (c_none _ _) en_31 rfl ?_; (try simp (disch := omega) only [go_sem, seval, hq])))); refine hK' _ _ _ ?_; clear hK' K')); (try simp (disch := omega) only [go_sem, seval, hq])
        refine ⟨by kernel_rfl, hK _ ?_⟩; clear hK K; repeat (first | (refine AL_skip ?_) | (refine AL_seq ?_) | (refine AL_cond_t rfl ?_) | (refine AL_cond_f rfl ?_))
        refine AL_text (nx := 1) rfl fun K hK => ?_; simp (disch := omega) only [go_sem, seval]; refine hK _ ?_; clear hK K; repeat (first | (refine AL_skip ?_) | (refine AL_seq ?_) | (refine AL_cond_t rfl ?_) | (refine AL_cond_f rfl ?_))
        exact AL_round ⟨2, ⟨by omega, fun _ => hx (by omega), fun _ => rfl, by omega⟩, by omega, weak_sub [0] _ _ rfl (by decide) ⟨by decide, by decide⟩ (by simp [go_sem]) (by first | (simp [go_sem]; done) | (simp [go_sem]; decide))⟩
    · refine AL_text (nx := 1) rfl fun K hK => ?_
      simp (disch := omega) only [go_sem, seval]
      refine hK _ ?_; clear hK K; repeat (first | (refine AL_skip ?_) | (refine AL_seq ?_) | (refine AL_cond_t rfl ?_) | (refine AL_cond_f rfl ?_))
      refine AL_block ?_
      repeat (refine AL_seq ?_)
      cases hq : noneR (decide ((2 : Int) < i.n)) i.z
      · refine AL_draw (nx := 1) mixed rfl (by kernel_rfl) fun K hK => ?_
        (repeat (refine RW_cutc 5 fun K' hK' => ?_; (try simp (disch := omega) only [go_sem, seval, hq]); (repeat (first | (refine CallK_pure (c_none _ _) en_31 rfl ?_; (try simp (disch := omega) only [go_sem, seval, hq])))); refine hK' _ _ _ ?_; clear hK' K')); (try simp (disch := omega) only [go_sem, seval, hq])
        refine ⟨by kernel_rfl, hK _ ?_⟩; clear hK K; repeat (first | (refine AL_skip ?_) | (refine AL_seq ?_) | (refine AL_cond_t rfl ?_) | (refine AL_cond_f rfl ?_))
        refine AL_text (nx := 1) rfl fun K hK => ?_; simp (disch := omega) only [go_sem, seval]; refine hK _ ?_; clear hK K; repeat (first | (refine AL_skip ?_) | (refine AL_seq ?_) | (refine AL_cond_t rfl ?_) | (refine AL_cond_f rfl ?_))
        refine AL_ret (PureQ_ret (by simp [go_sem, rformI, roff4, hq]) rfl)
      · refine AL_draw (nx := 1) mixed rfl (by kernel_rfl) fun K hK => ?_
        (repeat (refine RW_cutc 5 fun K' hK' => ?_; (try simp (disch := omega) only [go_sem, seval, hq]); (repeat (first | (refine CallK_pure (c_none _ _) en_31 rfl ?_; (try simp (disch := omega) only [go_sem, seval, hq])))); refine hK' _ _ _ ?_; clear hK' K')); (try simp (disch := omega) only [go_sem, seval, hq])
        refine ⟨by kernel_rfl, hK _ ?_⟩; clear hK K; repeat (first | (refine AL_skip ?_) | (refine AL_seq ?_) | (refine AL_cond_t rfl ?_) | (refine AL_cond_f rfl ?_))
        refine AL_text (nx := 1) rfl fun K hK => ?_; simp (disch := omega) only [go_sem, seval]; refine hK _ ?_; clear hK K; repeat (first | (refine AL_skip ?_) | (refine AL_seq ?_) | (refine AL_cond_t rfl ?_) | (refine AL_cond_f rfl ?_))
        exact AL_round ⟨3, ⟨by omega, fun _ => hx (by omega), fun _ => hy (by omega), fun _ => rfl⟩, by omega, weak_sub [0] _ _ rfl (by decide) ⟨by decide, by decide⟩ (by simp [go_sem]) (by first | (simp [go_sem]; done) | (simp [go_sem]; decide))⟩
    · refine AL_text (nx := 1) rfl fun K hK => ?_
      simp (disch := omega) only [go_sem, seval]
      refine hK _ ?_; clear hK K; repeat (first | (refine AL_skip ?_) | (refine AL_seq ?_) | (refine AL_cond_t rfl ?_) | (refine AL_cond_f rfl ?_))
      refine AL_exit ?_; simp only [SeqQ, BlockQ, ↓reduceIte, Nat.reduceEqDiff]; repeat (first | (refine AL_skip ?_) | (refine AL_seq ?_) | (refine AL_cond_t rfl ?_) | (refine AL_cond_f rfl ?_))
      refine AL_text (nx := 1) rfl fun K hK => ?_; simp (disch := omega) only [go_sem, seval]; refine hK _ ?_; clear hK K; repeat (first | (refine AL_skip ?_) | (refine AL_seq ?_) | (refine AL_cond_t rfl ?_) | (refine AL_cond_f rfl ?_))
      refine AL_ret (PureQ_ret (by simp [go_sem, rformI, hr1, hr2, hr3, roff4, hx (by omega), hy (by omega), hz (by omega)]) rfl)
  · repeat (first | (refine AL_skip ?_) | (refine AL_seq ?_) | (refine AL_cond_t rfl ?_) | (refine AL_cond_f rfl ?_))
    refine AL_text (nx := 1) rfl fun K hK => ?_; simp (disch := omega) only [go_sem, seval]; refine hK _ ?_; clear hK K; repeat (first | (refine AL_skip ?_) | (refine AL_seq ?_) | (refine AL_cond_t rfl ?_) | (refine AL_cond_f rfl ?_))
    refine AL_ret (PureQ_ret (by simp [go_sem, rformI, hr3]) rfl)
end Go.Proofs.YtjlcojgimicfbaaDoor
/- What an instruction sets and reads. -/
namespace Go.Proofs.YtjlcojgimicfbaaDoor
open Go.Am
set_option linter.unusedSimpArgs false
set_option maxRecDepth 100000
set_option maxHeartbeats 4000000
variable {Γ : Nat → Option Obj}

def rdefI (i : Ins) : Int := if rformI i && hasDstR i.kind then i.dst else -1
theorem c_refDef (i : Ins) : Pure Γ Tryd.prog 11 [ins i] (pI (rdefI i)) := by
  refine pure_of_AW Tryd.func11 rfl (by simp [Tryd.f11]) ?_; refine AL_start ?_; repeat (refine AL_seq ?_)
  refine AL_text (nx := 0) rfl fun K hK => ?_; simp (disch := omega) only [go_sem, seval]; refine hK _ ?_; clear hK K; repeat (first | (refine AL_skip ?_) | (refine AL_seq ?_) | (refine AL_cond_t rfl ?_) | (refine AL_cond_f rfl ?_))
  cases h0 : rformI i
  · refine AL_text (nx := 1) rfl fun K hK => ?_
    (repeat (refine RW_cutc 5 fun K' hK' => ?_; (try simp (disch := omega) only [go_sem, seval, h0]); (repeat (first | (refine CallK_pure (c_refForm i) en_9 rfl ?_; (try simp (disch := omega) only [go_sem, seval, h0])))); refine hK' _ _ _ ?_; clear hK' K')); (try simp (disch := omega) only [go_sem, seval, h0])
    refine hK _ ?_; clear hK K; repeat (first | (refine AL_skip ?_) | (refine AL_seq ?_) | (refine AL_cond_t rfl ?_) | (refine AL_cond_f rfl ?_))
    refine AL_text (nx := 1) rfl fun K hK => ?_; simp (disch := omega) only [go_sem, seval]; refine hK _ ?_; clear hK K; repeat (first | (refine AL_skip ?_) | (refine AL_seq ?_) | (refine AL_cond_t rfl ?_) | (refine AL_cond_f rfl ?_))
    refine AL_ret (PureQ_ret (by simp [go_sem, rdefI, h0]) rfl)
  cases h1 : hasDstR i.kind
  · refine AL_text (nx := 1) rfl fun K hK => ?_
    (repeat (refine RW_cutc 5 fun K' hK' => ?_; (try simp (disch := omega) only [go_sem, seval, h0, h1]); (repeat (first | (refine CallK_pure (c_refForm i) en_9 rfl ?_; (try simp (disch := omega) only [go_sem, seval, h0, h1])) | (refine CallK_pure (c_hasDst _) en_32 rfl ?_; (try simp (disch := omega) only [go_sem, seval, h0, h1])))); refine hK' _ _ _ ?_; clear hK' K')); (try simp (disch := omega) only [go_sem, seval, h0, h1])
    refine hK _ ?_; clear hK K; repeat (first | (refine AL_skip ?_) | (refine AL_seq ?_) | (refine AL_cond_t rfl ?_) | (refine AL_cond_f rfl ?_))
    refine AL_text (nx := 1) rfl fun K hK => ?_; simp (disch := omega) only [go_sem, seval]; refine hK _ ?_; clear hK K; repeat (first | (refine AL_skip ?_) | (refine AL_seq ?_) | (refine AL_cond_t rfl ?_) | (refine AL_cond_f rfl ?_))
    refine AL_ret (PureQ_ret (by simp [go_sem, rdefI, h0, h1]) rfl)
  · refine AL_text (nx := 1) rfl fun K hK => ?_
    (repeat (refine RW_cutc 5 fun K' hK' => ?_; (try simp (disch := omega) only [go_sem, seval, h0, h1]); (repeat (first | (refine CallK_pure (c_refForm i) en_9 rfl ?_; (try simp (disch := omega) only [go_sem, seval, h0, h1])) | (refine CallK_pure (c_hasDst _) en_32 rfl ?_; (try simp (disch := omega) only [go_sem, seval, h0, h1])))); refine hK' _ _ _ ?_; clear hK' K')); (try simp (disch := omega) only [go_sem, seval, h0, h1])
    refine hK _ ?_; clear hK K; repeat (first | (refine AL_skip ?_) | (refine AL_seq ?_) | (refine AL_cond_t rfl ?_) | (refine AL_cond_f rfl ?_))
    refine AL_text (nx := 1) rfl fun K hK => ?_; simp (disch := omega) only [go_sem, seval]; refine hK _ ?_; clear hK K; repeat (first | (refine AL_skip ?_) | (refine AL_seq ?_) | (refine AL_cond_t rfl ?_) | (refine AL_cond_f rfl ?_))
    refine AL_ret (PureQ_ret (by simp [go_sem, rdefI, h0, h1]) rfl)

/-- With a number, if it is not there: the block that is handed in lives on, or dies for a new one. -/
def addL (l : List Int) (n : Int) : List Int := if n ∈ l then l else l ++ [n]

theorem ec_add_in (l : List Int) (n : Int) (hn : n ∈ l) : EC Γ Tryd.prog 37 [.os 1 0 0 l.length, pI n] [.rows 1 (iRows l)] (.os 1 0 0 l.length) [some (.rows 1 (iRows l))] := by
  refine ec_of_AL 1 rfl Tryd.func37 rfl (by simp [Tryd.f37]) ?_; repeat (refine AL_seq ?_)
  refine AL_len_os 0 rfl fun hlen => ?_
  refine AL_text (nx := 1) rfl fun K hK => ?_; simp (disch := omega) only [go_sem, seval]; refine hK _ ?_; clear hK K; repeat (first | (refine AL_skip ?_) | (refine AL_seq ?_) | (refine AL_cond_t rfl ?_) | (refine AL_cond_f rfl ?_))
  refine AL_text (nx := 1) rfl fun K hK => ?_; simp (disch := omega) only [go_sem, seval]; refine hK _ ?_; clear hK K; repeat (first | (refine AL_skip ?_) | (refine AL_seq ?_) | (refine AL_cond_t rfl ?_) | (refine AL_cond_f rfl ?_))
  refine AL_block ?_
  refine AL_loop (fun k : Nat => ⟨ofA [(0, .os 1 0 0 l.length), (1, pI n), (5, pI k)], ofO [some (.rows 1 (iRows l))]⟩) (fun k => k ≤ l.length ∧ n ∉ l.take k) (fun k => l.length - k) 0 ⟨by omega, by simp⟩ (weak_sub [0] _ _ rfl (by decide) ⟨by decide, by decide⟩ (by simp [go_sem]) (by simp [go_sem])) ?_
  rintro k ⟨hk, hnk⟩
  repeat (refine AL_seq ?_)
  refine AL_text (nx := 1) rfl fun K hK => ?_
  by_cases h1 : k < l.length
  · have h2 : (k : Int) < (l.length : Int) := by omega
    simp (disch := omega) only [go_sem, seval, h2]
    refine hK _ ?_; clear hK K; repeat (first | (refine AL_skip ?_) | (refine AL_seq ?_) | (refine AL_cond_t rfl ?_) | (refine AL_cond_f rfl ?_))
    refine AL_block ?_
    repeat (refine AL_seq ?_)
    refine AL_text (nx := 1) rfl fun K hK => ?_
    have h3 := row_get h1
    have hs := wrap_succ (k := k) (by omega)
    by_cases h4 : l[k] = n
    · have h5 : (l[k] == n) = true := by simpa using h4
      simp (disch := omega) only [go_sem, seval, h2, h3, h5, Nat.zero_add]
      refine hK _ ?_; clear hK K; repeat (first | (refine AL_skip ?_) | (refine AL_seq ?_) | (refine AL_cond_t rfl ?_) | (refine AL_cond_f rfl ?_))
      refine AL_text (nx := 1) rfl fun K hK => ?_; simp (disch := omega) only [go_sem, seval]; refine hK _ ?_; clear hK K; repeat (first | (refine AL_skip ?_) | (refine AL_seq ?_) | (refine AL_cond_t rfl ?_) | (refine AL_cond_f rfl ?_))
      refine AL_weak (st2 := ⟨ofA [(4, .os 1 0 0 l.length)], ofO [some (.rows 1 (iRows l))]⟩) (weak_sub [0] _ _ rfl (by decide) ⟨by decide, by decide⟩ (by simp [go_sem]) (by simp [go_sem])) ?_ (by simp)
      refine AL_ret (ECQ_ret rfl (by simp (disch := omega) only [go_sem, seval] <;> rfl))
    · have h5 : (l[k] == n) = false := by simpa using h4
      simp (disch := omega) only [go_sem, seval, h2, h3, h5, Nat.zero_add]
      refine hK _ ?_; clear hK K; repeat (first | (refine AL_skip ?_) | (refine AL_seq ?_) | (refine AL_cond_t rfl ?_) | (refine AL_cond_f rfl ?_))
      refine AL_text (nx := 1) rfl fun K hK => ?_
      simp (disch := omega) only [go_sem, seval, hs]
      refine hK _ ?_; clear hK K; repeat (first | (refine AL_skip ?_) | (refine AL_seq ?_) | (refine AL_cond_t rfl ?_) | (refine AL_cond_f rfl ?_))
      refine AL_round ⟨k + 1, ⟨by omega, ?_⟩, by omega, (weak_sub [0] _ _ rfl (by decide) ⟨by decide, by decide⟩ (by simp [go_sem]) (by simp [go_sem]))⟩
      intro hm
      rw [List.take_succ_eq_append_getElem h1] at hm
      rcases List.mem_append.1 hm with hm | hm
      · exact hnk hm
      · exact h4 (List.mem_singleton.1 hm).symm
  · exact absurd hn (by rw [List.take_of_length_le (by omega)] at hnk; exact hnk)
theorem ec_add_out (l : List Int) (n : Int) (hn : n ∉ l) (hl : l.length ≤ 1000) : EC Γ Tryd.prog 37 [.os 1 0 0 l.length, pI n] [.rows 1 (iRows l)] (.os 1 1 0 (l.length + 1)) [none, some (.rows 1 (iRows (l ++ [n])))] := by
  refine ec_of_AL 1 rfl Tryd.func37 rfl (by simp [Tryd.f37]) ?_; repeat (refine AL_seq ?_)
  refine AL_len_os 0 rfl fun hlen => ?_
  refine AL_text (nx := 1) rfl fun K hK => ?_; simp (disch := omega) only [go_sem, seval]; refine hK _ ?_; clear hK K; repeat (first | (refine AL_skip ?_) | (refine AL_seq ?_) | (refine AL_cond_t rfl ?_) | (refine AL_cond_f rfl ?_))
  refine AL_text (nx := 1) rfl fun K hK => ?_; simp (disch := omega) only [go_sem, seval]; refine hK _ ?_; clear hK K; repeat (first | (refine AL_skip ?_) | (refine AL_seq ?_) | (refine AL_cond_t rfl ?_) | (refine AL_cond_f rfl ?_))
  refine AL_block ?_
  refine AL_loop (fun k : Nat => ⟨ofA [(0, .os 1 0 0 l.length), (1, pI n), (5, pI k)], ofO [some (.rows 1 (iRows l))]⟩) (fun k => k ≤ l.length ∧ n ∉ l.take k) (fun k => l.length - k) 0 ⟨by omega, by simp⟩ (weak_sub [0] _ _ rfl (by decide) ⟨by decide, by decide⟩ (by simp [go_sem]) (by simp [go_sem])) ?_
  rintro k ⟨hk, hnk⟩
  repeat (refine AL_seq ?_)
  refine AL_text (nx := 1) rfl fun K hK => ?_
  by_cases h1 : k < l.length
  · have h2 : (k : Int) < (l.length : Int) := by omega
    simp (disch := omega) only [go_sem, seval, h2]
    refine hK _ ?_; clear hK K; repeat (first | (refine AL_skip ?_) | (refine AL_seq ?_) | (refine AL_cond_t rfl ?_) | (refine AL_cond_f rfl ?_))
    refine AL_block ?_
    repeat (refine AL_seq ?_)
    refine AL_text (nx := 1) rfl fun K hK => ?_
    have h3 := row_get h1
    have hs := wrap_succ (k := k) (by omega)
    have h4 : ¬ l[k] = n := fun e => hn (e ▸ List.getElem_mem h1)
    have h5 : (l[k] == n) = false := by simpa using h4
    simp (disch := omega) only [go_sem, seval, h2, h3, h5, Nat.zero_add]
    refine hK _ ?_; clear hK K; repeat (first | (refine AL_skip ?_) | (refine AL_seq ?_) | (refine AL_cond_t rfl ?_) | (refine AL_cond_f rfl ?_))
    refine AL_text (nx := 1) rfl fun K hK => ?_
    simp (disch := omega) only [go_sem, seval, hs]
    refine hK _ ?_; clear hK K; repeat (first | (refine AL_skip ?_) | (refine AL_seq ?_) | (refine AL_cond_t rfl ?_) | (refine AL_cond_f rfl ?_))
    refine AL_round ⟨k + 1, ⟨by omega, ?_⟩, by omega, (weak_sub [0] _ _ rfl (by decide) ⟨by decide, by decide⟩ (by simp [go_sem]) (by simp [go_sem]))⟩
    intro hm
    rw [List.take_succ_eq_append_getElem h1] at hm
    rcases List.mem_append.1 hm with hm | hm
    · exact hnk hm
    · exact h4 (List.mem_singleton.1 hm).symm
  · have h2 : ¬ (k : Int) < (l.length : Int) := by omega
    simp (disch := omega) only [go_sem, seval, h2]
    refine hK _ ?_; clear hK K; repeat (first | (refine AL_skip ?_) | (refine AL_seq ?_) | (refine AL_cond_t rfl ?_) | (refine AL_cond_f rfl ?_))
    refine AL_exit ?_; simp only [SeqQ, BlockQ, ↓reduceIte, Nat.reduceEqDiff]; repeat (first | (refine AL_skip ?_) | (refine AL_seq ?_) | (refine AL_cond_t rfl ?_) | (refine AL_cond_f rfl ?_))
    refine AL_text (nx := 1) rfl fun K hK => ?_
    simp (disch := omega) only [go_sem, seval]
    (first | refine ⟨by simp, by omega, hK _ ?_⟩ | refine ⟨by omega, hK _ ?_⟩ | refine hK _ ?_); clear hK K
    repeat (refine AL_seq ?_)
    refine AL_weak (st2 := ⟨ofA [(4, .os 1 1 0 (l.length + 1))], ofO [none, some (.rows 1 (iRows (l ++ [n])))]⟩) (weak_sub [0, 1] _ _ rfl (by decide) ⟨by decide, by decide⟩ (by simp [go_sem]) (by simp [go_sem])) ?_ (by simp)
    refine AL_ret (ECQ_ret rfl (by simp (disch := omega) only [go_sem, seval] <;> rfl))
end Go.Proofs.YtjlcojgimicfbaaDoor
/- What an instruction reads. -/
namespace Go.Proofs.YtjlcojgimicfbaaDoor
open Go.Am
set_option linter.unusedSimpArgs false
set_option maxRecDepth 100000
set_option maxHeartbeats 4000000
variable {Γ : Nat → Option Obj}

abbrev argsI (i : Ins) : List Int := [i.x, i.y, i.z]
def usesA (i : Ins) : List Int := if hasAR i.kind then addL [] i.a else []
def usesB (i : Ins) : List Int := if hasBR i.kind then addL (usesA i) i.b else usesA i
def rusesI (i : Ins) : List Int := if rformI i then ((argsI i).take i.n.toNat).foldl addL (usesB i) else []

theorem addL_len (l : List Int) (n : Int) : (addL l n).length ≤ l.length + 1 := by
  unfold addL; split <;> simp
theorem usesA_len (i : Ins) : (usesA i).length ≤ 1 := by
  unfold usesA; split
  · exact addL_len _ _
  · simp
theorem usesB_len (i : Ins) : (usesB i).length ≤ 2 := by
  have h := usesA_len i
  unfold usesB; split
  · exact Nat.le_trans (addL_len _ _) (by omega)
  · omega

theorem ec_refUses (i : Ins) : EC Γ Tryd.prog 14 [ins i] [] (.os 1 0 0 (rusesI i).length) [some (.rows 1 (iRows (rusesI i)))] := by
  refine ec_start1 0 rfl Tryd.func14 rfl (by simp [Tryd.f14]) rfl ?_
  (repeat (with_reducible first | refine AL_seq ?_ | refine AL_skip ?_ | refine AL_nil ?_ | refine SeqQ_n ?_ | refine BlockQ_n ?_)); (first
 | (refine AL_text2 rfl fun K hK => ?_; simp only [List.map])
 | (refine AL_draw2 mixed rfl (by kernel_rfl) fun K hK => ?_; simp only [List.map])
 | (with_reducible refine AL_block ?_)
 | (with_reducible refine AL_exit ?_; simp only [SeqQ, BlockQ, go_sem, seval])
 | (refine Ct rfl ?_)
 | (refine Cf rfl ?_)
 | (refine AL_condb rfl (fun hg => ?_) (fun hg => ?_) <;> ((try simp only [bnq] at hg); (try (have hgp := hg; simp only [bdq] at hgp))))); repeat' (first
 | (with_reducible refine Mk_i ?_; try simp (disch := omega) only [go_sem, seval, irw])
 | ((with_reducible first | refine hK' _ _ ?_ | refine hK' _ _ _ ?_); clear hK' K')
 | (with_reducible refine RT_step fun K' hK' => ?_; first | refine R2_n ?_ | refine Rf rfl rfl ?_ | refine Rf' rfl rfl ?_ | refine R2_gu rfl rfl ?_ | refine Rt rfl rfl ?_ | refine R2_g rfl rfl (fun hg => ?_) (fun hg => ?_) rfl)
 | (with_reducible refine RT_nil ?_; refine hK _ ?_; clear hK K)
 | (with_reducible refine MkG_i ?_; (try simp only [bnq] at hg); (try (have hgp := hg; simp only [bdq] at hgp)); try simp (disch := omega) only [go_sem, seval, irw, hg])
 | (with_reducible refine RL_step fun K' hK' => ?_; first | refine L2_n ?_ | refine Lf rfl rfl ?_ | refine Lf' rfl rfl ?_ | refine L2_gu rfl rfl ?_ | refine Lt rfl rfl ?_ | refine L2_g rfl rfl (fun hg => ?_) (fun hg => ?_) rfl)
 | (with_reducible refine RL_nil ⟨by kernel_rfl, hK _ ?_⟩; clear hK K)
 | (with_reducible first | refine ite_elimM (fun hg => ?_) (fun hg => ?_) | refine And.intro ?_ ?_)
 | omega)
  (repeat (with_reducible first | refine AL_seq ?_ | refine AL_skip ?_ | refine AL_nil ?_ | refine SeqQ_n ?_ | refine BlockQ_n ?_)); (first
 | (refine AL_text2 rfl fun K hK => ?_; simp only [List.map])
 | (refine AL_draw2 mixed rfl (by kernel_rfl) fun K hK => ?_; simp only [List.map])
 | (with_reducible refine AL_block ?_)
 | (with_reducible refine AL_exit ?_; simp only [SeqQ, BlockQ, go_sem, seval])
 | (refine Ct rfl ?_)
 | (refine Cf rfl ?_)
 | (refine AL_condb rfl (fun hg => ?_) (fun hg => ?_) <;> ((try simp only [bnq] at hg); (try (have hgp := hg; simp only [bdq] at hgp))))); repeat' (first
 | (with_reducible refine Mk_i ?_; try simp (disch := omega) only [go_sem, seval, irw])
 | ((with_reducible first | refine hK' _ _ ?_ | refine hK' _ _ _ ?_); clear hK' K')
 | (with_reducible refine RT_step fun K' hK' => ?_; first | refine R2_n ?_ | refine Rf rfl rfl ?_ | refine Rf' rfl rfl ?_ | refine R2_gu rfl rfl ?_ | refine Rt rfl rfl ?_ | refine R2_g rfl rfl (fun hg => ?_) (fun hg => ?_) rfl)
 | (with_reducible refine RT_nil ?_; refine hK _ ?_; clear hK K)
 | (with_reducible refine MkG_i ?_; (try simp only [bnq] at hg); (try (have hgp := hg; simp only [bdq] at hgp)); try simp (disch := omega) only [go_sem, seval, irw, hg])
 | (with_reducible refine RL_step fun K' hK' => ?_; first | refine L2_n ?_ | refine Lf rfl rfl ?_ | refine Lf' rfl rfl ?_ | refine L2_gu rfl rfl ?_ | refine Lt rfl rfl ?_ | refine L2_g rfl rfl (fun hg => ?_) (fun hg => ?_) rfl)
 | (with_reducible refine RL_nil ⟨by kernel_rfl, hK _ ?_⟩; clear hK K)
 | (with_reducible first | refine ite_elimM (fun hg => ?_) (fun hg => ?_) | refine And.intro ?_ ?_)
 | omega)
  refine AL_weak (weak_nil 3 1 rfl) ?_ (by simp)
  (repeat (with_reducible first | refine AL_seq ?_ | refine AL_skip ?_ | refine AL_nil ?_ | refine SeqQ_n ?_ | refine BlockQ_n ?_)); (first
 | (refine AL_text2 rfl fun K hK => ?_; simp only [List.map])
 | (refine AL_draw2 mixed rfl (by kernel_rfl) fun K hK => ?_; simp only [List.map])
 | (with_reducible refine AL_block ?_)
 | (with_reducible refine AL_exit ?_; simp only [SeqQ, BlockQ, go_sem, seval])
 | (refine Ct rfl ?_)
 | (refine Cf rfl ?_)
 | (refine AL_condb rfl (fun hg => ?_) (fun hg => ?_) <;> ((try simp only [bnq] at hg); (try (have hgp := hg; simp only [bdq] at hgp))))); repeat' (first
 | (with_reducible refine Mk_i ?_; try simp (disch := omega) only [go_sem, seval, irw])
 | ((with_reducible first | refine hK' _ _ ?_ | refine hK' _ _ _ ?_); clear hK' K')
 | (with_reducible refine RT_step fun K' hK' => ?_; first | refine R2_n ?_ | refine Rf rfl rfl ?_ | refine Rf' rfl rfl ?_ | refine R2_gu rfl rfl ?_ | refine Rt rfl rfl ?_ | refine R2_g rfl rfl (fun hg => ?_) (fun hg => ?_) rfl)
 | (with_reducible refine RT_nil ?_; refine hK _ ?_; clear hK K)
 | (with_reducible refine MkG_i ?_; (try simp only [bnq] at hg); (try (have hgp := hg; simp only [bdq] at hgp)); try simp (disch := omega) only [go_sem, seval, irw, hg])
 | (with_reducible refine RL_step fun K' hK' => ?_; first | refine L2_n ?_ | refine Lf rfl rfl ?_ | refine Lf' rfl rfl ?_ | refine L2_gu rfl rfl ?_ | refine Lt rfl rfl ?_ | refine L2_g rfl rfl (fun hg => ?_) (fun hg => ?_) rfl)
 | (with_reducible refine RL_nil ⟨by kernel_rfl, hK _ ?_⟩; clear hK K)
 | (refine CallK_pureM (c_refForm i) en_9 rfl ?_)
 | (with_reducible first | refine ite_elimM (fun hg => ?_) (fun hg => ?_) | refine And.intro ?_ ?_)
 | omega)
  cases h0 : rformI i
  · repeat' (first
 | (with_reducible refine Mk_i ?_; try simp (disch := omega) only [go_sem, seval, irw, h0])
 | ((with_reducible first | refine hK' _ _ ?_ | refine hK' _ _ _ ?_); clear hK' K')
 | (with_reducible refine RT_step fun K' hK' => ?_; first | refine R2_n ?_ | refine Rf rfl rfl ?_ | refine Rf' rfl rfl ?_ | refine R2_gu rfl rfl ?_ | refine Rt rfl rfl ?_ | refine R2_g rfl rfl (fun hg => ?_) (fun hg => ?_) rfl)
 | (with_reducible refine RT_nil ?_; refine hK _ ?_; clear hK K)
 | (with_reducible refine MkG_i ?_; (try simp only [bnq] at hg); (try (have hgp := hg; simp only [bdq] at hgp)); try simp (disch := omega) only [go_sem, seval, irw, h0, hg])
 | (with_reducible refine RL_step fun K' hK' => ?_; first | refine L2_n ?_ | refine Lf rfl rfl ?_ | refine Lf' rfl rfl ?_ | refine L2_gu rfl rfl ?_ | refine Lt rfl rfl ?_ | refine L2_g rfl rfl (fun hg => ?_) (fun hg => ?_) rfl)
 | (with_reducible refine RL_nil ⟨by kernel_rfl, hK _ ?_⟩; clear hK K)
 | (with_reducible first | refine AL_seq ?_ | refine AL_skip ?_ | refine AL_nil ?_ | refine SeqQ_n ?_ | refine BlockQ_n ?_)
 | (refine AL_text2 rfl fun K hK => ?_; simp only [List.map])
 | (refine AL_draw2 mixed rfl (by kernel_rfl) fun K hK => ?_; simp only [List.map])
 | (with_reducible refine AL_block ?_)
 | (with_reducible refine AL_exit ?_; simp only [SeqQ, BlockQ, go_sem, seval])
 | (refine Ct rfl ?_)
 | (refine Cf rfl ?_)
 | (refine AL_condb rfl (fun hg => ?_) (fun hg => ?_) <;> ((try simp only [bnq] at hg); (try (have hgp := hg; simp only [bdq] at hgp))))
 | (with_reducible first | refine ite_elimM (fun hg => ?_) (fun hg => ?_) | refine And.intro ?_ ?_)
 | omega)
    refine AL_weak (weak_nil 2 1 rfl) ?_ (by simp)
    refine AL_weak (st2 := ⟨tA [(2, .os 1 0 0 0)], tO [some (.rows 1 [])]⟩) (weak_t [2] _ _ rfl (by decide) ⟨by decide, by decide⟩ (by simp [go_sem]) (by simp [go_sem])) ?_ (by simp)
    (refine AL_ret (ECQ_end ?_ ?_) <;> simp [go_sem, rusesI, h0])
  (repeat (with_reducible first | refine AL_seq ?_ | refine AL_skip ?_ | refine AL_nil ?_ | refine SeqQ_n ?_ | refine BlockQ_n ?_)); (first
 | (refine AL_text2 rfl fun K hK => ?_; simp only [List.map])
 | (refine AL_draw2 mixed rfl (by kernel_rfl) fun K hK => ?_; simp only [List.map])
 | (with_reducible refine AL_block ?_)
 | (with_reducible refine AL_exit ?_; simp only [SeqQ, BlockQ, go_sem, seval])
 | (refine Ct rfl ?_)
 | (refine Cf rfl ?_)
 | (refine AL_condb rfl (fun hg => ?_) (fun hg => ?_) <;> ((try simp only [bnq] at hg); (try (have hgp := hg; simp only [bdq] at hgp))))); repeat' (first
 | (with_reducible refine Mk_i ?_; try simp (disch := omega) only [go_sem, seval, irw, h0])
 | ((with_reducible first | refine hK' _ _ ?_ | refine hK' _ _ _ ?_); clear hK' K')
 | (with_reducible refine RT_step fun K' hK' => ?_; first | refine R2_n ?_ | refine Rf rfl rfl ?_ | refine Rf' rfl rfl ?_ | refine R2_gu rfl rfl ?_ | refine Rt rfl rfl ?_ | refine R2_g rfl rfl (fun hg => ?_) (fun hg => ?_) rfl)
 | (with_reducible refine RT_nil ?_; refine hK _ ?_; clear hK K)
 | (with_reducible refine MkG_i ?_; (try simp only [bnq] at hg); (try (have hgp := hg; simp only [bdq] at hgp)); try simp (disch := omega) only [go_sem, seval, irw, h0, hg])
 | (with_reducible refine RL_step fun K' hK' => ?_; first | refine L2_n ?_ | refine Lf rfl rfl ?_ | refine Lf' rfl rfl ?_ | refine L2_gu rfl rfl ?_ | refine Lt rfl rfl ?_ | refine L2_g rfl rfl (fun hg => ?_) (fun hg => ?_) rfl)
 | (with_reducible refine RL_nil ⟨by kernel_rfl, hK _ ?_⟩; clear hK K)
 | (with_reducible first | refine ite_elimM (fun hg => ?_) (fun hg => ?_) | refine And.intro ?_ ?_)
 | omega)
  let S : List Int → St := fun L => ⟨tA [(1, .op 11 0 0 0), (3, .os 1 1 0 L.length)], tO [some (.rows 11 [i.cells]), some (.rows 1 (iRows L))]⟩
  (repeat (with_reducible first | refine AL_seq ?_ | refine AL_skip ?_ | refine AL_nil ?_ | refine SeqQ_n ?_ | refine BlockQ_n ?_)); (first
 | (refine AL_text2 rfl fun K hK => ?_; simp only [List.map])
 | (refine AL_draw2 mixed rfl (by kernel_rfl) fun K hK => ?_; simp only [List.map])
 | (with_reducible refine AL_block ?_)
 | (with_reducible refine AL_exit ?_; simp only [SeqQ, BlockQ, go_sem, seval])
 | (refine Ct rfl ?_)
 | (refine Cf rfl ?_)
 | (refine AL_condb rfl (fun hg => ?_) (fun hg => ?_) <;> ((try simp only [bnq] at hg); (try (have hgp := hg; simp only [bdq] at hgp))))); repeat' (first
 | (with_reducible refine Mk_i ?_; try simp (disch := omega) only [go_sem, seval, irw, h0])
 | ((with_reducible first | refine hK' _ _ ?_ | refine hK' _ _ _ ?_); clear hK' K')
 | (with_reducible refine RT_step fun K' hK' => ?_; first | refine R2_n ?_ | refine Rf rfl rfl ?_ | refine Rf' rfl rfl ?_ | refine R2_gu rfl rfl ?_ | refine Rt rfl rfl ?_ | refine R2_g rfl rfl (fun hg => ?_) (fun hg => ?_) rfl)
 | (with_reducible refine RT_nil ?_; refine hK _ ?_; clear hK K)
 | (with_reducible refine MkG_i ?_; (try simp only [bnq] at hg); (try (have hgp := hg; simp only [bdq] at hgp)); try simp (disch := omega) only [go_sem, seval, irw, h0, hg])
 | (with_reducible refine RL_step fun K' hK' => ?_; first | refine L2_n ?_ | refine Lf rfl rfl ?_ | refine Lf' rfl rfl ?_ | refine L2_gu rfl rfl ?_ | refine Lt rfl rfl ?_ | refine L2_g rfl rfl (fun hg => ?_) (fun hg => ?_) rfl)
 | (with_reducible refine RL_nil ⟨by kernel_rfl, hK _ ?_⟩; clear hK K)
 | (refine CallK_pureM (c_hasA _) en_33 rfl ?_)
 | (with_reducible first | refine ite_elimM (fun hg => ?_) (fun hg => ?_) | refine And.intro ?_ ?_)
 | omega)
  refine AL_cut S (fun L => L = usesA i) ?_ ?_
  · cases h1 : hasAR i.kind
    · repeat' (first
 | (with_reducible refine Mk_i ?_; try simp (disch := omega) only [go_sem, seval, irw, h1])
 | ((with_reducible first | refine hK' _ _ ?_ | refine hK' _ _ _ ?_); clear hK' K')
 | (with_reducible refine RT_step fun K' hK' => ?_; first | refine R2_n ?_ | refine Rf rfl rfl ?_ | refine Rf' rfl rfl ?_ | refine R2_gu rfl rfl ?_ | refine Rt rfl rfl ?_ | refine R2_g rfl rfl (fun hg => ?_) (fun hg => ?_) rfl)
 | (with_reducible refine RT_nil ?_; refine hK _ ?_; clear hK K)
 | (with_reducible refine MkG_i ?_; (try simp only [bnq] at hg); (try (have hgp := hg; simp only [bdq] at hgp)); try simp (disch := omega) only [go_sem, seval, irw, h1, hg])
 | (with_reducible refine RL_step fun K' hK' => ?_; first | refine L2_n ?_ | refine Lf rfl rfl ?_ | refine Lf' rfl rfl ?_ | refine L2_gu rfl rfl ?_ | refine Lt rfl rfl ?_ | refine L2_g rfl rfl (fun hg => ?_) (fun hg => ?_) rfl)
 | (with_reducible refine RL_nil ⟨by kernel_rfl, hK _ ?_⟩; clear hK K)
 | (with_reducible first | refine AL_seq ?_ | refine AL_skip ?_ | refine AL_nil ?_ | refine SeqQ_n ?_ | refine BlockQ_n ?_)
 | (refine AL_text2 rfl fun K hK => ?_; simp only [List.map])
 | (refine AL_draw2 mixed rfl (by kernel_rfl) fun K hK => ?_; simp only [List.map])
 | (with_reducible refine AL_block ?_)
 | (with_reducible refine AL_exit ?_; simp only [SeqQ, BlockQ, go_sem, seval])
 | (refine Ct rfl ?_)
 | (refine Cf rfl ?_)
 | (refine AL_condb rfl (fun hg => ?_) (fun hg => ?_) <;> ((try simp only [bnq] at hg); (try (have hgp := hg; simp only [bdq] at hgp))))
 | (with_reducible first | refine ite_elimM (fun hg => ?_) (fun hg => ?_) | refine And.intro ?_ ?_)
 | omega)
      (repeat (with_reducible first | refine AL_nil ?_ | refine SeqQ_n ?_ | refine BlockQ_n ?_)); exact ⟨[], (by simp [usesA, h1]), weak_t [0, 1] _ _ rfl (by decide) ⟨by decide, by decide⟩ (by simp [go_sem]) (by simp [go_sem])⟩
    · (repeat (with_reducible first | refine AL_seq ?_ | refine AL_skip ?_ | refine AL_nil ?_ | refine SeqQ_n ?_ | refine BlockQ_n ?_)); (first
 | (refine AL_text2 rfl fun K hK => ?_; simp only [List.map])
 | (refine AL_draw2 mixed rfl (by kernel_rfl) fun K hK => ?_; simp only [List.map])
 | (with_reducible refine AL_block ?_)
 | (with_reducible refine AL_exit ?_; simp only [SeqQ, BlockQ, go_sem, seval])
 | (refine Ct rfl ?_)
 | (refine Cf rfl ?_)
 | (refine AL_condb rfl (fun hg => ?_) (fun hg => ?_) <;> ((try simp only [bnq] at hg); (try (have hgp := hg; simp only [bdq] at hgp))))); repeat' (first
 | (with_reducible refine Mk_i ?_; try simp (disch := omega) only [go_sem, seval, irw])
 | ((with_reducible first | refine hK' _ _ ?_ | refine hK' _ _ _ ?_); clear hK' K')
 | (with_reducible refine RT_step fun K' hK' => ?_; first | refine R2_n ?_ | refine Rf rfl rfl ?_ | refine Rf' rfl rfl ?_ | refine R2_gu rfl rfl ?_ | refine Rt rfl rfl ?_ | refine R2_g rfl rfl (fun hg => ?_) (fun hg => ?_) rfl)
 | (with_reducible refine RT_nil ?_; refine hK _ ?_; clear hK K)
 | (with_reducible refine MkG_i ?_; (try simp only [bnq] at hg); (try (have hgp := hg; simp only [bdq] at hgp)); try simp (disch := omega) only [go_sem, seval, irw, hg])
 | (with_reducible refine RL_step fun K' hK' => ?_; first | refine L2_n ?_ | refine Lf rfl rfl ?_ | refine Lf' rfl rfl ?_ | refine L2_gu rfl rfl ?_ | refine Lt rfl rfl ?_ | refine L2_g rfl rfl (fun hg => ?_) (fun hg => ?_) rfl)
 | (with_reducible refine RL_nil ⟨by kernel_rfl, hK _ ?_⟩; clear hK K)
 | (with_reducible first | refine ite_elimM (fun hg => ?_) (fun hg => ?_) | refine And.intro ?_ ?_)
 | omega)
      (repeat (with_reducible first | refine AL_seq ?_ | refine AL_skip ?_ | refine AL_nil ?_ | refine SeqQ_n ?_ | refine BlockQ_n ?_)); (first
 | (refine AL_text2 rfl fun K hK => ?_; simp only [List.map])
 | (refine AL_draw2 mixed rfl (by kernel_rfl) fun K hK => ?_; simp only [List.map])
 | (with_reducible refine AL_block ?_)
 | (with_reducible refine AL_exit ?_; simp only [SeqQ, BlockQ, go_sem, seval])
 | (refine Ct rfl ?_)
 | (refine Cf rfl ?_)
 | (refine AL_condb rfl (fun hg => ?_) (fun hg => ?_) <;> ((try simp only [bnq] at hg); (try (have hgp := hg; simp only [bdq] at hgp))))); repeat' (first
 | (with_reducible refine Mk_i ?_; try simp (disch := omega) only [go_sem, seval, irw])
 | ((with_reducible first | refine hK' _ _ ?_ | refine hK' _ _ _ ?_); clear hK' K')
 | (with_reducible refine RT_step fun K' hK' => ?_; first | refine R2_n ?_ | refine Rf rfl rfl ?_ | refine Rf' rfl rfl ?_ | refine R2_gu rfl rfl ?_ | refine Rt rfl rfl ?_ | refine R2_g rfl rfl (fun hg => ?_) (fun hg => ?_) rfl)
 | (with_reducible refine RT_nil ?_; refine hK _ ?_; clear hK K)
 | (with_reducible refine MkG_i ?_; (try simp only [bnq] at hg); (try (have hgp := hg; simp only [bdq] at hgp)); try simp (disch := omega) only [go_sem, seval, irw, hg])
 | (with_reducible refine RL_step fun K' hK' => ?_; first | refine L2_n ?_ | refine Lf rfl rfl ?_ | refine Lf' rfl rfl ?_ | refine L2_gu rfl rfl ?_ | refine Lt rfl rfl ?_ | refine L2_g rfl rfl (fun hg => ?_) (fun hg => ?_) rfl)
 | (with_reducible refine RL_nil ⟨by kernel_rfl, hK _ ?_⟩; clear hK K)
 | (refine CallK_ecM (ec_add_out [] i.a (by simp) (by simp)) en_37 [1, 2] 3 (by decide) (by simp [go_sem]) rfl (by decide) (by simp [go_sem]) (by simp [go_sem]) (by simp [go_sem]) (by simp [go_sem]) ?_)
 | (with_reducible first | refine ite_elimM (fun hg => ?_) (fun hg => ?_) | refine And.intro ?_ ?_)
 | omega)
      (repeat (with_reducible first | refine AL_nil ?_ | refine SeqQ_n ?_ | refine BlockQ_n ?_)); exact ⟨[i.a], (by simp [usesA, h1, addL]), weak_t [0, 2] _ _ rfl (by decide) ⟨by decide, by decide⟩ (by simp [go_sem]) (by simp [go_sem])⟩
  rintro L rfl
  have hL := usesA_len i
  (repeat (with_reducible first | refine AL_seq ?_ | refine AL_skip ?_ | refine AL_nil ?_ | refine SeqQ_n ?_ | refine BlockQ_n ?_)); (first
 | (refine AL_text2 rfl fun K hK => ?_; simp only [List.map])
 | (refine AL_draw2 mixed rfl (by kernel_rfl) fun K hK => ?_; simp only [List.map])
 | (with_reducible refine AL_block ?_)
 | (with_reducible refine AL_exit ?_; simp only [SeqQ, BlockQ, go_sem, seval])
 | (refine Ct rfl ?_)
 | (refine Cf rfl ?_)
 | (refine AL_condb rfl (fun hg => ?_) (fun hg => ?_) <;> ((try simp only [bnq] at hg); (try (have hgp := hg; simp only [bdq] at hgp))))); repeat' (first
 | (with_reducible refine Mk_i ?_; try simp (disch := omega) only [go_sem, seval, irw, h0, S])
 | ((with_reducible first | refine hK' _ _ ?_ | refine hK' _ _ _ ?_); clear hK' K')
 | (with_reducible refine RT_step fun K' hK' => ?_; first | refine R2_n ?_ | refine Rf rfl rfl ?_ | refine Rf' rfl rfl ?_ | refine R2_gu rfl rfl ?_ | refine Rt rfl rfl ?_ | refine R2_g rfl rfl (fun hg => ?_) (fun hg => ?_) rfl)
 | (with_reducible refine RT_nil ?_; refine hK _ ?_; clear hK K)
 | (with_reducible refine MkG_i ?_; (try simp only [bnq] at hg); (try (have hgp := hg; simp only [bdq] at hgp)); try simp (disch := omega) only [go_sem, seval, irw, h0, S, hg])
 | (with_reducible refine RL_step fun K' hK' => ?_; first | refine L2_n ?_ | refine Lf rfl rfl ?_ | refine Lf' rfl rfl ?_ | refine L2_gu rfl rfl ?_ | refine Lt rfl rfl ?_ | refine L2_g rfl rfl (fun hg => ?_) (fun hg => ?_) rfl)
 | (with_reducible refine RL_nil ⟨by kernel_rfl, hK _ ?_⟩; clear hK K)
 | (refine CallK_pureM (c_hasB _) en_34 rfl ?_)
 | (with_reducible first | refine ite_elimM (fun hg => ?_) (fun hg => ?_) | refine And.intro ?_ ?_)
 | omega)
  refine AL_cut S (fun L => L = usesB i) ?_ ?_
  · cases h1 : hasBR i.kind
    · repeat' (first
 | (with_reducible refine Mk_i ?_; try simp (disch := omega) only [go_sem, seval, irw, h1])
 | ((with_reducible first | refine hK' _ _ ?_ | refine hK' _ _ _ ?_); clear hK' K')
 | (with_reducible refine RT_step fun K' hK' => ?_; first | refine R2_n ?_ | refine Rf rfl rfl ?_ | refine Rf' rfl rfl ?_ | refine R2_gu rfl rfl ?_ | refine Rt rfl rfl ?_ | refine R2_g rfl rfl (fun hg => ?_) (fun hg => ?_) rfl)
 | (with_reducible refine RT_nil ?_; refine hK _ ?_; clear hK K)
 | (with_reducible refine MkG_i ?_; (try simp only [bnq] at hg); (try (have hgp := hg; simp only [bdq] at hgp)); try simp (disch := omega) only [go_sem, seval, irw, h1, hg])
 | (with_reducible refine RL_step fun K' hK' => ?_; first | refine L2_n ?_ | refine Lf rfl rfl ?_ | refine Lf' rfl rfl ?_ | refine L2_gu rfl rfl ?_ | refine Lt rfl rfl ?_ | refine L2_g rfl rfl (fun hg => ?_) (fun hg => ?_) rfl)
 | (with_reducible refine RL_nil ⟨by kernel_rfl, hK _ ?_⟩; clear hK K)
 | (with_reducible first | refine AL_seq ?_ | refine AL_skip ?_ | refine AL_nil ?_ | refine SeqQ_n ?_ | refine BlockQ_n ?_)
 | (refine AL_text2 rfl fun K hK => ?_; simp only [List.map])
 | (refine AL_draw2 mixed rfl (by kernel_rfl) fun K hK => ?_; simp only [List.map])
 | (with_reducible refine AL_block ?_)
 | (with_reducible refine AL_exit ?_; simp only [SeqQ, BlockQ, go_sem, seval])
 | (refine Ct rfl ?_)
 | (refine Cf rfl ?_)
 | (refine AL_condb rfl (fun hg => ?_) (fun hg => ?_) <;> ((try simp only [bnq] at hg); (try (have hgp := hg; simp only [bdq] at hgp))))
 | (with_reducible first | refine ite_elimM (fun hg => ?_) (fun hg => ?_) | refine And.intro ?_ ?_)
 | omega)
      (repeat (with_reducible first | refine AL_nil ?_ | refine SeqQ_n ?_ | refine BlockQ_n ?_)); exact ⟨usesA i, (by simp [usesB, h1]), weak_t [0, 1] _ _ rfl (by decide) ⟨by decide, by decide⟩ (by simp [go_sem]) (by simp [go_sem])⟩
    · by_cases hm : i.b ∈ usesA i
      · (repeat (with_reducible first | refine AL_seq ?_ | refine AL_skip ?_ | refine AL_nil ?_ | refine SeqQ_n ?_ | refine BlockQ_n ?_)); (first
 | (refine AL_text2 rfl fun K hK => ?_; simp only [List.map])
 | (refine AL_draw2 mixed rfl (by kernel_rfl) fun K hK => ?_; simp only [List.map])
 | (with_reducible refine AL_block ?_)
 | (with_reducible refine AL_exit ?_; simp only [SeqQ, BlockQ, go_sem, seval])
 | (refine Ct rfl ?_)
 | (refine Cf rfl ?_)
 | (refine AL_condb rfl (fun hg => ?_) (fun hg => ?_) <;> ((try simp only [bnq] at hg); (try (have hgp := hg; simp only [bdq] at hgp))))); repeat' (first
 | (with_reducible refine Mk_i ?_; try simp (disch := omega) only [go_sem, seval, irw])
 | ((with_reducible first | refine hK' _ _ ?_ | refine hK' _ _ _ ?_); clear hK' K')
 | (with_reducible refine RT_step fun K' hK' => ?_; first | refine R2_n ?_ | refine Rf rfl rfl ?_ | refine Rf' rfl rfl ?_ | refine R2_gu rfl rfl ?_ | refine Rt rfl rfl ?_ | refine R2_g rfl rfl (fun hg => ?_) (fun hg => ?_) rfl)
 | (with_reducible refine RT_nil ?_; refine hK _ ?_; clear hK K)
 | (with_reducible refine MkG_i ?_; (try simp only [bnq] at hg); (try (have hgp := hg; simp only [bdq] at hgp)); try simp (disch := omega) only [go_sem, seval, irw, hg])
 | (with_reducible refine RL_step fun K' hK' => ?_; first | refine L2_n ?_ | refine Lf rfl rfl ?_ | refine Lf' rfl rfl ?_ | refine L2_gu rfl rfl ?_ | refine Lt rfl rfl ?_ | refine L2_g rfl rfl (fun hg => ?_) (fun hg => ?_) rfl)
 | (with_reducible refine RL_nil ⟨by kernel_rfl, hK _ ?_⟩; clear hK K)
 | (with_reducible first | refine ite_elimM (fun hg => ?_) (fun hg => ?_) | refine And.intro ?_ ?_)
 | omega)
        (repeat (with_reducible first | refine AL_seq ?_ | refine AL_skip ?_ | refine AL_nil ?_ | refine SeqQ_n ?_ | refine BlockQ_n ?_)); (first
 | (refine AL_text2 rfl fun K hK => ?_; simp only [List.map])
 | (refine AL_draw2 mixed rfl (by kernel_rfl) fun K hK => ?_; simp only [List.map])
 | (with_reducible refine AL_block ?_)
 | (with_reducible refine AL_exit ?_; simp only [SeqQ, BlockQ, go_sem, seval])
 | (refine Ct rfl ?_)
 | (refine Cf rfl ?_)
 | (refine AL_condb rfl (fun hg => ?_) (fun hg => ?_) <;> ((try simp only [bnq] at hg); (try (have hgp := hg; simp only [bdq] at hgp))))); repeat' (first
 | (with_reducible refine Mk_i ?_; try simp (disch := omega) only [go_sem, seval, irw])
 | ((with_reducible first | refine hK' _ _ ?_ | refine hK' _ _ _ ?_); clear hK' K')
 | (with_reducible refine RT_step fun K' hK' => ?_; first | refine R2_n ?_ | refine Rf rfl rfl ?_ | refine Rf' rfl rfl ?_ | refine R2_gu rfl rfl ?_ | refine Rt rfl rfl ?_ | refine R2_g rfl rfl (fun hg => ?_) (fun hg => ?_) rfl)
 | (with_reducible refine RT_nil ?_; refine hK _ ?_; clear hK K)
 | (with_reducible refine MkG_i ?_; (try simp only [bnq] at hg); (try (have hgp := hg; simp only [bdq] at hgp)); try simp (disch := omega) only [go_sem, seval, irw, hg])
 | (with_reducible refine RL_step fun K' hK' => ?_; first | refine L2_n ?_ | refine Lf rfl rfl ?_ | refine Lf' rfl rfl ?_ | refine L2_gu rfl rfl ?_ | refine Lt rfl rfl ?_ | refine L2_g rfl rfl (fun hg => ?_) (fun hg => ?_) rfl)
 | (with_reducible refine RL_nil ⟨by kernel_rfl, hK _ ?_⟩; clear hK K)
 | (refine CallK_ecM (ec_add_in (usesA i) i.b hm) en_37 [1] 2 (by decide) (by simp [go_sem]) rfl (by decide) (by simp [go_sem]) (by simp [go_sem]) (by simp [go_sem]) (by simp [go_sem]) ?_)
 | (with_reducible first | refine ite_elimM (fun hg => ?_) (fun hg => ?_) | refine And.intro ?_ ?_)
 | omega)
        (repeat (with_reducible first | refine AL_nil ?_ | refine SeqQ_n ?_ | refine BlockQ_n ?_)); exact ⟨usesA i, (by simp [usesB, h1, addL, hm]), weak_t [0, 1] _ _ rfl (by decide) ⟨by decide, by decide⟩ (by simp [go_sem]) (by simp [go_sem])⟩
      · (repeat (with_reducible first | refine AL_seq ?_ | refine AL_skip ?_ | refine AL_nil ?_ | refine SeqQ_n ?_ | refine BlockQ_n ?_)); (first
 | (refine AL_text2 rfl fun K hK => ?_; simp only [List.map])
 | (refine AL_draw2 mixed rfl (by kernel_rfl) fun K hK => ?_; simp only [List.map])
 | (with_reducible refine AL_block ?_)
 | (with_reducible refine AL_exit ?_; simp only [SeqQ, BlockQ, go_sem, seval])
 | (refine Ct rfl ?_)
 | (refine Cf rfl ?_)
 | (refine AL_condb rfl (fun hg => ?_) (fun hg => ?_) <;> ((try simp only [bnq] at hg); (try (have hgp := hg; simp only [bdq] at hgp))))); repeat' (first
 | (with_reducible refine Mk_i ?_; try simp (disch := omega) only [go_sem, seval, irw])
 | ((with_reducible first | refine hK' _ _ ?_ | refine hK' _ _ _ ?_); clear hK' K')
 | (with_reducible refine RT_step fun K' hK' => ?_; first | refine R2_n ?_ | refine Rf rfl rfl ?_ | refine Rf' rfl rfl ?_ | refine R2_gu rfl rfl ?_ | refine Rt rfl rfl ?_ | refine R2_g rfl rfl (fun hg => ?_) (fun hg => ?_) rfl)
 | (with_reducible refine RT_nil ?_; refine hK _ ?_; clear hK K)
 | (with_reducible refine MkG_i ?_; (try simp only [bnq] at hg); (try (have hgp := hg; simp only [bdq] at hgp)); try simp (disch := omega) only [go_sem, seval, irw, hg])
 | (with_reducible refine RL_step fun K' hK' => ?_; first | refine L2_n ?_ | refine Lf rfl rfl ?_ | refine Lf' rfl rfl ?_ | refine L2_gu rfl rfl ?_ | refine Lt rfl rfl ?_ | refine L2_g rfl rfl (fun hg => ?_) (fun hg => ?_) rfl)
 | (with_reducible refine RL_nil ⟨by kernel_rfl, hK _ ?_⟩; clear hK K)
 | (with_reducible first | refine ite_elimM (fun hg => ?_) (fun hg => ?_) | refine And.intro ?_ ?_)
 | omega)
        (repeat (with_reducible first | refine AL_seq ?_ | refine AL_skip ?_ | refine AL_nil ?_ | refine SeqQ_n ?_ | refine BlockQ_n ?_)); (first
 | (refine AL_text2 rfl fun K hK => ?_; simp only [List.map])
 | (refine AL_draw2 mixed rfl (by kernel_rfl) fun K hK => ?_; simp only [List.map])
 | (with_reducible refine AL_block ?_)
 | (with_reducible refine AL_exit ?_; simp only [SeqQ, BlockQ, go_sem, seval])
 | (refine Ct rfl ?_)
 | (refine Cf rfl ?_)
 | (refine AL_condb rfl (fun hg => ?_) (fun hg => ?_) <;> ((try simp only [bnq] at hg); (try (have hgp := hg; simp only [bdq] at hgp))))); repeat' (first
 | (with_reducible refine Mk_i ?_; try simp (disch := omega) only [go_sem, seval, irw])
 | ((with_reducible first | refine hK' _ _ ?_ | refine hK' _ _ _ ?_); clear hK' K')
 | (with_reducible refine RT_step fun K' hK' => ?_; first | refine R2_n ?_ | refine Rf rfl rfl ?_ | refine Rf' rfl rfl ?_ | refine R2_gu rfl rfl ?_ | refine Rt rfl rfl ?_ | refine R2_g rfl rfl (fun hg => ?_) (fun hg => ?_) rfl)
 | (with_reducible refine RT_nil ?_; refine hK _ ?_; clear hK K)
 | (with_reducible refine MkG_i ?_; (try simp only [bnq] at hg); (try (have hgp := hg; simp only [bdq] at hgp)); try simp (disch := omega) only [go_sem, seval, irw, hg])
 | (with_reducible refine RL_step fun K' hK' => ?_; first | refine L2_n ?_ | refine Lf rfl rfl ?_ | refine Lf' rfl rfl ?_ | refine L2_gu rfl rfl ?_ | refine Lt rfl rfl ?_ | refine L2_g rfl rfl (fun hg => ?_) (fun hg => ?_) rfl)
 | (with_reducible refine RL_nil ⟨by kernel_rfl, hK _ ?_⟩; clear hK K)
 | (refine CallK_ecM (ec_add_out (usesA i) i.b hm (by omega)) en_37 [1, 2] 3 (by decide) (by simp [go_sem]) rfl (by decide) (by simp [go_sem]) (by simp [go_sem]) (by simp [go_sem]) (by simp [go_sem]) ?_)
 | (with_reducible first | refine ite_elimM (fun hg => ?_) (fun hg => ?_) | refine And.intro ?_ ?_)
 | omega)
        (repeat (with_reducible first | refine AL_nil ?_ | refine SeqQ_n ?_ | refine BlockQ_n ?_)); exact ⟨usesA i ++ [i.b], (by simp [usesB, h1, addL, hm]), weak_t [0, 2] _ _ rfl (by decide) ⟨by decide, by decide⟩ (by simp [go_sem]) (by simp [go_sem])⟩
  rintro L rfl
  have hL2 := usesB_len i
  have hn : 0 ≤ i.n ∧ i.n ≤ 3 := by
    have h := h0
    simp only [rformI, roff1, Bool.and_eq_true, Bool.not_eq_true', Bool.or_eq_false_iff, decide_eq_false_iff_not] at h
    omega
  (repeat (with_reducible first | refine AL_seq ?_ | refine AL_skip ?_ | refine AL_nil ?_ | refine SeqQ_n ?_ | refine BlockQ_n ?_)); (first
 | (refine AL_text2 rfl fun K hK => ?_; simp only [List.map])
 | (refine AL_draw2 mixed rfl (by kernel_rfl) fun K hK => ?_; simp only [List.map])
 | (with_reducible refine AL_block ?_)
 | (with_reducible refine AL_exit ?_; simp only [SeqQ, BlockQ, go_sem, seval])
 | (refine Ct rfl ?_)
 | (refine Cf rfl ?_)
 | (refine AL_condb rfl (fun hg => ?_) (fun hg => ?_) <;> ((try simp only [bnq] at hg); (try (have hgp := hg; simp only [bdq] at hgp))))); repeat' (first
 | (with_reducible refine Mk_i ?_; try simp (disch := omega) only [go_sem, seval, irw, h0, S])
 | ((with_reducible first | refine hK' _ _ ?_ | refine hK' _ _ _ ?_); clear hK' K')
 | (with_reducible refine RT_step fun K' hK' => ?_; first | refine R2_n ?_ | refine Rf rfl rfl ?_ | refine Rf' rfl rfl ?_ | refine R2_gu rfl rfl ?_ | refine Rt rfl rfl ?_ | refine R2_g rfl rfl (fun hg => ?_) (fun hg => ?_) rfl)
 | (with_reducible refine RT_nil ?_; refine hK _ ?_; clear hK K)
 | (with_reducible refine MkG_i ?_; (try simp only [bnq] at hg); (try (have hgp := hg; simp only [bdq] at hgp)); try simp (disch := omega) only [go_sem, seval, irw, h0, S, hg])
 | (with_reducible refine RL_step fun K' hK' => ?_; first | refine L2_n ?_ | refine Lf rfl rfl ?_ | refine Lf' rfl rfl ?_ | refine L2_gu rfl rfl ?_ | refine Lt rfl rfl ?_ | refine L2_g rfl rfl (fun hg => ?_) (fun hg => ?_) rfl)
 | (with_reducible refine RL_nil ⟨by kernel_rfl, hK _ ?_⟩; clear hK K)
 | (with_reducible first | refine ite_elimM (fun hg => ?_) (fun hg => ?_) | refine And.intro ?_ ?_)
 | omega)
  (repeat (with_reducible first | refine AL_seq ?_ | refine AL_skip ?_ | refine AL_nil ?_ | refine SeqQ_n ?_ | refine BlockQ_n ?_)); (first
 | (refine AL_text2 rfl fun K hK => ?_; simp only [List.map])
 | (refine AL_draw2 mixed rfl (by kernel_rfl) fun K hK => ?_; simp only [List.map])
 | (with_reducible refine AL_block ?_)
 | (with_reducible refine AL_exit ?_; simp only [SeqQ, BlockQ, go_sem, seval])
 | (refine Ct rfl ?_)
 | (refine Cf rfl ?_)
 | (refine AL_condb rfl (fun hg => ?_) (fun hg => ?_) <;> ((try simp only [bnq] at hg); (try (have hgp := hg; simp only [bdq] at hgp))))); repeat' (first
 | (with_reducible refine Mk_i ?_; try simp (disch := omega) only [go_sem, seval, irw])
 | ((with_reducible first | refine hK' _ _ ?_ | refine hK' _ _ _ ?_); clear hK' K')
 | (with_reducible refine RT_step fun K' hK' => ?_; first | refine R2_n ?_ | refine Rf rfl rfl ?_ | refine Rf' rfl rfl ?_ | refine R2_gu rfl rfl ?_ | refine Rt rfl rfl ?_ | refine R2_g rfl rfl (fun hg => ?_) (fun hg => ?_) rfl)
 | (with_reducible refine RT_nil ?_; refine hK _ ?_; clear hK K)
 | (with_reducible refine MkG_i ?_; (try simp only [bnq] at hg); (try (have hgp := hg; simp only [bdq] at hgp)); try simp (disch := omega) only [go_sem, seval, irw, hg])
 | (with_reducible refine RL_step fun K' hK' => ?_; first | refine L2_n ?_ | refine Lf rfl rfl ?_ | refine Lf' rfl rfl ?_ | refine L2_gu rfl rfl ?_ | refine Lt rfl rfl ?_ | refine L2_g rfl rfl (fun hg => ?_) (fun hg => ?_) rfl)
 | (with_reducible refine RL_nil ⟨by kernel_rfl, hK _ ?_⟩; clear hK K)
 | (with_reducible first | refine ite_elimM (fun hg => ?_) (fun hg => ?_) | refine And.intro ?_ ?_)
 | omega)
  let Lk : Nat → List Int := fun k => ((argsI i).take k).foldl addL (usesB i)
  have hLk : ∀ k, k ≤ 3 → (Lk k).length ≤ 5 := by
    intro k hk
    have h1 := addL_len (usesB i) i.x
    have h2 := addL_len (addL (usesB i) i.x) i.y
    have h3 := addL_len (addL (addL (usesB i) i.x) i.y) i.z
    have h4 : k = 0 ∨ k = 1 ∨ k = 2 ∨ k = 3 := by omega
    rcases h4 with rfl | rfl | rfl | rfl <;> simp only [Lk, argsI, List.take_zero, List.take_succ_cons, List.take_nil, List.foldl_nil, List.foldl_cons] <;> omega
  refine AL_loop (fun k : Nat => ⟨tA [(1, .op 11 0 0 0), (3, .os 1 1 0 (Lk k).length), (4, pI k)], tO [some (.rows 11 [i.cells]), some (.rows 1 (iRows (Lk k)))]⟩)
    (fun k => k ≤ i.n.toNat) (fun k => 3 - k) 0 (Nat.zero_le _) (weak_t [0, 1] _ _ rfl (by decide) ⟨by decide, by decide⟩ (by simp [go_sem, Lk]) (by simp [go_sem, Lk])) ?_
  intro k hk
  have hL3 := hLk k (by omega)
  (repeat (with_reducible first | refine AL_seq ?_ | refine AL_skip ?_ | refine AL_nil ?_ | refine SeqQ_n ?_ | refine BlockQ_n ?_)); (first
 | (refine AL_text2 rfl fun K hK => ?_; simp only [List.map])
 | (refine AL_draw2 mixed rfl (by kernel_rfl) fun K hK => ?_; simp only [List.map])
 | (with_reducible refine AL_block ?_)
 | (with_reducible refine AL_exit ?_; simp only [SeqQ, BlockQ, go_sem, seval])
 | (refine Ct rfl ?_)
 | (refine Cf rfl ?_)
 | (refine AL_condb rfl (fun hg => ?_) (fun hg => ?_) <;> ((try simp only [bnq] at hg); (try (have hgp := hg; simp only [bdq] at hgp))))); repeat' (first
 | (with_reducible refine Mk_i ?_; try simp (disch := omega) only [go_sem, seval, irw])
 | ((with_reducible first | refine hK' _ _ ?_ | refine hK' _ _ _ ?_); clear hK' K')
 | (with_reducible refine RT_step fun K' hK' => ?_; first | refine R2_n ?_ | refine Rf rfl rfl ?_ | refine Rf' rfl rfl ?_ | refine R2_gu rfl rfl ?_ | refine Rt rfl rfl ?_ | refine R2_g rfl rfl (fun hg => ?_) (fun hg => ?_) rfl)
 | (with_reducible refine RT_nil ?_; refine hK _ ?_; clear hK K)
 | (with_reducible refine MkG_i ?_; (try simp only [bnq] at hg); (try (have hgp := hg; simp only [bdq] at hgp)); try simp (disch := omega) only [go_sem, seval, irw, hg])
 | (with_reducible refine RL_step fun K' hK' => ?_; first | refine L2_n ?_ | refine Lf rfl rfl ?_ | refine Lf' rfl rfl ?_ | refine L2_gu rfl rfl ?_ | refine Lt rfl rfl ?_ | refine L2_g rfl rfl (fun hg => ?_) (fun hg => ?_) rfl)
 | (with_reducible refine RL_nil ⟨by kernel_rfl, hK _ ?_⟩; clear hK K)
 | (with_reducible first | refine ite_elimM (fun hg => ?_) (fun hg => ?_) | refine And.intro ?_ ?_)
 | omega)
  cases h2 : decide ((k : Int) < i.n)
  · repeat' (first
 | (with_reducible refine Mk_i ?_; try simp (disch := omega) only [go_sem, seval, irw, h2])
 | ((with_reducible first | refine hK' _ _ ?_ | refine hK' _ _ _ ?_); clear hK' K')
 | (with_reducible refine RT_step fun K' hK' => ?_; first | refine R2_n ?_ | refine Rf rfl rfl ?_ | refine Rf' rfl rfl ?_ | refine R2_gu rfl rfl ?_ | refine Rt rfl rfl ?_ | refine R2_g rfl rfl (fun hg => ?_) (fun hg => ?_) rfl)
 | (with_reducible refine RT_nil ?_; refine hK _ ?_; clear hK K)
 | (with_reducible refine MkG_i ?_; (try simp only [bnq] at hg); (try (have hgp := hg; simp only [bdq] at hgp)); try simp (disch := omega) only [go_sem, seval, irw, h2, hg])
 | (with_reducible refine RL_step fun K' hK' => ?_; first | refine L2_n ?_ | refine Lf rfl rfl ?_ | refine Lf' rfl rfl ?_ | refine L2_gu rfl rfl ?_ | refine Lt rfl rfl ?_ | refine L2_g rfl rfl (fun hg => ?_) (fun hg => ?_) rfl)
 | (with_reducible refine RL_nil ⟨by kernel_rfl, hK _ ?_⟩; clear hK K)
 | (with_reducible first | refine AL_seq ?_ | refine AL_skip ?_ | refine AL_nil ?_ | refine SeqQ_n ?_ | refine BlockQ_n ?_)
 | (refine AL_text2 rfl fun K hK => ?_; simp only [List.map])
 | (refine AL_draw2 mixed rfl (by kernel_rfl) fun K hK => ?_; simp only [List.map])
 | (with_reducible refine AL_block ?_)
 | (with_reducible refine AL_exit ?_; simp only [SeqQ, BlockQ, go_sem, seval])
 | (refine Ct rfl ?_)
 | (refine Cf rfl ?_)
 | (refine AL_condb rfl (fun hg => ?_) (fun hg => ?_) <;> ((try simp only [bnq] at hg); (try (have hgp := hg; simp only [bdq] at hgp))))
 | (with_reducible first | refine ite_elimM (fun hg => ?_) (fun hg => ?_) | refine And.intro ?_ ?_)
 | omega)
    have hk2 : k = i.n.toNat := by simp at h2; omega
    have hR : Lk k = rusesI i := by simp only [Lk, rusesI, h0, if_true, hk2]
    rw [hR]
    refine AL_weak (st2 := ⟨tA [(2, .os 1 0 0 (rusesI i).length)], tO [some (.rows 1 (iRows (rusesI i)))]⟩) (weak_t [1] _ _ rfl (by decide) ⟨by decide, by decide⟩ (by simp [go_sem]) (by simp [go_sem])) ?_ (by simp)
    (refine AL_ret (ECQ_end ?_ ?_) <;> simp [go_sem, ])
  · have h4 : k = 0 ∨ k = 1 ∨ k = 2 := by simp at h2; omega
    have hkn : (k : Int) < i.n := by simpa using h2
    have main : ∀ v : Int, (argsI i)[k]? = some v → Lk (k + 1) = addL (Lk k) v := by
      intro v hv
      simp only [Lk, List.take_add_one, hv, List.foldl_append, Option.toList_some, List.foldl_cons, List.foldl_nil]
    rcases h4 with rfl | rfl | rfl
    · have e := main i.x rfl
      by_cases hm : i.x ∈ Lk 0
      · repeat' (first
 | (with_reducible refine Mk_i ?_; try simp (disch := omega) only [go_sem, seval, irw, h2])
 | ((with_reducible first | refine hK' _ _ ?_ | refine hK' _ _ _ ?_); clear hK' K')
 | (with_reducible refine RT_step fun K' hK' => ?_; first | refine R2_n ?_ | refine Rf rfl rfl ?_ | refine Rf' rfl rfl ?_ | refine R2_gu rfl rfl ?_ | refine Rt rfl rfl ?_ | refine R2_g rfl rfl (fun hg => ?_) (fun hg => ?_) rfl)
 | (with_reducible refine RT_nil ?_; refine hK _ ?_; clear hK K)
 | (with_reducible refine MkG_i ?_; (try simp only [bnq] at hg); (try (have hgp := hg; simp only [bdq] at hgp)); try simp (disch := omega) only [go_sem, seval, irw, h2, hg])
 | (with_reducible refine RL_step fun K' hK' => ?_; first | refine L2_n ?_ | refine Lf rfl rfl ?_ | refine Lf' rfl rfl ?_ | refine L2_gu rfl rfl ?_ | refine Lt rfl rfl ?_ | refine L2_g rfl rfl (fun hg => ?_) (fun hg => ?_) rfl)
 | (with_reducible refine RL_nil ⟨by kernel_rfl, hK _ ?_⟩; clear hK K)
 | (with_reducible first | refine AL_seq ?_ | refine AL_skip ?_ | refine AL_nil ?_ | refine SeqQ_n ?_ | refine BlockQ_n ?_)
 | (refine AL_text2 rfl fun K hK => ?_; simp only [List.map])
 | (refine AL_draw2 mixed rfl (by kernel_rfl) fun K hK => ?_; simp only [List.map])
 | (with_reducible refine AL_block ?_)
 | (with_reducible refine AL_exit ?_; simp only [SeqQ, BlockQ, go_sem, seval])
 | (refine Ct rfl ?_)
 | (refine Cf rfl ?_)
 | (refine AL_condb rfl (fun hg => ?_) (fun hg => ?_) <;> ((try simp only [bnq] at hg); (try (have hgp := hg; simp only [bdq] at hgp))))
 | (refine CallK_ecM (ec_add_in (Lk 0) i.x hm) en_37 [1] 2 (by decide) (by simp [go_sem]) rfl (by decide) (by simp [go_sem]) (by simp [go_sem]) (by simp [go_sem]) (by simp [go_sem]) ?_)
 | (with_reducible first | refine ite_elimM (fun hg => ?_) (fun hg => ?_) | refine And.intro ?_ ?_)
 | omega)
        (repeat (with_reducible first | refine AL_nil ?_ | refine SeqQ_n ?_ | refine BlockQ_n ?_)); exact ⟨1, by omega, by omega, weak_t [0, 1] _ _ rfl (by decide) ⟨by decide, by decide⟩ (by simp [go_sem, e, addL, hm]) (by simp [go_sem, e, addL, hm])⟩
      · repeat' (first
 | (with_reducible refine Mk_i ?_; try simp (disch := omega) only [go_sem, seval, irw, h2])
 | ((with_reducible first | refine hK' _ _ ?_ | refine hK' _ _ _ ?_); clear hK' K')
 | (with_reducible refine RT_step fun K' hK' => ?_; first | refine R2_n ?_ | refine Rf rfl rfl ?_ | refine Rf' rfl rfl ?_ | refine R2_gu rfl rfl ?_ | refine Rt rfl rfl ?_ | refine R2_g rfl rfl (fun hg => ?_) (fun hg => ?_) rfl)
 | (with_reducible refine RT_nil ?_; refine hK _ ?_; clear hK K)
 | (with_reducible refine MkG_i ?_; (try simp only [bnq] at hg); (try (have hgp := hg; simp only [bdq] at hgp)); try simp (disch := omega) only [go_sem, seval, irw, h2, hg])
 | (with_reducible refine RL_step fun K' hK' => ?_; first | refine L2_n ?_ | refine Lf rfl rfl ?_ | refine Lf' rfl rfl ?_ | refine L2_gu rfl rfl ?_ | refine Lt rfl rfl ?_ | refine L2_g rfl rfl (fun hg => ?_) (fun hg => ?_) rfl)
 | (with_reducible refine RL_nil ⟨by kernel_rfl, hK _ ?_⟩; clear hK K)
 | (with_reducible first | refine AL_seq ?_ | refine AL_skip ?_ | refine AL_nil ?_ | refine SeqQ_n ?_ | refine BlockQ_n ?_)
 | (refine AL_text2 rfl fun K hK => ?_; simp only [List.map])
 | (refine AL_draw2 mixed rfl (by kernel_rfl) fun K hK => ?_; simp only [List.map])
 | (with_reducible refine AL_block ?_)
 | (with_reducible refine AL_exit ?_; simp only [SeqQ, BlockQ, go_sem, seval])
 | (refine Ct rfl ?_)
 | (refine Cf rfl ?_)
 | (refine AL_condb rfl (fun hg => ?_) (fun hg => ?_) <;> ((try simp only [bnq] at hg); (try (have hgp := hg; simp only [bdq] at hgp))))
 | (refine CallK_ecM (ec_add_out (Lk 0) i.x hm (by omega)) en_37 [1, 2] 3 (by decide) (by simp [go_sem]) rfl (by decide) (by simp [go_sem]) (by simp [go_sem]) (by simp [go_sem]) (by simp [go_sem]) ?_)
 | (with_reducible first | refine ite_elimM (fun hg => ?_) (fun hg => ?_) | refine And.intro ?_ ?_)
 | omega)
        (repeat (with_reducible first | refine AL_nil ?_ | refine SeqQ_n ?_ | refine BlockQ_n ?_)); exact ⟨1, by omega, by omega, weak_t [0, 2] _ _ rfl (by decide) ⟨by decide, by decide⟩ (by simp [go_sem, e, addL, hm]) (by simp [go_sem, e, addL, hm])⟩
    · have e := main i.y rfl
      by_cases hm : i.y ∈ Lk 1
      · repeat' (first
 | (with_reducible refine Mk_i ?_; try simp (disch := omega) only [go_sem, seval, irw, h2])
 | ((with_reducible first | refine hK' _ _ ?_ | refine hK' _ _ _ ?_); clear hK' K')
 | (with_reducible refine RT_step fun K' hK' => ?_; first | refine R2_n ?_ | refine Rf rfl rfl ?_ | refine Rf' rfl rfl ?_ | refine R2_gu rfl rfl ?_ | refine Rt rfl rfl ?_ | refine R2_g rfl rfl (fun hg => ?_) (fun hg => ?_) rfl)
 | (with_reducible refine RT_nil ?_; refine hK _ ?_; clear hK K)
 | (with_reducible refine MkG_i ?_; (try simp only [bnq] at hg); (try (have hgp := hg; simp only [bdq] at hgp)); try simp (disch := omega) only [go_sem, seval, irw, h2, hg])
 | (with_reducible refine RL_step fun K' hK' => ?_; first | refine L2_n ?_ | refine Lf rfl rfl ?_ | refine Lf' rfl rfl ?_ | refine L2_gu rfl rfl ?_ | refine Lt rfl rfl ?_ | refine L2_g rfl rfl (fun hg => ?_) (fun hg => ?_) rfl)
 | (with_reducible refine RL_nil ⟨by kernel_rfl, hK _ ?_⟩; clear hK K)
 | (with_reducible first | refine AL_seq ?_ | refine AL_skip ?_ | refine AL_nil ?_ | refine SeqQ_n ?_ | refine BlockQ_n ?_)
 | (refine AL_text2 rfl fun K hK => ?_; simp only [List.map])
 | (refine AL_draw2 mixed rfl (by kernel_rfl) fun K hK => ?_; simp only [List.map])
 | (with_reducible refine AL_block ?_)
 | (with_reducible refine AL_exit ?_; simp only [SeqQ, BlockQ, go_sem, seval])
 | (refine Ct rfl ?_)
 | (refine Cf rfl ?_)
 | (refine AL_condb rfl (fun hg => ?_) (fun hg => ?_) <;> ((try simp only [bnq] at hg); (try (have hgp := hg; simp only [bdq] at hgp))))
 | (refine CallK_ecM (ec_add_in (Lk 1) i.y hm) en_37 [1] 2 (by decide) (by simp [go_sem]) rfl (by decide) (by simp [go_sem]) (by simp [go_sem]) (by simp [go_sem]) (by simp [go_sem]) ?_)
 | (with_reducible first | refine ite_elimM (fun hg => ?_) (fun hg => ?_) | refine And.intro ?_ ?_)
 | omega)
        (repeat (with_reducible first | refine AL_nil ?_ | refine SeqQ_n ?_ | refine BlockQ_n ?_)); exact ⟨2, by omega, by omega, weak_t [0, 1] _ _ rfl (by decide) ⟨by decide, by decide⟩ (by simp [go_sem, e, addL, hm]) (by simp [go_sem, e, addL, hm])⟩
      · repeat' (first
 | (with_reducible refine Mk_i ?_; try simp (disch := omega) only [go_sem, seval, irw, h2])
 | ((with_reducible first | refine hK' _ _ ?_ | refine hK' _ _ _ ?_); clear hK' K')
 | (with_reducible refine RT_step fun K' hK' => ?_; first | refine R2_n ?_ | refine Rf rfl rfl ?_ | refine Rf' rfl rfl ?_ | refine R2_gu rfl rfl ?_ | refine Rt rfl rfl ?_ | refine R2_g rfl rfl (fun hg => ?_) (fun hg => ?_) rfl)
 | (with_reducible refine RT_nil ?_; refine hK _ ?_; clear hK K)
 | (with_reducible refine MkG_i ?_; (try simp only [bnq] at hg); (try (have hgp := hg; simp only [bdq] at hgp)); try simp (disch := omega) only [go_sem, seval, irw, h2, hg])
 | (with_reducible refine RL_step fun K' hK' => ?_; first | refine L2_n ?_ | refine Lf rfl rfl ?_ | refine Lf' rfl rfl ?_ | refine L2_gu rfl rfl ?_ | refine Lt rfl rfl ?_ | refine L2_g rfl rfl (fun hg => ?_) (fun hg => ?_) rfl)
 | (with_reducible refine RL_nil ⟨by kernel_rfl, hK _ ?_⟩; clear hK K)
 | (with_reducible first | refine AL_seq ?_ | refine AL_skip ?_ | refine AL_nil ?_ | refine SeqQ_n ?_ | refine BlockQ_n ?_)
 | (refine AL_text2 rfl fun K hK => ?_; simp only [List.map])
 | (refine AL_draw2 mixed rfl (by kernel_rfl) fun K hK => ?_; simp only [List.map])
 | (with_reducible refine AL_block ?_)
 | (with_reducible refine AL_exit ?_; simp only [SeqQ, BlockQ, go_sem, seval])
 | (refine Ct rfl ?_)
 | (refine Cf rfl ?_)
 | (refine AL_condb rfl (fun hg => ?_) (fun hg => ?_) <;> ((try simp only [bnq] at hg); (try (have hgp := hg; simp only [bdq] at hgp))))
 | (refine CallK_ecM (ec_add_out (Lk 1) i.y hm (by omega)) en_37 [1, 2] 3 (by decide) (by simp [go_sem]) rfl (by decide) (by simp [go_sem]) (by simp [go_sem]) (by simp [go_sem]) (by simp [go_sem]) ?_)
 | (with_reducible first | refine ite_elimM (fun hg => ?_) (fun hg => ?_) | refine And.intro ?_ ?_)
 | omega)
        (repeat (with_reducible first | refine AL_nil ?_ | refine SeqQ_n ?_ | refine BlockQ_n ?_)); exact ⟨2, by omega, by omega, weak_t [0, 2] _ _ rfl (by decide) ⟨by decide, by decide⟩ (by simp [go_sem, e, addL, hm]) (by simp [go_sem, e, addL, hm])⟩
    · have e := main i.z rfl
      by_cases hm : i.z ∈ Lk 2
      · repeat' (first
 | (with_reducible refine Mk_i ?_; try simp (disch := omega) only [go_sem, seval, irw, h2])
 | ((with_reducible first | refine hK' _ _ ?_ | refine hK' _ _ _ ?_); clear hK' K')
 | (with_reducible refine RT_step fun K' hK' => ?_; first | refine R2_n ?_ | refine Rf rfl rfl ?_ | refine Rf' rfl rfl ?_ | refine R2_gu rfl rfl ?_ | refine Rt rfl rfl ?_ | refine R2_g rfl rfl (fun hg => ?_) (fun hg => ?_) rfl)
 | (with_reducible refine RT_nil ?_; refine hK _ ?_; clear hK K)
 | (with_reducible refine MkG_i ?_; (try simp only [bnq] at hg); (try (have hgp := hg; simp only [bdq] at hgp)); try simp (disch := omega) only [go_sem, seval, irw, h2, hg])
 | (with_reducible refine RL_step fun K' hK' => ?_; first | refine L2_n ?_ | refine Lf rfl rfl ?_ | refine Lf' rfl rfl ?_ | refine L2_gu rfl rfl ?_ | refine Lt rfl rfl ?_ | refine L2_g rfl rfl (fun hg => ?_) (fun hg => ?_) rfl)
 | (with_reducible refine RL_nil ⟨by kernel_rfl, hK _ ?_⟩; clear hK K)
 | (with_reducible first | refine AL_seq ?_ | refine AL_skip ?_ | refine AL_nil ?_ | refine SeqQ_n ?_ | refine BlockQ_n ?_)
 | (refine AL_text2 rfl fun K hK => ?_; simp only [List.map])
 | (refine AL_draw2 mixed rfl (by kernel_rfl) fun K hK => ?_; simp only [List.map])
 | (with_reducible refine AL_block ?_)
 | (with_reducible refine AL_exit ?_; simp only [SeqQ, BlockQ, go_sem, seval])
 | (refine Ct rfl ?_)
 | (refine Cf rfl ?_)
 | (refine AL_condb rfl (fun hg => ?_) (fun hg => ?_) <;> ((try simp only [bnq] at hg); (try (have hgp := hg; simp only [bdq] at hgp))))
 | (refine CallK_ecM (ec_add_in (Lk 2) i.z hm) en_37 [1] 2 (by decide) (by simp [go_sem]) rfl (by decide) (by simp [go_sem]) (by simp [go_sem]) (by simp [go_sem]) (by simp [go_sem]) ?_)
 | (with_reducible first | refine ite_elimM (fun hg => ?_) (fun hg => ?_) | refine And.intro ?_ ?_)
 | omega)
        (repeat (with_reducible first | refine AL_nil ?_ | refine SeqQ_n ?_ | refine BlockQ_n ?_)); exact ⟨3, by omega, by omega, weak_t [0, 1] _ _ rfl (by decide) ⟨by decide, by decide⟩ (by simp [go_sem, e, addL, hm]) (by simp [go_sem, e, addL, hm])⟩
      · repeat' (first
 | (with_reducible refine Mk_i ?_; try simp (disch := omega) only [go_sem, seval, irw, h2])
 | ((with_reducible first | refine hK' _ _ ?_ | refine hK' _ _ _ ?_); clear hK' K')
 | (with_reducible refine RT_step fun K' hK' => ?_; first | refine R2_n ?_ | refine Rf rfl rfl ?_ | refine Rf' rfl rfl ?_ | refine R2_gu rfl rfl ?_ | refine Rt rfl rfl ?_ | refine R2_g rfl rfl (fun hg => ?_) (fun hg => ?_) rfl)
 | (with_reducible refine RT_nil ?_; refine hK _ ?_; clear hK K)
 | (with_reducible refine MkG_i ?_; (try simp only [bnq] at hg); (try (have hgp := hg; simp only [bdq] at hgp)); try simp (disch := omega) only [go_sem, seval, irw, h2, hg])
 | (with_reducible refine RL_step fun K' hK' => ?_; first | refine L2_n ?_ | refine Lf rfl rfl ?_ | refine Lf' rfl rfl ?_ | refine L2_gu rfl rfl ?_ | refine Lt rfl rfl ?_ | refine L2_g rfl rfl (fun hg => ?_) (fun hg => ?_) rfl)
 | (with_reducible refine RL_nil ⟨by kernel_rfl, hK _ ?_⟩; clear hK K)
 | (with_reducible first | refine AL_seq ?_ | refine AL_skip ?_ | refine AL_nil ?_ | refine SeqQ_n ?_ | refine BlockQ_n ?_)
 | (refine AL_text2 rfl fun K hK => ?_; simp only [List.map])
 | (refine AL_draw2 mixed rfl (by kernel_rfl) fun K hK => ?_; simp only [List.map])
 | (with_reducible refine AL_block ?_)
 | (with_reducible refine AL_exit ?_; simp only [SeqQ, BlockQ, go_sem, seval])
 | (refine Ct rfl ?_)
 | (refine Cf rfl ?_)
 | (refine AL_condb rfl (fun hg => ?_) (fun hg => ?_) <;> ((try simp only [bnq] at hg); (try (have hgp := hg; simp only [bdq] at hgp))))
 | (refine CallK_ecM (ec_add_out (Lk 2) i.z hm (by omega)) en_37 [1, 2] 3 (by decide) (by simp [go_sem]) rfl (by decide) (by simp [go_sem]) (by simp [go_sem]) (by simp [go_sem]) (by simp [go_sem]) ?_)
 | (with_reducible first | refine ite_elimM (fun hg => ?_) (fun hg => ?_) | refine And.intro ?_ ?_)
 | omega)
        (repeat (with_reducible first | refine AL_nil ?_ | refine SeqQ_n ?_ | refine BlockQ_n ?_)); exact ⟨3, by omega, by omega, weak_t [0, 2] _ _ rfl (by decide) ⟨by decide, by decide⟩ (by simp [go_sem, e, addL, hm]) (by simp [go_sem, e, addL, hm])⟩
end Go.Proofs.YtjlcojgimicfbaaDoor
/- What an instruction reads: the program's word. -/
namespace Go.Proofs.YtjlcojgimicfbaaDoor
open Go.Am
set_option linter.unusedSimpArgs false
set_option maxRecDepth 100000
set_option maxHeartbeats 4000000
variable {Γ : Nat → Option Obj}

def partA (i : Ins) : List Int := if hasP i.kind 97 then [i.a] else []
def partB (i : Ins) : List Int := if hasP i.kind 98 then partA i ++ [i.b] else partA i
def partL (i : Ins) : List Int := partB i ++ (argsI i).take i.n.toNat
def usesI (i : Ins) : List Int := if formI i then (partL i).foldl addL [] else []
theorem partA_len (i : Ins) : (partA i).length ≤ 1 := by
  unfold partA; split <;> simp
theorem partB_len (i : Ins) : (partB i).length ≤ 2 := by
  have h := partA_len i
  unfold partB; split
  · simp; omega
  · omega
theorem formI_n {i : Ins} (h : formI i = true) : 0 ≤ i.n ∧ i.n ≤ 3 := by
  simp only [formI, offI, Bool.and_eq_true, Bool.not_eq_true', Bool.or_eq_false_iff, decide_eq_false_iff_not] at h
  omega
theorem foldl_addL_len (l m : List Int) : (l.foldl addL m).length ≤ m.length + l.length := by
  induction l generalizing m with
  | nil => simp
  | cons x l ih =>
    have h1 := ih (addL m x)
    have h2 := addL_len m x
    simp only [List.foldl_cons, List.length_cons]
    omega

theorem ec_Uses (hB : Blanks Γ) (i : Ins) : EC Γ Tryd.prog 13 [ins i] [] (.os 1 0 0 (usesI i).length) [some (.rows 1 (iRows (usesI i)))] := by
  refine ec_start1 0 rfl Tryd.func13 rfl (by simp [Tryd.f13]) rfl ?_
  (repeat (with_reducible first | refine AL_seq ?_ | refine AL_skip ?_ | refine AL_nil ?_ | refine SeqQ_n ?_ | refine BlockQ_n ?_)); (first
 | (refine AL_text2 rfl fun K hK => ?_; simp only [List.map])
 | (refine AL_draw2 mixed rfl (by kernel_rfl) fun K hK => ?_; simp only [List.map])
 | (with_reducible refine AL_block ?_)
 | (with_reducible refine AL_exit ?_; simp only [SeqQ, BlockQ, go_sem, seval])
 | (refine Ct rfl ?_)
 | (refine Cf rfl ?_)
 | (refine AL_condb rfl (fun hg => ?_) (fun hg => ?_) <;> ((try simp only [bnq] at hg); (try (have hgp := hg; simp only [bdq] at hgp))))); repeat' (first
 | (with_reducible refine Mk_i ?_; try simp (disch := omega) only [go_sem, seval, irw])
 | ((with_reducible first | refine hK' _ _ ?_ | refine hK' _ _ _ ?_); clear hK' K')
 | (with_reducible refine RT_step fun K' hK' => ?_; first | refine R2_n ?_ | refine Rf rfl rfl ?_ | refine Rf' rfl rfl ?_ | refine R2_gu rfl rfl ?_ | refine Rt rfl rfl ?_ | refine R2_g rfl rfl (fun hg => ?_) (fun hg => ?_) rfl)
 | (with_reducible refine RT_nil ?_; refine hK _ ?_; clear hK K)
 | (with_reducible refine MkG_i ?_; (try simp only [bnq] at hg); (try (have hgp := hg; simp only [bdq] at hgp)); try simp (disch := omega) only [go_sem, seval, irw, hg])
 | (with_reducible refine RL_step fun K' hK' => ?_; first | refine L2_n ?_ | refine Lf rfl rfl ?_ | refine Lf' rfl rfl ?_ | refine L2_gu rfl rfl ?_ | refine Lt rfl rfl ?_ | refine L2_g rfl rfl (fun hg => ?_) (fun hg => ?_) rfl)
 | (with_reducible refine RL_nil ⟨by kernel_rfl, hK _ ?_⟩; clear hK K)
 | (with_reducible first | refine ite_elimM (fun hg => ?_) (fun hg => ?_) | refine And.intro ?_ ?_)
 | omega)
  (repeat (with_reducible first | refine AL_seq ?_ | refine AL_skip ?_ | refine AL_nil ?_ | refine SeqQ_n ?_ | refine BlockQ_n ?_)); (first
 | (refine AL_text2 rfl fun K hK => ?_; simp only [List.map])
 | (refine AL_draw2 mixed rfl (by kernel_rfl) fun K hK => ?_; simp only [List.map])
 | (with_reducible refine AL_block ?_)
 | (with_reducible refine AL_exit ?_; simp only [SeqQ, BlockQ, go_sem, seval])
 | (refine Ct rfl ?_)
 | (refine Cf rfl ?_)
 | (refine AL_condb rfl (fun hg => ?_) (fun hg => ?_) <;> ((try simp only [bnq] at hg); (try (have hgp := hg; simp only [bdq] at hgp))))); repeat' (first
 | (with_reducible refine Mk_i ?_; try simp (disch := omega) only [go_sem, seval, irw])
 | ((with_reducible first | refine hK' _ _ ?_ | refine hK' _ _ _ ?_); clear hK' K')
 | (with_reducible refine RT_step fun K' hK' => ?_; first | refine R2_n ?_ | refine Rf rfl rfl ?_ | refine Rf' rfl rfl ?_ | refine R2_gu rfl rfl ?_ | refine Rt rfl rfl ?_ | refine R2_g rfl rfl (fun hg => ?_) (fun hg => ?_) rfl)
 | (with_reducible refine RT_nil ?_; refine hK _ ?_; clear hK K)
 | (with_reducible refine MkG_i ?_; (try simp only [bnq] at hg); (try (have hgp := hg; simp only [bdq] at hgp)); try simp (disch := omega) only [go_sem, seval, irw, hg])
 | (with_reducible refine RL_step fun K' hK' => ?_; first | refine L2_n ?_ | refine Lf rfl rfl ?_ | refine Lf' rfl rfl ?_ | refine L2_gu rfl rfl ?_ | refine Lt rfl rfl ?_ | refine L2_g rfl rfl (fun hg => ?_) (fun hg => ?_) rfl)
 | (with_reducible refine RL_nil ⟨by kernel_rfl, hK _ ?_⟩; clear hK K)
 | (refine CallK_pureM (c_Form hB i) en_8 rfl ?_)
 | (with_reducible first | refine ite_elimM (fun hg => ?_) (fun hg => ?_) | refine And.intro ?_ ?_)
 | omega)
  cases h0 : formI i
  · repeat' (first
 | (with_reducible refine Mk_i ?_; try simp (disch := omega) only [go_sem, seval, irw, h0])
 | ((with_reducible first | refine hK' _ _ ?_ | refine hK' _ _ _ ?_); clear hK' K')
 | (with_reducible refine RT_step fun K' hK' => ?_; first | refine R2_n ?_ | refine Rf rfl rfl ?_ | refine Rf' rfl rfl ?_ | refine R2_gu rfl rfl ?_ | refine Rt rfl rfl ?_ | refine R2_g rfl rfl (fun hg => ?_) (fun hg => ?_) rfl)
 | (with_reducible refine RT_nil ?_; refine hK _ ?_; clear hK K)
 | (with_reducible refine MkG_i ?_; (try simp only [bnq] at hg); (try (have hgp := hg; simp only [bdq] at hgp)); try simp (disch := omega) only [go_sem, seval, irw, h0, hg])
 | (with_reducible refine RL_step fun K' hK' => ?_; first | refine L2_n ?_ | refine Lf rfl rfl ?_ | refine Lf' rfl rfl ?_ | refine L2_gu rfl rfl ?_ | refine Lt rfl rfl ?_ | refine L2_g rfl rfl (fun hg => ?_) (fun hg => ?_) rfl)
 | (with_reducible refine RL_nil ⟨by kernel_rfl, hK _ ?_⟩; clear hK K)
 | (with_reducible first | refine AL_seq ?_ | refine AL_skip ?_ | refine AL_nil ?_ | refine SeqQ_n ?_ | refine BlockQ_n ?_)
 | (refine AL_text2 rfl fun K hK => ?_; simp only [List.map])
 | (refine AL_draw2 mixed rfl (by kernel_rfl) fun K hK => ?_; simp only [List.map])
 | (with_reducible refine AL_block ?_)
 | (with_reducible refine AL_exit ?_; simp only [SeqQ, BlockQ, go_sem, seval])
 | (refine Ct rfl ?_)
 | (refine Cf rfl ?_)
 | (refine AL_condb rfl (fun hg => ?_) (fun hg => ?_) <;> ((try simp only [bnq] at hg); (try (have hgp := hg; simp only [bdq] at hgp))))
 | (with_reducible first | refine ite_elimM (fun hg => ?_) (fun hg => ?_) | refine And.intro ?_ ?_)
 | omega)
    refine AL_weak (weak_nil 2 1 rfl) ?_ (by simp)
    refine AL_weak (st2 := ⟨tA [(2, .os 1 0 0 0)], tO [some (.rows 1 [])]⟩) (weak_t [1] _ _ rfl (by decide) ⟨by decide, by decide⟩ (by simp [go_sem]) (by simp [go_sem])) ?_ (by simp)
    (refine AL_ret (ECQ_end ?_ ?_) <;> simp [go_sem, usesI, h0])
  have hn := formI_n h0
  (repeat (with_reducible first | refine AL_seq ?_ | refine AL_skip ?_ | refine AL_nil ?_ | refine SeqQ_n ?_ | refine BlockQ_n ?_)); (first
 | (refine AL_text2 rfl fun K hK => ?_; simp only [List.map])
 | (refine AL_draw2 mixed rfl (by kernel_rfl) fun K hK => ?_; simp only [List.map])
 | (with_reducible refine AL_block ?_)
 | (with_reducible refine AL_exit ?_; simp only [SeqQ, BlockQ, go_sem, seval])
 | (refine Ct rfl ?_)
 | (refine Cf rfl ?_)
 | (refine AL_condb rfl (fun hg => ?_) (fun hg => ?_) <;> ((try simp only [bnq] at hg); (try (have hgp := hg; simp only [bdq] at hgp))))); repeat' (first
 | (with_reducible refine Mk_i ?_; try simp (disch := omega) only [go_sem, seval, irw])
 | ((with_reducible first | refine hK' _ _ ?_ | refine hK' _ _ _ ?_); clear hK' K')
 | (with_reducible refine RT_step fun K' hK' => ?_; first | refine R2_n ?_ | refine Rf rfl rfl ?_ | refine Rf' rfl rfl ?_ | refine R2_gu rfl rfl ?_ | refine Rt rfl rfl ?_ | refine R2_g rfl rfl (fun hg => ?_) (fun hg => ?_) rfl)
 | (with_reducible refine RT_nil ?_; refine hK _ ?_; clear hK K)
 | (with_reducible refine MkG_i ?_; (try simp only [bnq] at hg); (try (have hgp := hg; simp only [bdq] at hgp)); try simp (disch := omega) only [go_sem, seval, irw, hg])
 | (with_reducible refine RL_step fun K' hK' => ?_; first | refine L2_n ?_ | refine Lf rfl rfl ?_ | refine Lf' rfl rfl ?_ | refine L2_gu rfl rfl ?_ | refine Lt rfl rfl ?_ | refine L2_g rfl rfl (fun hg => ?_) (fun hg => ?_) rfl)
 | (with_reducible refine RL_nil ⟨by kernel_rfl, hK _ ?_⟩; clear hK K)
 | (with_reducible first | refine ite_elimM (fun hg => ?_) (fun hg => ?_) | refine And.intro ?_ ?_)
 | omega)
  (repeat (with_reducible first | refine AL_seq ?_ | refine AL_skip ?_ | refine AL_nil ?_ | refine SeqQ_n ?_ | refine BlockQ_n ?_)); (first
 | (refine AL_text2 rfl fun K hK => ?_; simp only [List.map])
 | (refine AL_draw2 mixed rfl (by kernel_rfl) fun K hK => ?_; simp only [List.map])
 | (with_reducible refine AL_block ?_)
 | (with_reducible refine AL_exit ?_; simp only [SeqQ, BlockQ, go_sem, seval])
 | (refine Ct rfl ?_)
 | (refine Cf rfl ?_)
 | (refine AL_condb rfl (fun hg => ?_) (fun hg => ?_) <;> ((try simp only [bnq] at hg); (try (have hgp := hg; simp only [bdq] at hgp))))); repeat' (first
 | (with_reducible refine Mk_i ?_; try simp (disch := omega) only [go_sem, seval, irw])
 | ((with_reducible first | refine hK' _ _ ?_ | refine hK' _ _ _ ?_); clear hK' K')
 | (with_reducible refine RT_step fun K' hK' => ?_; first | refine R2_n ?_ | refine Rf rfl rfl ?_ | refine Rf' rfl rfl ?_ | refine R2_gu rfl rfl ?_ | refine Rt rfl rfl ?_ | refine R2_g rfl rfl (fun hg => ?_) (fun hg => ?_) rfl)
 | (with_reducible refine RT_nil ?_; refine hK _ ?_; clear hK K)
 | (with_reducible refine MkG_i ?_; (try simp only [bnq] at hg); (try (have hgp := hg; simp only [bdq] at hgp)); try simp (disch := omega) only [go_sem, seval, irw, hg])
 | (with_reducible refine RL_step fun K' hK' => ?_; first | refine L2_n ?_ | refine Lf rfl rfl ?_ | refine Lf' rfl rfl ?_ | refine L2_gu rfl rfl ?_ | refine Lt rfl rfl ?_ | refine L2_g rfl rfl (fun hg => ?_) (fun hg => ?_) rfl)
 | (with_reducible refine RL_nil ⟨by kernel_rfl, hK _ ?_⟩; clear hK K)
 | (with_reducible first | refine ite_elimM (fun hg => ?_) (fun hg => ?_) | refine And.intro ?_ ?_)
 | omega)
  refine AL_weak (weak_nil 3 1 rfl) ?_ (by simp)
  let S : List Int → St := fun L => ⟨tA [(1, .op 11 0 0 0), (3, .os 1 1 0 L.length)], tO [some (.rows 11 [i.cells]), some (.rows 1 (iRows L))]⟩
  (repeat (with_reducible first | refine AL_seq ?_ | refine AL_skip ?_ | refine AL_nil ?_ | refine SeqQ_n ?_ | refine BlockQ_n ?_)); (first
 | (refine AL_text2 rfl fun K hK => ?_; simp only [List.map])
 | (refine AL_draw2 mixed rfl (by kernel_rfl) fun K hK => ?_; simp only [List.map])
 | (with_reducible refine AL_block ?_)
 | (with_reducible refine AL_exit ?_; simp only [SeqQ, BlockQ, go_sem, seval])
 | (refine Ct rfl ?_)
 | (refine Cf rfl ?_)
 | (refine AL_condb rfl (fun hg => ?_) (fun hg => ?_) <;> ((try simp only [bnq] at hg); (try (have hgp := hg; simp only [bdq] at hgp))))); repeat' (first
 | (with_reducible refine Mk_i ?_; try simp (disch := omega) only [go_sem, seval, irw, h0])
 | ((with_reducible first | refine hK' _ _ ?_ | refine hK' _ _ _ ?_); clear hK' K')
 | (with_reducible refine RT_step fun K' hK' => ?_; first | refine R2_n ?_ | refine Rf rfl rfl ?_ | refine Rf' rfl rfl ?_ | refine R2_gu rfl rfl ?_ | refine Rt rfl rfl ?_ | refine R2_g rfl rfl (fun hg => ?_) (fun hg => ?_) rfl)
 | (with_reducible refine RT_nil ?_; refine hK _ ?_; clear hK K)
 | (with_reducible refine MkG_i ?_; (try simp only [bnq] at hg); (try (have hgp := hg; simp only [bdq] at hgp)); try simp (disch := omega) only [go_sem, seval, irw, h0, hg])
 | (with_reducible refine RL_step fun K' hK' => ?_; first | refine L2_n ?_ | refine Lf rfl rfl ?_ | refine Lf' rfl rfl ?_ | refine L2_gu rfl rfl ?_ | refine Lt rfl rfl ?_ | refine L2_g rfl rfl (fun hg => ?_) (fun hg => ?_) rfl)
 | (with_reducible refine RL_nil ⟨by kernel_rfl, hK _ ?_⟩; clear hK K)
 | (refine CallK_pureM (c_has hB i 97) en_35 rfl ?_)
 | (with_reducible first | refine ite_elimM (fun hg => ?_) (fun hg => ?_) | refine And.intro ?_ ?_)
 | omega)
  refine AL_cut S (fun L => L = partA i) ?_ ?_
  · cases h1 : hasP i.kind 97
    · repeat' (first
 | (with_reducible refine Mk_i ?_; try simp (disch := omega) only [go_sem, seval, irw, h1])
 | ((with_reducible first | refine hK' _ _ ?_ | refine hK' _ _ _ ?_); clear hK' K')
 | (with_reducible refine RT_step fun K' hK' => ?_; first | refine R2_n ?_ | refine Rf rfl rfl ?_ | refine Rf' rfl rfl ?_ | refine R2_gu rfl rfl ?_ | refine Rt rfl rfl ?_ | refine R2_g rfl rfl (fun hg => ?_) (fun hg => ?_) rfl)
 | (with_reducible refine RT_nil ?_; refine hK _ ?_; clear hK K)
 | (with_reducible refine MkG_i ?_; (try simp only [bnq] at hg); (try (have hgp := hg; simp only [bdq] at hgp)); try simp (disch := omega) only [go_sem, seval, irw, h1, hg])
 | (with_reducible refine RL_step fun K' hK' => ?_; first | refine L2_n ?_ | refine Lf rfl rfl ?_ | refine Lf' rfl rfl ?_ | refine L2_gu rfl rfl ?_ | refine Lt rfl rfl ?_ | refine L2_g rfl rfl (fun hg => ?_) (fun hg => ?_) rfl)
 | (with_reducible refine RL_nil ⟨by kernel_rfl, hK _ ?_⟩; clear hK K)
 | (with_reducible first | refine AL_seq ?_ | refine AL_skip ?_ | refine AL_nil ?_ | refine SeqQ_n ?_ | refine BlockQ_n ?_)
 | (refine AL_text2 rfl fun K hK => ?_; simp only [List.map])
 | (refine AL_draw2 mixed rfl (by kernel_rfl) fun K hK => ?_; simp only [List.map])
 | (with_reducible refine AL_block ?_)
 | (with_reducible refine AL_exit ?_; simp only [SeqQ, BlockQ, go_sem, seval])
 | (refine Ct rfl ?_)
 | (refine Cf rfl ?_)
 | (refine AL_condb rfl (fun hg => ?_) (fun hg => ?_) <;> ((try simp only [bnq] at hg); (try (have hgp := hg; simp only [bdq] at hgp))))
 | (with_reducible first | refine ite_elimM (fun hg => ?_) (fun hg => ?_) | refine And.intro ?_ ?_)
 | omega)
      (repeat (with_reducible first | refine AL_nil ?_ | refine SeqQ_n ?_ | refine BlockQ_n ?_)); exact ⟨[], (by simp [partA, h1]), weak_t [0, 1] _ _ rfl (by decide) ⟨by decide, by decide⟩ (by simp [go_sem]) (by simp [go_sem])⟩
    · repeat' (first
 | (with_reducible refine Mk_i ?_; try simp (disch := omega) only [go_sem, seval, irw])
 | ((with_reducible first | refine hK' _ _ ?_ | refine hK' _ _ _ ?_); clear hK' K')
 | (with_reducible refine RT_step fun K' hK' => ?_; first | refine R2_n ?_ | refine Rf rfl rfl ?_ | refine Rf' rfl rfl ?_ | refine R2_gu rfl rfl ?_ | refine Rt rfl rfl ?_ | refine R2_g rfl rfl (fun hg => ?_) (fun hg => ?_) rfl)
 | (with_reducible refine RT_nil ?_; refine hK _ ?_; clear hK K)
 | (with_reducible refine MkG_i ?_; (try simp only [bnq] at hg); (try (have hgp := hg; simp only [bdq] at hgp)); try simp (disch := omega) only [go_sem, seval, irw, hg])
 | (with_reducible refine RL_step fun K' hK' => ?_; first | refine L2_n ?_ | refine Lf rfl rfl ?_ | refine Lf' rfl rfl ?_ | refine L2_gu rfl rfl ?_ | refine Lt rfl rfl ?_ | refine L2_g rfl rfl (fun hg => ?_) (fun hg => ?_) rfl)
 | (with_reducible refine RL_nil ⟨by kernel_rfl, hK _ ?_⟩; clear hK K)
 | (with_reducible first | refine AL_seq ?_ | refine AL_skip ?_ | refine AL_nil ?_ | refine SeqQ_n ?_ | refine BlockQ_n ?_)
 | (refine AL_text2 rfl fun K hK => ?_; simp only [List.map])
 | (refine AL_draw2 mixed rfl (by kernel_rfl) fun K hK => ?_; simp only [List.map])
 | (with_reducible refine AL_block ?_)
 | (with_reducible refine AL_exit ?_; simp only [SeqQ, BlockQ, go_sem, seval])
 | (refine Ct rfl ?_)
 | (refine Cf rfl ?_)
 | (refine AL_condb rfl (fun hg => ?_) (fun hg => ?_) <;> ((try simp only [bnq] at hg); (try (have hgp := hg; simp only [bdq] at hgp))))
 | (with_reducible first | refine ite_elimM (fun hg => ?_) (fun hg => ?_) | refine And.intro ?_ ?_)
 | omega)
      (repeat (with_reducible first | refine AL_nil ?_ | refine SeqQ_n ?_ | refine BlockQ_n ?_)); exact ⟨[i.a], (by simp [partA, h1]), weak_t [0, 2] _ _ rfl (by decide) ⟨by decide, by decide⟩ (by simp [go_sem]) (by simp [go_sem])⟩
  rintro L rfl
  have hL := partA_len i
  (repeat (with_reducible first | refine AL_seq ?_ | refine AL_skip ?_ | refine AL_nil ?_ | refine SeqQ_n ?_ | refine BlockQ_n ?_)); (first
 | (refine AL_text2 rfl fun K hK => ?_; simp only [List.map])
 | (refine AL_draw2 mixed rfl (by kernel_rfl) fun K hK => ?_; simp only [List.map])
 | (with_reducible refine AL_block ?_)
 | (with_reducible refine AL_exit ?_; simp only [SeqQ, BlockQ, go_sem, seval])
 | (refine Ct rfl ?_)
 | (refine Cf rfl ?_)
 | (refine AL_condb rfl (fun hg => ?_) (fun hg => ?_) <;> ((try simp only [bnq] at hg); (try (have hgp := hg; simp only [bdq] at hgp))))); repeat' (first
 | (with_reducible refine Mk_i ?_; try simp (disch := omega) only [go_sem, seval, irw, h0, S])
 | ((with_reducible first | refine hK' _ _ ?_ | refine hK' _ _ _ ?_); clear hK' K')
 | (with_reducible refine RT_step fun K' hK' => ?_; first | refine R2_n ?_ | refine Rf rfl rfl ?_ | refine Rf' rfl rfl ?_ | refine R2_gu rfl rfl ?_ | refine Rt rfl rfl ?_ | refine R2_g rfl rfl (fun hg => ?_) (fun hg => ?_) rfl)
 | (with_reducible refine RT_nil ?_; refine hK _ ?_; clear hK K)
 | (with_reducible refine MkG_i ?_; (try simp only [bnq] at hg); (try (have hgp := hg; simp only [bdq] at hgp)); try simp (disch := omega) only [go_sem, seval, irw, h0, S, hg])
 | (with_reducible refine RL_step fun K' hK' => ?_; first | refine L2_n ?_ | refine Lf rfl rfl ?_ | refine Lf' rfl rfl ?_ | refine L2_gu rfl rfl ?_ | refine Lt rfl rfl ?_ | refine L2_g rfl rfl (fun hg => ?_) (fun hg => ?_) rfl)
 | (with_reducible refine RL_nil ⟨by kernel_rfl, hK _ ?_⟩; clear hK K)
 | (refine CallK_pureM (c_has hB i 98) en_35 rfl ?_)
 | (with_reducible first | refine ite_elimM (fun hg => ?_) (fun hg => ?_) | refine And.intro ?_ ?_)
 | omega)
  refine AL_cut S (fun L => L = partB i) ?_ ?_
  · cases h1 : hasP i.kind 98
    · repeat' (first
 | (with_reducible refine Mk_i ?_; try simp (disch := omega) only [go_sem, seval, irw, h1])
 | ((with_reducible first | refine hK' _ _ ?_ | refine hK' _ _ _ ?_); clear hK' K')
 | (with_reducible refine RT_step fun K' hK' => ?_; first | refine R2_n ?_ | refine Rf rfl rfl ?_ | refine Rf' rfl rfl ?_ | refine R2_gu rfl rfl ?_ | refine Rt rfl rfl ?_ | refine R2_g rfl rfl (fun hg => ?_) (fun hg => ?_) rfl)
 | (with_reducible refine RT_nil ?_; refine hK _ ?_; clear hK K)
 | (with_reducible refine MkG_i ?_; (try simp only [bnq] at hg); (try (have hgp := hg; simp only [bdq] at hgp)); try simp (disch := omega) only [go_sem, seval, irw, h1, hg])
 | (with_reducible refine RL_step fun K' hK' => ?_; first | refine L2_n ?_ | refine Lf rfl rfl ?_ | refine Lf' rfl rfl ?_ | refine L2_gu rfl rfl ?_ | refine Lt rfl rfl ?_ | refine L2_g rfl rfl (fun hg => ?_) (fun hg => ?_) rfl)
 | (with_reducible refine RL_nil ⟨by kernel_rfl, hK _ ?_⟩; clear hK K)
 | (with_reducible first | refine AL_seq ?_ | refine AL_skip ?_ | refine AL_nil ?_ | refine SeqQ_n ?_ | refine BlockQ_n ?_)
 | (refine AL_text2 rfl fun K hK => ?_; simp only [List.map])
 | (refine AL_draw2 mixed rfl (by kernel_rfl) fun K hK => ?_; simp only [List.map])
 | (with_reducible refine AL_block ?_)
 | (with_reducible refine AL_exit ?_; simp only [SeqQ, BlockQ, go_sem, seval])
 | (refine Ct rfl ?_)
 | (refine Cf rfl ?_)
 | (refine AL_condb rfl (fun hg => ?_) (fun hg => ?_) <;> ((try simp only [bnq] at hg); (try (have hgp := hg; simp only [bdq] at hgp))))
 | (with_reducible first | refine ite_elimM (fun hg => ?_) (fun hg => ?_) | refine And.intro ?_ ?_)
 | omega)
      (repeat (with_reducible first | refine AL_nil ?_ | refine SeqQ_n ?_ | refine BlockQ_n ?_)); exact ⟨partA i, (by simp [partB, h1]), weak_t [0, 1] _ _ rfl (by decide) ⟨by decide, by decide⟩ (by simp [go_sem]) (by simp [go_sem])⟩
    · repeat' (first
 | (with_reducible refine Mk_i ?_; try simp (disch := omega) only [go_sem, seval, irw])
 | ((with_reducible first | refine hK' _ _ ?_ | refine hK' _ _ _ ?_); clear hK' K')
 | (with_reducible refine RT_step fun K' hK' => ?_; first | refine R2_n ?_ | refine Rf rfl rfl ?_ | refine Rf' rfl rfl ?_ | refine R2_gu rfl rfl ?_ | refine Rt rfl rfl ?_ | refine R2_g rfl rfl (fun hg => ?_) (fun hg => ?_) rfl)
 | (with_reducible refine RT_nil ?_; refine hK _ ?_; clear hK K)
 | (with_reducible refine MkG_i ?_; (try simp only [bnq] at hg); (try (have hgp := hg; simp only [bdq] at hgp)); try simp (disch := omega) only [go_sem, seval, irw, hg])
 | (with_reducible refine RL_step fun K' hK' => ?_; first | refine L2_n ?_ | refine Lf rfl rfl ?_ | refine Lf' rfl rfl ?_ | refine L2_gu rfl rfl ?_ | refine Lt rfl rfl ?_ | refine L2_g rfl rfl (fun hg => ?_) (fun hg => ?_) rfl)
 | (with_reducible refine RL_nil ⟨by kernel_rfl, hK _ ?_⟩; clear hK K)
 | (with_reducible first | refine AL_seq ?_ | refine AL_skip ?_ | refine AL_nil ?_ | refine SeqQ_n ?_ | refine BlockQ_n ?_)
 | (refine AL_text2 rfl fun K hK => ?_; simp only [List.map])
 | (refine AL_draw2 mixed rfl (by kernel_rfl) fun K hK => ?_; simp only [List.map])
 | (with_reducible refine AL_block ?_)
 | (with_reducible refine AL_exit ?_; simp only [SeqQ, BlockQ, go_sem, seval])
 | (refine Ct rfl ?_)
 | (refine Cf rfl ?_)
 | (refine AL_condb rfl (fun hg => ?_) (fun hg => ?_) <;> ((try simp only [bnq] at hg); (try (have hgp := hg; simp only [bdq] at hgp))))
 | (with_reducible first | refine ite_elimM (fun hg => ?_) (fun hg => ?_) | refine And.intro ?_ ?_)
 | omega)
      (repeat (with_reducible first | refine AL_nil ?_ | refine SeqQ_n ?_ | refine BlockQ_n ?_)); exact ⟨partA i ++ [i.b], (by simp [partB, h1]), weak_t [0, 2] _ _ rfl (by decide) ⟨by decide, by decide⟩ (by simp [go_sem]) (by simp [go_sem])⟩
  rintro L rfl
  have hL2 := partB_len i
  (repeat (with_reducible first | refine AL_seq ?_ | refine AL_skip ?_ | refine AL_nil ?_ | refine SeqQ_n ?_ | refine BlockQ_n ?_)); (first
 | (refine AL_text2 rfl fun K hK => ?_; simp only [List.map])
 | (refine AL_draw2 mixed rfl (by kernel_rfl) fun K hK => ?_; simp only [List.map])
 | (with_reducible refine AL_block ?_)
 | (with_reducible refine AL_exit ?_; simp only [SeqQ, BlockQ, go_sem, seval])
 | (refine Ct rfl ?_)
 | (refine Cf rfl ?_)
 | (refine AL_condb rfl (fun hg => ?_) (fun hg => ?_) <;> ((try simp only [bnq] at hg); (try (have hgp := hg; simp only [bdq] at hgp))))); repeat' (first
 | (with_reducible refine Mk_i ?_; try simp (disch := omega) only [go_sem, seval, irw, h0, S])
 | ((with_reducible first | refine hK' _ _ ?_ | refine hK' _ _ _ ?_); clear hK' K')
 | (with_reducible refine RT_step fun K' hK' => ?_; first | refine R2_n ?_ | refine Rf rfl rfl ?_ | refine Rf' rfl rfl ?_ | refine R2_gu rfl rfl ?_ | refine Rt rfl rfl ?_ | refine R2_g rfl rfl (fun hg => ?_) (fun hg => ?_) rfl)
 | (with_reducible refine RT_nil ?_; refine hK _ ?_; clear hK K)
 | (with_reducible refine MkG_i ?_; (try simp only [bnq] at hg); (try (have hgp := hg; simp only [bdq] at hgp)); try simp (disch := omega) only [go_sem, seval, irw, h0, S, hg])
 | (with_reducible refine RL_step fun K' hK' => ?_; first | refine L2_n ?_ | refine Lf rfl rfl ?_ | refine Lf' rfl rfl ?_ | refine L2_gu rfl rfl ?_ | refine Lt rfl rfl ?_ | refine L2_g rfl rfl (fun hg => ?_) (fun hg => ?_) rfl)
 | (with_reducible refine RL_nil ⟨by kernel_rfl, hK _ ?_⟩; clear hK K)
 | (with_reducible first | refine ite_elimM (fun hg => ?_) (fun hg => ?_) | refine And.intro ?_ ?_)
 | omega)
  have hT : List.map (fun p => [p]) (List.take i.n.toNat [pI i.x, pI i.y, pI i.z]) = iRows ((argsI i).take i.n.toNat) := by simp [iRows, List.map_take]
  have hT3 : ((argsI i).take i.n.toNat).length ≤ 3 := by simp; omega
  have hT4 : 8 + i.n.toNat ≤ 11 := by omega
  repeat' (first
 | (with_reducible refine Mk_i ?_; try simp (disch := omega) only [go_sem, seval, irw, hT, hT4])
 | ((with_reducible first | refine hK' _ _ ?_ | refine hK' _ _ _ ?_); clear hK' K')
 | (with_reducible refine RT_step fun K' hK' => ?_; first | refine R2_n ?_ | refine Rf rfl rfl ?_ | refine Rf' rfl rfl ?_ | refine R2_gu rfl rfl ?_ | refine Rt rfl rfl ?_ | refine R2_g rfl rfl (fun hg => ?_) (fun hg => ?_) rfl)
 | (with_reducible refine RT_nil ?_; refine hK _ ?_; clear hK K)
 | (with_reducible refine MkG_i ?_; (try simp only [bnq] at hg); (try (have hgp := hg; simp only [bdq] at hgp)); try simp (disch := omega) only [go_sem, seval, irw, hT, hT4, hg])
 | (with_reducible refine RL_step fun K' hK' => ?_; first | refine L2_n ?_ | refine Lf rfl rfl ?_ | refine Lf' rfl rfl ?_ | refine L2_gu rfl rfl ?_ | refine Lt rfl rfl ?_ | refine L2_g rfl rfl (fun hg => ?_) (fun hg => ?_) rfl)
 | (with_reducible refine RL_nil ⟨by kernel_rfl, hK _ ?_⟩; clear hK K)
 | (with_reducible first | refine AL_seq ?_ | refine AL_skip ?_ | refine AL_nil ?_ | refine SeqQ_n ?_ | refine BlockQ_n ?_)
 | (refine AL_text2 rfl fun K hK => ?_; simp only [List.map])
 | (refine AL_draw2 mixed rfl (by kernel_rfl) fun K hK => ?_; simp only [List.map])
 | (with_reducible refine AL_block ?_)
 | (with_reducible refine AL_exit ?_; simp only [SeqQ, BlockQ, go_sem, seval])
 | (refine Ct rfl ?_)
 | (refine Cf rfl ?_)
 | (refine AL_condb rfl (fun hg => ?_) (fun hg => ?_) <;> ((try simp only [bnq] at hg); (try (have hgp := hg; simp only [bdq] at hgp))))
 | (with_reducible first | refine ite_elimM (fun hg => ?_) (fun hg => ?_) | refine And.intro ?_ ?_)
 | omega)
  have hLen : (partB i ++ List.take i.n.toNat (argsI i)).length ≤ 5 := by simp only [List.length_append]; omega
  have hadd : (partB i).length + (List.take i.n.toNat (argsI i)).length = (partL i).length := by simp only [partL, List.length_append]
  have hPL : partB i ++ List.take i.n.toNat (argsI i) = partL i := rfl
  rw [hPL] at hLen
  rw [hPL, hadd]
  refine AL_weak (weak_nil 4 1 rfl) ?_ (by simp)
  let M : Nat → List Int := fun k => ((partL i).take k).foldl addL []
  have hM : ∀ k, k ≤ 5 → (M k).length ≤ 5 := by
    intro k hk
    have h := foldl_addL_len ((partL i).take k) []
    simp only [List.length_take, List.length_nil] at h
    simp only [M]; omega
  refine AL_loop (fun k : Nat => ⟨tA [(29, .os 1 0 0 (partL i).length), (30, pI (partL i).length), (31, pI k), (4, .os 1 1 0 (M k).length)], tO [some (.rows 1 (iRows (partL i))), some (.rows 1 (iRows (M k)))]⟩)
    (fun k => k ≤ (partL i).length) (fun k => (partL i).length - k) 0 (Nat.zero_le _) ?_ ?_
  · exact (weak_t [2, 3] _ _ rfl (by decide) ⟨by decide, by decide⟩ (by simp [go_sem, M, hadd, hPL]) (by simp [go_sem, M, hadd, hPL]))
  intro k hk
  have hMk := hM k (by omega)
  (repeat (with_reducible first | refine AL_seq ?_ | refine AL_skip ?_ | refine AL_nil ?_ | refine SeqQ_n ?_ | refine BlockQ_n ?_)); (first
 | (refine AL_text2 rfl fun K hK => ?_; simp only [List.map])
 | (refine AL_draw2 mixed rfl (by kernel_rfl) fun K hK => ?_; simp only [List.map])
 | (with_reducible refine AL_block ?_)
 | (with_reducible refine AL_exit ?_; simp only [SeqQ, BlockQ, go_sem, seval])
 | (refine Ct rfl ?_)
 | (refine Cf rfl ?_)
 | (refine AL_condb rfl (fun hg => ?_) (fun hg => ?_) <;> ((try simp only [bnq] at hg); (try (have hgp := hg; simp only [bdq] at hgp))))); repeat' (first
 | (with_reducible refine Mk_i ?_; try simp (disch := omega) only [go_sem, seval, irw])
 | ((with_reducible first | refine hK' _ _ ?_ | refine hK' _ _ _ ?_); clear hK' K')
 | (with_reducible refine RT_step fun K' hK' => ?_; first | refine R2_n ?_ | refine Rf rfl rfl ?_ | refine Rf' rfl rfl ?_ | refine R2_gu rfl rfl ?_ | refine Rt rfl rfl ?_ | refine R2_g rfl rfl (fun hg => ?_) (fun hg => ?_) rfl)
 | (with_reducible refine RT_nil ?_; refine hK _ ?_; clear hK K)
 | (with_reducible refine MkG_i ?_; (try simp only [bnq] at hg); (try (have hgp := hg; simp only [bdq] at hgp)); try simp (disch := omega) only [go_sem, seval, irw, hg])
 | (with_reducible refine RL_step fun K' hK' => ?_; first | refine L2_n ?_ | refine Lf rfl rfl ?_ | refine Lf' rfl rfl ?_ | refine L2_gu rfl rfl ?_ | refine Lt rfl rfl ?_ | refine L2_g rfl rfl (fun hg => ?_) (fun hg => ?_) rfl)
 | (with_reducible refine RL_nil ⟨by kernel_rfl, hK _ ?_⟩; clear hK K)
 | (with_reducible first | refine ite_elimM (fun hg => ?_) (fun hg => ?_) | refine And.intro ?_ ?_)
 | omega)
  cases h2 : decide ((k : Int) < ((partL i).length : Int))
  · repeat' (first
 | (with_reducible refine Mk_i ?_; try simp (disch := omega) only [go_sem, seval, irw, h2])
 | ((with_reducible first | refine hK' _ _ ?_ | refine hK' _ _ _ ?_); clear hK' K')
 | (with_reducible refine RT_step fun K' hK' => ?_; first | refine R2_n ?_ | refine Rf rfl rfl ?_ | refine Rf' rfl rfl ?_ | refine R2_gu rfl rfl ?_ | refine Rt rfl rfl ?_ | refine R2_g rfl rfl (fun hg => ?_) (fun hg => ?_) rfl)
 | (with_reducible refine RT_nil ?_; refine hK _ ?_; clear hK K)
 | (with_reducible refine MkG_i ?_; (try simp only [bnq] at hg); (try (have hgp := hg; simp only [bdq] at hgp)); try simp (disch := omega) only [go_sem, seval, irw, h2, hg])
 | (with_reducible refine RL_step fun K' hK' => ?_; first | refine L2_n ?_ | refine Lf rfl rfl ?_ | refine Lf' rfl rfl ?_ | refine L2_gu rfl rfl ?_ | refine Lt rfl rfl ?_ | refine L2_g rfl rfl (fun hg => ?_) (fun hg => ?_) rfl)
 | (with_reducible refine RL_nil ⟨by kernel_rfl, hK _ ?_⟩; clear hK K)
 | (with_reducible first | refine AL_seq ?_ | refine AL_skip ?_ | refine AL_nil ?_ | refine SeqQ_n ?_ | refine BlockQ_n ?_)
 | (refine AL_text2 rfl fun K hK => ?_; simp only [List.map])
 | (refine AL_draw2 mixed rfl (by kernel_rfl) fun K hK => ?_; simp only [List.map])
 | (with_reducible refine AL_block ?_)
 | (with_reducible refine AL_exit ?_; simp only [SeqQ, BlockQ, go_sem, seval])
 | (refine Ct rfl ?_)
 | (refine Cf rfl ?_)
 | (refine AL_condb rfl (fun hg => ?_) (fun hg => ?_) <;> ((try simp only [bnq] at hg); (try (have hgp := hg; simp only [bdq] at hgp))))
 | (with_reducible first | refine ite_elimM (fun hg => ?_) (fun hg => ?_) | refine And.intro ?_ ?_)
 | omega)
    have hk2 : k = (partL i).length := by simp at h2; omega
    have hR : M k = usesI i := by simp only [M, usesI, h0, if_true, hk2, List.take_length]
    rw [hR]
    refine AL_weak (st2 := ⟨tA [(2, .os 1 0 0 (usesI i).length)], tO [some (.rows 1 (iRows (usesI i)))]⟩) (weak_t [1] _ _ rfl (by decide) ⟨by decide, by decide⟩ (by simp [go_sem]) (by simp [go_sem])) ?_ (by simp)
    (refine AL_ret (ECQ_end ?_ ?_) <;> simp [go_sem, ])
  · have hk2 : k < (partL i).length := by simpa using h2
    have e : M (k + 1) = addL (M k) (partL i)[k] := by
      simp only [M, List.take_add_one, List.getElem?_eq_getElem hk2, List.foldl_append, Option.toList_some, List.foldl_cons, List.foldl_nil]
    have hkc : (k : Int) < ((partL i).length : Int) := by omega
    by_cases hm : (partL i)[k] ∈ M k
    · repeat' (first
 | (with_reducible refine Mk_i ?_; try simp (disch := omega) only [go_sem, seval, irw, hm, hkc])
 | ((with_reducible first | refine hK' _ _ ?_ | refine hK' _ _ _ ?_); clear hK' K')
 | (with_reducible refine RT_step fun K' hK' => ?_; first | refine R2_n ?_ | refine Rf rfl rfl ?_ | refine Rf' rfl rfl ?_ | refine R2_gu rfl rfl ?_ | refine Rt rfl rfl ?_ | refine R2_g rfl rfl (fun hg => ?_) (fun hg => ?_) rfl)
 | (with_reducible refine RT_nil ?_; refine hK _ ?_; clear hK K)
 | (with_reducible refine MkG_i ?_; (try simp only [bnq] at hg); (try (have hgp := hg; simp only [bdq] at hgp)); try simp (disch := omega) only [go_sem, seval, irw, hm, hkc, hg])
 | (with_reducible refine RL_step fun K' hK' => ?_; first | refine L2_n ?_ | refine Lf rfl rfl ?_ | refine Lf' rfl rfl ?_ | refine L2_gu rfl rfl ?_ | refine Lt rfl rfl ?_ | refine L2_g rfl rfl (fun hg => ?_) (fun hg => ?_) rfl)
 | (with_reducible refine RL_nil ⟨by kernel_rfl, hK _ ?_⟩; clear hK K)
 | (with_reducible first | refine AL_seq ?_ | refine AL_skip ?_ | refine AL_nil ?_ | refine SeqQ_n ?_ | refine BlockQ_n ?_)
 | (refine AL_text2 rfl fun K hK => ?_; simp only [List.map])
 | (refine AL_draw2 mixed rfl (by kernel_rfl) fun K hK => ?_; simp only [List.map])
 | (with_reducible refine AL_block ?_)
 | (with_reducible refine AL_exit ?_; simp only [SeqQ, BlockQ, go_sem, seval])
 | (refine Ct rfl ?_)
 | (refine Cf rfl ?_)
 | (refine AL_condb rfl (fun hg => ?_) (fun hg => ?_) <;> ((try simp only [bnq] at hg); (try (have hgp := hg; simp only [bdq] at hgp))))
 | (refine CallK_viewM _ (c_Contains (M k) (partL i)[k]) en_36 rfl (by simp (disch := omega) only [go_sem, seval, irw] <;> rfl) ?_)
 | (with_reducible first | refine ite_elimM (fun hg => ?_) (fun hg => ?_) | refine And.intro ?_ ?_)
 | omega)
      (repeat (with_reducible first | refine AL_nil ?_ | refine SeqQ_n ?_ | refine BlockQ_n ?_)); exact ⟨k + 1, by omega, by omega, weak_t [0, 1] _ _ rfl (by decide) ⟨by decide, by decide⟩ (by simp [go_sem, e, addL, hm]) (by simp [go_sem, e, addL, hm])⟩
    · repeat' (first
 | (with_reducible refine Mk_i ?_; try simp (disch := omega) only [go_sem, seval, irw, hm, hkc])
 | ((with_reducible first | refine hK' _ _ ?_ | refine hK' _ _ _ ?_); clear hK' K')
 | (with_reducible refine RT_step fun K' hK' => ?_; first | refine R2_n ?_ | refine Rf rfl rfl ?_ | refine Rf' rfl rfl ?_ | refine R2_gu rfl rfl ?_ | refine Rt rfl rfl ?_ | refine R2_g rfl rfl (fun hg => ?_) (fun hg => ?_) rfl)
 | (with_reducible refine RT_nil ?_; refine hK _ ?_; clear hK K)
 | (with_reducible refine MkG_i ?_; (try simp only [bnq] at hg); (try (have hgp := hg; simp only [bdq] at hgp)); try simp (disch := omega) only [go_sem, seval, irw, hm, hkc, hg])
 | (with_reducible refine RL_step fun K' hK' => ?_; first | refine L2_n ?_ | refine Lf rfl rfl ?_ | refine Lf' rfl rfl ?_ | refine L2_gu rfl rfl ?_ | refine Lt rfl rfl ?_ | refine L2_g rfl rfl (fun hg => ?_) (fun hg => ?_) rfl)
 | (with_reducible refine RL_nil ⟨by kernel_rfl, hK _ ?_⟩; clear hK K)
 | (with_reducible first | refine AL_seq ?_ | refine AL_skip ?_ | refine AL_nil ?_ | refine SeqQ_n ?_ | refine BlockQ_n ?_)
 | (refine AL_text2 rfl fun K hK => ?_; simp only [List.map])
 | (refine AL_draw2 mixed rfl (by kernel_rfl) fun K hK => ?_; simp only [List.map])
 | (with_reducible refine AL_block ?_)
 | (with_reducible refine AL_exit ?_; simp only [SeqQ, BlockQ, go_sem, seval])
 | (refine Ct rfl ?_)
 | (refine Cf rfl ?_)
 | (refine AL_condb rfl (fun hg => ?_) (fun hg => ?_) <;> ((try simp only [bnq] at hg); (try (have hgp := hg; simp only [bdq] at hgp))))
 | (refine CallK_viewM _ (c_Contains (M k) (partL i)[k]) en_36 rfl (by simp (disch := omega) only [go_sem, seval, irw] <;> rfl) ?_)
 | (with_reducible first | refine ite_elimM (fun hg => ?_) (fun hg => ?_) | refine And.intro ?_ ?_)
 | omega)
      (repeat (with_reducible first | refine AL_nil ?_ | refine SeqQ_n ?_ | refine BlockQ_n ?_)); exact ⟨k + 1, by omega, by omega, weak_t [0, 2] _ _ rfl (by decide) ⟨by decide, by decide⟩ (by simp [go_sem, e, addL, hm]) (by simp [go_sem, e, addL, hm])⟩
end Go.Proofs.YtjlcojgimicfbaaDoor
/- All variables of an instruction: the program's word and the document's. -/
namespace Go.Proofs.YtjlcojgimicfbaaDoor
open Go.Am
set_option linter.unusedSimpArgs false
set_option maxRecDepth 100000
set_option maxHeartbeats 4000000
variable {Γ : Nat → Option Obj}

theorem ec_Sort (l : List Int) : EC Γ Tryd.prog 38 [.os 1 0 0 l.length] [.rows 1 (iRows l)] (.tup []) [some (.rows 1 (iRows (l.mergeSort fun x y => decide (x ≤ y))))] :=
  ec_sort (fun blk off cap zs w h1 h2 h3 => Tryd.slices_Sort_int blk off cap zs w h1 h2 h3) (fun p cap w => Tryd.slices_Sort_int_none p cap w) l
theorem ec_Compact (l : List Int) : EC Γ Tryd.prog 39 [.os 1 0 0 l.length] [.rows 1 (iRows l)] (.os 1 0 0 (Lib.compact l).length) [some (.rows 1 (iRows (Lib.compact l ++ List.replicate (l.length - (Lib.compact l).length) 0)))] :=
  ec_compact (fun blk off cap zs w h1 h2 h3 => Tryd.slices_Compact_int blk off cap zs w h1 h2 h3) (fun p cap w => Tryd.slices_Compact_int_empty p cap w) l

def withDef (i : Ins) : List Int := if defI i = -1 then usesI i else usesI i ++ [defI i]
def varsI (i : Ins) : List Int := Lib.compact ((withDef i).mergeSort fun x y => decide (x ≤ y))

theorem partL_len (i : Ins) (h : formI i = true) : (partL i).length ≤ 5 := by
  have h1 := partB_len i
  have h2 := formI_n h
  simp only [partL, List.length_append, List.length_take, List.length_cons, List.length_nil]
  omega
theorem usesI_len (i : Ins) : (usesI i).length ≤ 5 := by
  unfold usesI
  split
  · rename_i h
    have h1 := foldl_addL_len (partL i) []
    have h2 := partL_len i h
    simp only [List.length_nil] at h1
    omega
  · simp

theorem c_Vars (hB : Blanks Γ) (i : Ins) : Pure Γ Tryd.prog 15 [ins i] (ints (varsI i)) := by
  have hU := usesI_len i
  refine pure_start1 Tryd.func15 rfl (by simp [Tryd.f15]) ?_
  (repeat (with_reducible first | refine AL_seq ?_ | refine AL_skip ?_ | refine AL_nil ?_ | refine SeqQ_n ?_ | refine BlockQ_n ?_)); (first
 | (refine AL_text2 rfl fun K hK => ?_; simp only [List.map])
 | (refine AL_draw2 mixed rfl (by kernel_rfl) fun K hK => ?_; simp only [List.map])
 | (with_reducible refine AL_block ?_)
 | (with_reducible refine AL_exit ?_; simp only [SeqQ, BlockQ, go_sem, seval])
 | (refine Ct rfl ?_)
 | (refine Cf rfl ?_)
 | (refine AL_condb rfl (fun hg => ?_) (fun hg => ?_) <;> ((try simp only [bnq] at hg); (try (have hgp := hg; simp only [bdq] at hgp))))); repeat' (first
 | (with_reducible refine Mk_i ?_; try simp (disch := omega) only [go_sem, seval, irw])
 | ((with_reducible first | refine hK' _ _ ?_ | refine hK' _ _ _ ?_); clear hK' K')
 | (with_reducible refine RT_step fun K' hK' => ?_; first | refine R2_n ?_ | refine Rf rfl rfl ?_ | refine Rf' rfl rfl ?_ | refine R2_gu rfl rfl ?_ | refine Rt rfl rfl ?_ | refine R2_g rfl rfl (fun hg => ?_) (fun hg => ?_) rfl)
 | (with_reducible refine RT_nil ?_; refine hK _ ?_; clear hK K)
 | (with_reducible refine MkG_i ?_; (try simp only [bnq] at hg); (try (have hgp := hg; simp only [bdq] at hgp)); try simp (disch := omega) only [go_sem, seval, irw, hg])
 | (with_reducible refine RL_step fun K' hK' => ?_; first | refine L2_n ?_ | refine Lf rfl rfl ?_ | refine Lf' rfl rfl ?_ | refine L2_gu rfl rfl ?_ | refine Lt rfl rfl ?_ | refine L2_g rfl rfl (fun hg => ?_) (fun hg => ?_) rfl)
 | (with_reducible refine RL_nil ⟨by kernel_rfl, hK _ ?_⟩; clear hK K)
 | (with_reducible first | refine ite_elimM (fun hg => ?_) (fun hg => ?_) | refine And.intro ?_ ?_)
 | omega)
  (repeat (with_reducible first | refine AL_seq ?_ | refine AL_skip ?_ | refine AL_nil ?_ | refine SeqQ_n ?_ | refine BlockQ_n ?_)); (first
 | (refine AL_text2 rfl fun K hK => ?_; simp only [List.map])
 | (refine AL_draw2 mixed rfl (by kernel_rfl) fun K hK => ?_; simp only [List.map])
 | (with_reducible refine AL_block ?_)
 | (with_reducible refine AL_exit ?_; simp only [SeqQ, BlockQ, go_sem, seval])
 | (refine Ct rfl ?_)
 | (refine Cf rfl ?_)
 | (refine AL_condb rfl (fun hg => ?_) (fun hg => ?_) <;> ((try simp only [bnq] at hg); (try (have hgp := hg; simp only [bdq] at hgp))))); repeat' (first
 | (with_reducible refine Mk_i ?_; try simp (disch := omega) only [go_sem, seval, irw])
 | ((with_reducible first | refine hK' _ _ ?_ | refine hK' _ _ _ ?_); clear hK' K')
 | (with_reducible refine RT_step fun K' hK' => ?_; first | refine R2_n ?_ | refine Rf rfl rfl ?_ | refine Rf' rfl rfl ?_ | refine R2_gu rfl rfl ?_ | refine Rt rfl rfl ?_ | refine R2_g rfl rfl (fun hg => ?_) (fun hg => ?_) rfl)
 | (with_reducible refine RT_nil ?_; refine hK _ ?_; clear hK K)
 | (with_reducible refine MkG_i ?_; (try simp only [bnq] at hg); (try (have hgp := hg; simp only [bdq] at hgp)); try simp (disch := omega) only [go_sem, seval, irw, hg])
 | (with_reducible refine RL_step fun K' hK' => ?_; first | refine L2_n ?_ | refine Lf rfl rfl ?_ | refine Lf' rfl rfl ?_ | refine L2_gu rfl rfl ?_ | refine Lt rfl rfl ?_ | refine L2_g rfl rfl (fun hg => ?_) (fun hg => ?_) rfl)
 | (with_reducible refine RL_nil ⟨by kernel_rfl, hK _ ?_⟩; clear hK K)
 | (refine CallK_ecM (ec_Uses hB i) en_13 [1] 2 (by decide) (by simp [go_sem]) rfl (by decide) (by simp [go_sem]) (by simp [go_sem]) (by simp [go_sem]) (by simp [go_sem]) ?_)
 | (with_reducible first | refine ite_elimM (fun hg => ?_) (fun hg => ?_) | refine And.intro ?_ ?_)
 | omega)
  (repeat (with_reducible first | refine AL_seq ?_ | refine AL_skip ?_ | refine AL_nil ?_ | refine SeqQ_n ?_ | refine BlockQ_n ?_)); (first
 | (refine AL_text2 rfl fun K hK => ?_; simp only [List.map])
 | (refine AL_draw2 mixed rfl (by kernel_rfl) fun K hK => ?_; simp only [List.map])
 | (with_reducible refine AL_block ?_)
 | (with_reducible refine AL_exit ?_; simp only [SeqQ, BlockQ, go_sem, seval])
 | (refine Ct rfl ?_)
 | (refine Cf rfl ?_)
 | (refine AL_condb rfl (fun hg => ?_) (fun hg => ?_) <;> ((try simp only [bnq] at hg); (try (have hgp := hg; simp only [bdq] at hgp))))); repeat' (first
 | (with_reducible refine Mk_i ?_; try simp (disch := omega) only [go_sem, seval, irw])
 | ((with_reducible first | refine hK' _ _ ?_ | refine hK' _ _ _ ?_); clear hK' K')
 | (with_reducible refine RT_step fun K' hK' => ?_; first | refine R2_n ?_ | refine Rf rfl rfl ?_ | refine Rf' rfl rfl ?_ | refine R2_gu rfl rfl ?_ | refine Rt rfl rfl ?_ | refine R2_g rfl rfl (fun hg => ?_) (fun hg => ?_) rfl)
 | (with_reducible refine RT_nil ?_; refine hK _ ?_; clear hK K)
 | (with_reducible refine MkG_i ?_; (try simp only [bnq] at hg); (try (have hgp := hg; simp only [bdq] at hgp)); try simp (disch := omega) only [go_sem, seval, irw, hg])
 | (with_reducible refine RL_step fun K' hK' => ?_; first | refine L2_n ?_ | refine Lf rfl rfl ?_ | refine Lf' rfl rfl ?_ | refine L2_gu rfl rfl ?_ | refine Lt rfl rfl ?_ | refine L2_g rfl rfl (fun hg => ?_) (fun hg => ?_) rfl)
 | (with_reducible refine RL_nil ⟨by kernel_rfl, hK _ ?_⟩; clear hK K)
 | (refine CallK_pureM (c_Def hB i) en_10 rfl ?_)
 | (with_reducible first | refine ite_elimM (fun hg => ?_) (fun hg => ?_) | refine And.intro ?_ ?_)
 | omega)
  (repeat (with_reducible first | refine AL_seq ?_ | refine AL_skip ?_ | refine AL_nil ?_ | refine SeqQ_n ?_ | refine BlockQ_n ?_)); (first
 | (refine AL_text2 rfl fun K hK => ?_; simp only [List.map])
 | (refine AL_draw2 mixed rfl (by kernel_rfl) fun K hK => ?_; simp only [List.map])
 | (with_reducible refine AL_block ?_)
 | (with_reducible refine AL_exit ?_; simp only [SeqQ, BlockQ, go_sem, seval])
 | (refine Ct rfl ?_)
 | (refine Cf rfl ?_)
 | (refine AL_condb rfl (fun hg => ?_) (fun hg => ?_) <;> ((try simp only [bnq] at hg); (try (have hgp := hg; simp only [bdq] at hgp))))); repeat' (first
 | (with_reducible refine Mk_i ?_; try simp (disch := omega) only [go_sem, seval, irw])
 | ((with_reducible first | refine hK' _ _ ?_ | refine hK' _ _ _ ?_); clear hK' K')
 | (with_reducible refine RT_step fun K' hK' => ?_; first | refine R2_n ?_ | refine Rf rfl rfl ?_ | refine Rf' rfl rfl ?_ | refine R2_gu rfl rfl ?_ | refine Rt rfl rfl ?_ | refine R2_g rfl rfl (fun hg => ?_) (fun hg => ?_) rfl)
 | (with_reducible refine RT_nil ?_; refine hK _ ?_; clear hK K)
 | (with_reducible refine MkG_i ?_; (try simp only [bnq] at hg); (try (have hgp := hg; simp only [bdq] at hgp)); try simp (disch := omega) only [go_sem, seval, irw, hg])
 | (with_reducible refine RL_step fun K' hK' => ?_; first | refine L2_n ?_ | refine Lf rfl rfl ?_ | refine Lf' rfl rfl ?_ | refine L2_gu rfl rfl ?_ | refine Lt rfl rfl ?_ | refine L2_g rfl rfl (fun hg => ?_) (fun hg => ?_) rfl)
 | (with_reducible refine RL_nil ⟨by kernel_rfl, hK _ ?_⟩; clear hK K)
 | (with_reducible first | refine ite_elimM (fun hg => ?_) (fun hg => ?_) | refine And.intro ?_ ?_)
 | omega)
  refine AL_cut (fun L : List Int => ⟨tA [(3, .os 1 0 0 L.length)], tO [some (.rows 1 (iRows L))]⟩) (fun L => L = withDef i) ?_ ?_
  · by_cases h1 : defI i = -1
    · have h2 : (defI i != -1) = false := by simp [h1]
      repeat' (first
 | (with_reducible refine Mk_i ?_; try simp (disch := omega) only [go_sem, seval, irw, h2])
 | ((with_reducible first | refine hK' _ _ ?_ | refine hK' _ _ _ ?_); clear hK' K')
 | (with_reducible refine RT_step fun K' hK' => ?_; first | refine R2_n ?_ | refine Rf rfl rfl ?_ | refine Rf' rfl rfl ?_ | refine R2_gu rfl rfl ?_ | refine Rt rfl rfl ?_ | refine R2_g rfl rfl (fun hg => ?_) (fun hg => ?_) rfl)
 | (with_reducible refine RT_nil ?_; refine hK _ ?_; clear hK K)
 | (with_reducible refine MkG_i ?_; (try simp only [bnq] at hg); (try (have hgp := hg; simp only [bdq] at hgp)); try simp (disch := omega) only [go_sem, seval, irw, h2, hg])
 | (with_reducible refine RL_step fun K' hK' => ?_; first | refine L2_n ?_ | refine Lf rfl rfl ?_ | refine Lf' rfl rfl ?_ | refine L2_gu rfl rfl ?_ | refine Lt rfl rfl ?_ | refine L2_g rfl rfl (fun hg => ?_) (fun hg => ?_) rfl)
 | (with_reducible refine RL_nil ⟨by kernel_rfl, hK _ ?_⟩; clear hK K)
 | (with_reducible first | refine AL_seq ?_ | refine AL_skip ?_ | refine AL_nil ?_ | refine SeqQ_n ?_ | refine BlockQ_n ?_)
 | (refine AL_text2 rfl fun K hK => ?_; simp only [List.map])
 | (refine AL_draw2 mixed rfl (by kernel_rfl) fun K hK => ?_; simp only [List.map])
 | (with_reducible refine AL_block ?_)
 | (with_reducible refine AL_exit ?_; simp only [SeqQ, BlockQ, go_sem, seval])
 | (refine Ct rfl ?_)
 | (refine Cf rfl ?_)
 | (refine AL_condb rfl (fun hg => ?_) (fun hg => ?_) <;> ((try simp only [bnq] at hg); (try (have hgp := hg; simp only [bdq] at hgp))))
 | (with_reducible first | refine ite_elimM (fun hg => ?_) (fun hg => ?_) | refine And.intro ?_ ?_)
 | omega)
      (repeat (with_reducible first | refine AL_nil ?_ | refine SeqQ_n ?_ | refine BlockQ_n ?_)); exact ⟨usesI i, (by simp [withDef, h1]), weak_t [1] _ _ rfl (by decide) ⟨by decide, by decide⟩ (by simp [go_sem]) (by simp [go_sem])⟩
    · have h2 : (defI i != -1) = true := by simp [h1]
      repeat' (first
 | (with_reducible refine Mk_i ?_; try simp (disch := omega) only [go_sem, seval, irw, h2])
 | ((with_reducible first | refine hK' _ _ ?_ | refine hK' _ _ _ ?_); clear hK' K')
 | (with_reducible refine RT_step fun K' hK' => ?_; first | refine R2_n ?_ | refine Rf rfl rfl ?_ | refine Rf' rfl rfl ?_ | refine R2_gu rfl rfl ?_ | refine Rt rfl rfl ?_ | refine R2_g rfl rfl (fun hg => ?_) (fun hg => ?_) rfl)
 | (with_reducible refine RT_nil ?_; refine hK _ ?_; clear hK K)
 | (with_reducible refine MkG_i ?_; (try simp only [bnq] at hg); (try (have hgp := hg; simp only [bdq] at hgp)); try simp (disch := omega) only [go_sem, seval, irw, h2, hg])
 | (with_reducible refine RL_step fun K' hK' => ?_; first | refine L2_n ?_ | refine Lf rfl rfl ?_ | refine Lf' rfl rfl ?_ | refine L2_gu rfl rfl ?_ | refine Lt rfl rfl ?_ | refine L2_g rfl rfl (fun hg => ?_) (fun hg => ?_) rfl)
 | (with_reducible refine RL_nil ⟨by kernel_rfl, hK _ ?_⟩; clear hK K)
 | (with_reducible first | refine AL_seq ?_ | refine AL_skip ?_ | refine AL_nil ?_ | refine SeqQ_n ?_ | refine BlockQ_n ?_)
 | (refine AL_text2 rfl fun K hK => ?_; simp only [List.map])
 | (refine AL_draw2 mixed rfl (by kernel_rfl) fun K hK => ?_; simp only [List.map])
 | (with_reducible refine AL_block ?_)
 | (with_reducible refine AL_exit ?_; simp only [SeqQ, BlockQ, go_sem, seval])
 | (refine Ct rfl ?_)
 | (refine Cf rfl ?_)
 | (refine AL_condb rfl (fun hg => ?_) (fun hg => ?_) <;> ((try simp only [bnq] at hg); (try (have hgp := hg; simp only [bdq] at hgp))))
 | (with_reducible first | refine ite_elimM (fun hg => ?_) (fun hg => ?_) | refine And.intro ?_ ?_)
 | omega)
      (repeat (with_reducible first | refine AL_nil ?_ | refine SeqQ_n ?_ | refine BlockQ_n ?_)); exact ⟨usesI i ++ [defI i], (by simp [withDef, h1]), weak_t [2] _ _ rfl (by decide) ⟨by decide, by decide⟩ (by simp [go_sem]) (by simp [go_sem])⟩
  rintro L rfl
  (repeat (with_reducible first | refine AL_seq ?_ | refine AL_skip ?_ | refine AL_nil ?_ | refine SeqQ_n ?_ | refine BlockQ_n ?_)); (first
 | (refine AL_text2 rfl fun K hK => ?_; simp only [List.map])
 | (refine AL_draw2 mixed rfl (by kernel_rfl) fun K hK => ?_; simp only [List.map])
 | (with_reducible refine AL_block ?_)
 | (with_reducible refine AL_exit ?_; simp only [SeqQ, BlockQ, go_sem, seval])
 | (refine Ct rfl ?_)
 | (refine Cf rfl ?_)
 | (refine AL_condb rfl (fun hg => ?_) (fun hg => ?_) <;> ((try simp only [bnq] at hg); (try (have hgp := hg; simp only [bdq] at hgp))))); repeat' (first
 | (with_reducible refine Mk_i ?_; try simp (disch := omega) only [go_sem, seval, irw])
 | ((with_reducible first | refine hK' _ _ ?_ | refine hK' _ _ _ ?_); clear hK' K')
 | (with_reducible refine RT_step fun K' hK' => ?_; first | refine R2_n ?_ | refine Rf rfl rfl ?_ | refine Rf' rfl rfl ?_ | refine R2_gu rfl rfl ?_ | refine Rt rfl rfl ?_ | refine R2_g rfl rfl (fun hg => ?_) (fun hg => ?_) rfl)
 | (with_reducible refine RT_nil ?_; refine hK _ ?_; clear hK K)
 | (with_reducible refine MkG_i ?_; (try simp only [bnq] at hg); (try (have hgp := hg; simp only [bdq] at hgp)); try simp (disch := omega) only [go_sem, seval, irw, hg])
 | (with_reducible refine RL_step fun K' hK' => ?_; first | refine L2_n ?_ | refine Lf rfl rfl ?_ | refine Lf' rfl rfl ?_ | refine L2_gu rfl rfl ?_ | refine Lt rfl rfl ?_ | refine L2_g rfl rfl (fun hg => ?_) (fun hg => ?_) rfl)
 | (with_reducible refine RL_nil ⟨by kernel_rfl, hK _ ?_⟩; clear hK K)
 | (refine CallK_ecM (ec_Sort (withDef i)) en_38 [0] 1 (by decide) (by simp [go_sem]) rfl (by decide) (by simp [go_sem]) (by simp [go_sem]) (by simp [go_sem]) (by simp [go_sem]) ?_)
 | (with_reducible first | refine ite_elimM (fun hg => ?_) (fun hg => ?_) | refine And.intro ?_ ?_)
 | omega)
  have hl : (Lib.compact ((withDef i).mergeSort fun x y => decide (x ≤ y))).length ≤ ((withDef i).mergeSort fun x y => decide (x ≤ y)).length := compact_le _
  have hs : ((withDef i).mergeSort fun x y => decide (x ≤ y)).length = (withDef i).length := List.length_mergeSort _
  refine AL_weak (st2 := ⟨tA [(3, .os 1 0 0 ((withDef i).mergeSort fun x y => decide (x ≤ y)).length)], tO [some (.rows 1 (iRows ((withDef i).mergeSort fun x y => decide (x ≤ y))))]⟩) (weak_t [0] _ _ rfl (by decide) ⟨by decide, by decide⟩ (by simp [go_sem]) (by simp [go_sem])) ?_ (by simp)
  (repeat (with_reducible first | refine AL_seq ?_ | refine AL_skip ?_ | refine AL_nil ?_ | refine SeqQ_n ?_ | refine BlockQ_n ?_)); (first
 | (refine AL_text2 rfl fun K hK => ?_; simp only [List.map])
 | (refine AL_draw2 mixed rfl (by kernel_rfl) fun K hK => ?_; simp only [List.map])
 | (with_reducible refine AL_block ?_)
 | (with_reducible refine AL_exit ?_; simp only [SeqQ, BlockQ, go_sem, seval])
 | (refine Ct rfl ?_)
 | (refine Cf rfl ?_)
 | (refine AL_condb rfl (fun hg => ?_) (fun hg => ?_) <;> ((try simp only [bnq] at hg); (try (have hgp := hg; simp only [bdq] at hgp))))); repeat' (first
 | (with_reducible refine Mk_i ?_; try simp (disch := omega) only [go_sem, seval, irw])
 | ((with_reducible first | refine hK' _ _ ?_ | refine hK' _ _ _ ?_); clear hK' K')
 | (with_reducible refine RT_step fun K' hK' => ?_; first | refine R2_n ?_ | refine Rf rfl rfl ?_ | refine Rf' rfl rfl ?_ | refine R2_gu rfl rfl ?_ | refine Rt rfl rfl ?_ | refine R2_g rfl rfl (fun hg => ?_) (fun hg => ?_) rfl)
 | (with_reducible refine RT_nil ?_; refine hK _ ?_; clear hK K)
 | (with_reducible refine MkG_i ?_; (try simp only [bnq] at hg); (try (have hgp := hg; simp only [bdq] at hgp)); try simp (disch := omega) only [go_sem, seval, irw, hg])
 | (with_reducible refine RL_step fun K' hK' => ?_; first | refine L2_n ?_ | refine Lf rfl rfl ?_ | refine Lf' rfl rfl ?_ | refine L2_gu rfl rfl ?_ | refine Lt rfl rfl ?_ | refine L2_g rfl rfl (fun hg => ?_) (fun hg => ?_) rfl)
 | (with_reducible refine RL_nil ⟨by kernel_rfl, hK _ ?_⟩; clear hK K)
 | (refine CallK_ecM (ec_Compact ((withDef i).mergeSort fun x y => decide (x ≤ y))) en_39 [0] 1 (by decide) (by simp [go_sem]) rfl (by decide) (by simp [go_sem]) (by simp [go_sem]) (by simp [go_sem]) (by simp [go_sem]) ?_)
 | (with_reducible first | refine ite_elimM (fun hg => ?_) (fun hg => ?_) | refine And.intro ?_ ?_)
 | omega)
  (refine AL_ret (PureQ_view (by simp (disch := omega) only [go_sem, seval] <;> rfl) (by simp (disch := omega) only [go_sem, seval, irw, List.take_left, List.length_append, Nat.le_add_right, varsI])))
end Go.Proofs.YtjlcojgimicfbaaDoor
