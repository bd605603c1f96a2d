/- Proof text of this claim, part 6: Programs: what is wrong with one.. Its conditions are those of the statement: the laid tables as the row lists them. -/
import Derived.Test.YtjlcojgimicfbaaDoorF5
import Derived.Test.YtjlcojgimicfbaaDoorF2
/- Programs: what is wrong with one. -/
namespace Go.Proofs.YtjlcojgimicfbaaDoor
open Go.Am
set_option linter.unusedSimpArgs false
set_option maxRecDepth 100000
set_option maxHeartbeats 4000000
variable {Γ : Nat → Option Obj}

def metIns (L : List Int) : List Ins → Option (List Int)
  | [] => some L
  | i :: r => if i.id ∈ L then none else metIns (L ++ [i.id]) r
def metBlks (L : List Int) : List BlkD → Option (List Int)
  | [] => some L
  | b :: r => (metIns L b.code).bind fun L' => metBlks L' r
def txtMany : List UInt8 := [116, 111, 111, 32, 109, 97, 110, 121, 32, 102, 117, 110, 99, 116, 105, 111, 110, 115]
def txtTwice : List UInt8 := [97, 32, 110, 117, 109, 98, 101, 114, 32, 116, 119, 105, 99, 101]
def checkFrom (p : List FunD) (L : List Int) (k : Nat) : List FunD → Option (List UInt8 × Int)
  | [] => none
  | f :: r => if (funS p f == []) = true then (match metBlks L f.blocks with
      | none => some (txtTwice, (k : Int))
      | some L' => checkFrom p L' (k + 1) r) else some (funS p f, (k : Int))
def checkD (p : List FunD) : Option (List UInt8 × Int) := if 6 < p.length then some (txtMany, (p.length : Int)) else checkFrom p [] 0 p
def errV : Option (List UInt8 × Int) → PV
  | none => .v .nilIface
  | some (t, k) => .ifc 67 (.ip [pS t, pI k])
abbrev metE (L : List Int) : List (Int × Bool) := L.map fun x => (x, true)
theorem met_get (L : List Int) (k : Int) : mibGet (metE L) k = if k ∈ L then some true else none := by
  induction L with
  | nil => rfl
  | cons a L ih =>
    simp only [metE, List.map_cons, mibGet]
    by_cases h : k = a
    · simp [h]
    · simp only [h, if_false, List.mem_cons, false_or]; exact ih
theorem met_put (L : List Int) (k : Int) (h : k ∉ L) : mibPut (metE L) k true = metE (L ++ [k]) := by
  induction L with
  | nil => rfl
  | cons a L ih =>
    simp only [List.mem_cons, not_or] at h
    simp only [metE, List.map_cons, mibPut, h.1, if_false, List.cons_append]
    rw [show mibPut (List.map (fun x => (x, true)) L) k true = metE (L ++ [k]) from ih h.2]

theorem c_check (hB : Blanks Γ) (p : List FunD) : Pure Γ Tryd.prog 42 [progV p] (errV (checkD p)) := by
  refine pure_start1 Tryd.func42 rfl (by simp [Tryd.f42]) ?_
  refine AL_seq ?_
  refine AL_len 0 (full := false) (rows := funRows p) rfl rfl (.agg (by simp) (.refl _)) fun hl => ?_
  simp only [funRows, List.length_map] at hl
  by_cases hp : 6 < p.length
  · have hp' : decide (6 < (p.length : Int)) = true := by simp; omega
    repeat' (first
 | (with_reducible refine Mk_i ?_; try simp (disch := omega) only [go_sem, seval, irw, hp'])
 | ((with_reducible first | refine hK' _ _ ?_ | refine hK' _ _ _ ?_); clear hK' K')
 | (with_reducible refine RT_step fun K' hK' => ?_; first | refine R2_n ?_ | refine Rf rfl rfl ?_ | refine Rf' rfl rfl ?_ | refine R2_gu rfl rfl ?_ | refine Rt rfl rfl ?_ | refine R2_g rfl rfl (fun hg => ?_) (fun hg => ?_) rfl)
 | (with_reducible refine RT_nil ?_; refine hK _ ?_; clear hK K)
 | (with_reducible refine MkG_i ?_; (try simp only [bnq] at hg); (try (have hgp := hg; simp only [bdq] at hgp)); try simp (disch := omega) only [go_sem, seval, irw, hp', hg])
 | (with_reducible refine RL_step fun K' hK' => ?_; first | refine L2_n ?_ | refine Lf rfl rfl ?_ | refine Lf' rfl rfl ?_ | refine L2_gu rfl rfl ?_ | refine Lt rfl rfl ?_ | refine L2_g rfl rfl (fun hg => ?_) (fun hg => ?_) rfl)
 | (with_reducible refine RL_nil ⟨by kernel_rfl, hK _ ?_⟩; clear hK K)
 | (with_reducible first | refine AL_seq ?_ | refine AL_skip ?_ | refine AL_nil ?_ | refine SeqQ_n ?_ | refine BlockQ_n ?_)
 | (refine AL_text2 rfl fun K hK => ?_; simp only [List.map])
 | (refine AL_draw2 mixed rfl (by kernel_rfl) fun K hK => ?_; simp only [List.map])
 | (with_reducible refine AL_block ?_)
 | (with_reducible refine AL_exit ?_; simp only [SeqQ, BlockQ, go_sem, seval])
 | (refine Ct rfl ?_)
 | (refine Cf rfl ?_)
 | (refine AL_condb rfl (fun hg => ?_) (fun hg => ?_) <;> ((try simp only [bnq] at hg); (try (have hgp := hg; simp only [bdq] at hgp))))
 | (with_reducible first | refine ite_elimM (fun hg => ?_) (fun hg => ?_) | refine And.intro ?_ ?_)
 | omega)
    have : checkD p = some (txtMany, (p.length : Int)) := by simp [checkD, hp]
    rw [this]
    (refine AL_ret (PureQ_view (by simp (disch := omega) only [go_sem, seval] <;> rfl) (by simp (disch := omega) only [go_sem, seval, irw, errV, txtMany])))
  have hp' : decide (6 < (p.length : Int)) = false := by simp; omega
  have hC : checkD p = checkFrom p [] 0 p := by simp [checkD, hp]
  rw [hC]
  repeat' (first
 | (with_reducible refine Mk_i ?_; try simp (disch := omega) only [go_sem, seval, irw, hp'])
 | ((with_reducible first | refine hK' _ _ ?_ | refine hK' _ _ _ ?_); clear hK' K')
 | (with_reducible refine RT_step fun K' hK' => ?_; first | refine R2_n ?_ | refine Rf rfl rfl ?_ | refine Rf' rfl rfl ?_ | refine R2_gu rfl rfl ?_ | refine Rt rfl rfl ?_ | refine R2_g rfl rfl (fun hg => ?_) (fun hg => ?_) rfl)
 | (with_reducible refine RT_nil ?_; refine hK _ ?_; clear hK K)
 | (with_reducible refine MkG_i ?_; (try simp only [bnq] at hg); (try (have hgp := hg; simp only [bdq] at hgp)); try simp (disch := omega) only [go_sem, seval, irw, hp', hg])
 | (with_reducible refine RL_step fun K' hK' => ?_; first | refine L2_n ?_ | refine Lf rfl rfl ?_ | refine Lf' rfl rfl ?_ | refine L2_gu rfl rfl ?_ | refine Lt rfl rfl ?_ | refine L2_g rfl rfl (fun hg => ?_) (fun hg => ?_) rfl)
 | (with_reducible refine RL_nil ⟨by kernel_rfl, hK _ ?_⟩; clear hK K)
 | (with_reducible first | refine AL_seq ?_ | refine AL_skip ?_ | refine AL_nil ?_ | refine SeqQ_n ?_ | refine BlockQ_n ?_)
 | (refine AL_text2 rfl fun K hK => ?_; simp only [List.map])
 | (refine AL_draw2 mixed rfl (by kernel_rfl) fun K hK => ?_; simp only [List.map])
 | (with_reducible refine AL_block ?_)
 | (with_reducible refine AL_exit ?_; simp only [SeqQ, BlockQ, go_sem, seval])
 | (refine Ct rfl ?_)
 | (refine Cf rfl ?_)
 | (refine AL_condb rfl (fun hg => ?_) (fun hg => ?_) <;> ((try simp only [bnq] at hg); (try (have hgp := hg; simp only [bdq] at hgp))))
 | (with_reducible first | refine ite_elimM (fun hg => ?_) (fun hg => ?_) | refine And.intro ?_ ?_)
 | omega)
  (repeat (with_reducible first | refine AL_seq ?_ | refine AL_skip ?_ | refine AL_block ?_ | refine AL_nil ?_ | refine SeqQ_n ?_ | refine BlockQ_n ?_))
  refine AL_loop (fun x : Nat × List Int => ⟨tA [(1, .op 1 0 0 0), (3, .om 1), (23, .sl false (funRows p)), (24, pI p.length), (25, pI x.1)], tO [some (.rows 1 [[.sl false (funRows p)]]), some (.mib (metE x.2))]⟩)
    (fun x => x.1 ≤ p.length ∧ checkFrom p x.2 x.1 (p.drop x.1) = checkFrom p [] 0 p) (fun x => p.length - x.1) (0, []) ⟨Nat.zero_le _, rfl⟩ (weak_t [0, 1] _ _ rfl (by decide) ⟨by decide, by decide⟩ (by simp [go_sem, ]) (by simp [go_sem, ])) ?_
  rintro ⟨k, L⟩ ⟨hk, hf⟩
  simp only at hk hf ⊢
  (repeat (with_reducible first | refine AL_seq ?_ | refine AL_skip ?_ | refine AL_nil ?_ | refine SeqQ_n ?_ | refine BlockQ_n ?_)); (first
 | (refine AL_text2 rfl fun K hK => ?_; simp only [List.map])
 | (refine AL_draw2 mixed rfl (by kernel_rfl) fun K hK => ?_; simp only [List.map])
 | (with_reducible refine AL_block ?_)
 | (with_reducible refine AL_exit ?_; simp only [SeqQ, BlockQ, go_sem, seval])
 | (refine Ct rfl ?_)
 | (refine Cf rfl ?_)
 | (refine AL_condb rfl (fun hg => ?_) (fun hg => ?_) <;> ((try simp only [bnq] at hg); (try (have hgp := hg; simp only [bdq] at hgp))))); repeat' (first
 | (with_reducible refine Mk_i ?_; try simp (disch := omega) only [go_sem, seval, irw])
 | ((with_reducible first | refine hK' _ _ ?_ | refine hK' _ _ _ ?_); clear hK' K')
 | (with_reducible refine RT_step fun K' hK' => ?_; first | refine R2_n ?_ | refine Rf rfl rfl ?_ | refine Rf' rfl rfl ?_ | refine R2_gu rfl rfl ?_ | refine Rt rfl rfl ?_ | refine R2_g rfl rfl (fun hg => ?_) (fun hg => ?_) rfl)
 | (with_reducible refine RT_nil ?_; refine hK _ ?_; clear hK K)
 | (with_reducible refine MkG_i ?_; (try simp only [bnq] at hg); (try (have hgp := hg; simp only [bdq] at hgp)); try simp (disch := omega) only [go_sem, seval, irw, hg])
 | (with_reducible refine RL_step fun K' hK' => ?_; first | refine L2_n ?_ | refine Lf rfl rfl ?_ | refine Lf' rfl rfl ?_ | refine L2_gu rfl rfl ?_ | refine Lt rfl rfl ?_ | refine L2_g rfl rfl (fun hg => ?_) (fun hg => ?_) rfl)
 | (with_reducible refine RL_nil ⟨by kernel_rfl, hK _ ?_⟩; clear hK K)
 | (with_reducible first | refine ite_elimM (fun hg => ?_) (fun hg => ?_) | refine And.intro ?_ ?_)
 | omega)
  cases h2 : decide ((k : Int) < (p.length : Int))
  · repeat' (first
 | (with_reducible refine Mk_i ?_; try simp (disch := omega) only [go_sem, seval, irw, h2])
 | ((with_reducible first | refine hK' _ _ ?_ | refine hK' _ _ _ ?_); clear hK' K')
 | (with_reducible refine RT_step fun K' hK' => ?_; first | refine R2_n ?_ | refine Rf rfl rfl ?_ | refine Rf' rfl rfl ?_ | refine R2_gu rfl rfl ?_ | refine Rt rfl rfl ?_ | refine R2_g rfl rfl (fun hg => ?_) (fun hg => ?_) rfl)
 | (with_reducible refine RT_nil ?_; refine hK _ ?_; clear hK K)
 | (with_reducible refine MkG_i ?_; (try simp only [bnq] at hg); (try (have hgp := hg; simp only [bdq] at hgp)); try simp (disch := omega) only [go_sem, seval, irw, h2, hg])
 | (with_reducible refine RL_step fun K' hK' => ?_; first | refine L2_n ?_ | refine Lf rfl rfl ?_ | refine Lf' rfl rfl ?_ | refine L2_gu rfl rfl ?_ | refine Lt rfl rfl ?_ | refine L2_g rfl rfl (fun hg => ?_) (fun hg => ?_) rfl)
 | (with_reducible refine RL_nil ⟨by kernel_rfl, hK _ ?_⟩; clear hK K)
 | (with_reducible first | refine AL_seq ?_ | refine AL_skip ?_ | refine AL_nil ?_ | refine SeqQ_n ?_ | refine BlockQ_n ?_)
 | (refine AL_text2 rfl fun K hK => ?_; simp only [List.map])
 | (refine AL_draw2 mixed rfl (by kernel_rfl) fun K hK => ?_; simp only [List.map])
 | (with_reducible refine AL_block ?_)
 | (with_reducible refine AL_exit ?_; simp only [SeqQ, BlockQ, go_sem, seval])
 | (refine Ct rfl ?_)
 | (refine Cf rfl ?_)
 | (refine AL_condb rfl (fun hg => ?_) (fun hg => ?_) <;> ((try simp only [bnq] at hg); (try (have hgp := hg; simp only [bdq] at hgp))))
 | (with_reducible first | refine ite_elimM (fun hg => ?_) (fun hg => ?_) | refine And.intro ?_ ?_)
 | omega)
    have hk2 : p.length ≤ k := by simp at h2; omega
    have : checkFrom p [] 0 p = none := by rw [← hf, List.drop_of_length_le hk2]; rfl
    rw [this]
    (refine AL_ret (PureQ_ret ?_ rfl); simp [go_sem, errV])
  have hk2 : k < p.length := by simpa using h2
  have hd : checkFrom p L k (p.drop k) = if (funS p p[k] == []) = true then (match metBlks L p[k].blocks with
      | none => some (txtTwice, (k : Int))
      | some L' => checkFrom p L' (k + 1) (p.drop (k + 1))) else some (funS p p[k], (k : Int)) := by
    rw [List.drop_eq_getElem_cons hk2]; rfl
  cases h3 : (funS p p[k] == [])
  · repeat' (first
 | (with_reducible refine Mk_i ?_; try simp (disch := omega) only [go_sem, seval, irw, h2, h3])
 | ((with_reducible first | refine hK' _ _ ?_ | refine hK' _ _ _ ?_); clear hK' K')
 | (with_reducible refine RT_step fun K' hK' => ?_; first | refine R2_n ?_ | refine Rf rfl rfl ?_ | refine Rf' rfl rfl ?_ | refine R2_gu rfl rfl ?_ | refine Rt rfl rfl ?_ | refine R2_g rfl rfl (fun hg => ?_) (fun hg => ?_) rfl)
 | (with_reducible refine RT_nil ?_; refine hK _ ?_; clear hK K)
 | (with_reducible refine MkG_i ?_; (try simp only [bnq] at hg); (try (have hgp := hg; simp only [bdq] at hgp)); try simp (disch := omega) only [go_sem, seval, irw, h2, h3, hg])
 | (with_reducible refine RL_step fun K' hK' => ?_; first | refine L2_n ?_ | refine Lf rfl rfl ?_ | refine Lf' rfl rfl ?_ | refine L2_gu rfl rfl ?_ | refine Lt rfl rfl ?_ | refine L2_g rfl rfl (fun hg => ?_) (fun hg => ?_) rfl)
 | (with_reducible refine RL_nil ⟨by kernel_rfl, hK _ ?_⟩; clear hK K)
 | (with_reducible first | refine AL_seq ?_ | refine AL_skip ?_ | refine AL_nil ?_ | refine SeqQ_n ?_ | refine BlockQ_n ?_)
 | (refine AL_text2 rfl fun K hK => ?_; simp only [List.map])
 | (refine AL_draw2 mixed rfl (by kernel_rfl) fun K hK => ?_; simp only [List.map])
 | (with_reducible refine AL_block ?_)
 | (with_reducible refine AL_exit ?_; simp only [SeqQ, BlockQ, go_sem, seval])
 | (refine Ct rfl ?_)
 | (refine Cf rfl ?_)
 | (refine AL_condb rfl (fun hg => ?_) (fun hg => ?_) <;> ((try simp only [bnq] at hg); (try (have hgp := hg; simp only [bdq] at hgp))))
 | (refine CallK_pureM (c_fun hB p p[k]) en_59 rfl ?_)
 | (with_reducible first | refine ite_elimM (fun hg => ?_) (fun hg => ?_) | refine And.intro ?_ ?_)
 | omega)
    have : checkFrom p [] 0 p = some (funS p p[k], (k : Int)) := by rw [← hf, hd, h3]; rfl
    rw [this]
    (refine AL_ret (PureQ_view (by simp (disch := omega) only [go_sem, seval] <;> rfl) (by simp (disch := omega) only [go_sem, seval, irw, errV])))
  rw [h3, if_pos rfl] at hd
  repeat' (first
 | (with_reducible refine Mk_i ?_; try simp (disch := omega) only [go_sem, seval, irw, h2, h3])
 | ((with_reducible first | refine hK' _ _ ?_ | refine hK' _ _ _ ?_); clear hK' K')
 | (with_reducible refine RT_step fun K' hK' => ?_; first | refine R2_n ?_ | refine Rf rfl rfl ?_ | refine Rf' rfl rfl ?_ | refine R2_gu rfl rfl ?_ | refine Rt rfl rfl ?_ | refine R2_g rfl rfl (fun hg => ?_) (fun hg => ?_) rfl)
 | (with_reducible refine RT_nil ?_; refine hK _ ?_; clear hK K)
 | (with_reducible refine MkG_i ?_; (try simp only [bnq] at hg); (try (have hgp := hg; simp only [bdq] at hgp)); try simp (disch := omega) only [go_sem, seval, irw, h2, h3, hg])
 | (with_reducible refine RL_step fun K' hK' => ?_; first | refine L2_n ?_ | refine Lf rfl rfl ?_ | refine Lf' rfl rfl ?_ | refine L2_gu rfl rfl ?_ | refine Lt rfl rfl ?_ | refine L2_g rfl rfl (fun hg => ?_) (fun hg => ?_) rfl)
 | (with_reducible refine RL_nil ⟨by kernel_rfl, hK _ ?_⟩; clear hK K)
 | (with_reducible first | refine AL_seq ?_ | refine AL_skip ?_ | refine AL_nil ?_ | refine SeqQ_n ?_ | refine BlockQ_n ?_)
 | (refine AL_text2 rfl fun K hK => ?_; simp only [List.map])
 | (refine AL_draw2 mixed rfl (by kernel_rfl) fun K hK => ?_; simp only [List.map])
 | (with_reducible refine AL_block ?_)
 | (with_reducible refine AL_exit ?_; simp only [SeqQ, BlockQ, go_sem, seval])
 | (refine Ct rfl ?_)
 | (refine Cf rfl ?_)
 | (refine AL_condb rfl (fun hg => ?_) (fun hg => ?_) <;> ((try simp only [bnq] at hg); (try (have hgp := hg; simp only [bdq] at hgp))))
 | (refine CallK_pureM (c_fun hB p p[k]) en_59 rfl ?_)
 | (with_reducible first | refine ite_elimM (fun hg => ?_) (fun hg => ?_) | refine And.intro ?_ ?_)
 | omega)
  (repeat (with_reducible first | refine AL_seq ?_ | refine AL_skip ?_ | refine AL_block ?_ | refine AL_nil ?_ | refine SeqQ_n ?_ | refine BlockQ_n ?_))
  refine AL_len 41 (full := false) (rows := blkRows p[k].blocks) rfl rfl (.refl _) fun hlb => ?_
  simp only [blkRows, List.length_map] at hlb
  refine AL_loop (fun x : Nat × List Int => ⟨tA [(1, .op 1 0 0 0), (3, .om 1), (23, .sl false (funRows p)), (24, pI p.length), (25, pI k), (4, pI k), (41, .sl false (blkRows p[k].blocks)), (42, pI p[k].blocks.length), (43, pI x.1)], tO [some (.rows 1 [[.sl false (funRows p)]]), some (.mib (metE x.2))]⟩)
    (fun x => x.1 ≤ p[k].blocks.length ∧ metBlks x.2 (p[k].blocks.drop x.1) = metBlks L p[k].blocks) (fun x => p[k].blocks.length - x.1) (0, L) ⟨Nat.zero_le _, rfl⟩ (weak_t [0, 1] _ _ rfl (by decide) ⟨by decide, by decide⟩ (by simp [go_sem, ]) (by simp [go_sem, ])) ?_
  rintro ⟨j, M⟩ ⟨hj, hfj⟩
  simp only at hj hfj ⊢
  (repeat (with_reducible first | refine AL_seq ?_ | refine AL_skip ?_ | refine AL_nil ?_ | refine SeqQ_n ?_ | refine BlockQ_n ?_)); (first
 | (refine AL_text2 rfl fun K hK => ?_; simp only [List.map])
 | (refine AL_draw2 mixed rfl (by kernel_rfl) fun K hK => ?_; simp only [List.map])
 | (with_reducible refine AL_block ?_)
 | (with_reducible refine AL_exit ?_; simp only [SeqQ, BlockQ, go_sem, seval])
 | (refine Ct rfl ?_)
 | (refine Cf rfl ?_)
 | (refine AL_condb rfl (fun hg => ?_) (fun hg => ?_) <;> ((try simp only [bnq] at hg); (try (have hgp := hg; simp only [bdq] at hgp))))); repeat' (first
 | (with_reducible refine Mk_i ?_; try simp (disch := omega) only [go_sem, seval, irw])
 | ((with_reducible first | refine hK' _ _ ?_ | refine hK' _ _ _ ?_); clear hK' K')
 | (with_reducible refine RT_step fun K' hK' => ?_; first | refine R2_n ?_ | refine Rf rfl rfl ?_ | refine Rf' rfl rfl ?_ | refine R2_gu rfl rfl ?_ | refine Rt rfl rfl ?_ | refine R2_g rfl rfl (fun hg => ?_) (fun hg => ?_) rfl)
 | (with_reducible refine RT_nil ?_; refine hK _ ?_; clear hK K)
 | (with_reducible refine MkG_i ?_; (try simp only [bnq] at hg); (try (have hgp := hg; simp only [bdq] at hgp)); try simp (disch := omega) only [go_sem, seval, irw, hg])
 | (with_reducible refine RL_step fun K' hK' => ?_; first | refine L2_n ?_ | refine Lf rfl rfl ?_ | refine Lf' rfl rfl ?_ | refine L2_gu rfl rfl ?_ | refine Lt rfl rfl ?_ | refine L2_g rfl rfl (fun hg => ?_) (fun hg => ?_) rfl)
 | (with_reducible refine RL_nil ⟨by kernel_rfl, hK _ ?_⟩; clear hK K)
 | (with_reducible first | refine ite_elimM (fun hg => ?_) (fun hg => ?_) | refine And.intro ?_ ?_)
 | omega)
  cases h4 : decide ((j : Int) < (p[k].blocks.length : Int))
  · have hj2 : p[k].blocks.length ≤ j := by simp at h4; omega
    have hm : metBlks L p[k].blocks = some M := by rw [← hfj, List.drop_of_length_le hj2]; rfl
    rw [hm] at hd
    repeat' (first
 | (with_reducible refine Mk_i ?_; try simp (disch := omega) only [go_sem, seval, irw, h4])
 | ((with_reducible first | refine hK' _ _ ?_ | refine hK' _ _ _ ?_); clear hK' K')
 | (with_reducible refine RT_step fun K' hK' => ?_; first | refine R2_n ?_ | refine Rf rfl rfl ?_ | refine Rf' rfl rfl ?_ | refine R2_gu rfl rfl ?_ | refine Rt rfl rfl ?_ | refine R2_g rfl rfl (fun hg => ?_) (fun hg => ?_) rfl)
 | (with_reducible refine RT_nil ?_; refine hK _ ?_; clear hK K)
 | (with_reducible refine MkG_i ?_; (try simp only [bnq] at hg); (try (have hgp := hg; simp only [bdq] at hgp)); try simp (disch := omega) only [go_sem, seval, irw, h4, hg])
 | (with_reducible refine RL_step fun K' hK' => ?_; first | refine L2_n ?_ | refine Lf rfl rfl ?_ | refine Lf' rfl rfl ?_ | refine L2_gu rfl rfl ?_ | refine Lt rfl rfl ?_ | refine L2_g rfl rfl (fun hg => ?_) (fun hg => ?_) rfl)
 | (with_reducible refine RL_nil ⟨by kernel_rfl, hK _ ?_⟩; clear hK K)
 | (with_reducible first | refine AL_seq ?_ | refine AL_skip ?_ | refine AL_nil ?_ | refine SeqQ_n ?_ | refine BlockQ_n ?_)
 | (refine AL_text2 rfl fun K hK => ?_; simp only [List.map])
 | (refine AL_draw2 mixed rfl (by kernel_rfl) fun K hK => ?_; simp only [List.map])
 | (with_reducible refine AL_block ?_)
 | (with_reducible refine AL_exit ?_; simp only [SeqQ, BlockQ, go_sem, seval])
 | (refine Ct rfl ?_)
 | (refine Cf rfl ?_)
 | (refine AL_condb rfl (fun hg => ?_) (fun hg => ?_) <;> ((try simp only [bnq] at hg); (try (have hgp := hg; simp only [bdq] at hgp))))
 | (with_reducible first | refine ite_elimM (fun hg => ?_) (fun hg => ?_) | refine And.intro ?_ ?_)
 | omega)
    exact ⟨(k + 1, M), ⟨hk2, by rw [← hf, hd]⟩, by show p.length - (k + 1) < p.length - k; omega, (weak_t [0, 1] _ _ rfl (by decide) ⟨by decide, by decide⟩ (by simp [go_sem, ]) (by simp [go_sem, ]))⟩
  have hj2 : j < p[k].blocks.length := by simpa using h4
  have hdj : metBlks M (p[k].blocks.drop j) = (metIns M p[k].blocks[j].code).bind fun L' => metBlks L' (p[k].blocks.drop (j + 1)) := by
    rw [List.drop_eq_getElem_cons hj2]; rfl
  repeat' (first
 | (with_reducible refine Mk_i ?_; try simp (disch := omega) only [go_sem, seval, irw, h4])
 | ((with_reducible first | refine hK' _ _ ?_ | refine hK' _ _ _ ?_); clear hK' K')
 | (with_reducible refine RT_step fun K' hK' => ?_; first | refine R2_n ?_ | refine Rf rfl rfl ?_ | refine Rf' rfl rfl ?_ | refine R2_gu rfl rfl ?_ | refine Rt rfl rfl ?_ | refine R2_g rfl rfl (fun hg => ?_) (fun hg => ?_) rfl)
 | (with_reducible refine RT_nil ?_; refine hK _ ?_; clear hK K)
 | (with_reducible refine MkG_i ?_; (try simp only [bnq] at hg); (try (have hgp := hg; simp only [bdq] at hgp)); try simp (disch := omega) only [go_sem, seval, irw, h4, hg])
 | (with_reducible refine RL_step fun K' hK' => ?_; first | refine L2_n ?_ | refine Lf rfl rfl ?_ | refine Lf' rfl rfl ?_ | refine L2_gu rfl rfl ?_ | refine Lt rfl rfl ?_ | refine L2_g rfl rfl (fun hg => ?_) (fun hg => ?_) rfl)
 | (with_reducible refine RL_nil ⟨by kernel_rfl, hK _ ?_⟩; clear hK K)
 | (with_reducible first | refine AL_seq ?_ | refine AL_skip ?_ | refine AL_nil ?_ | refine SeqQ_n ?_ | refine BlockQ_n ?_)
 | (refine AL_text2 rfl fun K hK => ?_; simp only [List.map])
 | (refine AL_draw2 mixed rfl (by kernel_rfl) fun K hK => ?_; simp only [List.map])
 | (with_reducible refine AL_block ?_)
 | (with_reducible refine AL_exit ?_; simp only [SeqQ, BlockQ, go_sem, seval])
 | (refine Ct rfl ?_)
 | (refine Cf rfl ?_)
 | (refine AL_condb rfl (fun hg => ?_) (fun hg => ?_) <;> ((try simp only [bnq] at hg); (try (have hgp := hg; simp only [bdq] at hgp))))
 | (with_reducible first | refine ite_elimM (fun hg => ?_) (fun hg => ?_) | refine And.intro ?_ ?_)
 | omega)
  (repeat (with_reducible first | refine AL_seq ?_ | refine AL_skip ?_ | refine AL_block ?_ | refine AL_nil ?_ | refine SeqQ_n ?_ | refine BlockQ_n ?_))
  refine AL_len 48 (full := false) (rows := insRows p[k].blocks[j].code) rfl rfl (.refl _) fun hlc => ?_
  simp only [insRows, List.length_map] at hlc
  refine AL_loop (fun x : Nat × List Int => ⟨tA [(1, .op 1 0 0 0), (3, .om 1), (23, .sl false (funRows p)), (24, pI p.length), (25, pI k), (4, pI k), (41, .sl false (blkRows p[k].blocks)), (42, pI p[k].blocks.length), (43, pI j), (48, .sl false (insRows p[k].blocks[j].code)), (49, pI p[k].blocks[j].code.length), (50, pI x.1)], tO [some (.rows 1 [[.sl false (funRows p)]]), some (.mib (metE x.2))]⟩)
    (fun x => x.1 ≤ p[k].blocks[j].code.length ∧ metIns x.2 (p[k].blocks[j].code.drop x.1) = metIns M p[k].blocks[j].code) (fun x => p[k].blocks[j].code.length - x.1) (0, M) ⟨Nat.zero_le _, rfl⟩ (weak_t [0, 1] _ _ rfl (by decide) ⟨by decide, by decide⟩ (by simp [go_sem, ]) (by simp [go_sem, ])) ?_
  rintro ⟨m, N⟩ ⟨hm, hfm⟩
  simp only at hm hfm ⊢
  (repeat (with_reducible first | refine AL_seq ?_ | refine AL_skip ?_ | refine AL_nil ?_ | refine SeqQ_n ?_ | refine BlockQ_n ?_)); (first
 | (refine AL_text2 rfl fun K hK => ?_; simp only [List.map])
 | (refine AL_draw2 mixed rfl (by kernel_rfl) fun K hK => ?_; simp only [List.map])
 | (with_reducible refine AL_block ?_)
 | (with_reducible refine AL_exit ?_; simp only [SeqQ, BlockQ, go_sem, seval])
 | (refine Ct rfl ?_)
 | (refine Cf rfl ?_)
 | (refine AL_condb rfl (fun hg => ?_) (fun hg => ?_) <;> ((try simp only [bnq] at hg); (try (have hgp := hg; simp only [bdq] at hgp))))); repeat' (first
 | (with_reducible refine Mk_i ?_; try simp (disch := omega) only [go_sem, seval, irw])
 | ((with_reducible first | refine hK' _ _ ?_ | refine hK' _ _ _ ?_); clear hK' K')
 | (with_reducible refine RT_step fun K' hK' => ?_; first | refine R2_n ?_ | refine Rf rfl rfl ?_ | refine Rf' rfl rfl ?_ | refine R2_gu rfl rfl ?_ | refine Rt rfl rfl ?_ | refine R2_g rfl rfl (fun hg => ?_) (fun hg => ?_) rfl)
 | (with_reducible refine RT_nil ?_; refine hK _ ?_; clear hK K)
 | (with_reducible refine MkG_i ?_; (try simp only [bnq] at hg); (try (have hgp := hg; simp only [bdq] at hgp)); try simp (disch := omega) only [go_sem, seval, irw, hg])
 | (with_reducible refine RL_step fun K' hK' => ?_; first | refine L2_n ?_ | refine Lf rfl rfl ?_ | refine Lf' rfl rfl ?_ | refine L2_gu rfl rfl ?_ | refine Lt rfl rfl ?_ | refine L2_g rfl rfl (fun hg => ?_) (fun hg => ?_) rfl)
 | (with_reducible refine RL_nil ⟨by kernel_rfl, hK _ ?_⟩; clear hK K)
 | (with_reducible first | refine ite_elimM (fun hg => ?_) (fun hg => ?_) | refine And.intro ?_ ?_)
 | omega)
  cases h5 : decide ((m : Int) < (p[k].blocks[j].code.length : Int))
  · have hm2 : p[k].blocks[j].code.length ≤ m := by simp at h5; omega
    have hq : metIns M p[k].blocks[j].code = some N := by rw [← hfm, List.drop_of_length_le hm2]; rfl
    rw [hq] at hdj
    repeat' (first
 | (with_reducible refine Mk_i ?_; try simp (disch := omega) only [go_sem, seval, irw, h5])
 | ((with_reducible first | refine hK' _ _ ?_ | refine hK' _ _ _ ?_); clear hK' K')
 | (with_reducible refine RT_step fun K' hK' => ?_; first | refine R2_n ?_ | refine Rf rfl rfl ?_ | refine Rf' rfl rfl ?_ | refine R2_gu rfl rfl ?_ | refine Rt rfl rfl ?_ | refine R2_g rfl rfl (fun hg => ?_) (fun hg => ?_) rfl)
 | (with_reducible refine RT_nil ?_; refine hK _ ?_; clear hK K)
 | (with_reducible refine MkG_i ?_; (try simp only [bnq] at hg); (try (have hgp := hg; simp only [bdq] at hgp)); try simp (disch := omega) only [go_sem, seval, irw, h5, hg])
 | (with_reducible refine RL_step fun K' hK' => ?_; first | refine L2_n ?_ | refine Lf rfl rfl ?_ | refine Lf' rfl rfl ?_ | refine L2_gu rfl rfl ?_ | refine Lt rfl rfl ?_ | refine L2_g rfl rfl (fun hg => ?_) (fun hg => ?_) rfl)
 | (with_reducible refine RL_nil ⟨by kernel_rfl, hK _ ?_⟩; clear hK K)
 | (with_reducible first | refine AL_seq ?_ | refine AL_skip ?_ | refine AL_nil ?_ | refine SeqQ_n ?_ | refine BlockQ_n ?_)
 | (refine AL_text2 rfl fun K hK => ?_; simp only [List.map])
 | (refine AL_draw2 mixed rfl (by kernel_rfl) fun K hK => ?_; simp only [List.map])
 | (with_reducible refine AL_block ?_)
 | (with_reducible refine AL_exit ?_; simp only [SeqQ, BlockQ, go_sem, seval])
 | (refine Ct rfl ?_)
 | (refine Cf rfl ?_)
 | (refine AL_condb rfl (fun hg => ?_) (fun hg => ?_) <;> ((try simp only [bnq] at hg); (try (have hgp := hg; simp only [bdq] at hgp))))
 | (with_reducible first | refine ite_elimM (fun hg => ?_) (fun hg => ?_) | refine And.intro ?_ ?_)
 | omega)
    exact ⟨(j + 1, N), ⟨hj2, by rw [← hfj, hdj]; rfl⟩, by show p[k].blocks.length - (j + 1) < p[k].blocks.length - j; omega, (weak_t [0, 1] _ _ rfl (by decide) ⟨by decide, by decide⟩ (by simp [go_sem, ]) (by simp [go_sem, ]))⟩
  have hm2 : m < p[k].blocks[j].code.length := by simpa using h5
  have hdm : metIns N (p[k].blocks[j].code.drop m) = if p[k].blocks[j].code[m].id ∈ N then none else metIns (N ++ [p[k].blocks[j].code[m].id]) (p[k].blocks[j].code.drop (m + 1)) := by
    rw [List.drop_eq_getElem_cons hm2]; rfl
  have hg := met_get N p[k].blocks[j].code[m].id
  by_cases h6 : p[k].blocks[j].code[m].id ∈ N
  · rw [if_pos h6] at hg hdm
    repeat' (first
 | (with_reducible refine Mk_i ?_; try simp (disch := omega) only [go_sem, seval, irw, h5, hg])
 | ((with_reducible first | refine hK' _ _ ?_ | refine hK' _ _ _ ?_); clear hK' K')
 | (with_reducible refine RT_step fun K' hK' => ?_; first | refine R2_n ?_ | refine Rf rfl rfl ?_ | refine Rf' rfl rfl ?_ | refine R2_gu rfl rfl ?_ | refine Rt rfl rfl ?_ | refine R2_g rfl rfl (fun hg => ?_) (fun hg => ?_) rfl)
 | (with_reducible refine RT_nil ?_; refine hK _ ?_; clear hK K)
 | (with_reducible refine MkG_i ?_; (try simp only [bnq] at hg); (try (have hgp := hg; simp only [bdq] at hgp)); try simp (disch := omega) only [go_sem, seval, irw, h5, hg, hg])
 | (with_reducible refine RL_step fun K' hK' => ?_; first | refine L2_n ?_ | refine Lf rfl rfl ?_ | refine Lf' rfl rfl ?_ | refine L2_gu rfl rfl ?_ | refine Lt rfl rfl ?_ | refine L2_g rfl rfl (fun hg => ?_) (fun hg => ?_) rfl)
 | (with_reducible refine RL_nil ⟨by kernel_rfl, hK _ ?_⟩; clear hK K)
 | (with_reducible first | refine AL_seq ?_ | refine AL_skip ?_ | refine AL_nil ?_ | refine SeqQ_n ?_ | refine BlockQ_n ?_)
 | (refine AL_text2 rfl fun K hK => ?_; simp only [List.map])
 | (refine AL_draw2 mixed rfl (by kernel_rfl) fun K hK => ?_; simp only [List.map])
 | (with_reducible refine AL_block ?_)
 | (with_reducible refine AL_exit ?_; simp only [SeqQ, BlockQ, go_sem, seval])
 | (refine Ct rfl ?_)
 | (refine Cf rfl ?_)
 | (refine AL_condb rfl (fun hg => ?_) (fun hg => ?_) <;> ((try simp only [bnq] at hg); (try (have hgp := hg; simp only [bdq] at hgp))))
 | (with_reducible first | refine ite_elimM (fun hg => ?_) (fun hg => ?_) | refine And.intro ?_ ?_)
 | omega)
    have : checkFrom p [] 0 p = some (txtTwice, (k : Int)) := by
      rw [← hf, hd, ← hfj, hdj, ← hfm, hdm]; rfl
    rw [this]
    (refine AL_ret (PureQ_view (by simp (disch := omega) only [go_sem, seval] <;> rfl) (by simp (disch := omega) only [go_sem, seval, irw, errV, txtTwice])))
  · rw [if_neg h6] at hg hdm
    have hpu := met_put N p[k].blocks[j].code[m].id h6
    repeat' (first
 | (with_reducible refine Mk_i ?_; try simp (disch := omega) only [go_sem, seval, irw, h5, hg, hpu])
 | ((with_reducible first | refine hK' _ _ ?_ | refine hK' _ _ _ ?_); clear hK' K')
 | (with_reducible refine RT_step fun K' hK' => ?_; first | refine R2_n ?_ | refine Rf rfl rfl ?_ | refine Rf' rfl rfl ?_ | refine R2_gu rfl rfl ?_ | refine Rt rfl rfl ?_ | refine R2_g rfl rfl (fun hg => ?_) (fun hg => ?_) rfl)
 | (with_reducible refine RT_nil ?_; refine hK _ ?_; clear hK K)
 | (with_reducible refine MkG_i ?_; (try simp only [bnq] at hg); (try (have hgp := hg; simp only [bdq] at hgp)); try simp (disch := omega) only [go_sem, seval, irw, h5, hg, hpu, hg])
 | (with_reducible refine RL_step fun K' hK' => ?_; first | refine L2_n ?_ | refine Lf rfl rfl ?_ | refine Lf' rfl rfl ?_ | refine L2_gu rfl rfl ?_ | refine Lt rfl rfl ?_ | refine L2_g rfl rfl (fun hg => ?_) (fun hg => ?_) rfl)
 | (with_reducible refine RL_nil ⟨by kernel_rfl, hK _ ?_⟩; clear hK K)
 | (with_reducible first | refine AL_seq ?_ | refine AL_skip ?_ | refine AL_nil ?_ | refine SeqQ_n ?_ | refine BlockQ_n ?_)
 | (refine AL_text2 rfl fun K hK => ?_; simp only [List.map])
 | (refine AL_draw2 mixed rfl (by kernel_rfl) fun K hK => ?_; simp only [List.map])
 | (with_reducible refine AL_block ?_)
 | (with_reducible refine AL_exit ?_; simp only [SeqQ, BlockQ, go_sem, seval])
 | (refine Ct rfl ?_)
 | (refine Cf rfl ?_)
 | (refine AL_condb rfl (fun hg => ?_) (fun hg => ?_) <;> ((try simp only [bnq] at hg); (try (have hgp := hg; simp only [bdq] at hgp))))
 | (with_reducible first | refine ite_elimM (fun hg => ?_) (fun hg => ?_) | refine And.intro ?_ ?_)
 | omega)
    exact ⟨(m + 1, N ++ [p[k].blocks[j].code[m].id]), ⟨hm2, by rw [← hfm, hdm]⟩, by show p[k].blocks[j].code.length - (m + 1) < p[k].blocks[j].code.length - m; omega, (weak_t [0, 1] _ _ rfl (by decide) ⟨by decide, by decide⟩ (by simp [go_sem, ]) (by simp [go_sem, ]))⟩
end Go.Proofs.YtjlcojgimicfbaaDoor
/- Programs: may one be? -/
namespace Go.Proofs.YtjlcojgimicfbaaDoor
open Go.Am Go
set_option linter.unusedSimpArgs false
set_option maxRecDepth 100000
set_option maxHeartbeats 4000000
variable {Γ : Nat → Option Obj}

def ErrT (Γ : Nat → Option Obj) : Prop := ∃ c ty fr, Γ 1 = some (.cells c ty fr) ∧ c[0]? = some (.iface 121 (.agg #[.pointer (some ⟨5, 70, none⟩)]))
def asRow : Option (List UInt8 × Int) → List PV
  | none => [.v (.pointer none)]
  | some (t, k) => [.ip [pS t, pI k]]
theorem own_out {w w' : World} {O : Nat → Prop} (hx : Ext w O w' O) : ∀ b, b < w.heap.size → ¬ O b → w'.heap[b]? = w.heap[b]? := fun b h1 h2 => (hx.keep b h1 h2).1
theorem setCell_setBlk {w : World} {b : Nat} {c : Array Value} {ty : TypeId} {fr : Nat × Nat} (h : w.heap[b]? = some (.cells c ty fr)) (v : Value) : w.setCell ⟨b, 0, none⟩ v = setBlk w b (.cells (c.setIfInBounds 0 v) ty fr) := by
  have hlt := lt_of_heap h
  simp only [World.setCell, setBlk]
  congr 1
  apply Array.ext_getElem?
  intro k
  rw [Array.getElem?_modify]
  by_cases hk : b = k
  · subst hk
    rw [h]
    simp [hlt]
  · simp [hk, Array.getElem?_setIfInBounds_ne hk]

theorem ifc_get {w : World} {O : Nat → Prop} {μ : Nat → Mu} {ty : TypeId} {p : PV} {y : Value} (h : Rep w O μ (.ifc ty p) y) : ∃ z, y = .iface ty z ∧ Rep w O μ p z := by
  cases h with
  | pure hh => cases hh with
    | ifc _ _ z hz => exact ⟨z, rfl, .pure hz⟩
  | ifc _ _ z hz => exact ⟨z, rfl, hz⟩
theorem op_get {w : World} {O : Nat → Prop} {μ : Nat → Mu} {sz t i off : Nat} {y : Value} (h : Rep w O μ (.op sz t i off) y) : ∃ b, μ t = .at b ∧ y = .pointer (some ⟨b, i * sz + off, none⟩) := by
  cases h with
  | pure hh => cases hh
  | op _ _ _ _ b hb => exact ⟨b, hb, rfl⟩
theorem ec_as (hE : ErrT Γ) (o : Option (List UInt8 × Int)) : EC Γ Tryd.prog 41 [errV o, .ifc 72 (.op 1 0 0 0)] [.rows 1 [[.v (.pointer none)]]] (.v (.bool o.isSome)) [some (.rows 1 [asRow o])] := by
  intro F μ w cargs hs ha
  have h00 : ofB [Blk.rows 1 [[PV.v (.pointer none)]]] 0 = .live (.rows 1 [[.v (.pointer none)]]) := rfl
  obtain ⟨l⟩ := cargs
  match l, ha with
  | [], h => exact absurd h.1 (by simp)
  | [_], h => exact absurd h.1 (by simp)
  | _ :: _ :: _ :: _, h => exact absurd h.1 (by simp)
  | [y0, y1], h =>
    have hy0 := h.of_cons.1
    have hy1 := h.of_cons.2.of_cons.1
    cases o with
    | none =>
      have : y0 = .nilIface := Rep.of_v hy0
      subst this
      refine (as_nil y1 w).mono ?_
      rintro e w' ⟨rfl, rfl⟩
      have hσ : ofB [Blk.rows 1 [[PV.v (.pointer none)]]] = ofO [some (Blk.rows 1 [asRow none])] := by rw [ofB_one]; rfl
      rw [← hσ]
      exact ⟨_, μ, rfl, hs, .pure (.v _), Ext.refl _ _, own_pin _⟩
    | some q =>
      obtain ⟨t, k⟩ := q
      have k0 : ∃ z, y0 = .iface 67 z ∧ Rep w (OwnF F μ (ofB [.rows 1 [[.v (.pointer none)]]])) μ (.ip [pS t, pI k]) z := ifc_get hy0
      obtain ⟨z, rfl, hz0⟩ := k0
      have hz := hz0.isP rfl
      have k1 : ∃ b, μ 0 = .at b ∧ y1 = .iface 72 (.pointer (some ⟨b, 0, none⟩)) := by
        obtain ⟨z1, rfl, hz1⟩ := ifc_get hy1
        obtain ⟨b, h1, rfl⟩ := op_get hz1
        exact ⟨b, h1, by simp⟩
      obtain ⟨b, hm, rfl⟩ := k1
      have hB := hs.live 0 _ h00
      rw [hm] at hB
      obtain ⟨c, ty, lo, hi, e1, e2, e3, e4, e5⟩ := hB
      obtain ⟨y, y1, y2⟩ := e5 0 [.v (.pointer none)] 0 (.v (.pointer none)) rfl rfl
      have hy := y2.of_v
      subst hy
      have hc0 : w.cell? ⟨b, 0, none⟩ = some (.pointer none) := by simpa [World.cell?, e1] using y1
      have hf0 : w.frozen? ⟨b, 0, none⟩ = false := by simp only [World.frozen?, e1]; simp; omega
      obtain ⟨gc, gty, gfr, g1, g2⟩ := hE
      have g3 := hs.gam _ _ g1
      have hg : w.cell? ⟨1, 0, none⟩ = some (.iface 121 (.agg #[.pointer (some ⟨5, 70, none⟩)])) := by simp [World.cell?, g3.1, g2]
      obtain ⟨za, rfl⟩ : ∃ za, z = .pointer (some za) := by cases hz with | ip cs b off vs => exact ⟨_, rfl⟩
      refine (as_hit za ⟨b, 0, none⟩ _ w hg hc0 hf0).mono ?_
      rintro e w' ⟨rfl, rfl⟩
      generalize hO1 : Obj.cells #[.pointer (some ⟨b, 0, none⟩)] 72 = O1
      generalize hO2 : Obj.cells #[.pointer (some ⟨5, 72, none⟩), .pointer (some ⟨w.heap.size, 0, none⟩), .int .u64 150] 89 = O2
      generalize hO3 : Obj.cells #[.pointer (some za)] 67 = O3
      obtain ⟨s1, x1⟩ := srel_push hs O1
      obtain ⟨s2, x2⟩ := srel_push s1 O2
      obtain ⟨s3, x3⟩ := srel_push s2 O2
      obtain ⟨s4, x4⟩ := srel_push s3 O3
      have x := ((x1.trans x2).trans x3).trans x4
      have hz4 := hz.mono (Ext.keeps (F := F) x)
      have hlt := lt_of_heap e1
      have e1' : (pushW (pushW (pushW (pushW w O1) O2) O2) O3).heap[b]? = some (.cells c ty (lo, hi)) := by
        have q1 := pushW_old (w := w) (o := O1) hlt
        have l1 : b < (pushW w O1).heap.size := by simp [pushW]; omega
        have q2 := pushW_old (o := O2) l1
        have l2 : b < (pushW (pushW w O1) O2).heap.size := by simp [pushW]; omega
        have q3 := pushW_old (o := O2) l2
        have l3 : b < (pushW (pushW (pushW w O1) O2) O2).heap.size := by simp [pushW]; omega
        have q4 := pushW_old (o := O3) l3
        rw [q4, q3, q2, q1, e1]
      have hcz : 0 < c.size := by simp at e3; exact e3
      have hz5 : PRep (pushW (pushW (pushW (pushW w O1) O2) O2) O3) (OwnF F μ (ofB [.rows 1 [[.v (.pointer none)]]])) (.ip [pS t, pI k]) (.pointer (some za)) := hz4
      show ∃ y μ', _ ∧ SRel Γ F ((pushW (pushW (pushW (pushW w O1) O2) O2) O3).setCell ⟨b, 0, none⟩ _) μ' _ ∧ _
      rw [setCell_setBlk e1']
      have hlt' := lt_of_heap e1'
      have hsh : (setBlk (pushW (pushW (pushW (pushW w O1) O2) O2) O3) b (.cells (c.setIfInBounds 0 (.pointer (some za))) ty (lo, hi))).shape? b = (pushW (pushW (pushW (pushW w O1) O2) O2) O3).shape? b := by
        simp [World.shape?, setBlk_same hlt', e1']
      have hown : Own μ (ofB [Blk.rows 1 [[PV.v (.pointer none)]]]) b := ⟨0, _, h00, hm⟩
      have hz6 : PRep (setBlk (pushW (pushW (pushW (pushW w O1) O2) O2) O3) b (.cells (c.setIfInBounds 0 (.pointer (some za))) ty (lo, hi))) (OwnF F μ (ofB [.rows 1 [[.v (.pointer none)]]])) (.ip [pS t, pI k]) (.pointer (some za)) :=
        hz5.mono ⟨by rw [setBlk_size]; exact Nat.le_refl _, fun d _ hd => ⟨setBlk_ne fun e => hd (by subst e; exact .inr hown), hd⟩⟩
      obtain ⟨s5, x5⟩ := srel_set s4 (B' := .rows 1 [asRow (some (t, k))]) h00 hm hsh ⟨_, ty, lo, hi, setBlk_same hlt', e2, by simpa using e3, by simp [asRow], by
        intro i r j p h1 h2
        match i, j with
        | 0, 0 => simp [asRow] at h1; subst h1; simp at h2; subst h2; exact ⟨.pointer (some za), by simp [hcz], .pure hz6⟩
        | 0, j + 1 => simp [asRow] at h1; subst h1; simp at h2
        | i + 1, j => simp at h1⟩
      have hσ : upd (ofB [Blk.rows 1 [[PV.v (.pointer none)]]]) 0 (.live (.rows 1 [asRow (some (t, k))])) = ofO [some (.rows 1 [asRow (some (t, k))])] := by rw [ofB_one, upd_tO_live]; rfl
      rw [hσ] at s5 x5
      have x5' : Ext (pushW (pushW (pushW (pushW w O1) O2) O2) O3) (Own μ (ofB [Blk.rows 1 [[PV.v (.pointer none)]]])) ((((((w.alloc O1).alloc O2).alloc O2).alloc O3).setCell ⟨b, 0, none⟩ (.pointer (some za)))) (Own μ (ofO [some (.rows 1 [asRow (some (t, k))])])) := by
        show Ext _ _ ((pushW (pushW (pushW (pushW w O1) O2) O2) O3).setCell ⟨b, 0, none⟩ _) _
        rw [setCell_setBlk e1']; exact x5
      exact ⟨_, μ, rfl, s5, .pure (.v _), x.trans x5', own_pin _⟩

@[go_sem] theorem okI_errV (k : Nat) (o : Option (List UInt8 × Int)) : okI k (errV o) = true := by cases o <;> rfl
@[go_sem] theorem ren_errV (f : Nat → Nat) (o : Option (List UInt8 × Int)) : ren f (errV o) = errV o := by cases o <;> rfl
@[go_sem] theorem okL_asRow (k : Nat) (o : Option (List UInt8 × Int)) : okL k (asRow o) = true := by cases o <;> rfl
@[go_sem] theorem renL_asRow (f : Nat → Nat) (o : Option (List UInt8 × Int)) : renL f (asRow o) = asRow o := by cases o <;> rfl
theorem c_Sane (hB : Blanks Γ) (hE : ErrT Γ) (p : List FunD) : Pure Γ Tryd.prog 21 [progV p] (pB (checkD p).isNone) := by
  refine pure_start1 Tryd.func21 rfl (by simp [Tryd.f21]) ?_
  repeat' (first
 | (with_reducible refine Mk_i ?_; try simp (disch := omega) only [go_sem, seval, irw])
 | ((with_reducible first | refine hK' _ _ ?_ | refine hK' _ _ _ ?_); clear hK' K')
 | (with_reducible refine RT_step fun K' hK' => ?_; first | refine R2_n ?_ | refine Rf rfl rfl ?_ | refine Rf' rfl rfl ?_ | refine R2_gu rfl rfl ?_ | refine Rt rfl rfl ?_ | refine R2_g rfl rfl (fun hg => ?_) (fun hg => ?_) rfl)
 | (with_reducible refine RT_nil ?_; refine hK _ ?_; clear hK K)
 | (with_reducible refine MkG_i ?_; (try simp only [bnq] at hg); (try (have hgp := hg; simp only [bdq] at hgp)); try simp (disch := omega) only [go_sem, seval, irw, hg])
 | (with_reducible refine RL_step fun K' hK' => ?_; first | refine L2_n ?_ | refine Lf rfl rfl ?_ | refine Lf' rfl rfl ?_ | refine L2_gu rfl rfl ?_ | refine Lt rfl rfl ?_ | refine L2_g rfl rfl (fun hg => ?_) (fun hg => ?_) rfl)
 | (with_reducible refine RL_nil ⟨by kernel_rfl, hK _ ?_⟩; clear hK K)
 | (with_reducible first | refine AL_seq ?_ | refine AL_skip ?_ | refine AL_nil ?_ | refine SeqQ_n ?_ | refine BlockQ_n ?_)
 | (refine AL_text2 rfl fun K hK => ?_; simp only [List.map])
 | (refine AL_draw2 mixed rfl (by kernel_rfl) fun K hK => ?_; simp only [List.map])
 | (with_reducible refine AL_block ?_)
 | (with_reducible refine AL_exit ?_; simp only [SeqQ, BlockQ, go_sem, seval])
 | (refine Ct rfl ?_)
 | (refine Cf rfl ?_)
 | (refine AL_condb rfl (fun hg => ?_) (fun hg => ?_) <;> ((try simp only [bnq] at hg); (try (have hgp := hg; simp only [bdq] at hgp))))
 | (refine CallK_pureM (c_check hB p) en_42 rfl ?_)
 | (refine CallK_ecM ((ec_as hE (checkD p))) en_41 [1] 2 (by decide) (by simp [go_sem]) rfl (by decide) (by simp [go_sem]) (by simp [go_sem]) (by simp [go_sem]) (by simp [go_sem]) ?_)
 | (with_reducible first | refine ite_elimM (fun hg => ?_) (fun hg => ?_) | refine And.intro ?_ ?_)
 | omega)
  rw [show (checkD p).isNone = !(checkD p).isSome by cases checkD p <;> rfl]
  (refine AL_ret (PureQ_ret ?_ rfl); simp [go_sem, ])
end Go.Proofs.YtjlcojgimicfbaaDoor
/- Programs: a function, a block, an instruction. -/
namespace Go.Proofs.YtjlcojgimicfbaaDoor
open Go.Am Go
set_option linter.unusedSimpArgs false
set_option maxRecDepth 100000
set_option maxHeartbeats 4000000
variable {Γ : Nat → Option Obj}

abbrev saneD (p : List FunD) : Bool := (checkD p).isNone
abbrev zeroF : FunD := ⟨0, 0, []⟩
abbrev zeroB : BlkD := ⟨false, [], []⟩
def funO (p : List FunD) (f : Int) : Option FunD := if f < 0 then none else if (p.length : Int) ≤ f then none else if saneD p then p[f.toNat]? else none
theorem c_Fun (hB : Blanks Γ) (hE : ErrT Γ) (p : List FunD) (f : Int) : Pure Γ Tryd.prog 25 [progV p, pI f] (.tup [funV ((funO p f).getD zeroF), pB (funO p f).isSome]) := by
  refine pure_start2 Tryd.func25 rfl (by simp [Tryd.f25]) ?_
  refine AL_seq ?_
  by_cases h1 : f < 0
  · have hO : funO p f = none := by simp [funO, h1]
    rw [hO]
    repeat' (first
 | (with_reducible refine Mk_i ?_; try simp (disch := omega) only [go_sem, seval, irw])
 | ((with_reducible first | refine hK' _ _ ?_ | refine hK' _ _ _ ?_); clear hK' K')
 | (with_reducible refine RT_step fun K' hK' => ?_; first | refine R2_n ?_ | refine Rf rfl rfl ?_ | refine Rf' rfl rfl ?_ | refine R2_gu rfl rfl ?_ | refine Rt rfl rfl ?_ | refine R2_g rfl rfl (fun hg => ?_) (fun hg => ?_) rfl)
 | (with_reducible refine RT_nil ?_; refine hK _ ?_; clear hK K)
 | (with_reducible refine MkG_i ?_; (try simp only [bnq] at hg); (try (have hgp := hg; simp only [bdq] at hgp)); try simp (disch := omega) only [go_sem, seval, irw, hg])
 | (with_reducible refine RL_step fun K' hK' => ?_; first | refine L2_n ?_ | refine Lf rfl rfl ?_ | refine Lf' rfl rfl ?_ | refine L2_gu rfl rfl ?_ | refine Lt rfl rfl ?_ | refine L2_g rfl rfl (fun hg => ?_) (fun hg => ?_) rfl)
 | (with_reducible refine RL_nil ⟨by kernel_rfl, hK _ ?_⟩; clear hK K)
 | (with_reducible first | refine AL_seq ?_ | refine AL_skip ?_ | refine AL_nil ?_ | refine SeqQ_n ?_ | refine BlockQ_n ?_)
 | (refine AL_text2 rfl fun K hK => ?_; simp only [List.map])
 | (refine AL_draw2 mixed rfl (by kernel_rfl) fun K hK => ?_; simp only [List.map])
 | (with_reducible refine AL_block ?_)
 | (with_reducible refine AL_exit ?_; simp only [SeqQ, BlockQ, go_sem, seval])
 | (refine Ct rfl ?_)
 | (refine Cf rfl ?_)
 | (refine AL_condb rfl (fun hg => ?_) (fun hg => ?_) <;> ((try simp only [bnq] at hg); (try (have hgp := hg; simp only [bdq] at hgp))))
 | (refine CallK_pureM (c_Sane hB hE p) en_21 rfl ?_)
 | (with_reducible first | refine ite_elimM (fun hg => ?_) (fun hg => ?_) | refine And.intro ?_ ?_)
 | omega)
    (refine AL_ret (PureQ_lo (by simp [go_sem, ] <;> rfl) rfl (by simp [loosen, loosenL, ])))
  by_cases h2 : (p.length : Int) ≤ f
  · have hO : funO p f = none := by simp [funO, h1, h2]
    rw [hO]
    repeat' (first
 | (with_reducible refine Mk_i ?_; try simp (disch := omega) only [go_sem, seval, irw])
 | ((with_reducible first | refine hK' _ _ ?_ | refine hK' _ _ _ ?_); clear hK' K')
 | (with_reducible refine RT_step fun K' hK' => ?_; first | refine R2_n ?_ | refine Rf rfl rfl ?_ | refine Rf' rfl rfl ?_ | refine R2_gu rfl rfl ?_ | refine Rt rfl rfl ?_ | refine R2_g rfl rfl (fun hg => ?_) (fun hg => ?_) rfl)
 | (with_reducible refine RT_nil ?_; refine hK _ ?_; clear hK K)
 | (with_reducible refine MkG_i ?_; (try simp only [bnq] at hg); (try (have hgp := hg; simp only [bdq] at hgp)); try simp (disch := omega) only [go_sem, seval, irw, hg])
 | (with_reducible refine RL_step fun K' hK' => ?_; first | refine L2_n ?_ | refine Lf rfl rfl ?_ | refine Lf' rfl rfl ?_ | refine L2_gu rfl rfl ?_ | refine Lt rfl rfl ?_ | refine L2_g rfl rfl (fun hg => ?_) (fun hg => ?_) rfl)
 | (with_reducible refine RL_nil ⟨by kernel_rfl, hK _ ?_⟩; clear hK K)
 | (with_reducible first | refine AL_seq ?_ | refine AL_skip ?_ | refine AL_nil ?_ | refine SeqQ_n ?_ | refine BlockQ_n ?_)
 | (refine AL_text2 rfl fun K hK => ?_; simp only [List.map])
 | (refine AL_draw2 mixed rfl (by kernel_rfl) fun K hK => ?_; simp only [List.map])
 | (with_reducible refine AL_block ?_)
 | (with_reducible refine AL_exit ?_; simp only [SeqQ, BlockQ, go_sem, seval])
 | (refine Ct rfl ?_)
 | (refine Cf rfl ?_)
 | (refine AL_condb rfl (fun hg => ?_) (fun hg => ?_) <;> ((try simp only [bnq] at hg); (try (have hgp := hg; simp only [bdq] at hgp))))
 | (refine CallK_pureM (c_Sane hB hE p) en_21 rfl ?_)
 | (with_reducible first | refine ite_elimM (fun hg => ?_) (fun hg => ?_) | refine And.intro ?_ ?_)
 | omega)
    (refine AL_ret (PureQ_lo (by simp [go_sem, ] <;> rfl) rfl (by simp [loosen, loosenL, ])))
  cases h3 : saneD p
  · have hO : funO p f = none := by simp [funO, h1, h2, h3]
    rw [hO]
    repeat' (first
 | (with_reducible refine Mk_i ?_; try simp (disch := omega) only [go_sem, seval, irw, h3])
 | ((with_reducible first | refine hK' _ _ ?_ | refine hK' _ _ _ ?_); clear hK' K')
 | (with_reducible refine RT_step fun K' hK' => ?_; first | refine R2_n ?_ | refine Rf rfl rfl ?_ | refine Rf' rfl rfl ?_ | refine R2_gu rfl rfl ?_ | refine Rt rfl rfl ?_ | refine R2_g rfl rfl (fun hg => ?_) (fun hg => ?_) rfl)
 | (with_reducible refine RT_nil ?_; refine hK _ ?_; clear hK K)
 | (with_reducible refine MkG_i ?_; (try simp only [bnq] at hg); (try (have hgp := hg; simp only [bdq] at hgp)); try simp (disch := omega) only [go_sem, seval, irw, h3, hg])
 | (with_reducible refine RL_step fun K' hK' => ?_; first | refine L2_n ?_ | refine Lf rfl rfl ?_ | refine Lf' rfl rfl ?_ | refine L2_gu rfl rfl ?_ | refine Lt rfl rfl ?_ | refine L2_g rfl rfl (fun hg => ?_) (fun hg => ?_) rfl)
 | (with_reducible refine RL_nil ⟨by kernel_rfl, hK _ ?_⟩; clear hK K)
 | (with_reducible first | refine AL_seq ?_ | refine AL_skip ?_ | refine AL_nil ?_ | refine SeqQ_n ?_ | refine BlockQ_n ?_)
 | (refine AL_text2 rfl fun K hK => ?_; simp only [List.map])
 | (refine AL_draw2 mixed rfl (by kernel_rfl) fun K hK => ?_; simp only [List.map])
 | (with_reducible refine AL_block ?_)
 | (with_reducible refine AL_exit ?_; simp only [SeqQ, BlockQ, go_sem, seval])
 | (refine Ct rfl ?_)
 | (refine Cf rfl ?_)
 | (refine AL_condb rfl (fun hg => ?_) (fun hg => ?_) <;> ((try simp only [bnq] at hg); (try (have hgp := hg; simp only [bdq] at hgp))))
 | (refine CallK_pureM (c_Sane hB hE p) en_21 rfl ?_)
 | (with_reducible first | refine ite_elimM (fun hg => ?_) (fun hg => ?_) | refine And.intro ?_ ?_)
 | omega)
    (refine AL_ret (PureQ_lo (by simp [go_sem, ] <;> rfl) rfl (by simp [loosen, loosenL, ])))
  have hk : f.toNat < p.length := by omega
  have h0 : 0 ≤ f := by omega
  have hO : funO p f = some p[f.toNat] := by simp only [funO, h1, h2, h3, if_true, if_false]; exact List.getElem?_eq_getElem hk
  rw [hO]
  repeat' (first
 | (with_reducible refine Mk_i ?_; try simp (disch := omega) only [go_sem, seval, irw, h3])
 | ((with_reducible first | refine hK' _ _ ?_ | refine hK' _ _ _ ?_); clear hK' K')
 | (with_reducible refine RT_step fun K' hK' => ?_; first | refine R2_n ?_ | refine Rf rfl rfl ?_ | refine Rf' rfl rfl ?_ | refine R2_gu rfl rfl ?_ | refine Rt rfl rfl ?_ | refine R2_g rfl rfl (fun hg => ?_) (fun hg => ?_) rfl)
 | (with_reducible refine RT_nil ?_; refine hK _ ?_; clear hK K)
 | (with_reducible refine MkG_i ?_; (try simp only [bnq] at hg); (try (have hgp := hg; simp only [bdq] at hgp)); try simp (disch := omega) only [go_sem, seval, irw, h3, hg])
 | (with_reducible refine RL_step fun K' hK' => ?_; first | refine L2_n ?_ | refine Lf rfl rfl ?_ | refine Lf' rfl rfl ?_ | refine L2_gu rfl rfl ?_ | refine Lt rfl rfl ?_ | refine L2_g rfl rfl (fun hg => ?_) (fun hg => ?_) rfl)
 | (with_reducible refine RL_nil ⟨by kernel_rfl, hK _ ?_⟩; clear hK K)
 | (with_reducible first | refine AL_seq ?_ | refine AL_skip ?_ | refine AL_nil ?_ | refine SeqQ_n ?_ | refine BlockQ_n ?_)
 | (refine AL_text2 rfl fun K hK => ?_; simp only [List.map])
 | (refine AL_draw2 mixed rfl (by kernel_rfl) fun K hK => ?_; simp only [List.map])
 | (with_reducible refine AL_block ?_)
 | (with_reducible refine AL_exit ?_; simp only [SeqQ, BlockQ, go_sem, seval])
 | (refine Ct rfl ?_)
 | (refine Cf rfl ?_)
 | (refine AL_condb rfl (fun hg => ?_) (fun hg => ?_) <;> ((try simp only [bnq] at hg); (try (have hgp := hg; simp only [bdq] at hgp))))
 | (refine CallK_pureM (c_Sane hB hE p) en_21 rfl ?_)
 | (with_reducible first | refine ite_elimM (fun hg => ?_) (fun hg => ?_) | refine And.intro ?_ ?_)
 | omega)
  (refine AL_ret (PureQ_lo (by simp [go_sem, ] <;> rfl) rfl (by simp [loosen, loosenL, ])))
def blockO (p : List FunD) (f b : Int) : Option BlkD := (funO p f).bind fun x => if liveD x b then x.blocks[b.toNat]? else none
theorem liveD_get {x : FunD} {b : Int} (h : liveD x b = true) : 0 ≤ b ∧ b < x.blocks.length := by
  simp only [liveD, Bool.and_eq_true, decide_eq_true_eq] at h
  obtain ⟨h1, h2⟩ := h
  cases hq : x.blocks[b.toNat]? with
  | none => simp [hq] at h2
  | some y =>
    obtain ⟨h3, _⟩ := List.getElem?_eq_some_iff.1 hq
    omega
theorem c_Block (hB : Blanks Γ) (hE : ErrT Γ) (p : List FunD) (f b : Int) : Pure Γ Tryd.prog 26 [progV p, pI f, pI b] (.tup [blkV ((blockO p f b).getD zeroB), pB (blockO p f b).isSome]) := by
  refine pure_start3 Tryd.func26 rfl (by simp [Tryd.f26]) ?_
  refine AL_seq ?_
  have hb : blockO p f b = if liveD ((funO p f).getD zeroF) b then ((funO p f).getD zeroF).blocks[b.toNat]? else none := by
    unfold blockO
    cases funO p f with
    | none => simp [liveD]
    | some x => rfl
  rw [hb]
  generalize hx : (funO p f).getD zeroF = x
  have hF := hx ▸ c_Fun hB hE p f
  cases h1 : liveD x b
  · repeat' (first
 | (with_reducible refine Mk_i ?_; try simp (disch := omega) only [go_sem, seval, irw, h1])
 | ((with_reducible first | refine hK' _ _ ?_ | refine hK' _ _ _ ?_); clear hK' K')
 | (with_reducible refine RT_step fun K' hK' => ?_; first | refine R2_n ?_ | refine Rf rfl rfl ?_ | refine Rf' rfl rfl ?_ | refine R2_gu rfl rfl ?_ | refine Rt rfl rfl ?_ | refine R2_g rfl rfl (fun hg => ?_) (fun hg => ?_) rfl)
 | (with_reducible refine RT_nil ?_; refine hK _ ?_; clear hK K)
 | (with_reducible refine MkG_i ?_; (try simp only [bnq] at hg); (try (have hgp := hg; simp only [bdq] at hgp)); try simp (disch := omega) only [go_sem, seval, irw, h1, hg])
 | (with_reducible refine RL_step fun K' hK' => ?_; first | refine L2_n ?_ | refine Lf rfl rfl ?_ | refine Lf' rfl rfl ?_ | refine L2_gu rfl rfl ?_ | refine Lt rfl rfl ?_ | refine L2_g rfl rfl (fun hg => ?_) (fun hg => ?_) rfl)
 | (with_reducible refine RL_nil ⟨by kernel_rfl, hK _ ?_⟩; clear hK K)
 | (with_reducible first | refine AL_seq ?_ | refine AL_skip ?_ | refine AL_nil ?_ | refine SeqQ_n ?_ | refine BlockQ_n ?_)
 | (refine AL_text2 rfl fun K hK => ?_; simp only [List.map])
 | (refine AL_draw2 mixed rfl (by kernel_rfl) fun K hK => ?_; simp only [List.map])
 | (with_reducible refine AL_block ?_)
 | (with_reducible refine AL_exit ?_; simp only [SeqQ, BlockQ, go_sem, seval])
 | (refine Ct rfl ?_)
 | (refine Cf rfl ?_)
 | (refine AL_condb rfl (fun hg => ?_) (fun hg => ?_) <;> ((try simp only [bnq] at hg); (try (have hgp := hg; simp only [bdq] at hgp))))
 | (refine CallK_pureM (hF) en_25 rfl ?_)
 | (refine CallK_pureM (c_live x b) en_46 rfl ?_)
 | (with_reducible first | refine ite_elimM (fun hg => ?_) (fun hg => ?_) | refine And.intro ?_ ?_)
 | omega)
    (refine AL_ret (PureQ_lo (by simp [go_sem, ] <;> rfl) rfl (by simp [loosen, loosenL, ])))
  obtain ⟨k1, k2⟩ := liveD_get h1
  have k3 : b.toNat < x.blocks.length := by omega
  rw [List.getElem?_eq_getElem k3]
  repeat' (first
 | (with_reducible refine Mk_i ?_; try simp (disch := omega) only [go_sem, seval, irw, h1])
 | ((with_reducible first | refine hK' _ _ ?_ | refine hK' _ _ _ ?_); clear hK' K')
 | (with_reducible refine RT_step fun K' hK' => ?_; first | refine R2_n ?_ | refine Rf rfl rfl ?_ | refine Rf' rfl rfl ?_ | refine R2_gu rfl rfl ?_ | refine Rt rfl rfl ?_ | refine R2_g rfl rfl (fun hg => ?_) (fun hg => ?_) rfl)
 | (with_reducible refine RT_nil ?_; refine hK _ ?_; clear hK K)
 | (with_reducible refine MkG_i ?_; (try simp only [bnq] at hg); (try (have hgp := hg; simp only [bdq] at hgp)); try simp (disch := omega) only [go_sem, seval, irw, h1, hg])
 | (with_reducible refine RL_step fun K' hK' => ?_; first | refine L2_n ?_ | refine Lf rfl rfl ?_ | refine Lf' rfl rfl ?_ | refine L2_gu rfl rfl ?_ | refine Lt rfl rfl ?_ | refine L2_g rfl rfl (fun hg => ?_) (fun hg => ?_) rfl)
 | (with_reducible refine RL_nil ⟨by kernel_rfl, hK _ ?_⟩; clear hK K)
 | (with_reducible first | refine AL_seq ?_ | refine AL_skip ?_ | refine AL_nil ?_ | refine SeqQ_n ?_ | refine BlockQ_n ?_)
 | (refine AL_text2 rfl fun K hK => ?_; simp only [List.map])
 | (refine AL_draw2 mixed rfl (by kernel_rfl) fun K hK => ?_; simp only [List.map])
 | (with_reducible refine AL_block ?_)
 | (with_reducible refine AL_exit ?_; simp only [SeqQ, BlockQ, go_sem, seval])
 | (refine Ct rfl ?_)
 | (refine Cf rfl ?_)
 | (refine AL_condb rfl (fun hg => ?_) (fun hg => ?_) <;> ((try simp only [bnq] at hg); (try (have hgp := hg; simp only [bdq] at hgp))))
 | (refine CallK_pureM (hF) en_25 rfl ?_)
 | (refine CallK_pureM (c_live x b) en_46 rfl ?_)
 | (with_reducible first | refine ite_elimM (fun hg => ?_) (fun hg => ?_) | refine And.intro ?_ ?_)
 | omega)
  (refine AL_ret (PureQ_lo (by simp [go_sem, ] <;> rfl) rfl (by simp [loosen, loosenL, ])))
def atO (p : List FunD) (f b pos : Int) : Option Ins := (blockO p f b).bind fun x => if 0 ≤ pos then x.code[pos.toNat]? else none
theorem c_At (hB : Blanks Γ) (hE : ErrT Γ) (p : List FunD) (f b pos : Int) : Pure Γ Tryd.prog 28 [progV p, pI f, pI b, pI pos] (.tup [ins ((atO p f b pos).getD zeroI), pB (atO p f b pos).isSome]) := by
  refine pure_start4 Tryd.func28 rfl (by simp [Tryd.f28]) ?_
  refine AL_seq ?_
  have hb : atO p f b pos = if 0 ≤ pos then ((blockO p f b).getD zeroB).code[pos.toNat]? else none := by
    unfold atO
    cases blockO p f b with
    | none => simp
    | some x => rfl
  rw [hb]
  generalize hx : (blockO p f b).getD zeroB = x
  have hF := hx ▸ c_Block hB hE p f b
  by_cases h1 : pos < 0
  · have h1' : ¬ 0 ≤ pos := by omega
    repeat' (first
 | (with_reducible refine Mk_i ?_; try simp (disch := omega) only [go_sem, seval, irw])
 | ((with_reducible first | refine hK' _ _ ?_ | refine hK' _ _ _ ?_); clear hK' K')
 | (with_reducible refine RT_step fun K' hK' => ?_; first | refine R2_n ?_ | refine Rf rfl rfl ?_ | refine Rf' rfl rfl ?_ | refine R2_gu rfl rfl ?_ | refine Rt rfl rfl ?_ | refine R2_g rfl rfl (fun hg => ?_) (fun hg => ?_) rfl)
 | (with_reducible refine RT_nil ?_; refine hK _ ?_; clear hK K)
 | (with_reducible refine MkG_i ?_; (try simp only [bnq] at hg); (try (have hgp := hg; simp only [bdq] at hgp)); try simp (disch := omega) only [go_sem, seval, irw, hg])
 | (with_reducible refine RL_step fun K' hK' => ?_; first | refine L2_n ?_ | refine Lf rfl rfl ?_ | refine Lf' rfl rfl ?_ | refine L2_gu rfl rfl ?_ | refine Lt rfl rfl ?_ | refine L2_g rfl rfl (fun hg => ?_) (fun hg => ?_) rfl)
 | (with_reducible refine RL_nil ⟨by kernel_rfl, hK _ ?_⟩; clear hK K)
 | (with_reducible first | refine AL_seq ?_ | refine AL_skip ?_ | refine AL_nil ?_ | refine SeqQ_n ?_ | refine BlockQ_n ?_)
 | (refine AL_text2 rfl fun K hK => ?_; simp only [List.map])
 | (refine AL_draw2 mixed rfl (by kernel_rfl) fun K hK => ?_; simp only [List.map])
 | (with_reducible refine AL_block ?_)
 | (with_reducible refine AL_exit ?_; simp only [SeqQ, BlockQ, go_sem, seval])
 | (refine Ct rfl ?_)
 | (refine Cf rfl ?_)
 | (refine AL_condb rfl (fun hg => ?_) (fun hg => ?_) <;> ((try simp only [bnq] at hg); (try (have hgp := hg; simp only [bdq] at hgp))))
 | (refine CallK_pureM (hF) en_26 rfl ?_)
 | (with_reducible first | refine ite_elimM (fun hg => ?_) (fun hg => ?_) | refine And.intro ?_ ?_)
 | omega)
    (refine AL_ret (PureQ_lo (by simp [go_sem, h1', zeroI] <;> rfl) rfl (by simp [loosen, loosenL, h1', zeroI])))
  by_cases h2 : (x.code.length : Int) ≤ pos
  · have h2' : x.code.length ≤ pos.toNat := by omega
    rw [List.getElem?_eq_none h2']
    repeat' (first
 | (with_reducible refine Mk_i ?_; try simp (disch := omega) only [go_sem, seval, irw])
 | ((with_reducible first | refine hK' _ _ ?_ | refine hK' _ _ _ ?_); clear hK' K')
 | (with_reducible refine RT_step fun K' hK' => ?_; first | refine R2_n ?_ | refine Rf rfl rfl ?_ | refine Rf' rfl rfl ?_ | refine R2_gu rfl rfl ?_ | refine Rt rfl rfl ?_ | refine R2_g rfl rfl (fun hg => ?_) (fun hg => ?_) rfl)
 | (with_reducible refine RT_nil ?_; refine hK _ ?_; clear hK K)
 | (with_reducible refine MkG_i ?_; (try simp only [bnq] at hg); (try (have hgp := hg; simp only [bdq] at hgp)); try simp (disch := omega) only [go_sem, seval, irw, hg])
 | (with_reducible refine RL_step fun K' hK' => ?_; first | refine L2_n ?_ | refine Lf rfl rfl ?_ | refine Lf' rfl rfl ?_ | refine L2_gu rfl rfl ?_ | refine Lt rfl rfl ?_ | refine L2_g rfl rfl (fun hg => ?_) (fun hg => ?_) rfl)
 | (with_reducible refine RL_nil ⟨by kernel_rfl, hK _ ?_⟩; clear hK K)
 | (with_reducible first | refine AL_seq ?_ | refine AL_skip ?_ | refine AL_nil ?_ | refine SeqQ_n ?_ | refine BlockQ_n ?_)
 | (refine AL_text2 rfl fun K hK => ?_; simp only [List.map])
 | (refine AL_draw2 mixed rfl (by kernel_rfl) fun K hK => ?_; simp only [List.map])
 | (with_reducible refine AL_block ?_)
 | (with_reducible refine AL_exit ?_; simp only [SeqQ, BlockQ, go_sem, seval])
 | (refine Ct rfl ?_)
 | (refine Cf rfl ?_)
 | (refine AL_condb rfl (fun hg => ?_) (fun hg => ?_) <;> ((try simp only [bnq] at hg); (try (have hgp := hg; simp only [bdq] at hgp))))
 | (refine CallK_pureM (hF) en_26 rfl ?_)
 | (with_reducible first | refine ite_elimM (fun hg => ?_) (fun hg => ?_) | refine And.intro ?_ ?_)
 | omega)
    (refine AL_ret (PureQ_lo (by simp [go_sem, zeroI] <;> rfl) rfl (by simp [loosen, loosenL, zeroI])))
  have h1' : 0 ≤ pos := by omega
  have k3 : pos.toNat < x.code.length := by omega
  rw [List.getElem?_eq_getElem k3]
  repeat' (first
 | (with_reducible refine Mk_i ?_; try simp (disch := omega) only [go_sem, seval, irw])
 | ((with_reducible first | refine hK' _ _ ?_ | refine hK' _ _ _ ?_); clear hK' K')
 | (with_reducible refine RT_step fun K' hK' => ?_; first | refine R2_n ?_ | refine Rf rfl rfl ?_ | refine Rf' rfl rfl ?_ | refine R2_gu rfl rfl ?_ | refine Rt rfl rfl ?_ | refine R2_g rfl rfl (fun hg => ?_) (fun hg => ?_) rfl)
 | (with_reducible refine RT_nil ?_; refine hK _ ?_; clear hK K)
 | (with_reducible refine MkG_i ?_; (try simp only [bnq] at hg); (try (have hgp := hg; simp only [bdq] at hgp)); try simp (disch := omega) only [go_sem, seval, irw, hg])
 | (with_reducible refine RL_step fun K' hK' => ?_; first | refine L2_n ?_ | refine Lf rfl rfl ?_ | refine Lf' rfl rfl ?_ | refine L2_gu rfl rfl ?_ | refine Lt rfl rfl ?_ | refine L2_g rfl rfl (fun hg => ?_) (fun hg => ?_) rfl)
 | (with_reducible refine RL_nil ⟨by kernel_rfl, hK _ ?_⟩; clear hK K)
 | (with_reducible first | refine AL_seq ?_ | refine AL_skip ?_ | refine AL_nil ?_ | refine SeqQ_n ?_ | refine BlockQ_n ?_)
 | (refine AL_text2 rfl fun K hK => ?_; simp only [List.map])
 | (refine AL_draw2 mixed rfl (by kernel_rfl) fun K hK => ?_; simp only [List.map])
 | (with_reducible refine AL_block ?_)
 | (with_reducible refine AL_exit ?_; simp only [SeqQ, BlockQ, go_sem, seval])
 | (refine Ct rfl ?_)
 | (refine Cf rfl ?_)
 | (refine AL_condb rfl (fun hg => ?_) (fun hg => ?_) <;> ((try simp only [bnq] at hg); (try (have hgp := hg; simp only [bdq] at hgp))))
 | (refine CallK_pureM (hF) en_26 rfl ?_)
 | (with_reducible first | refine ite_elimM (fun hg => ?_) (fun hg => ?_) | refine And.intro ?_ ?_)
 | omega)
  (refine AL_ret (PureQ_lo (by simp [go_sem, h1'] <;> rfl) rfl (by simp [loosen, loosenL, h1'])))
theorem check_all {p : List FunD} : ∀ (l : List FunD) (L : List Int) (k : Nat), checkFrom p L k l = none → ∀ f ∈ l, funS p f = []
  | [], _, _, _, f, h => by simp at h
  | g :: r, L, k, hc, f, h => by
    rw [checkFrom] at hc
    cases hg : (funS p g == []) with
    | false => simp [hg] at hc
    | true =>
      rw [hg, if_pos rfl] at hc
      rcases List.mem_cons.1 h with rfl | h
      · simpa using hg
      · cases hm : metBlks L g.blocks with
        | none => simp [hm] at hc
        | some L' => rw [hm] at hc; exact check_all r L' (k + 1) hc f h
theorem sane_check {p : List FunD} (h : saneD p = true) : p.length ≤ 6 ∧ checkFrom p [] 0 p = none := by
  simp only [saneD, Option.isNone_iff_eq_none, checkD] at h
  split at h
  · cases h
  · exact ⟨by omega, h⟩
theorem sane_fun {p : List FunD} (h : saneD p = true) {f : FunD} (hf : f ∈ p) : varsBad f = false ∧ blksBad f = false ∧ firstS (blockS p f) f.blocks = [] := by
  have h1 := check_all p [] 0 (sane_check h).2 f hf
  unfold funS at h1
  cases h2 : varsBad f
  · rw [h2] at h1
    cases h3 : blksBad f
    · rw [h3] at h1; exact ⟨rfl, rfl, h1⟩
    · rw [h3] at h1; exact absurd h1 (by simp [txtBlocks])
  · rw [h2] at h1; exact absurd h1 (by simp [txtVars])
theorem funO_some {p : List FunD} {f : Int} {x : FunD} (h : funO p f = some x) : 0 ≤ f ∧ f < p.length ∧ saneD p = true ∧ p[f.toNat]? = some x := by
  unfold funO at h
  split at h
  · cases h
  · split at h
    · cases h
    · split at h
      · rename_i h1 h2 h3; exact ⟨by omega, by omega, h3, h⟩
      · cases h
theorem blks_le {f : FunD} (h : blksBad f = false) : 1 ≤ f.blocks.length ∧ f.blocks.length ≤ 12 := by
  simp only [blksBad, Bool.or_eq_false_iff, decide_eq_false_iff_not] at h
  omega
theorem funD_le (p : List FunD) (f : Int) : ((funO p f).getD zeroF).blocks.length ≤ 12 := by
  cases h : funO p f with
  | none => simp
  | some x =>
    obtain ⟨_, _, h1, h2⟩ := funO_some h
    exact (blks_le (sane_fun h1 (List.mem_of_getElem? h2)).2.1).2
def predsF (b : Int) (k : Nat) : List BlkD → List Int
  | [] => []
  | x :: r => (if b ∈ x.succ then [(k : Int)] else []) ++ predsF b (k + 1) r
def predsD (p : List FunD) (f b : Int) : List Int := predsF b 0 ((funO p f).getD zeroF).blocks
theorem c_Preds (hB : Blanks Γ) (hE : ErrT Γ) (p : List FunD) (f b : Int) : Pure Γ Tryd.prog 27 [progV p, pI f, pI b] (ints (predsD p f b)) := by
  refine pure_start3 Tryd.func27 rfl (by simp [Tryd.f27]) ?_
  refine AL_seq ?_
  unfold predsD
  generalize hx : (funO p f).getD zeroF = x
  have hF := hx ▸ c_Fun hB hE p f
  repeat' (first
 | (with_reducible refine Mk_i ?_; try simp (disch := omega) only [go_sem, seval, irw])
 | ((with_reducible first | refine hK' _ _ ?_ | refine hK' _ _ _ ?_); clear hK' K')
 | (with_reducible refine RT_step fun K' hK' => ?_; first | refine R2_n ?_ | refine Rf rfl rfl ?_ | refine Rf' rfl rfl ?_ | refine R2_gu rfl rfl ?_ | refine Rt rfl rfl ?_ | refine R2_g rfl rfl (fun hg => ?_) (fun hg => ?_) rfl)
 | (with_reducible refine RT_nil ?_; refine hK _ ?_; clear hK K)
 | (with_reducible refine MkG_i ?_; (try simp only [bnq] at hg); (try (have hgp := hg; simp only [bdq] at hgp)); try simp (disch := omega) only [go_sem, seval, irw, hg])
 | (with_reducible refine RL_step fun K' hK' => ?_; first | refine L2_n ?_ | refine Lf rfl rfl ?_ | refine Lf' rfl rfl ?_ | refine L2_gu rfl rfl ?_ | refine Lt rfl rfl ?_ | refine L2_g rfl rfl (fun hg => ?_) (fun hg => ?_) rfl)
 | (with_reducible refine RL_nil ⟨by kernel_rfl, hK _ ?_⟩; clear hK K)
 | (with_reducible first | refine AL_seq ?_ | refine AL_skip ?_ | refine AL_nil ?_ | refine SeqQ_n ?_ | refine BlockQ_n ?_)
 | (refine AL_text2 rfl fun K hK => ?_; simp only [List.map])
 | (refine AL_draw2 mixed rfl (by kernel_rfl) fun K hK => ?_; simp only [List.map])
 | (with_reducible refine AL_block ?_)
 | (with_reducible refine AL_exit ?_; simp only [SeqQ, BlockQ, go_sem, seval])
 | (refine Ct rfl ?_)
 | (refine Cf rfl ?_)
 | (refine AL_condb rfl (fun hg => ?_) (fun hg => ?_) <;> ((try simp only [bnq] at hg); (try (have hgp := hg; simp only [bdq] at hgp))))
 | (refine CallK_pureM (hF) en_25 rfl ?_)
 | (with_reducible first | refine ite_elimM (fun hg => ?_) (fun hg => ?_) | refine And.intro ?_ ?_)
 | omega)
  refine AL_len 19 (full := false) (rows := blkRows x.blocks) rfl rfl (.refl _) fun hl => ?_
  have hl := funD_le p f
  rw [hx] at hl
  refine AL_weak (weak_nil 9 1 rfl) ?_ (by simp)
  refine AL_loop (fun y : Nat × List Int => ⟨tA [(2, pI b), (9, .os 1 0 0 y.2.length), (19, .sl false (blkRows x.blocks)), (20, pI x.blocks.length), (21, pI y.1)], tO [some (.rows 1 (iRows y.2))]⟩)
    (fun y => y.1 ≤ x.blocks.length ∧ y.2.length ≤ y.1 ∧ y.2 ++ predsF b y.1 (x.blocks.drop y.1) = predsF b 0 x.blocks) (fun y => x.blocks.length - y.1) (0, []) ⟨Nat.zero_le _, Nat.le_refl _, rfl⟩ (weak_t [2] _ _ rfl (by decide) ⟨by decide, by decide⟩ (by simp [go_sem, ]) (by simp [go_sem, ])) ?_
  rintro ⟨k, L⟩ ⟨hk, hL, hf⟩
  simp only at hk hL hf ⊢
  (repeat (with_reducible first | refine AL_seq ?_ | refine AL_skip ?_ | refine AL_nil ?_ | refine SeqQ_n ?_ | refine BlockQ_n ?_)); (first
 | (refine AL_text2 rfl fun K hK => ?_; simp only [List.map])
 | (refine AL_draw2 mixed rfl (by kernel_rfl) fun K hK => ?_; simp only [List.map])
 | (with_reducible refine AL_block ?_)
 | (with_reducible refine AL_exit ?_; simp only [SeqQ, BlockQ, go_sem, seval])
 | (refine Ct rfl ?_)
 | (refine Cf rfl ?_)
 | (refine AL_condb rfl (fun hg => ?_) (fun hg => ?_) <;> ((try simp only [bnq] at hg); (try (have hgp := hg; simp only [bdq] at hgp))))); repeat' (first
 | (with_reducible refine Mk_i ?_; try simp (disch := omega) only [go_sem, seval, irw])
 | ((with_reducible first | refine hK' _ _ ?_ | refine hK' _ _ _ ?_); clear hK' K')
 | (with_reducible refine RT_step fun K' hK' => ?_; first | refine R2_n ?_ | refine Rf rfl rfl ?_ | refine Rf' rfl rfl ?_ | refine R2_gu rfl rfl ?_ | refine Rt rfl rfl ?_ | refine R2_g rfl rfl (fun hg => ?_) (fun hg => ?_) rfl)
 | (with_reducible refine RT_nil ?_; refine hK _ ?_; clear hK K)
 | (with_reducible refine MkG_i ?_; (try simp only [bnq] at hg); (try (have hgp := hg; simp only [bdq] at hgp)); try simp (disch := omega) only [go_sem, seval, irw, hg])
 | (with_reducible refine RL_step fun K' hK' => ?_; first | refine L2_n ?_ | refine Lf rfl rfl ?_ | refine Lf' rfl rfl ?_ | refine L2_gu rfl rfl ?_ | refine Lt rfl rfl ?_ | refine L2_g rfl rfl (fun hg => ?_) (fun hg => ?_) rfl)
 | (with_reducible refine RL_nil ⟨by kernel_rfl, hK _ ?_⟩; clear hK K)
 | (with_reducible first | refine ite_elimM (fun hg => ?_) (fun hg => ?_) | refine And.intro ?_ ?_)
 | omega)
  cases h2 : decide ((k : Int) < (x.blocks.length : Int))
  · have hk2 : x.blocks.length ≤ k := by simp at h2; omega
    rw [List.drop_of_length_le hk2, predsF, List.append_nil] at hf
    rw [← hf]
    repeat' (first
 | (with_reducible refine Mk_i ?_; try simp (disch := omega) only [go_sem, seval, irw, h2])
 | ((with_reducible first | refine hK' _ _ ?_ | refine hK' _ _ _ ?_); clear hK' K')
 | (with_reducible refine RT_step fun K' hK' => ?_; first | refine R2_n ?_ | refine Rf rfl rfl ?_ | refine Rf' rfl rfl ?_ | refine R2_gu rfl rfl ?_ | refine Rt rfl rfl ?_ | refine R2_g rfl rfl (fun hg => ?_) (fun hg => ?_) rfl)
 | (with_reducible refine RT_nil ?_; refine hK _ ?_; clear hK K)
 | (with_reducible refine MkG_i ?_; (try simp only [bnq] at hg); (try (have hgp := hg; simp only [bdq] at hgp)); try simp (disch := omega) only [go_sem, seval, irw, h2, hg])
 | (with_reducible refine RL_step fun K' hK' => ?_; first | refine L2_n ?_ | refine Lf rfl rfl ?_ | refine Lf' rfl rfl ?_ | refine L2_gu rfl rfl ?_ | refine Lt rfl rfl ?_ | refine L2_g rfl rfl (fun hg => ?_) (fun hg => ?_) rfl)
 | (with_reducible refine RL_nil ⟨by kernel_rfl, hK _ ?_⟩; clear hK K)
 | (with_reducible first | refine AL_seq ?_ | refine AL_skip ?_ | refine AL_nil ?_ | refine SeqQ_n ?_ | refine BlockQ_n ?_)
 | (refine AL_text2 rfl fun K hK => ?_; simp only [List.map])
 | (refine AL_draw2 mixed rfl (by kernel_rfl) fun K hK => ?_; simp only [List.map])
 | (with_reducible refine AL_block ?_)
 | (with_reducible refine AL_exit ?_; simp only [SeqQ, BlockQ, go_sem, seval])
 | (refine Ct rfl ?_)
 | (refine Cf rfl ?_)
 | (refine AL_condb rfl (fun hg => ?_) (fun hg => ?_) <;> ((try simp only [bnq] at hg); (try (have hgp := hg; simp only [bdq] at hgp))))
 | (with_reducible first | refine ite_elimM (fun hg => ?_) (fun hg => ?_) | refine And.intro ?_ ?_)
 | omega)
    (refine AL_ret (PureQ_view (by simp (disch := omega) only [go_sem, seval] <;> rfl) (by simp (disch := omega) only [go_sem, seval, irw])))
  have hk2 : k < x.blocks.length := by simpa using h2
  rw [List.drop_eq_getElem_cons hk2, predsF] at hf
  cases h3 : decide (b ∈ x.blocks[k].succ)
  · have h4 : b ∉ x.blocks[k].succ := by simpa using h3
    rw [if_neg h4, List.nil_append] at hf
    repeat' (first
 | (with_reducible refine Mk_i ?_; try simp (disch := omega) only [go_sem, seval, irw, h2, h3])
 | ((with_reducible first | refine hK' _ _ ?_ | refine hK' _ _ _ ?_); clear hK' K')
 | (with_reducible refine RT_step fun K' hK' => ?_; first | refine R2_n ?_ | refine Rf rfl rfl ?_ | refine Rf' rfl rfl ?_ | refine R2_gu rfl rfl ?_ | refine Rt rfl rfl ?_ | refine R2_g rfl rfl (fun hg => ?_) (fun hg => ?_) rfl)
 | (with_reducible refine RT_nil ?_; refine hK _ ?_; clear hK K)
 | (with_reducible refine MkG_i ?_; (try simp only [bnq] at hg); (try (have hgp := hg; simp only [bdq] at hgp)); try simp (disch := omega) only [go_sem, seval, irw, h2, h3, hg])
 | (with_reducible refine RL_step fun K' hK' => ?_; first | refine L2_n ?_ | refine Lf rfl rfl ?_ | refine Lf' rfl rfl ?_ | refine L2_gu rfl rfl ?_ | refine Lt rfl rfl ?_ | refine L2_g rfl rfl (fun hg => ?_) (fun hg => ?_) rfl)
 | (with_reducible refine RL_nil ⟨by kernel_rfl, hK _ ?_⟩; clear hK K)
 | (with_reducible first | refine AL_seq ?_ | refine AL_skip ?_ | refine AL_nil ?_ | refine SeqQ_n ?_ | refine BlockQ_n ?_)
 | (refine AL_text2 rfl fun K hK => ?_; simp only [List.map])
 | (refine AL_draw2 mixed rfl (by kernel_rfl) fun K hK => ?_; simp only [List.map])
 | (with_reducible refine AL_block ?_)
 | (with_reducible refine AL_exit ?_; simp only [SeqQ, BlockQ, go_sem, seval])
 | (refine Ct rfl ?_)
 | (refine Cf rfl ?_)
 | (refine AL_condb rfl (fun hg => ?_) (fun hg => ?_) <;> ((try simp only [bnq] at hg); (try (have hgp := hg; simp only [bdq] at hgp))))
 | (refine CallK_pureM (c_Contains x.blocks[k].succ b) en_36 rfl ?_)
 | (with_reducible first | refine ite_elimM (fun hg => ?_) (fun hg => ?_) | refine And.intro ?_ ?_)
 | omega)
    exact ⟨(k + 1, L), ⟨hk2, by show L.length ≤ k + 1; omega, hf⟩, by show x.blocks.length - (k + 1) < x.blocks.length - k; omega, (weak_t [0] _ _ rfl (by decide) ⟨by decide, by decide⟩ (by simp [go_sem, ]) (by simp [go_sem, ]))⟩
  · have h4 : b ∈ x.blocks[k].succ := by simpa using h3
    rw [if_pos h4, ← List.append_assoc] at hf
    repeat' (first
 | (with_reducible refine Mk_i ?_; try simp (disch := omega) only [go_sem, seval, irw, h2, h3])
 | ((with_reducible first | refine hK' _ _ ?_ | refine hK' _ _ _ ?_); clear hK' K')
 | (with_reducible refine RT_step fun K' hK' => ?_; first | refine R2_n ?_ | refine Rf rfl rfl ?_ | refine Rf' rfl rfl ?_ | refine R2_gu rfl rfl ?_ | refine Rt rfl rfl ?_ | refine R2_g rfl rfl (fun hg => ?_) (fun hg => ?_) rfl)
 | (with_reducible refine RT_nil ?_; refine hK _ ?_; clear hK K)
 | (with_reducible refine MkG_i ?_; (try simp only [bnq] at hg); (try (have hgp := hg; simp only [bdq] at hgp)); try simp (disch := omega) only [go_sem, seval, irw, h2, h3, hg])
 | (with_reducible refine RL_step fun K' hK' => ?_; first | refine L2_n ?_ | refine Lf rfl rfl ?_ | refine Lf' rfl rfl ?_ | refine L2_gu rfl rfl ?_ | refine Lt rfl rfl ?_ | refine L2_g rfl rfl (fun hg => ?_) (fun hg => ?_) rfl)
 | (with_reducible refine RL_nil ⟨by kernel_rfl, hK _ ?_⟩; clear hK K)
 | (with_reducible first | refine AL_seq ?_ | refine AL_skip ?_ | refine AL_nil ?_ | refine SeqQ_n ?_ | refine BlockQ_n ?_)
 | (refine AL_text2 rfl fun K hK => ?_; simp only [List.map])
 | (refine AL_draw2 mixed rfl (by kernel_rfl) fun K hK => ?_; simp only [List.map])
 | (with_reducible refine AL_block ?_)
 | (with_reducible refine AL_exit ?_; simp only [SeqQ, BlockQ, go_sem, seval])
 | (refine Ct rfl ?_)
 | (refine Cf rfl ?_)
 | (refine AL_condb rfl (fun hg => ?_) (fun hg => ?_) <;> ((try simp only [bnq] at hg); (try (have hgp := hg; simp only [bdq] at hgp))))
 | (refine CallK_pureM (c_Contains x.blocks[k].succ b) en_36 rfl ?_)
 | (with_reducible first | refine ite_elimM (fun hg => ?_) (fun hg => ?_) | refine And.intro ?_ ?_)
 | omega)
    exact ⟨(k + 1, L ++ [(k : Int)]), ⟨hk2, by simp; omega, hf⟩, by show x.blocks.length - (k + 1) < x.blocks.length - k; omega, (weak_t [2] _ _ rfl (by decide) ⟨by decide, by decide⟩ (by simp [go_sem, ]) (by simp [go_sem, ]))⟩
end Go.Proofs.YtjlcojgimicfbaaDoor
/- Programs: new numbers. -/
namespace Go.Proofs.YtjlcojgimicfbaaDoor
open Go.Am Go
set_option linter.unusedSimpArgs false
set_option maxRecDepth 100000
set_option maxHeartbeats 4000000
variable {Γ : Nat → Option Obj}

def leastF (g : Int → Bool) (k : Nat) : Nat → Int
  | 0 => -1
  | n + 1 => if g k then leastF g (k + 1) n else k
abbrev hasE (es : List (Int × Bool)) (n : Int) : Bool := (mibGet es n).getD false
theorem ec_least (es : List (Int × Bool)) (m : Nat) (hm : m ≤ 1000) : EC Γ Tryd.prog 45 [.om 0, pI m] [.mib es] (pI (leastF (hasE es) 0 m)) [some (.mib es)] := by
  refine ec_start2 1 rfl Tryd.func45 rfl (by simp [Tryd.f45]) rfl ?_
  refine AL_seq ?_
  repeat' (first
 | (with_reducible refine Mk_i ?_; try simp (disch := omega) only [go_sem, seval, irw])
 | ((with_reducible first | refine hK' _ _ ?_ | refine hK' _ _ _ ?_); clear hK' K')
 | (with_reducible refine RT_step fun K' hK' => ?_; first | refine R2_n ?_ | refine Rf rfl rfl ?_ | refine Rf' rfl rfl ?_ | refine R2_gu rfl rfl ?_ | refine Rt rfl rfl ?_ | refine R2_g rfl rfl (fun hg => ?_) (fun hg => ?_) rfl)
 | (with_reducible refine RT_nil ?_; refine hK _ ?_; clear hK K)
 | (with_reducible refine MkG_i ?_; (try simp only [bnq] at hg); (try (have hgp := hg; simp only [bdq] at hgp)); try simp (disch := omega) only [go_sem, seval, irw, hg])
 | (with_reducible refine RL_step fun K' hK' => ?_; first | refine L2_n ?_ | refine Lf rfl rfl ?_ | refine Lf' rfl rfl ?_ | refine L2_gu rfl rfl ?_ | refine Lt rfl rfl ?_ | refine L2_g rfl rfl (fun hg => ?_) (fun hg => ?_) rfl)
 | (with_reducible refine RL_nil ⟨by kernel_rfl, hK _ ?_⟩; clear hK K)
 | (with_reducible first | refine AL_seq ?_ | refine AL_skip ?_ | refine AL_nil ?_ | refine SeqQ_n ?_ | refine BlockQ_n ?_)
 | (refine AL_text2 rfl fun K hK => ?_; simp only [List.map])
 | (refine AL_draw2 mixed rfl (by kernel_rfl) fun K hK => ?_; simp only [List.map])
 | (with_reducible refine AL_block ?_)
 | (with_reducible refine AL_exit ?_; simp only [SeqQ, BlockQ, go_sem, seval])
 | (refine Ct rfl ?_)
 | (refine Cf rfl ?_)
 | (refine AL_condb rfl (fun hg => ?_) (fun hg => ?_) <;> ((try simp only [bnq] at hg); (try (have hgp := hg; simp only [bdq] at hgp))))
 | (with_reducible first | refine ite_elimM (fun hg => ?_) (fun hg => ?_) | refine And.intro ?_ ?_)
 | omega)
  refine AL_loop (fun k : Nat => ⟨tA [(0, .om 0), (6, pI m), (7, pI k)], tO [some (.mib es)]⟩)
    (fun k => k ≤ m ∧ leastF (hasE es) k (m - k) = leastF (hasE es) 0 m) (fun k => m - k) 0 ⟨Nat.zero_le _, rfl⟩ (weak_t [0] _ _ rfl (by decide) ⟨by decide, by decide⟩ (by simp [go_sem, ]) (by simp [go_sem, ])) ?_
  rintro k ⟨hk, hf⟩
  (repeat (with_reducible first | refine AL_seq ?_ | refine AL_skip ?_ | refine AL_nil ?_ | refine SeqQ_n ?_ | refine BlockQ_n ?_)); (first
 | (refine AL_text2 rfl fun K hK => ?_; simp only [List.map])
 | (refine AL_draw2 mixed rfl (by kernel_rfl) fun K hK => ?_; simp only [List.map])
 | (with_reducible refine AL_block ?_)
 | (with_reducible refine AL_exit ?_; simp only [SeqQ, BlockQ, go_sem, seval])
 | (refine Ct rfl ?_)
 | (refine Cf rfl ?_)
 | (refine AL_condb rfl (fun hg => ?_) (fun hg => ?_) <;> ((try simp only [bnq] at hg); (try (have hgp := hg; simp only [bdq] at hgp))))); repeat' (first
 | (with_reducible refine Mk_i ?_; try simp (disch := omega) only [go_sem, seval, irw])
 | ((with_reducible first | refine hK' _ _ ?_ | refine hK' _ _ _ ?_); clear hK' K')
 | (with_reducible refine RT_step fun K' hK' => ?_; first | refine R2_n ?_ | refine Rf rfl rfl ?_ | refine Rf' rfl rfl ?_ | refine R2_gu rfl rfl ?_ | refine Rt rfl rfl ?_ | refine R2_g rfl rfl (fun hg => ?_) (fun hg => ?_) rfl)
 | (with_reducible refine RT_nil ?_; refine hK _ ?_; clear hK K)
 | (with_reducible refine MkG_i ?_; (try simp only [bnq] at hg); (try (have hgp := hg; simp only [bdq] at hgp)); try simp (disch := omega) only [go_sem, seval, irw, hg])
 | (with_reducible refine RL_step fun K' hK' => ?_; first | refine L2_n ?_ | refine Lf rfl rfl ?_ | refine Lf' rfl rfl ?_ | refine L2_gu rfl rfl ?_ | refine Lt rfl rfl ?_ | refine L2_g rfl rfl (fun hg => ?_) (fun hg => ?_) rfl)
 | (with_reducible refine RL_nil ⟨by kernel_rfl, hK _ ?_⟩; clear hK K)
 | (with_reducible first | refine ite_elimM (fun hg => ?_) (fun hg => ?_) | refine And.intro ?_ ?_)
 | omega)
  cases h2 : decide ((k : Int) < (m : Int))
  · have hk2 : m ≤ k := by simp at h2; omega
    rw [show m - k = 0 by omega, leastF] at hf
    rw [← hf]
    repeat' (first
 | (with_reducible refine Mk_i ?_; try simp (disch := omega) only [go_sem, seval, irw, h2])
 | ((with_reducible first | refine hK' _ _ ?_ | refine hK' _ _ _ ?_); clear hK' K')
 | (with_reducible refine RT_step fun K' hK' => ?_; first | refine R2_n ?_ | refine Rf rfl rfl ?_ | refine Rf' rfl rfl ?_ | refine R2_gu rfl rfl ?_ | refine Rt rfl rfl ?_ | refine R2_g rfl rfl (fun hg => ?_) (fun hg => ?_) rfl)
 | (with_reducible refine RT_nil ?_; refine hK _ ?_; clear hK K)
 | (with_reducible refine MkG_i ?_; (try simp only [bnq] at hg); (try (have hgp := hg; simp only [bdq] at hgp)); try simp (disch := omega) only [go_sem, seval, irw, h2, hg])
 | (with_reducible refine RL_step fun K' hK' => ?_; first | refine L2_n ?_ | refine Lf rfl rfl ?_ | refine Lf' rfl rfl ?_ | refine L2_gu rfl rfl ?_ | refine Lt rfl rfl ?_ | refine L2_g rfl rfl (fun hg => ?_) (fun hg => ?_) rfl)
 | (with_reducible refine RL_nil ⟨by kernel_rfl, hK _ ?_⟩; clear hK K)
 | (with_reducible first | refine AL_seq ?_ | refine AL_skip ?_ | refine AL_nil ?_ | refine SeqQ_n ?_ | refine BlockQ_n ?_)
 | (refine AL_text2 rfl fun K hK => ?_; simp only [List.map])
 | (refine AL_draw2 mixed rfl (by kernel_rfl) fun K hK => ?_; simp only [List.map])
 | (with_reducible refine AL_block ?_)
 | (with_reducible refine AL_exit ?_; simp only [SeqQ, BlockQ, go_sem, seval])
 | (refine Ct rfl ?_)
 | (refine Cf rfl ?_)
 | (refine AL_condb rfl (fun hg => ?_) (fun hg => ?_) <;> ((try simp only [bnq] at hg); (try (have hgp := hg; simp only [bdq] at hgp))))
 | (with_reducible first | refine ite_elimM (fun hg => ?_) (fun hg => ?_) | refine And.intro ?_ ?_)
 | omega)
    (refine AL_ret (ECQ_end ?_ ?_) <;> simp [go_sem, ])
  have hk2 : k < m := by simpa using h2
  rw [show m - k = (m - (k + 1)) + 1 by omega, leastF] at hf
  cases h3 : hasE es k
  · rw [h3, if_neg (by simp)] at hf
    rw [← hf]
    repeat' (first
 | (with_reducible refine Mk_i ?_; try simp (disch := omega) only [go_sem, seval, irw, h2, h3])
 | ((with_reducible first | refine hK' _ _ ?_ | refine hK' _ _ _ ?_); clear hK' K')
 | (with_reducible refine RT_step fun K' hK' => ?_; first | refine R2_n ?_ | refine Rf rfl rfl ?_ | refine Rf' rfl rfl ?_ | refine R2_gu rfl rfl ?_ | refine Rt rfl rfl ?_ | refine R2_g rfl rfl (fun hg => ?_) (fun hg => ?_) rfl)
 | (with_reducible refine RT_nil ?_; refine hK _ ?_; clear hK K)
 | (with_reducible refine MkG_i ?_; (try simp only [bnq] at hg); (try (have hgp := hg; simp only [bdq] at hgp)); try simp (disch := omega) only [go_sem, seval, irw, h2, h3, hg])
 | (with_reducible refine RL_step fun K' hK' => ?_; first | refine L2_n ?_ | refine Lf rfl rfl ?_ | refine Lf' rfl rfl ?_ | refine L2_gu rfl rfl ?_ | refine Lt rfl rfl ?_ | refine L2_g rfl rfl (fun hg => ?_) (fun hg => ?_) rfl)
 | (with_reducible refine RL_nil ⟨by kernel_rfl, hK _ ?_⟩; clear hK K)
 | (with_reducible first | refine AL_seq ?_ | refine AL_skip ?_ | refine AL_nil ?_ | refine SeqQ_n ?_ | refine BlockQ_n ?_)
 | (refine AL_text2 rfl fun K hK => ?_; simp only [List.map])
 | (refine AL_draw2 mixed rfl (by kernel_rfl) fun K hK => ?_; simp only [List.map])
 | (with_reducible refine AL_block ?_)
 | (with_reducible refine AL_exit ?_; simp only [SeqQ, BlockQ, go_sem, seval])
 | (refine Ct rfl ?_)
 | (refine Cf rfl ?_)
 | (refine AL_condb rfl (fun hg => ?_) (fun hg => ?_) <;> ((try simp only [bnq] at hg); (try (have hgp := hg; simp only [bdq] at hgp))))
 | (with_reducible first | refine ite_elimM (fun hg => ?_) (fun hg => ?_) | refine And.intro ?_ ?_)
 | omega)
    (refine AL_ret (ECQ_end ?_ ?_) <;> simp [go_sem, ])
  · rw [h3, if_pos rfl] at hf
    repeat' (first
 | (with_reducible refine Mk_i ?_; try simp (disch := omega) only [go_sem, seval, irw, h2, h3])
 | ((with_reducible first | refine hK' _ _ ?_ | refine hK' _ _ _ ?_); clear hK' K')
 | (with_reducible refine RT_step fun K' hK' => ?_; first | refine R2_n ?_ | refine Rf rfl rfl ?_ | refine Rf' rfl rfl ?_ | refine R2_gu rfl rfl ?_ | refine Rt rfl rfl ?_ | refine R2_g rfl rfl (fun hg => ?_) (fun hg => ?_) rfl)
 | (with_reducible refine RT_nil ?_; refine hK _ ?_; clear hK K)
 | (with_reducible refine MkG_i ?_; (try simp only [bnq] at hg); (try (have hgp := hg; simp only [bdq] at hgp)); try simp (disch := omega) only [go_sem, seval, irw, h2, h3, hg])
 | (with_reducible refine RL_step fun K' hK' => ?_; first | refine L2_n ?_ | refine Lf rfl rfl ?_ | refine Lf' rfl rfl ?_ | refine L2_gu rfl rfl ?_ | refine Lt rfl rfl ?_ | refine L2_g rfl rfl (fun hg => ?_) (fun hg => ?_) rfl)
 | (with_reducible refine RL_nil ⟨by kernel_rfl, hK _ ?_⟩; clear hK K)
 | (with_reducible first | refine AL_seq ?_ | refine AL_skip ?_ | refine AL_nil ?_ | refine SeqQ_n ?_ | refine BlockQ_n ?_)
 | (refine AL_text2 rfl fun K hK => ?_; simp only [List.map])
 | (refine AL_draw2 mixed rfl (by kernel_rfl) fun K hK => ?_; simp only [List.map])
 | (with_reducible refine AL_block ?_)
 | (with_reducible refine AL_exit ?_; simp only [SeqQ, BlockQ, go_sem, seval])
 | (refine Ct rfl ?_)
 | (refine Cf rfl ?_)
 | (refine AL_condb rfl (fun hg => ?_) (fun hg => ?_) <;> ((try simp only [bnq] at hg); (try (have hgp := hg; simp only [bdq] at hgp))))
 | (with_reducible first | refine ite_elimM (fun hg => ?_) (fun hg => ?_) | refine And.intro ?_ ?_)
 | omega)
    exact ⟨k + 1, ⟨hk2, hf⟩, by omega, (weak_t [0] _ _ rfl (by decide) ⟨by decide, by decide⟩ (by simp [go_sem, ]) (by simp [go_sem, ]))⟩

abbrev mapS (es : List (Int × Bool)) : List (Option Blk) := [some (.rows 1 [[.om 1]]), some (.mib es)]
theorem ec_NewId1 (es : List (Int × Bool)) (f b pos : Int) (i : Ins) : EC Γ Tryd.prog 44 [pI f, pI b, pI pos, ins i, .op 1 0 0 0] [.rows 1 [[.om 1]], .mib es] (.tup []) [some (.rows 1 [[.om 1]]), some (.mib (mibPut es i.id true))] := by
  refine ec_start5 2 rfl Tryd.func44 rfl (by simp [Tryd.f44]) rfl ?_
  refine AL_wq ?_
  repeat' (first
 | (with_reducible refine Mk_i ?_; try simp (disch := omega) only [go_sem, seval, irw])
 | ((with_reducible first | refine hK' _ _ ?_ | refine hK' _ _ _ ?_); clear hK' K')
 | (with_reducible refine RT_step fun K' hK' => ?_; first | refine R2_n ?_ | refine Rf rfl rfl ?_ | refine Rf' rfl rfl ?_ | refine R2_gu rfl rfl ?_ | refine Rt rfl rfl ?_ | refine R2_g rfl rfl (fun hg => ?_) (fun hg => ?_) rfl)
 | (with_reducible refine RT_nil ?_; refine hK _ ?_; clear hK K)
 | (with_reducible refine MkG_i ?_; (try simp only [bnq] at hg); (try (have hgp := hg; simp only [bdq] at hgp)); try simp (disch := omega) only [go_sem, seval, irw, hg])
 | (with_reducible refine RL_step fun K' hK' => ?_; first | refine L2_n ?_ | refine Lf rfl rfl ?_ | refine Lf' rfl rfl ?_ | refine L2_gu rfl rfl ?_ | refine Lt rfl rfl ?_ | refine L2_g rfl rfl (fun hg => ?_) (fun hg => ?_) rfl)
 | (with_reducible refine RL_nil ⟨by kernel_rfl, hK _ ?_⟩; clear hK K)
 | (with_reducible first | refine AL_seq ?_ | refine AL_skip ?_ | refine AL_nil ?_ | refine SeqQ_n ?_ | refine BlockQ_n ?_)
 | (refine AL_text2 rfl fun K hK => ?_; simp only [List.map])
 | (refine AL_draw2 mixed rfl (by kernel_rfl) fun K hK => ?_; simp only [List.map])
 | (with_reducible refine AL_block ?_)
 | (with_reducible refine AL_exit ?_; simp only [SeqQ, BlockQ, go_sem, seval])
 | (refine Ct rfl ?_)
 | (refine Cf rfl ?_)
 | (refine AL_condb rfl (fun hg => ?_) (fun hg => ?_) <;> ((try simp only [bnq] at hg); (try (have hgp := hg; simp only [bdq] at hgp))))
 | (with_reducible first | refine ite_elimM (fun hg => ?_) (fun hg => ?_) | refine And.intro ?_ ?_)
 | omega)
  exact ⟨⟨tA [], tO (mapS (mibPut es i.id true))⟩, (weak_t [0, 1] _ _ rfl (by decide) ⟨by decide, by decide⟩ (by simp [go_sem, ]) (by simp [go_sem, ])), .inl rfl, rfl, rfl⟩

def putI (es : List (Int × Bool)) : List Ins → List (Int × Bool)
  | [] => es
  | i :: r => putI (mibPut es i.id true) r
def putB (es : List (Int × Bool)) : List BlkD → List (Int × Bool)
  | [] => es
  | b :: r => putB (putI es b.code) r
def putF (es : List (Int × Bool)) : List FunD → List (Int × Bool)
  | [] => es
  | f :: r => putF (putB es f.blocks) r
theorem ec_each (p : List FunD) (es : List (Int × Bool)) : EC Γ Tryd.prog 43 [progV p, .fn (.func 44) [] [.op 1 0 0 0]] [.rows 1 [[.om 1]], .mib es] (.tup []) (mapS (putF es p)) := by
  refine ec_start2 2 rfl Tryd.func43 rfl (by simp [Tryd.f43]) rfl ?_
  refine AL_seq ?_
  refine AL_len 0 (full := false) (rows := funRows p) rfl rfl (.agg (by simp) (.refl _)) fun hl => ?_
  simp only [funRows, List.length_map] at hl
  repeat' (first
 | (with_reducible refine Mk_i ?_; try simp (disch := omega) only [go_sem, seval, irw])
 | ((with_reducible first | refine hK' _ _ ?_ | refine hK' _ _ _ ?_); clear hK' K')
 | (with_reducible refine RT_step fun K' hK' => ?_; first | refine R2_n ?_ | refine Rf rfl rfl ?_ | refine Rf' rfl rfl ?_ | refine R2_gu rfl rfl ?_ | refine Rt rfl rfl ?_ | refine R2_g rfl rfl (fun hg => ?_) (fun hg => ?_) rfl)
 | (with_reducible refine RT_nil ?_; refine hK _ ?_; clear hK K)
 | (with_reducible refine MkG_i ?_; (try simp only [bnq] at hg); (try (have hgp := hg; simp only [bdq] at hgp)); try simp (disch := omega) only [go_sem, seval, irw, hg])
 | (with_reducible refine RL_step fun K' hK' => ?_; first | refine L2_n ?_ | refine Lf rfl rfl ?_ | refine Lf' rfl rfl ?_ | refine L2_gu rfl rfl ?_ | refine Lt rfl rfl ?_ | refine L2_g rfl rfl (fun hg => ?_) (fun hg => ?_) rfl)
 | (with_reducible refine RL_nil ⟨by kernel_rfl, hK _ ?_⟩; clear hK K)
 | (with_reducible first | refine AL_seq ?_ | refine AL_skip ?_ | refine AL_nil ?_ | refine SeqQ_n ?_ | refine BlockQ_n ?_)
 | (refine AL_text2 rfl fun K hK => ?_; simp only [List.map])
 | (refine AL_draw2 mixed rfl (by kernel_rfl) fun K hK => ?_; simp only [List.map])
 | (with_reducible refine AL_block ?_)
 | (with_reducible refine AL_exit ?_; simp only [SeqQ, BlockQ, go_sem, seval])
 | (refine Ct rfl ?_)
 | (refine Cf rfl ?_)
 | (refine AL_condb rfl (fun hg => ?_) (fun hg => ?_) <;> ((try simp only [bnq] at hg); (try (have hgp := hg; simp only [bdq] at hgp))))
 | (with_reducible first | refine ite_elimM (fun hg => ?_) (fun hg => ?_) | refine And.intro ?_ ?_)
 | omega)
  (repeat (with_reducible first | refine AL_seq ?_ | refine AL_skip ?_ | refine AL_block ?_ | refine AL_nil ?_ | refine SeqQ_n ?_ | refine BlockQ_n ?_))
  refine AL_loop (fun x : Nat × List (Int × Bool) => ⟨tA [(1, .fn (.func 44) [] [.op 1 0 0 0]), (11, .sl false (funRows p)), (12, pI p.length), (13, pI x.1)], tO (mapS x.2)⟩)
    (fun x => x.1 ≤ p.length ∧ putF x.2 (p.drop x.1) = putF es p) (fun x => p.length - x.1) (0, es) ⟨Nat.zero_le _, rfl⟩ (weak_t [0, 1] _ _ rfl (by decide) ⟨by decide, by decide⟩ (by simp [go_sem, ]) (by simp [go_sem, ])) ?_
  rintro ⟨k, L⟩ ⟨hk, hf⟩
  simp only at hk hf ⊢
  (repeat (with_reducible first | refine AL_seq ?_ | refine AL_skip ?_ | refine AL_nil ?_ | refine SeqQ_n ?_ | refine BlockQ_n ?_)); (first
 | (refine AL_text2 rfl fun K hK => ?_; simp only [List.map])
 | (refine AL_draw2 mixed rfl (by kernel_rfl) fun K hK => ?_; simp only [List.map])
 | (with_reducible refine AL_block ?_)
 | (with_reducible refine AL_exit ?_; simp only [SeqQ, BlockQ, go_sem, seval])
 | (refine Ct rfl ?_)
 | (refine Cf rfl ?_)
 | (refine AL_condb rfl (fun hg => ?_) (fun hg => ?_) <;> ((try simp only [bnq] at hg); (try (have hgp := hg; simp only [bdq] at hgp))))); repeat' (first
 | (with_reducible refine Mk_i ?_; try simp (disch := omega) only [go_sem, seval, irw])
 | ((with_reducible first | refine hK' _ _ ?_ | refine hK' _ _ _ ?_); clear hK' K')
 | (with_reducible refine RT_step fun K' hK' => ?_; first | refine R2_n ?_ | refine Rf rfl rfl ?_ | refine Rf' rfl rfl ?_ | refine R2_gu rfl rfl ?_ | refine Rt rfl rfl ?_ | refine R2_g rfl rfl (fun hg => ?_) (fun hg => ?_) rfl)
 | (with_reducible refine RT_nil ?_; refine hK _ ?_; clear hK K)
 | (with_reducible refine MkG_i ?_; (try simp only [bnq] at hg); (try (have hgp := hg; simp only [bdq] at hgp)); try simp (disch := omega) only [go_sem, seval, irw, hg])
 | (with_reducible refine RL_step fun K' hK' => ?_; first | refine L2_n ?_ | refine Lf rfl rfl ?_ | refine Lf' rfl rfl ?_ | refine L2_gu rfl rfl ?_ | refine Lt rfl rfl ?_ | refine L2_g rfl rfl (fun hg => ?_) (fun hg => ?_) rfl)
 | (with_reducible refine RL_nil ⟨by kernel_rfl, hK _ ?_⟩; clear hK K)
 | (with_reducible first | refine ite_elimM (fun hg => ?_) (fun hg => ?_) | refine And.intro ?_ ?_)
 | omega)
  cases h2 : decide ((k : Int) < (p.length : Int))
  · repeat' (first
 | (with_reducible refine Mk_i ?_; try simp (disch := omega) only [go_sem, seval, irw, h2])
 | ((with_reducible first | refine hK' _ _ ?_ | refine hK' _ _ _ ?_); clear hK' K')
 | (with_reducible refine RT_step fun K' hK' => ?_; first | refine R2_n ?_ | refine Rf rfl rfl ?_ | refine Rf' rfl rfl ?_ | refine R2_gu rfl rfl ?_ | refine Rt rfl rfl ?_ | refine R2_g rfl rfl (fun hg => ?_) (fun hg => ?_) rfl)
 | (with_reducible refine RT_nil ?_; refine hK _ ?_; clear hK K)
 | (with_reducible refine MkG_i ?_; (try simp only [bnq] at hg); (try (have hgp := hg; simp only [bdq] at hgp)); try simp (disch := omega) only [go_sem, seval, irw, h2, hg])
 | (with_reducible refine RL_step fun K' hK' => ?_; first | refine L2_n ?_ | refine Lf rfl rfl ?_ | refine Lf' rfl rfl ?_ | refine L2_gu rfl rfl ?_ | refine Lt rfl rfl ?_ | refine L2_g rfl rfl (fun hg => ?_) (fun hg => ?_) rfl)
 | (with_reducible refine RL_nil ⟨by kernel_rfl, hK _ ?_⟩; clear hK K)
 | (with_reducible first | refine AL_seq ?_ | refine AL_skip ?_ | refine AL_nil ?_ | refine SeqQ_n ?_ | refine BlockQ_n ?_)
 | (refine AL_text2 rfl fun K hK => ?_; simp only [List.map])
 | (refine AL_draw2 mixed rfl (by kernel_rfl) fun K hK => ?_; simp only [List.map])
 | (with_reducible refine AL_block ?_)
 | (with_reducible refine AL_exit ?_; simp only [SeqQ, BlockQ, go_sem, seval])
 | (refine Ct rfl ?_)
 | (refine Cf rfl ?_)
 | (refine AL_condb rfl (fun hg => ?_) (fun hg => ?_) <;> ((try simp only [bnq] at hg); (try (have hgp := hg; simp only [bdq] at hgp))))
 | (with_reducible first | refine ite_elimM (fun hg => ?_) (fun hg => ?_) | refine And.intro ?_ ?_)
 | omega)
    have hk2 : p.length ≤ k := by simp at h2; omega
    rw [List.drop_of_length_le hk2, putF] at hf
    rw [← hf]
    exact ⟨.inl rfl, rfl, rfl⟩
  have hk2 : k < p.length := by simpa using h2
  rw [List.drop_eq_getElem_cons hk2, putF] at hf
  repeat' (first
 | (with_reducible refine Mk_i ?_; try simp (disch := omega) only [go_sem, seval, irw, h2])
 | ((with_reducible first | refine hK' _ _ ?_ | refine hK' _ _ _ ?_); clear hK' K')
 | (with_reducible refine RT_step fun K' hK' => ?_; first | refine R2_n ?_ | refine Rf rfl rfl ?_ | refine Rf' rfl rfl ?_ | refine R2_gu rfl rfl ?_ | refine Rt rfl rfl ?_ | refine R2_g rfl rfl (fun hg => ?_) (fun hg => ?_) rfl)
 | (with_reducible refine RT_nil ?_; refine hK _ ?_; clear hK K)
 | (with_reducible refine MkG_i ?_; (try simp only [bnq] at hg); (try (have hgp := hg; simp only [bdq] at hgp)); try simp (disch := omega) only [go_sem, seval, irw, h2, hg])
 | (with_reducible refine RL_step fun K' hK' => ?_; first | refine L2_n ?_ | refine Lf rfl rfl ?_ | refine Lf' rfl rfl ?_ | refine L2_gu rfl rfl ?_ | refine Lt rfl rfl ?_ | refine L2_g rfl rfl (fun hg => ?_) (fun hg => ?_) rfl)
 | (with_reducible refine RL_nil ⟨by kernel_rfl, hK _ ?_⟩; clear hK K)
 | (with_reducible first | refine AL_seq ?_ | refine AL_skip ?_ | refine AL_nil ?_ | refine SeqQ_n ?_ | refine BlockQ_n ?_)
 | (refine AL_text2 rfl fun K hK => ?_; simp only [List.map])
 | (refine AL_draw2 mixed rfl (by kernel_rfl) fun K hK => ?_; simp only [List.map])
 | (with_reducible refine AL_block ?_)
 | (with_reducible refine AL_exit ?_; simp only [SeqQ, BlockQ, go_sem, seval])
 | (refine Ct rfl ?_)
 | (refine Cf rfl ?_)
 | (refine AL_condb rfl (fun hg => ?_) (fun hg => ?_) <;> ((try simp only [bnq] at hg); (try (have hgp := hg; simp only [bdq] at hgp))))
 | (with_reducible first | refine ite_elimM (fun hg => ?_) (fun hg => ?_) | refine And.intro ?_ ?_)
 | omega)
  (repeat (with_reducible first | refine AL_seq ?_ | refine AL_skip ?_ | refine AL_block ?_ | refine AL_nil ?_ | refine SeqQ_n ?_ | refine BlockQ_n ?_))
  refine AL_len 19 (full := false) (rows := blkRows p[k].blocks) rfl rfl (.refl _) fun hlb => ?_
  simp only [blkRows, List.length_map] at hlb
  refine AL_loop (fun x : Nat × List (Int × Bool) => ⟨tA [(1, .fn (.func 44) [] [.op 1 0 0 0]), (11, .sl false (funRows p)), (12, pI p.length), (13, pI k), (4, pI k), (19, .sl false (blkRows p[k].blocks)), (20, pI p[k].blocks.length), (21, pI x.1)], tO (mapS x.2)⟩)
    (fun x => x.1 ≤ p[k].blocks.length ∧ putB x.2 (p[k].blocks.drop x.1) = putB L p[k].blocks) (fun x => p[k].blocks.length - x.1) (0, L) ⟨Nat.zero_le _, rfl⟩ (weak_t [0, 1] _ _ rfl (by decide) ⟨by decide, by decide⟩ (by simp [go_sem, ]) (by simp [go_sem, ])) ?_
  rintro ⟨j, M⟩ ⟨hj, hfj⟩
  simp only at hj hfj ⊢
  (repeat (with_reducible first | refine AL_seq ?_ | refine AL_skip ?_ | refine AL_nil ?_ | refine SeqQ_n ?_ | refine BlockQ_n ?_)); (first
 | (refine AL_text2 rfl fun K hK => ?_; simp only [List.map])
 | (refine AL_draw2 mixed rfl (by kernel_rfl) fun K hK => ?_; simp only [List.map])
 | (with_reducible refine AL_block ?_)
 | (with_reducible refine AL_exit ?_; simp only [SeqQ, BlockQ, go_sem, seval])
 | (refine Ct rfl ?_)
 | (refine Cf rfl ?_)
 | (refine AL_condb rfl (fun hg => ?_) (fun hg => ?_) <;> ((try simp only [bnq] at hg); (try (have hgp := hg; simp only [bdq] at hgp))))); repeat' (first
 | (with_reducible refine Mk_i ?_; try simp (disch := omega) only [go_sem, seval, irw])
 | ((with_reducible first | refine hK' _ _ ?_ | refine hK' _ _ _ ?_); clear hK' K')
 | (with_reducible refine RT_step fun K' hK' => ?_; first | refine R2_n ?_ | refine Rf rfl rfl ?_ | refine Rf' rfl rfl ?_ | refine R2_gu rfl rfl ?_ | refine Rt rfl rfl ?_ | refine R2_g rfl rfl (fun hg => ?_) (fun hg => ?_) rfl)
 | (with_reducible refine RT_nil ?_; refine hK _ ?_; clear hK K)
 | (with_reducible refine MkG_i ?_; (try simp only [bnq] at hg); (try (have hgp := hg; simp only [bdq] at hgp)); try simp (disch := omega) only [go_sem, seval, irw, hg])
 | (with_reducible refine RL_step fun K' hK' => ?_; first | refine L2_n ?_ | refine Lf rfl rfl ?_ | refine Lf' rfl rfl ?_ | refine L2_gu rfl rfl ?_ | refine Lt rfl rfl ?_ | refine L2_g rfl rfl (fun hg => ?_) (fun hg => ?_) rfl)
 | (with_reducible refine RL_nil ⟨by kernel_rfl, hK _ ?_⟩; clear hK K)
 | (with_reducible first | refine ite_elimM (fun hg => ?_) (fun hg => ?_) | refine And.intro ?_ ?_)
 | omega)
  cases h4 : decide ((j : Int) < (p[k].blocks.length : Int))
  · have hj2 : p[k].blocks.length ≤ j := by simp at h4; omega
    rw [List.drop_of_length_le hj2, putB] at hfj
    repeat' (first
 | (with_reducible refine Mk_i ?_; try simp (disch := omega) only [go_sem, seval, irw, h4])
 | ((with_reducible first | refine hK' _ _ ?_ | refine hK' _ _ _ ?_); clear hK' K')
 | (with_reducible refine RT_step fun K' hK' => ?_; first | refine R2_n ?_ | refine Rf rfl rfl ?_ | refine Rf' rfl rfl ?_ | refine R2_gu rfl rfl ?_ | refine Rt rfl rfl ?_ | refine R2_g rfl rfl (fun hg => ?_) (fun hg => ?_) rfl)
 | (with_reducible refine RT_nil ?_; refine hK _ ?_; clear hK K)
 | (with_reducible refine MkG_i ?_; (try simp only [bnq] at hg); (try (have hgp := hg; simp only [bdq] at hgp)); try simp (disch := omega) only [go_sem, seval, irw, h4, hg])
 | (with_reducible refine RL_step fun K' hK' => ?_; first | refine L2_n ?_ | refine Lf rfl rfl ?_ | refine Lf' rfl rfl ?_ | refine L2_gu rfl rfl ?_ | refine Lt rfl rfl ?_ | refine L2_g rfl rfl (fun hg => ?_) (fun hg => ?_) rfl)
 | (with_reducible refine RL_nil ⟨by kernel_rfl, hK _ ?_⟩; clear hK K)
 | (with_reducible first | refine AL_seq ?_ | refine AL_skip ?_ | refine AL_nil ?_ | refine SeqQ_n ?_ | refine BlockQ_n ?_)
 | (refine AL_text2 rfl fun K hK => ?_; simp only [List.map])
 | (refine AL_draw2 mixed rfl (by kernel_rfl) fun K hK => ?_; simp only [List.map])
 | (with_reducible refine AL_block ?_)
 | (with_reducible refine AL_exit ?_; simp only [SeqQ, BlockQ, go_sem, seval])
 | (refine Ct rfl ?_)
 | (refine Cf rfl ?_)
 | (refine AL_condb rfl (fun hg => ?_) (fun hg => ?_) <;> ((try simp only [bnq] at hg); (try (have hgp := hg; simp only [bdq] at hgp))))
 | (with_reducible first | refine ite_elimM (fun hg => ?_) (fun hg => ?_) | refine And.intro ?_ ?_)
 | omega)
    exact ⟨(k + 1, M), ⟨hk2, by rw [← hf, ← hfj]⟩, by show p.length - (k + 1) < p.length - k; omega, (weak_t [0, 1] _ _ rfl (by decide) ⟨by decide, by decide⟩ (by simp [go_sem, ]) (by simp [go_sem, ]))⟩
  have hj2 : j < p[k].blocks.length := by simpa using h4
  rw [List.drop_eq_getElem_cons hj2, putB] at hfj
  repeat' (first
 | (with_reducible refine Mk_i ?_; try simp (disch := omega) only [go_sem, seval, irw, h4])
 | ((with_reducible first | refine hK' _ _ ?_ | refine hK' _ _ _ ?_); clear hK' K')
 | (with_reducible refine RT_step fun K' hK' => ?_; first | refine R2_n ?_ | refine Rf rfl rfl ?_ | refine Rf' rfl rfl ?_ | refine R2_gu rfl rfl ?_ | refine Rt rfl rfl ?_ | refine R2_g rfl rfl (fun hg => ?_) (fun hg => ?_) rfl)
 | (with_reducible refine RT_nil ?_; refine hK _ ?_; clear hK K)
 | (with_reducible refine MkG_i ?_; (try simp only [bnq] at hg); (try (have hgp := hg; simp only [bdq] at hgp)); try simp (disch := omega) only [go_sem, seval, irw, h4, hg])
 | (with_reducible refine RL_step fun K' hK' => ?_; first | refine L2_n ?_ | refine Lf rfl rfl ?_ | refine Lf' rfl rfl ?_ | refine L2_gu rfl rfl ?_ | refine Lt rfl rfl ?_ | refine L2_g rfl rfl (fun hg => ?_) (fun hg => ?_) rfl)
 | (with_reducible refine RL_nil ⟨by kernel_rfl, hK _ ?_⟩; clear hK K)
 | (with_reducible first | refine AL_seq ?_ | refine AL_skip ?_ | refine AL_nil ?_ | refine SeqQ_n ?_ | refine BlockQ_n ?_)
 | (refine AL_text2 rfl fun K hK => ?_; simp only [List.map])
 | (refine AL_draw2 mixed rfl (by kernel_rfl) fun K hK => ?_; simp only [List.map])
 | (with_reducible refine AL_block ?_)
 | (with_reducible refine AL_exit ?_; simp only [SeqQ, BlockQ, go_sem, seval])
 | (refine Ct rfl ?_)
 | (refine Cf rfl ?_)
 | (refine AL_condb rfl (fun hg => ?_) (fun hg => ?_) <;> ((try simp only [bnq] at hg); (try (have hgp := hg; simp only [bdq] at hgp))))
 | (with_reducible first | refine ite_elimM (fun hg => ?_) (fun hg => ?_) | refine And.intro ?_ ?_)
 | omega)
  (repeat (with_reducible first | refine AL_seq ?_ | refine AL_skip ?_ | refine AL_block ?_ | refine AL_nil ?_ | refine SeqQ_n ?_ | refine BlockQ_n ?_))
  refine AL_len 27 (full := false) (rows := insRows p[k].blocks[j].code) rfl rfl (.refl _) fun hlc => ?_
  simp only [insRows, List.length_map] at hlc
  refine AL_loop (fun x : Nat × List (Int × Bool) => ⟨tA [(1, .fn (.func 44) [] [.op 1 0 0 0]), (11, .sl false (funRows p)), (12, pI p.length), (13, pI k), (4, pI k), (19, .sl false (blkRows p[k].blocks)), (20, pI p[k].blocks.length), (21, pI j), (6, pI j), (27, .sl false (insRows p[k].blocks[j].code)), (28, pI p[k].blocks[j].code.length), (29, pI x.1)], tO (mapS x.2)⟩)
    (fun x => x.1 ≤ p[k].blocks[j].code.length ∧ putI x.2 (p[k].blocks[j].code.drop x.1) = putI M p[k].blocks[j].code) (fun x => p[k].blocks[j].code.length - x.1) (0, M) ⟨Nat.zero_le _, rfl⟩ (weak_t [0, 1] _ _ rfl (by decide) ⟨by decide, by decide⟩ (by simp [go_sem, ]) (by simp [go_sem, ])) ?_
  rintro ⟨m, N⟩ ⟨hm, hfm⟩
  simp only at hm hfm ⊢
  (repeat (with_reducible first | refine AL_seq ?_ | refine AL_skip ?_ | refine AL_nil ?_ | refine SeqQ_n ?_ | refine BlockQ_n ?_)); (first
 | (refine AL_text2 rfl fun K hK => ?_; simp only [List.map])
 | (refine AL_draw2 mixed rfl (by kernel_rfl) fun K hK => ?_; simp only [List.map])
 | (with_reducible refine AL_block ?_)
 | (with_reducible refine AL_exit ?_; simp only [SeqQ, BlockQ, go_sem, seval])
 | (refine Ct rfl ?_)
 | (refine Cf rfl ?_)
 | (refine AL_condb rfl (fun hg => ?_) (fun hg => ?_) <;> ((try simp only [bnq] at hg); (try (have hgp := hg; simp only [bdq] at hgp))))); repeat' (first
 | (with_reducible refine Mk_i ?_; try simp (disch := omega) only [go_sem, seval, irw])
 | ((with_reducible first | refine hK' _ _ ?_ | refine hK' _ _ _ ?_); clear hK' K')
 | (with_reducible refine RT_step fun K' hK' => ?_; first | refine R2_n ?_ | refine Rf rfl rfl ?_ | refine Rf' rfl rfl ?_ | refine R2_gu rfl rfl ?_ | refine Rt rfl rfl ?_ | refine R2_g rfl rfl (fun hg => ?_) (fun hg => ?_) rfl)
 | (with_reducible refine RT_nil ?_; refine hK _ ?_; clear hK K)
 | (with_reducible refine MkG_i ?_; (try simp only [bnq] at hg); (try (have hgp := hg; simp only [bdq] at hgp)); try simp (disch := omega) only [go_sem, seval, irw, hg])
 | (with_reducible refine RL_step fun K' hK' => ?_; first | refine L2_n ?_ | refine Lf rfl rfl ?_ | refine Lf' rfl rfl ?_ | refine L2_gu rfl rfl ?_ | refine Lt rfl rfl ?_ | refine L2_g rfl rfl (fun hg => ?_) (fun hg => ?_) rfl)
 | (with_reducible refine RL_nil ⟨by kernel_rfl, hK _ ?_⟩; clear hK K)
 | (with_reducible first | refine ite_elimM (fun hg => ?_) (fun hg => ?_) | refine And.intro ?_ ?_)
 | omega)
  cases h5 : decide ((m : Int) < (p[k].blocks[j].code.length : Int))
  · have hm2 : p[k].blocks[j].code.length ≤ m := by simp at h5; omega
    rw [List.drop_of_length_le hm2, putI] at hfm
    repeat' (first
 | (with_reducible refine Mk_i ?_; try simp (disch := omega) only [go_sem, seval, irw, h5])
 | ((with_reducible first | refine hK' _ _ ?_ | refine hK' _ _ _ ?_); clear hK' K')
 | (with_reducible refine RT_step fun K' hK' => ?_; first | refine R2_n ?_ | refine Rf rfl rfl ?_ | refine Rf' rfl rfl ?_ | refine R2_gu rfl rfl ?_ | refine Rt rfl rfl ?_ | refine R2_g rfl rfl (fun hg => ?_) (fun hg => ?_) rfl)
 | (with_reducible refine RT_nil ?_; refine hK _ ?_; clear hK K)
 | (with_reducible refine MkG_i ?_; (try simp only [bnq] at hg); (try (have hgp := hg; simp only [bdq] at hgp)); try simp (disch := omega) only [go_sem, seval, irw, h5, hg])
 | (with_reducible refine RL_step fun K' hK' => ?_; first | refine L2_n ?_ | refine Lf rfl rfl ?_ | refine Lf' rfl rfl ?_ | refine L2_gu rfl rfl ?_ | refine Lt rfl rfl ?_ | refine L2_g rfl rfl (fun hg => ?_) (fun hg => ?_) rfl)
 | (with_reducible refine RL_nil ⟨by kernel_rfl, hK _ ?_⟩; clear hK K)
 | (with_reducible first | refine AL_seq ?_ | refine AL_skip ?_ | refine AL_nil ?_ | refine SeqQ_n ?_ | refine BlockQ_n ?_)
 | (refine AL_text2 rfl fun K hK => ?_; simp only [List.map])
 | (refine AL_draw2 mixed rfl (by kernel_rfl) fun K hK => ?_; simp only [List.map])
 | (with_reducible refine AL_block ?_)
 | (with_reducible refine AL_exit ?_; simp only [SeqQ, BlockQ, go_sem, seval])
 | (refine Ct rfl ?_)
 | (refine Cf rfl ?_)
 | (refine AL_condb rfl (fun hg => ?_) (fun hg => ?_) <;> ((try simp only [bnq] at hg); (try (have hgp := hg; simp only [bdq] at hgp))))
 | (with_reducible first | refine ite_elimM (fun hg => ?_) (fun hg => ?_) | refine And.intro ?_ ?_)
 | omega)
    exact ⟨(j + 1, N), ⟨hj2, by rw [← hfj, ← hfm]⟩, by show p[k].blocks.length - (j + 1) < p[k].blocks.length - j; omega, (weak_t [0, 1] _ _ rfl (by decide) ⟨by decide, by decide⟩ (by simp [go_sem, ]) (by simp [go_sem, ]))⟩
  have hm2 : m < p[k].blocks[j].code.length := by simpa using h5
  rw [List.drop_eq_getElem_cons hm2, putI] at hfm
  repeat' (first
 | (with_reducible refine Mk_i ?_; try simp (disch := omega) only [go_sem, seval, irw, h5])
 | ((with_reducible first | refine hK' _ _ ?_ | refine hK' _ _ _ ?_); clear hK' K')
 | (with_reducible refine RT_step fun K' hK' => ?_; first | refine R2_n ?_ | refine Rf rfl rfl ?_ | refine Rf' rfl rfl ?_ | refine R2_gu rfl rfl ?_ | refine Rt rfl rfl ?_ | refine R2_g rfl rfl (fun hg => ?_) (fun hg => ?_) rfl)
 | (with_reducible refine RT_nil ?_; refine hK _ ?_; clear hK K)
 | (with_reducible refine MkG_i ?_; (try simp only [bnq] at hg); (try (have hgp := hg; simp only [bdq] at hgp)); try simp (disch := omega) only [go_sem, seval, irw, h5, hg])
 | (with_reducible refine RL_step fun K' hK' => ?_; first | refine L2_n ?_ | refine Lf rfl rfl ?_ | refine Lf' rfl rfl ?_ | refine L2_gu rfl rfl ?_ | refine Lt rfl rfl ?_ | refine L2_g rfl rfl (fun hg => ?_) (fun hg => ?_) rfl)
 | (with_reducible refine RL_nil ⟨by kernel_rfl, hK _ ?_⟩; clear hK K)
 | (with_reducible first | refine AL_seq ?_ | refine AL_skip ?_ | refine AL_nil ?_ | refine SeqQ_n ?_ | refine BlockQ_n ?_)
 | (refine AL_text2 rfl fun K hK => ?_; simp only [List.map])
 | (refine AL_draw2 mixed rfl (by kernel_rfl) fun K hK => ?_; simp only [List.map])
 | (with_reducible refine AL_block ?_)
 | (with_reducible refine AL_exit ?_; simp only [SeqQ, BlockQ, go_sem, seval])
 | (refine Ct rfl ?_)
 | (refine Cf rfl ?_)
 | (refine AL_condb rfl (fun hg => ?_) (fun hg => ?_) <;> ((try simp only [bnq] at hg); (try (have hgp := hg; simp only [bdq] at hgp))))
 | (refine CallK_ecM ((ec_NewId1 N k j m p[k].blocks[j].code[m])) en_44 [0, 1] 5 (by decide) (by simp [go_sem]) rfl (by decide) (by simp [go_sem]) (by simp [go_sem]) (by simp [go_sem]) (by simp [go_sem]) ?_)
 | (with_reducible first | refine ite_elimM (fun hg => ?_) (fun hg => ?_) | refine And.intro ?_ ?_)
 | omega)
  exact ⟨(m + 1, mibPut N p[k].blocks[j].code[m].id true), ⟨hm2, hfm⟩, by show p[k].blocks[j].code.length - (m + 1) < p[k].blocks[j].code.length - m; omega, (weak_t [0, 1] _ _ rfl (by decide) ⟨by decide, by decide⟩ (by simp [go_sem, ]) (by simp [go_sem, ]))⟩

def newId (p : List FunD) : Int := if saneD p then leastF (hasE (putF [] p)) 0 96 else -1
theorem c_NewId (hB : Blanks Γ) (hE : ErrT Γ) (p : List FunD) : Pure Γ Tryd.prog 22 [progV p] (pI (newId p)) := by
  refine pure_start1 Tryd.func22 rfl (by simp [Tryd.f22]) ?_
  refine AL_seq ?_
  unfold newId
  cases h1 : saneD p
  · rw [if_neg (by simp)]
    repeat' (first
 | (with_reducible refine Mk_i ?_; try simp (disch := omega) only [go_sem, seval, irw, h1])
 | ((with_reducible first | refine hK' _ _ ?_ | refine hK' _ _ _ ?_); clear hK' K')
 | (with_reducible refine RT_step fun K' hK' => ?_; first | refine R2_n ?_ | refine Rf rfl rfl ?_ | refine Rf' rfl rfl ?_ | refine R2_gu rfl rfl ?_ | refine Rt rfl rfl ?_ | refine R2_g rfl rfl (fun hg => ?_) (fun hg => ?_) rfl)
 | (with_reducible refine RT_nil ?_; refine hK _ ?_; clear hK K)
 | (with_reducible refine MkG_i ?_; (try simp only [bnq] at hg); (try (have hgp := hg; simp only [bdq] at hgp)); try simp (disch := omega) only [go_sem, seval, irw, h1, hg])
 | (with_reducible refine RL_step fun K' hK' => ?_; first | refine L2_n ?_ | refine Lf rfl rfl ?_ | refine Lf' rfl rfl ?_ | refine L2_gu rfl rfl ?_ | refine Lt rfl rfl ?_ | refine L2_g rfl rfl (fun hg => ?_) (fun hg => ?_) rfl)
 | (with_reducible refine RL_nil ⟨by kernel_rfl, hK _ ?_⟩; clear hK K)
 | (with_reducible first | refine AL_seq ?_ | refine AL_skip ?_ | refine AL_nil ?_ | refine SeqQ_n ?_ | refine BlockQ_n ?_)
 | (refine AL_text2 rfl fun K hK => ?_; simp only [List.map])
 | (refine AL_draw2 mixed rfl (by kernel_rfl) fun K hK => ?_; simp only [List.map])
 | (with_reducible refine AL_block ?_)
 | (with_reducible refine AL_exit ?_; simp only [SeqQ, BlockQ, go_sem, seval])
 | (refine Ct rfl ?_)
 | (refine Cf rfl ?_)
 | (refine AL_condb rfl (fun hg => ?_) (fun hg => ?_) <;> ((try simp only [bnq] at hg); (try (have hgp := hg; simp only [bdq] at hgp))))
 | (refine CallK_pureM (c_Sane hB hE p) en_21 rfl ?_)
 | (with_reducible first | refine ite_elimM (fun hg => ?_) (fun hg => ?_) | refine And.intro ?_ ?_)
 | omega)
    (refine AL_ret (PureQ_ret ?_ rfl); simp [go_sem, ])
  · rw [if_pos rfl]
    repeat' (first
 | (with_reducible refine Mk_i ?_; try simp (disch := omega) only [go_sem, seval, irw, h1])
 | ((with_reducible first | refine hK' _ _ ?_ | refine hK' _ _ _ ?_); clear hK' K')
 | (with_reducible refine RT_step fun K' hK' => ?_; first | refine R2_n ?_ | refine Rf rfl rfl ?_ | refine Rf' rfl rfl ?_ | refine R2_gu rfl rfl ?_ | refine Rt rfl rfl ?_ | refine R2_g rfl rfl (fun hg => ?_) (fun hg => ?_) rfl)
 | (with_reducible refine RT_nil ?_; refine hK _ ?_; clear hK K)
 | (with_reducible refine MkG_i ?_; (try simp only [bnq] at hg); (try (have hgp := hg; simp only [bdq] at hgp)); try simp (disch := omega) only [go_sem, seval, irw, h1, hg])
 | (with_reducible refine RL_step fun K' hK' => ?_; first | refine L2_n ?_ | refine Lf rfl rfl ?_ | refine Lf' rfl rfl ?_ | refine L2_gu rfl rfl ?_ | refine Lt rfl rfl ?_ | refine L2_g rfl rfl (fun hg => ?_) (fun hg => ?_) rfl)
 | (with_reducible refine RL_nil ⟨by kernel_rfl, hK _ ?_⟩; clear hK K)
 | (with_reducible first | refine AL_seq ?_ | refine AL_skip ?_ | refine AL_nil ?_ | refine SeqQ_n ?_ | refine BlockQ_n ?_)
 | (refine AL_text2 rfl fun K hK => ?_; simp only [List.map])
 | (refine AL_draw2 mixed rfl (by kernel_rfl) fun K hK => ?_; simp only [List.map])
 | (with_reducible refine AL_block ?_)
 | (with_reducible refine AL_exit ?_; simp only [SeqQ, BlockQ, go_sem, seval])
 | (refine Ct rfl ?_)
 | (refine Cf rfl ?_)
 | (refine AL_condb rfl (fun hg => ?_) (fun hg => ?_) <;> ((try simp only [bnq] at hg); (try (have hgp := hg; simp only [bdq] at hgp))))
 | (refine CallK_pureM (c_Sane hB hE p) en_21 rfl ?_)
 | (refine CallK_ecM ((ec_each p [])) en_43 [2, 1] 5 (by decide) (by simp [go_sem]) rfl (by decide) (by simp [go_sem]) (by simp [go_sem]) (by simp [go_sem]) (by simp [go_sem]) ?_)
 | (refine CallK_ecM ((ec_least (putF [] p) 96 (by decide))) en_45 [1] 5 (by decide) (by simp [go_sem]) rfl (by decide) (by simp [go_sem]) (by simp [go_sem]) (by simp [go_sem]) (by simp [go_sem]) ?_)
 | (with_reducible first | refine ite_elimM (fun hg => ?_) (fun hg => ?_) | refine And.intro ?_ ?_)
 | omega)
    (refine AL_ret (PureQ_ret ?_ rfl); simp [go_sem, ])

def liveE (es : List (Int × Bool)) (k : Nat) : List BlkD → List (Int × Bool)
  | [] => es
  | b :: r => liveE (mibPut es k b.live) (k + 1) r
def newBlock (p : List FunD) (f : Int) : Int := match funO p f with
  | none => -1
  | some x => leastF (hasE (liveE [] 0 x.blocks)) 0 12
theorem c_NewBlock (hB : Blanks Γ) (hE : ErrT Γ) (p : List FunD) (f : Int) : Pure Γ Tryd.prog 24 [progV p, pI f] (pI (newBlock p f)) := by
  refine pure_start2 Tryd.func24 rfl (by simp [Tryd.f24]) ?_
  refine AL_seq ?_
  unfold newBlock
  have hF := c_Fun hB hE p f
  cases hx : funO p f with
  | none =>
    rw [hx] at hF
    repeat' (first
 | (with_reducible refine Mk_i ?_; try simp (disch := omega) only [go_sem, seval, irw])
 | ((with_reducible first | refine hK' _ _ ?_ | refine hK' _ _ _ ?_); clear hK' K')
 | (with_reducible refine RT_step fun K' hK' => ?_; first | refine R2_n ?_ | refine Rf rfl rfl ?_ | refine Rf' rfl rfl ?_ | refine R2_gu rfl rfl ?_ | refine Rt rfl rfl ?_ | refine R2_g rfl rfl (fun hg => ?_) (fun hg => ?_) rfl)
 | (with_reducible refine RT_nil ?_; refine hK _ ?_; clear hK K)
 | (with_reducible refine MkG_i ?_; (try simp only [bnq] at hg); (try (have hgp := hg; simp only [bdq] at hgp)); try simp (disch := omega) only [go_sem, seval, irw, hg])
 | (with_reducible refine RL_step fun K' hK' => ?_; first | refine L2_n ?_ | refine Lf rfl rfl ?_ | refine Lf' rfl rfl ?_ | refine L2_gu rfl rfl ?_ | refine Lt rfl rfl ?_ | refine L2_g rfl rfl (fun hg => ?_) (fun hg => ?_) rfl)
 | (with_reducible refine RL_nil ⟨by kernel_rfl, hK _ ?_⟩; clear hK K)
 | (with_reducible first | refine AL_seq ?_ | refine AL_skip ?_ | refine AL_nil ?_ | refine SeqQ_n ?_ | refine BlockQ_n ?_)
 | (refine AL_text2 rfl fun K hK => ?_; simp only [List.map])
 | (refine AL_draw2 mixed rfl (by kernel_rfl) fun K hK => ?_; simp only [List.map])
 | (with_reducible refine AL_block ?_)
 | (with_reducible refine AL_exit ?_; simp only [SeqQ, BlockQ, go_sem, seval])
 | (refine Ct rfl ?_)
 | (refine Cf rfl ?_)
 | (refine AL_condb rfl (fun hg => ?_) (fun hg => ?_) <;> ((try simp only [bnq] at hg); (try (have hgp := hg; simp only [bdq] at hgp))))
 | (refine CallK_pureM (hF) en_25 rfl ?_)
 | (with_reducible first | refine ite_elimM (fun hg => ?_) (fun hg => ?_) | refine And.intro ?_ ?_)
 | omega)
    (refine AL_ret (PureQ_ret ?_ rfl); simp [go_sem, ])
  | some x =>
    rw [hx] at hF
    have hl := funD_le p f
    rw [hx] at hl
    simp only [Option.getD_some] at hl hF ⊢
    repeat' (first
 | (with_reducible refine Mk_i ?_; try simp (disch := omega) only [go_sem, seval, irw])
 | ((with_reducible first | refine hK' _ _ ?_ | refine hK' _ _ _ ?_); clear hK' K')
 | (with_reducible refine RT_step fun K' hK' => ?_; first | refine R2_n ?_ | refine Rf rfl rfl ?_ | refine Rf' rfl rfl ?_ | refine R2_gu rfl rfl ?_ | refine Rt rfl rfl ?_ | refine R2_g rfl rfl (fun hg => ?_) (fun hg => ?_) rfl)
 | (with_reducible refine RT_nil ?_; refine hK _ ?_; clear hK K)
 | (with_reducible refine MkG_i ?_; (try simp only [bnq] at hg); (try (have hgp := hg; simp only [bdq] at hgp)); try simp (disch := omega) only [go_sem, seval, irw, hg])
 | (with_reducible refine RL_step fun K' hK' => ?_; first | refine L2_n ?_ | refine Lf rfl rfl ?_ | refine Lf' rfl rfl ?_ | refine L2_gu rfl rfl ?_ | refine Lt rfl rfl ?_ | refine L2_g rfl rfl (fun hg => ?_) (fun hg => ?_) rfl)
 | (with_reducible refine RL_nil ⟨by kernel_rfl, hK _ ?_⟩; clear hK K)
 | (with_reducible first | refine AL_seq ?_ | refine AL_skip ?_ | refine AL_nil ?_ | refine SeqQ_n ?_ | refine BlockQ_n ?_)
 | (refine AL_text2 rfl fun K hK => ?_; simp only [List.map])
 | (refine AL_draw2 mixed rfl (by kernel_rfl) fun K hK => ?_; simp only [List.map])
 | (with_reducible refine AL_block ?_)
 | (with_reducible refine AL_exit ?_; simp only [SeqQ, BlockQ, go_sem, seval])
 | (refine Ct rfl ?_)
 | (refine Cf rfl ?_)
 | (refine AL_condb rfl (fun hg => ?_) (fun hg => ?_) <;> ((try simp only [bnq] at hg); (try (have hgp := hg; simp only [bdq] at hgp))))
 | (refine CallK_pureM (hF) en_25 rfl ?_)
 | (with_reducible first | refine ite_elimM (fun hg => ?_) (fun hg => ?_) | refine And.intro ?_ ?_)
 | omega)
    refine AL_loop (fun y : Nat × List (Int × Bool) => ⟨tA [(7, .om 0), (20, .sl false (blkRows x.blocks)), (21, pI x.blocks.length), (22, pI y.1)], tO [some (.mib y.2)]⟩)
      (fun y => y.1 ≤ x.blocks.length ∧ liveE y.2 y.1 (x.blocks.drop y.1) = liveE [] 0 x.blocks) (fun y => x.blocks.length - y.1) (0, []) ⟨Nat.zero_le _, rfl⟩ (weak_t [2] _ _ rfl (by decide) ⟨by decide, by decide⟩ (by simp [go_sem, ]) (by simp [go_sem, ])) ?_
    rintro ⟨k, L⟩ ⟨hk, hf⟩
    simp only at hk hf ⊢
    (repeat (with_reducible first | refine AL_seq ?_ | refine AL_skip ?_ | refine AL_nil ?_ | refine SeqQ_n ?_ | refine BlockQ_n ?_)); (first
 | (refine AL_text2 rfl fun K hK => ?_; simp only [List.map])
 | (refine AL_draw2 mixed rfl (by kernel_rfl) fun K hK => ?_; simp only [List.map])
 | (with_reducible refine AL_block ?_)
 | (with_reducible refine AL_exit ?_; simp only [SeqQ, BlockQ, go_sem, seval])
 | (refine Ct rfl ?_)
 | (refine Cf rfl ?_)
 | (refine AL_condb rfl (fun hg => ?_) (fun hg => ?_) <;> ((try simp only [bnq] at hg); (try (have hgp := hg; simp only [bdq] at hgp))))); repeat' (first
 | (with_reducible refine Mk_i ?_; try simp (disch := omega) only [go_sem, seval, irw])
 | ((with_reducible first | refine hK' _ _ ?_ | refine hK' _ _ _ ?_); clear hK' K')
 | (with_reducible refine RT_step fun K' hK' => ?_; first | refine R2_n ?_ | refine Rf rfl rfl ?_ | refine Rf' rfl rfl ?_ | refine R2_gu rfl rfl ?_ | refine Rt rfl rfl ?_ | refine R2_g rfl rfl (fun hg => ?_) (fun hg => ?_) rfl)
 | (with_reducible refine RT_nil ?_; refine hK _ ?_; clear hK K)
 | (with_reducible refine MkG_i ?_; (try simp only [bnq] at hg); (try (have hgp := hg; simp only [bdq] at hgp)); try simp (disch := omega) only [go_sem, seval, irw, hg])
 | (with_reducible refine RL_step fun K' hK' => ?_; first | refine L2_n ?_ | refine Lf rfl rfl ?_ | refine Lf' rfl rfl ?_ | refine L2_gu rfl rfl ?_ | refine Lt rfl rfl ?_ | refine L2_g rfl rfl (fun hg => ?_) (fun hg => ?_) rfl)
 | (with_reducible refine RL_nil ⟨by kernel_rfl, hK _ ?_⟩; clear hK K)
 | (with_reducible first | refine ite_elimM (fun hg => ?_) (fun hg => ?_) | refine And.intro ?_ ?_)
 | omega)
    cases h2 : decide ((k : Int) < (x.blocks.length : Int))
    · have hk2 : x.blocks.length ≤ k := by simp at h2; omega
      rw [List.drop_of_length_le hk2, liveE] at hf
      rw [← hf]
      repeat' (first
 | (with_reducible refine Mk_i ?_; try simp (disch := omega) only [go_sem, seval, irw, h2])
 | ((with_reducible first | refine hK' _ _ ?_ | refine hK' _ _ _ ?_); clear hK' K')
 | (with_reducible refine RT_step fun K' hK' => ?_; first | refine R2_n ?_ | refine Rf rfl rfl ?_ | refine Rf' rfl rfl ?_ | refine R2_gu rfl rfl ?_ | refine Rt rfl rfl ?_ | refine R2_g rfl rfl (fun hg => ?_) (fun hg => ?_) rfl)
 | (with_reducible refine RT_nil ?_; refine hK _ ?_; clear hK K)
 | (with_reducible refine MkG_i ?_; (try simp only [bnq] at hg); (try (have hgp := hg; simp only [bdq] at hgp)); try simp (disch := omega) only [go_sem, seval, irw, h2, hg])
 | (with_reducible refine RL_step fun K' hK' => ?_; first | refine L2_n ?_ | refine Lf rfl rfl ?_ | refine Lf' rfl rfl ?_ | refine L2_gu rfl rfl ?_ | refine Lt rfl rfl ?_ | refine L2_g rfl rfl (fun hg => ?_) (fun hg => ?_) rfl)
 | (with_reducible refine RL_nil ⟨by kernel_rfl, hK _ ?_⟩; clear hK K)
 | (with_reducible first | refine AL_seq ?_ | refine AL_skip ?_ | refine AL_nil ?_ | refine SeqQ_n ?_ | refine BlockQ_n ?_)
 | (refine AL_text2 rfl fun K hK => ?_; simp only [List.map])
 | (refine AL_draw2 mixed rfl (by kernel_rfl) fun K hK => ?_; simp only [List.map])
 | (with_reducible refine AL_block ?_)
 | (with_reducible refine AL_exit ?_; simp only [SeqQ, BlockQ, go_sem, seval])
 | (refine Ct rfl ?_)
 | (refine Cf rfl ?_)
 | (refine AL_condb rfl (fun hg => ?_) (fun hg => ?_) <;> ((try simp only [bnq] at hg); (try (have hgp := hg; simp only [bdq] at hgp))))
 | (refine CallK_ecM ((ec_least L 12 (by decide))) en_45 [0] 2 (by decide) (by simp [go_sem]) rfl (by decide) (by simp [go_sem]) (by simp [go_sem]) (by simp [go_sem]) (by simp [go_sem]) ?_)
 | (with_reducible first | refine ite_elimM (fun hg => ?_) (fun hg => ?_) | refine And.intro ?_ ?_)
 | omega)
      (refine AL_ret (PureQ_ret ?_ rfl); simp [go_sem, ])
    have hk2 : k < x.blocks.length := by simpa using h2
    rw [List.drop_eq_getElem_cons hk2, liveE] at hf
    repeat' (first
 | (with_reducible refine Mk_i ?_; try simp (disch := omega) only [go_sem, seval, irw, h2])
 | ((with_reducible first | refine hK' _ _ ?_ | refine hK' _ _ _ ?_); clear hK' K')
 | (with_reducible refine RT_step fun K' hK' => ?_; first | refine R2_n ?_ | refine Rf rfl rfl ?_ | refine Rf' rfl rfl ?_ | refine R2_gu rfl rfl ?_ | refine Rt rfl rfl ?_ | refine R2_g rfl rfl (fun hg => ?_) (fun hg => ?_) rfl)
 | (with_reducible refine RT_nil ?_; refine hK _ ?_; clear hK K)
 | (with_reducible refine MkG_i ?_; (try simp only [bnq] at hg); (try (have hgp := hg; simp only [bdq] at hgp)); try simp (disch := omega) only [go_sem, seval, irw, h2, hg])
 | (with_reducible refine RL_step fun K' hK' => ?_; first | refine L2_n ?_ | refine Lf rfl rfl ?_ | refine Lf' rfl rfl ?_ | refine L2_gu rfl rfl ?_ | refine Lt rfl rfl ?_ | refine L2_g rfl rfl (fun hg => ?_) (fun hg => ?_) rfl)
 | (with_reducible refine RL_nil ⟨by kernel_rfl, hK _ ?_⟩; clear hK K)
 | (with_reducible first | refine AL_seq ?_ | refine AL_skip ?_ | refine AL_nil ?_ | refine SeqQ_n ?_ | refine BlockQ_n ?_)
 | (refine AL_text2 rfl fun K hK => ?_; simp only [List.map])
 | (refine AL_draw2 mixed rfl (by kernel_rfl) fun K hK => ?_; simp only [List.map])
 | (with_reducible refine AL_block ?_)
 | (with_reducible refine AL_exit ?_; simp only [SeqQ, BlockQ, go_sem, seval])
 | (refine Ct rfl ?_)
 | (refine Cf rfl ?_)
 | (refine AL_condb rfl (fun hg => ?_) (fun hg => ?_) <;> ((try simp only [bnq] at hg); (try (have hgp := hg; simp only [bdq] at hgp))))
 | (with_reducible first | refine ite_elimM (fun hg => ?_) (fun hg => ?_) | refine And.intro ?_ ?_)
 | omega)
    exact ⟨(k + 1, mibPut L k x.blocks[k].live), ⟨hk2, hf⟩, by show x.blocks.length - (k + 1) < x.blocks.length - k; omega, (weak_t [0] _ _ rfl (by decide) ⟨by decide, by decide⟩ (by simp [go_sem, ]) (by simp [go_sem, ]))⟩
end Go.Proofs.YtjlcojgimicfbaaDoor
