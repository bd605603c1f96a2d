/- Proof text of this claim, part 2: How functions end, what is handed to functions of data, blocks that are let go, and nil taken as a block.. Its conditions are those of the statement: the laid tables as the row lists them. -/
import Derived.Test.YtjlcojgimicfbaaDoorF1
import Derived.Laws.StructEq
import Derived.Sort.Row
import Derived.Sort.Grow
import Derived.Lib.SlicesCompact
import Derived.OpenShut
import Derived.SizedLaws
import Derived.Below
import Derived.Carry
import Derived.ChangeAlike
/- How functions end, what is handed to functions of data, blocks that are let go, and nil taken as a block. -/
namespace Go.Am
variable {Γ : Nat → Option Obj} {P : Program}

/-! ### Results -/
def resK (P : Program) (st : St) : ResultVar → Option PV
  | .tmp t => some (st.a t)
  | .cell a ty => match tsz P ty, tag P ty, st.a a with
    | some n, some g, .op sz b i off => match st.σ b with
      | .live (.rows sz' rs) => match rs[i]? with
        | some row => if sz' = sz ∧ n ≠ 0 ∧ off + n ≤ row.length then some (ldV g row off n) else none
        | none => none
      | _ => none
    | _, _, _ => none

def resL (P : Program) (st : St) : List ResultVar → Option (List PV)
  | [] => some []
  | r :: rs => match resK P st r, resL P st rs with
    | some p, some ps => some (p :: ps)
    | _, _ => none

def tupOf : List PV → PV
  | [p] => p
  | ps => .tup ps

def resP (P : Program) (fn : Func) (st : St) : Option PV := (resL P st fn.results.toList).map tupOf

theorem resK_run {st : St} {r : ResultVar} {p : PV} (h : resK P st r = some p) {F : Nat → Prop} {N : Nat} {μ : Nat → Mu} {a : Act} {w : World} (hr : Rel Γ F N μ st a w) :
    ∃ y, (match r with | .tmp t => pure (a.tmps.getD t undef) | .cell x t => do loadVar t (← asAddr (a.tmps.getD x undef)) : Sem Value).run P w = .ok y w ∧ Rep w (OwnF F μ st.σ) μ p y := by
  cases r with
  | tmp t => simp only [resK, Option.some.injEq] at h; subst h; exact ⟨_, rfl, hr.tmp t⟩
  | cell x t =>
    simp only [resK] at h
    split at h
    · rename_i n g sz b i off hn hg hx
      split at h
      · rename_i sz' rs hσ
        split at h
        · rename_i row hrow
          split at h
          · rename_i hc
            obtain ⟨rfl, h0, hl⟩ := hc
            cases h
            have h1 := hr.tmp x
            rw [hx] at h1
            show ∃ y, (do loadVar t (← asAddr (a.tmps.getD x undef)) : Sem Value).run P w = .ok y w ∧ _
            generalize a.tmps.getD x undef = z at h1 ⊢
            have hB := hr.sto.live b _ hσ
            cases h1 with
            | pure h => cases h
            | op _ _ _ _ bb hm =>
              rw [hm] at hB
              obtain ⟨c, ty, lo, hi, e1, e2, e3, e4, e5⟩ := hB
              have hi' : i < rs.length := (List.getElem?_eq_some_iff.1 hrow).1
              have hrl : row.length = sz' := e4 row (List.mem_of_getElem? hrow)
              have hfit : i * sz' + off + n ≤ c.size := by
                have : (i + 1) * sz' ≤ rs.length * sz' := Nat.mul_le_mul_right _ hi'
                rw [Nat.add_mul] at this
                omega
              simp only [asAddr, loadVar, Sem.run_bind, Sem.run_pure, Result.andThen, run_isAgg hg]
              cases g with
              | true =>
                refine ⟨.agg (c.extract (i * sz' + off) (i * sz' + off + n)), by simp only [if_true, Sem.run_bind, run_sizeOf hn, Result.andThen, run_loadArr e1 hfit, Sem.run_pure], ?_⟩
                refine .agg _ _ (by simp; omega) fun j p y h2 h3 => ?_
                simp only [List.getElem?_take, List.getElem?_drop] at h2
                split at h2
                · obtain ⟨y', hy', hrep⟩ := e5 i row (off + j) p hrow h2
                  rw [Array.getElem?_extract] at h3
                  split at h3
                  · rw [show i * sz' + off + j = i * sz' + (off + j) from by omega, hy'] at h3
                    cases h3
                    exact hrep
                  · cases h3
                · cases h2
              | false =>
                have hc : w.cell? ⟨bb, i * sz' + off, none⟩ = some (c.getD (i * sz' + off) undef) := by simp [World.cell?, e1, show i * sz' + off < c.size from by omega]
                refine ⟨c.getD (i * sz' + off) undef, by simp [load, Sem.run, hc], ?_⟩
                obtain ⟨y', hy', hrep⟩ := e5 i row off (row.getD off .any) hrow (by simp [show off < row.length from by omega])
                have : c.getD (i * sz' + off) undef = y' := by rw [Array.getD_eq_getD_getElem?, hy']; rfl
                rw [this]; exact hrep
          · cases h
        · cases h
      · cases h
    · cases h

theorem resA_of {fn : Func} {st : St} {r : PV} (h : resP P fn st = some r) : ResA Γ P fn st r := by
  intro F N μ a w hr
  simp only [resP, Option.map_eq_some_iff] at h
  obtain ⟨ps, hps, rfl⟩ := h
  have key : ∀ (l : List ResultVar) (ps : List PV), resL P st l = some ps → ∃ ys : List Value,
      (l.mapM (fun r => (match r with | .tmp t => pure (a.tmps.getD t undef) | .cell x t => do loadVar t (← asAddr (a.tmps.getD x undef)) : Sem Value))).run P w = .ok ys w ∧ Reps w (OwnF F μ st.σ) μ ps ys := by
    intro l
    induction l with
    | nil => intro ps h; cases h; exact ⟨[], by simp, .nil⟩
    | cons r l ih =>
      intro ps h
      simp only [resL] at h
      split at h
      · rename_i p ps' h1 h2
        cases h
        obtain ⟨y, q1, q2⟩ := resK_run h1 hr
        obtain ⟨ys, q3, q4⟩ := ih ps' h2
        exact ⟨y :: ys, by simp only [List.mapM_cons, Sem.run_bind, q1, q3, Result.andThen, Sem.run_pure], .cons q2 q4⟩
      · cases h
  obtain ⟨ys, h1, h2⟩ := key _ _ hps
  have hrun : (results fn a.tmps).run P w = .ok (if h : ys.toArray.size = 1 then ys.toArray[0] else .tuple ys.toArray) w := by
    unfold results
    rw [Array.mapM_eq_mapM_toList, Sem.run_bind, map_eq_pure_bind, Sem.run_bind]
    refine (congrArg (fun r => (Result.andThen (Result.andThen r fun a w' => Sem.run P (pure a.toArray) w') fun (a : Array Value) w' => Sem.run P (pure (if h : a.size = 1 then a[0] else Value.tuple a)) w')) h1).trans ?_
    rfl
  refine ⟨_, hrun, ?_⟩
  have hlen := h2.1
  match ps, ys, hlen, h2 with
  | [], [], _, h2 => exact .tup [] #[] rfl fun i p y h1 => by simp at h1
  | [p], [y], _, h2 => exact h2.of_cons.1
  | p :: q :: ps, y :: z :: ys, hlen, h2 => exact .tup _ _ (by simpa using hlen) fun i p' y' g1 g2 => h2.2 i p' y' g1 (by simpa using g2)

/-! ### A function that works on blocks -/
def ECQ (P : Program) (fn : Func) (r : PV) (s1 : List (Option Blk)) (e : Exit) (st : St) : Prop := (e = .normal ∨ e = .ret) ∧ st.σ = ofO s1 ∧ resP P fn st = some r

theorem ec_of_AW {f : FuncId} {fn : Func} {c : Code} {args : List PV} {s0 : List Blk} {r : PV} {s1 : List (Option Blk)} (hf : P.funcs[f]? = some fn) (hb : fn.body = some c) (hn : args.length ≤ fn.ntmps)
    (h : AW Γ P fn.ntmps s0.length c (ECQ P fn r s1) ⟨entry args, ofB s0⟩) : EC Γ P f args s0 r s1 := by
  intro F μ w cargs hs ha
  refine calls_of_AW hf hb hn h hs ha ?_
  rintro e a' w' μ' ⟨A', σ'⟩ hr hx hp ⟨he, h1, h2⟩
  obtain ⟨y, hy, hrep⟩ := resA_of (Γ := Γ) h2 F _ μ' a' w' hr
  simp only at h1
  subst h1
  have hfin : ∃ y' μ'', Ending.returned y = .returned y' ∧ SRel Γ F w' μ'' (ofO s1) ∧ Rep w' (OwnF F μ'' (ofO s1)) μ'' r y' ∧ Ext w (Own μ (ofB s0)) w' (Own μ'' (ofO s1)) ∧ ∀ t, t < s0.length → μ t ≠ .no → μ'' t = μ t :=
    ⟨y, μ', rfl, hr.sto, hrep, hx, hp⟩
  rcases he with rfl | rfl
  · exact ⟨hr.dfs, y, hy, hfin⟩
  · exact ⟨hr.dfs, y, hy, hfin⟩

theorem CallK_ec {g : FuncId} {args0 args : List PV} {s0 : List Blk} {r0 : PV} {s1 : List (Option Blk)} {σ : Nat → Slot} {nx : Nat} {K : PV → List Nat → List (Nat × Slot) → Nat → Prop} (h : EC Γ P g args0 s0 r0 s1) (he : Ent P g)
    (ids : List Nat) (nx' : Nat) (hnx : nx ≤ nx') (hk : s0.length ≤ s1.length) (hlen : ids.length = s1.length) (hnd : ids.Nodup) (hoka : okL s0.length args0 = true) (hokb : s0.all (okB s0.length) = true) (hargs : args = renL (fun? ids) args0)
    (hrd : ∀ p ∈ rdOf (fun? ids) 0 s0 ++ frOf (fun? ids) s0.length (s1.length - s0.length), σ p.1 = p.2)
    (hK : K (ren (fun? ids) r0) ((rdOf (fun? ids) 0 s0 ++ frOf (fun? ids) s0.length (s1.length - s0.length)).map (·.1)) (wrOf (fun? ids) 0 s1) nx') : CallK Γ P g args σ nx K .mk :=
  ⟨_, nx', callOK_ec h ids hk hlen hnd hoka hokb hargs, he, hrd, hnx, hK⟩

/-! ### Views -/
mutual
def flat : PV → Bool
  | .v _ => true
  | .agg cs => flatL cs
  | .tup cs => flatL cs
  | .ifc _ x => flat x
  | .fn _ first caps => flatL first && flatL caps
  | _ => false
def flatL : List PV → Bool
  | [] => true
  | x :: xs => flat x && flatL xs
end
theorem flatL_eq (l : List PV) : flatL l = l.all flat := by
  induction l with
  | nil => rfl
  | cons x xs ih => simp [flatL, ih]

theorem PRep.flat {w w' : World} {O O' : Nat → Prop} {p : PV} {y : Value} (h : PRep w O p y) : flat p = true → PRep w' O' p y := by
  induction h with
  | v x => intro _; exact .v x
  | agg cs ys hl _ ih => intro hf; simp only [Am.flat, flatL_eq, List.all_eq_true] at hf; exact .agg cs ys hl fun i p y h1 h2 => ih i p y h1 h2 (hf p (List.mem_of_getElem? h1))
  | tup cs ys hl _ ih => intro hf; simp only [Am.flat, flatL_eq, List.all_eq_true] at hf; exact .tup cs ys hl fun i p y h1 h2 => ih i p y h1 h2 (hf p (List.mem_of_getElem? h1))
  | nil => intro hf; cases hf
  | sl => intro hf; cases hf
  | ip => intro hf; cases hf
  | fn f first caps xs ys hl hl' _ _ ih ih' =>
    intro hf
    simp only [Am.flat, flatL_eq, Bool.and_eq_true, List.all_eq_true] at hf
    exact .fn f first caps xs ys hl hl' (fun i p y h1 h2 => ih i p y h1 h2 (hf.1 p (List.mem_of_getElem? h1))) fun i p y h1 h2 => ih' i p y h1 h2 (hf.2 p (List.mem_of_getElem? h1))
  | ifc ty p y _ ih => intro hf; exact .ifc ty p y (ih hf)

mutual
def view (σ : Nat → Slot) : PV → Option PV
  | .agg cs => (viewL σ cs).map .agg
  | .tup cs => (viewL σ cs).map .tup
  | .os sz t i n => match srcRows σ (.os sz t i n) with
    | some rows => if rows.all isPL = true then some (.sl false rows) else none
    | none => none
  | .oa sz t i off n => match srcRows σ (.oa sz t i off n) with
    | some rows => if rows.all isPL = true then some (.sl false rows) else none
    | none => none
  | .op sz t i off => match σ t with
    | .live (.rows sz' rs) => match rs[i]? with
      | some row => if sz' = sz ∧ off ≤ row.length ∧ isPL row = true then some (.ip (row.drop off)) else none
      | none => none
    | _ => none
  | .fn f first caps => match viewL σ first, viewL σ caps with
    | some a, some b => some (.fn f a b)
    | _, _ => none
  | .ifc ty x => (view σ x).map (.ifc ty)
  | p => if isP p = true then some p else none
def viewL (σ : Nat → Slot) : List PV → Option (List PV)
  | [] => some []
  | x :: xs => match view σ x, viewL σ xs with
    | some y, some ys => some (y :: ys)
    | _, _ => none
end
mutual
def vids : PV → List Nat
  | .agg cs => vidsL cs
  | .tup cs => vidsL cs
  | .os _ t _ _ => [t]
  | .oa _ t _ _ _ => [t]
  | .op _ t _ _ => [t]
  | .fn _ first caps => vidsL first ++ vidsL caps
  | .ifc _ x => vids x
  | _ => []
def vidsL : List PV → List Nat
  | [] => []
  | x :: xs => vids x ++ vidsL xs
end

theorem rep_isP {w : World} {F O : Nat → Prop} {μ : Nat → Mu} {σ : Nat → Slot} {p : PV} {y : Value} (hO : ∀ b, O b → OwnF F μ σ b) (h : Rep w (OwnF F μ σ) μ p y) (hp : isP p = true) : PRep w O p y :=
  (h.isP hp).weaken hO

theorem view_spec' {F O : Nat → Prop} {μ : Nat → Mu} {σ : Nat → Slot} {w : World} (hs : SRel Γ F w μ σ) (hO : ∀ b, O b → OwnF F μ σ b) :
    ∀ (p p' : PV) (y : Value), view σ p = some p' → (∀ t ∈ vids p, ∀ B b, σ t = .live B → μ t = .at b → ¬ O b) → Rep w (OwnF F μ σ) μ p y → PRep w O p' y := by
  refine @PV.rec (fun p => ∀ (p' : PV) (y : Value), view σ p = some p' → (∀ t ∈ vids p, ∀ B b, σ t = .live B → μ t = .at b → ¬ O b) → Rep w (OwnF F μ σ) μ p y → PRep w O p' y) (fun l => ∀ (l' : List PV), viewL σ l = some l' → (∀ t ∈ vidsL l, ∀ B b, σ t = .live B → μ t = .at b → ¬ O b) → l.length = l'.length ∧ ∀ (i : Nat) p p' y, l[i]? = some p → l'[i]? = some p' → Rep w (OwnF F μ σ) μ p y → PRep w O p' y) (fun _ => True)
    ?_ ?_ ?_ ?_ ?_ ?_ ?_ ?_ ?_ ?_ ?_ ?_ ?_ ?_ ?_ ?_
  · intro x p' y h hv hr; simp [view, isP] at h; subst h; exact rep_isP hO hr rfl
  · intro cs ih p' y h hv hr
    simp only [view, Option.map_eq_some_iff] at h
    obtain ⟨cs', h1, rfl⟩ := h
    obtain ⟨g1, g2⟩ := ih cs' h1 (by simpa [vids] using hv)
    have fin : ∀ ys : Array Value, y = .agg ys → cs.length = ys.size → (∀ (i : Nat) p z, cs[i]? = some p → ys[i]? = some z → Rep w (OwnF F μ σ) μ p z) → PRep w O (.agg cs') y := by
      rintro ys rfl hl h
      refine .agg cs' ys (by omega) fun i q z k1 k2 => ?_
      have hi : i < cs.length := by have := (List.getElem?_eq_some_iff.1 k1).1; omega
      exact g2 i cs[i] q z (by simp [hi]) k1 (h i cs[i] z (by simp [hi]) k2)
    cases hr with
    | pure h' => cases h' with
      | agg _ ys hl h => exact fin ys rfl hl fun i p z k1 k2 => .pure (h i p z k1 k2)
    | agg _ ys hl h => exact fin ys rfl hl h
  · intro cs ih p' y h hv hr
    simp only [view, Option.map_eq_some_iff] at h
    obtain ⟨cs', h1, rfl⟩ := h
    obtain ⟨g1, g2⟩ := ih cs' h1 (by simpa [vids] using hv)
    have fin : ∀ ys : Array Value, y = .tuple ys → cs.length = ys.size → (∀ (i : Nat) p z, cs[i]? = some p → ys[i]? = some z → Rep w (OwnF F μ σ) μ p z) → PRep w O (.tup cs') y := by
      rintro ys rfl hl h
      refine .tup cs' ys (by omega) fun i q z k1 k2 => ?_
      have hi : i < cs.length := by have := (List.getElem?_eq_some_iff.1 k1).1; omega
      exact g2 i cs[i] q z (by simp [hi]) k1 (h i cs[i] z (by simp [hi]) k2)
    cases hr with
    | pure h' => cases h' with
      | tup _ ys hl h => exact fin ys rfl hl fun i p z k1 k2 => .pure (h i p z k1 k2)
    | tup _ ys hl h => exact fin ys rfl hl h
  · intro full rows _ p' y h hv hr; simp only [view] at h; split at h
    · rename_i hp; cases h; exact rep_isP hO hr hp
    · cases h
  · intro cs _ p' y h hv hr; simp only [view] at h; split at h
    · rename_i hp; cases h; exact rep_isP hO hr hp
    · cases h
  · intro sz t i off p' y h hv hr
    simp only [view] at h
    split at h
    · rename_i sz' rs hσ
      split at h
      · rename_i row hrow
        split at h
        · rename_i hc
          obtain ⟨rfl, hl, hp⟩ := hc
          cases h
          cases hr with
          | pure h => cases h
          | op _ _ i off b hm =>
            have hB := hs.live t _ hσ
            rw [hm] at hB
            obtain ⟨c, ty, lo, hi, e1, e2, e3, e4, e5⟩ := hB
            have hcell : ∀ j q, (row.drop off)[j]? = some q → ∃ z, c[i * sz' + off + j]? = some z ∧ PRep w O q z := fun j q hj => by
              rw [List.getElem?_drop] at hj
              obtain ⟨z, z1, z2⟩ := e5 i row (off + j) q hrow hj
              rw [isPL_eq, List.all_eq_true] at hp
              exact ⟨z, by rw [← z1]; congr 1; omega, rep_isP hO z2 (hp q (List.mem_of_getElem? hj))⟩
            refine .ip _ b (i * sz' + off) (fun j => c.getD (i * sz' + off + j) undef) (hv t (by simp [vids]) _ b hσ hm) (lt_of_heap e1) (fun j q hj => ?_) (fun j q hj => ?_)
            · obtain ⟨z, z1, _⟩ := hcell j q hj
              simp only [World.cell?, e1, Array.getD_eq_getD_getElem?, z1]; rfl
            · obtain ⟨z, z1, z2⟩ := hcell j q hj
              simp only [Array.getD_eq_getD_getElem?, z1]; exact z2
        · cases h
      · cases h
    · cases h
  · intro sz t i n p' y h hv hr
    simp only [view] at h
    split at h
    · rename_i rows hrows
      split at h
      · rename_i hall
        cases h
        simp only [srcRows] at hrows
        split at hrows
        · rename_i sz' rs hσ
          split at hrows
          · rename_i hc
            obtain ⟨rfl, hl⟩ := hc
            cases hrows
            have hB := hs.live t _ hσ
            have hlen' : ((rs.drop i).take n).length = n := by simp; omega
            cases hr with
            | pure h => cases h
            | os _ _ i n b cap hm hn hlen hsh =>
              rw [hm] at hB
              obtain ⟨c, ty, lo, hi, e1, e2, e3, e4, e5⟩ := hB
              have get : ∀ (k : Nat) (r : List PV), ((rs.drop i).take n)[k]? = some r → rs[i + k]? = some r ∧ k < n := fun k r hk => by
                rw [List.getElem?_take] at hk
                split at hk
                · rename_i hkn; rw [List.getElem?_drop] at hk; exact ⟨hk, hkn⟩
                · cases hk
              have hcell : ∀ (k : Nat) (r : List PV) (j : Nat) q, ((rs.drop i).take n)[k]? = some r → r[j]? = some q → ∃ z, c[i * sz' + (k * sz' + j)]? = some z ∧ PRep w O q z := fun k r j q hk hj => by
                obtain ⟨z, z1, z2⟩ := e5 (i + k) r j q (get k r hk).1 hj
                rw [List.all_eq_true] at hall
                have hp := hall r (List.mem_of_getElem? hk)
                rw [isPL_eq, List.all_eq_true] at hp
                exact ⟨z, by rw [← z1]; congr 1; rw [Nat.add_mul]; omega, rep_isP hO z2 (hp q (List.mem_of_getElem? hj))⟩
              have := PRep.sl (w := w) (O := O) false ((rs.drop i).take n) sz' b (i * sz') cap (fun k j => c.getD (i * sz' + (k * sz' + j)) undef) (fun r hr => e4 r (List.mem_of_mem_drop (List.mem_of_mem_take hr)))
                (by omega) (by omega) (fun h => by cases h) (hv t (by simp [vids]) _ b hσ hm) (lt_of_heap e1) (fun k r j q hk hj => by
                  obtain ⟨z, z1, _⟩ := hcell k r j q hk hj
                  simp only [World.cell?, e1, Array.getD_eq_getD_getElem?, z1]; rfl) (fun k r j q hk hj => by
                  obtain ⟨z, z1, z2⟩ := hcell k r j q hk hj
                  simp only [Array.getD_eq_getD_getElem?, z1]; exact z2)
              rw [hlen'] at this
              exact this
            | ph _ _ ad hm =>
              simp only [List.take_zero]
              exact .nil _ ad 0 fun h => by cases h
          · cases hrows
        · cases hrows
      · cases h
    · cases h
  · intro sz t i off n p' y h hv hr
    simp only [view] at h
    split at h
    · rename_i rows hrows
      split at h
      · rename_i hall
        cases h
        simp only [srcRows] at hrows
        split at hrows
        · rename_i sz' rs hσ
          split at hrows
          · rename_i row hrow
            split at hrows
            · rename_i hc
              obtain ⟨rfl, hl⟩ := hc
              cases hrows
              have hB := hs.live t _ hσ
              cases hr with
              | pure h => cases h
              | oa _ _ i off n b cap hm hn hlen =>
                rw [hm] at hB
                obtain ⟨c, ty, lo, hi, e1, e2, e3, e4, e5⟩ := hB
                have hlen' : (((row.drop off).take n).map fun p => [p]).length = n := by simp; omega
                have get : ∀ (k : Nat) (r : List PV), (((row.drop off).take n).map fun p => [p])[k]? = some r → ∃ q, row[off + k]? = some q ∧ r = [q] ∧ k < n := fun k r hk => by
                  rw [List.getElem?_map, List.getElem?_take] at hk
                  split at hk
                  · rename_i hkn
                    rw [List.getElem?_drop] at hk
                    cases hq : row[off + k]? with
                    | none => simp [hq] at hk
                    | some q => simp [hq] at hk; exact ⟨q, rfl, hk.symm, hkn⟩
                  · cases hk
                have hcell : ∀ (k : Nat) (r : List PV) (j : Nat) q, (((row.drop off).take n).map fun p => [p])[k]? = some r → r[j]? = some q → ∃ z, c[i * sz' + off + (k * 1 + j)]? = some z ∧ PRep w O q z := fun k r j q hk hj => by
                  obtain ⟨q', g1, rfl, g3⟩ := get k r hk
                  have hj0 : j = 0 := by
                    have := (List.getElem?_eq_some_iff.1 hj).1
                    simpa using this
                  subst hj0
                  simp at hj
                  subst hj
                  obtain ⟨z, z1, z2⟩ := e5 i row (off + k) _ hrow g1
                  rw [List.all_eq_true] at hall
                  have hp := hall _ (List.mem_of_getElem? hk)
                  simp only [isPL, Bool.and_true] at hp
                  exact ⟨z, by rw [← z1]; congr 1; omega, rep_isP hO z2 hp⟩
                have := PRep.sl (w := w) (O := O) false (((row.drop off).take n).map fun p => [p]) 1 b (i * sz' + off) cap (fun k j => c.getD (i * sz' + off + (k * 1 + j)) undef) (fun r hr => by
                    obtain ⟨q, _, rfl⟩ := List.mem_map.1 hr; rfl)
                  (by omega) (by omega) (fun h => by cases h) (hv t (by simp [vids]) _ b hσ hm) (lt_of_heap e1) (fun k r j q hk hj => by
                    obtain ⟨z, z1, _⟩ := hcell k r j q hk hj
                    simp only [World.cell?, e1, Array.getD_eq_getD_getElem?, z1]; rfl) (fun k r j q hk hj => by
                    obtain ⟨z, z1, z2⟩ := hcell k r j q hk hj
                    simp only [Array.getD_eq_getD_getElem?, z1]; exact z2)
                rw [hlen'] at this
                exact this
            · cases hrows
          · cases hrows
        · cases hrows
      · cases h
    · cases h
  · intro f first caps ih1 ih2 p' y h hv hr
    simp only [view] at h
    split at h
    · rename_i a b h1 h2
      cases h
      obtain ⟨g1, g2⟩ := ih1 a h1 fun t ht => hv t (by simp [vids, ht])
      obtain ⟨k1, k2⟩ := ih2 b h2 fun t ht => hv t (by simp [vids, ht])
      have fin : ∀ (xs ys : Array Value), y = .func f xs ys → first.length = xs.size → caps.length = ys.size → (∀ (i : Nat) p z, first[i]? = some p → xs[i]? = some z → Rep w (OwnF F μ σ) μ p z) →
          (∀ (i : Nat) p z, caps[i]? = some p → ys[i]? = some z → Rep w (OwnF F μ σ) μ p z) → PRep w O (.fn f a b) y := by
        rintro xs ys rfl hl hl' q1 q2
        refine .fn f a b xs ys (by omega) (by omega) (fun i q z n1 n2 => ?_) (fun i q z n1 n2 => ?_)
        · have hi : i < first.length := by have := (List.getElem?_eq_some_iff.1 n1).1; omega
          exact g2 i first[i] q z (by simp [hi]) n1 (q1 i first[i] z (by simp [hi]) n2)
        · have hi : i < caps.length := by have := (List.getElem?_eq_some_iff.1 n1).1; omega
          exact k2 i caps[i] q z (by simp [hi]) n1 (q2 i caps[i] z (by simp [hi]) n2)
      cases hr with
      | pure h' => cases h' with
        | fn _ _ _ xs ys hl hl' q1 q2 => exact fin xs ys rfl hl hl' (fun i p z n1 n2 => .pure (q1 i p z n1 n2)) fun i p z n1 n2 => .pure (q2 i p z n1 n2)
      | fn _ _ _ xs ys hl hl' q1 q2 => exact fin xs ys rfl hl hl' q1 q2
    · cases h
  · intro ty x ih p' y h hv hr
    simp only [view, Option.map_eq_some_iff] at h
    obtain ⟨x', h1, rfl⟩ := h
    have hv' : ∀ t ∈ vids x, ∀ B b, σ t = .live B → μ t = .at b → ¬ O b := fun t ht => hv t (by simpa [vids] using ht)
    cases hr with
    | pure h' => cases h' with
      | ifc _ _ z hz => exact .ifc ty x' z (ih x' z h1 hv' (.pure hz))
    | ifc _ _ z hz => exact .ifc ty x' z (ih x' z h1 hv' hz)
  · intro t p' y h hv hr; simp [view, isP] at h
  · intro p' y h hv hr; simp [view, isP] at h
  · intro l' h hv; simp [viewL] at h; subst h; exact ⟨rfl, fun i p p' y h => by simp at h⟩
  · intro x xs ihx ihxs l' h hv
    simp only [viewL] at h
    split at h
    · rename_i y ys h1 h2
      cases h
      obtain ⟨g1, g2⟩ := ihxs ys h2 fun t ht => hv t (by simp [vidsL, ht])
      refine ⟨by simp [g1], fun i p p' z k1 k2 hr => ?_⟩
      cases i with
      | zero => simp at k1 k2; subst k1 k2; exact ihx _ z h1 (fun t ht => hv t (by simp [vidsL, ht])) hr
      | succ i => exact g2 i p p' z (by simpa using k1) (by simpa using k2) hr
    · cases h
  · trivial
  · intros; trivial

theorem view_spec {F : Nat → Prop} {μ : Nat → Mu} {σ : Nat → Slot} {w : World} (hs : SRel Γ F w μ σ) (p p' : PV) (y : Value) (h : view σ p = some p') (hr : Rep w (OwnF F μ σ) μ p y) : PRep w F p' y :=
  view_spec' hs (fun _ hb => .inl hb) p p' y h (fun t _ B b h1 h2 => hs.notF t B b h1 h2) hr

theorem viewL_spec {σ : Nat → Slot} : ∀ (l l' : List PV), viewL σ l = some l' → l.length = l'.length ∧ ∀ (i : Nat) p p', l[i]? = some p → l'[i]? = some p' → view σ p = some p'
  | [], l', h => by simp [viewL] at h; subst h; exact ⟨rfl, fun i p p' h => by simp at h⟩
  | x :: xs, l', h => by
    simp only [viewL] at h
    split at h
    · rename_i y ys h1 h2
      cases h
      obtain ⟨g1, g2⟩ := viewL_spec xs ys h2
      refine ⟨by simp [g1], fun i p p' k1 k2 => ?_⟩
      cases i with
      | zero => simp at k1 k2; subst k1 k2; exact h1
      | succ i => exact g2 i p p' (by simpa using k1) (by simpa using k2)
    · cases h

theorem srcRows_congr {σ σ' : Nat → Slot} {p : PV} (h : ∀ t ∈ srcIds p, σ' t = σ t) : srcRows σ' p = srcRows σ p := by
  cases p with
  | os sz t i n => simp only [srcRows, h t (by simp [srcIds])]
  | oa sz t i off n => simp only [srcRows, h t (by simp [srcIds])]
  | _ => rfl

theorem view_congr {σ σ' : Nat → Slot} : ∀ (p : PV), (∀ t ∈ vids p, σ' t = σ t) → view σ' p = view σ p := by
  refine @PV.rec (fun p => (∀ t ∈ vids p, σ' t = σ t) → view σ' p = view σ p) (fun l => (∀ t ∈ vidsL l, σ' t = σ t) → viewL σ' l = viewL σ l) (fun _ => True)
    ?_ ?_ ?_ ?_ ?_ ?_ ?_ ?_ ?_ ?_ ?_ ?_ ?_ ?_ ?_ ?_
  · intro x _; rfl
  · intro cs ih h; simp only [view]; rw [ih (by simpa [vids] using h)]
  · intro cs ih h; simp only [view]; rw [ih (by simpa [vids] using h)]
  · intros; rfl
  · intros; rfl
  · intro sz t i off h; simp only [view]; rw [h t (by simp [vids])]
  · intro sz t i n h; simp only [view]; rw [srcRows_congr (fun t ht => h t (by simpa [vids, srcIds] using ht))]
  · intro sz t i off n h; simp only [view]; rw [srcRows_congr (fun t ht => h t (by simpa [vids, srcIds] using ht))]
  · intro f first caps ih1 ih2 h; simp only [view]; rw [ih1 (fun t ht => h t (by simp [vids, ht])), ih2 (fun t ht => h t (by simp [vids, ht]))]
  · intro ty x ih h; simp only [view]; rw [ih (by simpa [vids] using h)]
  · intros; rfl
  · intros; rfl
  · intros; rfl
  · intro x xs ih1 ih2 h
    simp only [viewL]
    rw [ih1 fun t ht => h t (by simp [vidsL, ht]), ih2 fun t ht => h t (by simp [vidsL, ht])]
  · trivial
  · intros; trivial

theorem viewL_congr {σ σ' : Nat → Slot} : ∀ (l : List PV), (∀ t ∈ vidsL l, σ' t = σ t) → viewL σ' l = viewL σ l
  | [], _ => rfl
  | x :: xs, h => by
    simp only [viewL]
    rw [view_congr x fun t ht => h t (by simp [vidsL, ht]), viewL_congr xs fun t ht => h t (by simp [vidsL, ht])]

/-- A call of a function of data, with what can be seen as data; it hands back plain values. -/
theorem callOK_view {g : FuncId} {args pargs : List PV} {p : PV} {σ0 : Nat → Slot} (h : Pure Γ P g pargs p) (hp : flat p = true) (hv : viewL σ0 args = some pargs) :
    CallOK Γ P g args ⟨p, (vidsL args).map fun t => (t, σ0 t), []⟩ := by
  intro F μ σ w cargs hs ha hrd
  have hv' : viewL σ args = some pargs := by
    rw [viewL_congr args fun t ht => hrd (t, σ0 t) (List.mem_map.2 ⟨t, ht, rfl⟩)]; exact hv
  obtain ⟨g1, g2⟩ := viewL_spec _ _ hv'
  have hfr : Fr Γ F w := ⟨hs.ffin, fun b o hb => ⟨(hs.gam b o hb).1, fun h => (hs.gam b o hb).2 (.inl h)⟩⟩
  refine (h F w cargs hfr ⟨by rw [← g1]; exact ha.1, fun i q y h1 h2 => ?_⟩).mono ?_
  · have hi : i < args.length := by have := (List.getElem?_eq_some_iff.1 h1).1; omega
    exact view_spec hs args[i] q y (g2 i args[i] q (by simp [hi]) h1) (ha.2 i args[i] y (by simp [hi]) h2)
  · rintro e w' ⟨y, rfl, hy, hx⟩
    exact ⟨y, rfl, μ, hs.out hx, .pure (hy.flat hp), hx.anyO, MuExt.refl _⟩

theorem CallK_view {g : FuncId} {args : List PV} {p : PV} {σ : Nat → Slot} {nx : Nat} {K : PV → List Nat → List (Nat × Slot) → Nat → Prop} (pargs : List PV) (h : Pure Γ P g pargs p) (he : Ent P g)
    (hp : flat p = true) (hv : viewL σ args = some pargs) (hK : K p (vidsL args) [] nx) : CallK Γ P g args σ nx K .mk :=
  ⟨_, nx, callOK_view h hp hv, he, by simp, Nat.le_refl _, by simpa [Function.comp_def] using hK⟩

/-! ### Blocks that are let go -/
mutual
/-- It leads to none of these blocks. -/
def noIds (fz : List Nat) : PV → Bool
  | .agg cs => noIdsL fz cs
  | .tup cs => noIdsL fz cs
  | .fn _ first caps => noIdsL fz first && noIdsL fz caps
  | .ifc _ x => noIds fz x
  | .op _ t _ _ => !fz.contains t
  | .os _ t _ _ => !fz.contains t
  | .oa _ t _ _ _ => !fz.contains t
  | .om t => !fz.contains t
  | _ => true
def noIdsL (fz : List Nat) : List PV → Bool
  | [] => true
  | x :: xs => noIds fz x && noIdsL fz xs
end
theorem noIdsL_eq (fz : List Nat) (l : List PV) : noIdsL fz l = l.all (noIds fz) := by
  induction l with
  | nil => rfl
  | cons x xs ih => simp [noIdsL, ih]

theorem rep_noIds {w : World} {O O' : Nat → Prop} {μ : Nat → Mu} {fz : List Nat} {p : PV} {y : Value} (hO : ∀ b, O' b → O b) (h : Rep w O μ p y) :
    noIds fz p = true → Rep w O' (fun t => if fz.contains t = true then .no else μ t) p y := by
  have hk : Keeps w O w O' := ⟨Nat.le_refl _, fun b _ hb => ⟨rfl, fun h => hb (hO b h)⟩⟩
  have key : ∀ t, (!fz.contains t) = true → (fun t => if fz.contains t = true then Mu.no else μ t) t = μ t := fun t ht => by
    simp only [Bool.not_eq_true'] at ht
    simp only [ht]; rfl
  induction h with
  | pure h => intro _; exact .pure (h.mono hk)
  | any y => intro _; exact .any y
  | agg cs ys hl _ ih => intro hf; simp only [noIds, noIdsL_eq, List.all_eq_true] at hf; exact .agg cs ys hl fun i p y h1 h2 => ih i p y h1 h2 (hf p (List.mem_of_getElem? h1))
  | tup cs ys hl _ ih => intro hf; simp only [noIds, noIdsL_eq, List.all_eq_true] at hf; exact .tup cs ys hl fun i p y h1 h2 => ih i p y h1 h2 (hf p (List.mem_of_getElem? h1))
  | fn f first caps xs ys hl hl' _ _ ih ih' =>
    intro hf
    simp only [noIds, noIdsL_eq, Bool.and_eq_true, List.all_eq_true] at hf
    exact .fn f first caps xs ys hl hl' (fun i p y h1 h2 => ih i p y h1 h2 (hf.1 p (List.mem_of_getElem? h1))) fun i p y h1 h2 => ih' i p y h1 h2 (hf.2 p (List.mem_of_getElem? h1))
  | ifc ty p y _ ih => intro hf; exact .ifc ty p y (ih hf)
  | op sz t i off b h => intro hf; exact .op _ _ _ _ b ((key t hf).trans h)
  | os sz t i n b cap h hn hlen hs => intro hf; exact .os _ _ _ _ b cap ((key t hf).trans h) hn hlen hs
  | ph sz t a h => intro hf; exact .ph _ _ a ((key t hf).trans h)
  | oa sz t i off n b cap h hn hlen => intro hf; exact .oa _ _ _ _ _ b cap ((key t hf).trans h) hn hlen
  | om t b h => intro hf; exact .om _ b ((key t hf).trans h)

def noIdsB (fz : List Nat) : Blk → Bool
  | .rows _ rs => rs.all (noIdsL fz)
  | .mib _ => true

/-- What a temporary is, when these blocks are let go: it leads to none of them, or it is seen as data. -/
def frzA (σ : Nat → Slot) (fz : List Nat) (A : Nat → PV) : List (Nat × PV) → Prop
  | [] => True
  | (t, p) :: r => (noIds fz (A t) = true ∧ p = A t ∨ view σ (A t) = some p ∧ (vids (A t)).all (fun t => fz.contains t) = true) ∧ frzA σ fz A r

theorem weak_freeze {pin : Nat} {A : Nat → PV} {s : List (Option Blk)} (fz : List Nat) (A2 : List (Nat × PV)) (s2 : List (Option Blk)) (hpin : fz.all (fun t => decide (pin ≤ t)) = true)
    (hs2 : ∀ (t : Nat), ofO s2 t = if fz.contains t = true then .dead else ofO s t) (hB : ∀ (t : Nat) B, s[t]? = some (some B) → fz.contains t = true ∨ noIdsB fz B = true) (hA : frzA (ofO s) fz A A2) :
    Weak Γ pin ⟨A, ofO s⟩ ⟨ofA A2, ofO s2⟩ := by
  intro F N μ a w hr
  let μ2 : Nat → Mu := fun t => if fz.contains t = true then .no else μ t
  have hlive : ∀ t B, ofO s2 t = .live B → fz.contains t = false ∧ ofO s t = .live B := by
    intro t B h
    rw [hs2 t] at h
    split at h
    · cases h
    · rename_i hc; exact ⟨by simpa using hc, h⟩
  have hμ2 : ∀ t, fz.contains t = false → μ2 t = μ t := fun t ht => by simp only [μ2, ht]; rfl
  have hown : ∀ b, Own μ2 (ofO s2) b → Own μ (ofO s) b := by
    rintro b ⟨t, B, ht, hm⟩
    obtain ⟨h1, h2⟩ := hlive t B ht
    exact ⟨t, B, h2, by rw [← hμ2 t h1]; exact hm⟩
  have hO : ∀ b, OwnF F μ2 (ofO s2) b → OwnF F μ (ofO s) b := fun b hb => hb.imp id (hown b)
  refine ⟨μ2, ⟨hr.tsz, hr.dfs, fun t => ?_, ⟨fun t ht => ?_, fun t B ht => ?_, ?_, ?_, hr.sto.ffin, fun b o hb => ⟨(hr.sto.gam b o hb).1, fun h => (hr.sto.gam b o hb).2 (hO b h)⟩⟩⟩, hown, fun t ht hn => ?_⟩
  · show Rep w (OwnF F μ2 (ofO s2)) μ2 (ofA A2 t) _
    have key : ∀ (l : List (Nat × PV)), frzA (ofO s) fz A l → Rep w (OwnF F μ2 (ofO s2)) μ2 (ofA l t) (a.tmps.getD t undef) := by
      intro l
      induction l with
      | nil => intro _; exact .any _
      | cons q l ih =>
        obtain ⟨u, p⟩ := q
        intro h
        simp only [ofA, upd]
        split
        · rename_i e
          subst e
          rcases h.1 with ⟨h1, rfl⟩ | ⟨h1, h2⟩
          · exact rep_noIds hO (hr.tmp t) h1
          · refine .pure (view_spec' hr.sto hO (A t) p _ h1 (fun t' ht' B b g1 g2 => ?_) (hr.tmp t))
            rw [List.all_eq_true] at h2
            have hc := h2 t' ht'
            rintro (hF | ⟨u, B', k1, k2⟩)
            · exact hr.sto.notF _ _ b g1 g2 hF
            · obtain ⟨q1, q2⟩ := hlive u B' k1
              rw [hμ2 u q1] at k2
              have := hr.sto.inj _ _ _ _ b q2 g1 k2 g2
              rw [this, hc] at q1
              cases q1
        · exact ih h.2
    exact key A2 hA
  · show μ2 t = .no
    have ht : ofO s2 t = .fresh := ht
    rw [hs2 t] at ht
    split at ht
    · cases ht
    · rename_i hc
      rw [hμ2 t (by simpa using hc)]
      exact hr.sto.fresh t ht
  · show BRep w (OwnF F μ2 (ofO s2)) μ2 B (μ2 t)
    obtain ⟨h1, h2⟩ := hlive t B ht
    have hb := hr.sto.live t B h2
    rw [hμ2 t h1]
    have h3 : s[t]? = some (some B) := by
      unfold ofO at h2
      split at h2
      · rename_i B' hB'; cases h2; exact hB'
      · cases h2
      · cases h2
    have h4 := (hB t B h3).resolve_left (by rw [h1]; simp)
    cases B with
    | mib es => cases hm : μ t <;> rw [hm] at hb <;> exact hb
    | rows sz rs =>
      cases hm : μ t with
      | no => rw [hm] at hb; exact hb
      | ph => rw [hm] at hb; exact hb
      | «at» bb =>
        rw [hm] at hb
        obtain ⟨c, ty, lo, hi, e1, e2, e3, e4, e5⟩ := hb
        refine ⟨c, ty, lo, hi, e1, e2, e3, e4, fun i r j q g1 g2 => ?_⟩
        obtain ⟨y, y1, y2⟩ := e5 i r j q g1 g2
        simp only [noIdsB, List.all_eq_true, noIdsL_eq] at h4
        exact ⟨y, y1, rep_noIds hO y2 (h4 r (List.mem_of_getElem? g1) q (List.mem_of_getElem? g2))⟩
  · intro t u B B' b ht hu m1 m2
    obtain ⟨t1, t2⟩ := hlive t B ht
    obtain ⟨u1, u2⟩ := hlive u B' hu
    have m1' : μ t = .at b := by rw [← hμ2 t t1]; exact m1
    have m2' : μ u = .at b := by rw [← hμ2 u u1]; exact m2
    exact hr.sto.inj _ _ _ _ b t2 u2 m1' m2'
  · intro t B b ht hm
    obtain ⟨t1, t2⟩ := hlive t B ht
    exact hr.sto.notF _ _ b t2 (by rw [← hμ2 t t1]; exact hm)
  · show μ2 t = μ t
    refine hμ2 t ?_
    cases hc : fz.contains t with
    | false => rfl
    | true =>
      rw [List.all_eq_true] at hpin
      have := hpin t (by simpa using hc)
      simp only [decide_eq_true_eq] at this
      omega

/-- A nil slice taken as a block of no rows. -/
theorem weak_adopt {pin : Nat} {A : Nat → PV} {σ : Nat → Slot} (k sz nx : Nat) (hk : A k = .sl true []) (hn : σ nx = .fresh) :
    Weak Γ pin ⟨A, σ⟩ ⟨upd A k (.os sz nx 0 0), upd σ nx (.live (.rows sz []))⟩ := by
  intro F N μ a w hr
  have hne : μ nx = .no := hr.sto.fresh nx hn
  let μ2 : Nat → Mu := upd μ nx .ph
  have hext : MuExt μ μ2 := fun t ht => upd_ne _ _ fun e => ht (by rw [e]; exact hne)
  have hown : ∀ b, Own μ2 (upd σ nx (.live (.rows sz []))) b ↔ Own μ σ b := by
    intro b
    constructor
    · rintro ⟨t, B, ht, hm⟩
      by_cases e : t = nx
      · subst e; simp only [μ2, upd_same] at hm; cases hm
      · rw [upd_ne _ _ e] at ht; simp only [μ2, upd_ne _ _ e] at hm; exact ⟨t, B, ht, hm⟩
    · rintro ⟨t, B, ht, hm⟩
      have e : t ≠ nx := fun e => by rw [e, hn] at ht; cases ht
      exact ⟨t, B, by rw [upd_ne _ _ e]; exact ht, by simp only [μ2, upd_ne _ _ e]; exact hm⟩
  have hO : OwnF F μ2 (upd σ nx (.live (.rows sz []))) = OwnF F μ σ := by
    funext b; simp only [OwnF, hown b]
  have hrep : ∀ {p : PV} {y : Value}, Rep w (OwnF F μ σ) μ p y → Rep w (OwnF F μ2 (upd σ nx (.live (.rows sz [])))) μ2 p y := fun h => by
    rw [hO]; exact h.mono ⟨Nat.le_refl _, fun b _ hb => ⟨rfl, hb⟩⟩ (fun _ _ => rfl) hext
  refine ⟨μ2, ⟨hr.tsz, hr.dfs, fun t => ?_, ⟨fun t ht => ?_, fun t B ht => ?_, ?_, ?_, hr.sto.ffin, fun b o hb => by rw [hO]; exact hr.sto.gam b o hb⟩⟩, fun b hb => (hown b).1 hb, fun t ht hn => hext t hn⟩
  · show Rep w _ μ2 (upd A k _ t) _
    by_cases e : t = k
    · subst e
      rw [upd_same]
      have h1 : Rep w (OwnF F μ σ) μ (A t) (a.tmps.getD t undef) := hr.tmp t
      rw [hk] at h1
      generalize a.tmps.getD t undef = z at h1 ⊢
      cases h1 with
      | pure h => cases h with
        | nil _ ad cap hf => rw [hf rfl]; exact .ph sz nx ad (upd_same _ _ _)
        | sl _ _ sz' b off cap vs h1 h2 h3 h4 h5 h6 h7 h8 =>
          have : cap = 0 := by simpa using h4 rfl
          subst this
          exact .ph sz nx _ (upd_same _ _ _)
    · rw [upd_ne _ _ e]; exact hrep (hr.tmp t)
  · have ht' : upd σ nx (.live (.rows sz [])) t = .fresh := ht
    by_cases e : t = nx
    · subst e; rw [upd_same] at ht'; cases ht'
    · rw [upd_ne _ _ e] at ht'; show upd μ nx .ph t = .no; rw [upd_ne _ _ e]; exact hr.sto.fresh t ht'
  · have ht' : upd σ nx (.live (.rows sz [])) t = .live B := ht
    by_cases e : t = nx
    · subst e; rw [upd_same] at ht'; cases ht'
      show BRep w _ μ2 _ (upd μ t .ph t)
      rw [upd_same]; exact rfl
    · rw [upd_ne _ _ e] at ht'
      show BRep w (OwnF F μ2 (upd σ nx (.live (.rows sz [])))) μ2 B (upd μ nx .ph t)
      rw [upd_ne _ _ e, hO]
      exact brep_keep ⟨Nat.le_refl _, fun b _ hb => ⟨rfl, hb⟩⟩ (fun _ _ => rfl) hext (fun _ _ => rfl) (hr.sto.live t B ht')
  · intro t u B B' b ht hu m1 m2
    have et : t ≠ nx := fun e => by subst e; have : upd μ t Mu.ph t = .at b := m1; rw [upd_same] at this; cases this
    have eu : u ≠ nx := fun e => by subst e; have : upd μ u Mu.ph u = .at b := m2; rw [upd_same] at this; cases this
    have ht' : upd σ nx (.live (.rows sz [])) t = .live B := ht
    have hu' : upd σ nx (.live (.rows sz [])) u = .live B' := hu
    rw [upd_ne _ _ et] at ht'
    rw [upd_ne _ _ eu] at hu'
    exact hr.sto.inj t u B B' b ht' hu' (by rw [← hext t (by have : upd μ nx Mu.ph t = .at b := m1; rw [upd_ne _ _ et] at this; rw [this]; simp)]; exact m1) (by rw [← hext u (by have : upd μ nx Mu.ph u = .at b := m2; rw [upd_ne _ _ eu] at this; rw [this]; simp)]; exact m2)
  · intro t B b ht hm
    have et : t ≠ nx := fun e => by subst e; have : upd μ t Mu.ph t = .at b := hm; rw [upd_same] at this; cases this
    have ht' : upd σ nx (.live (.rows sz [])) t = .live B := ht
    rw [upd_ne _ _ et] at ht'
    have hm' : upd μ nx Mu.ph t = .at b := hm
    rw [upd_ne _ _ et] at hm'
    exact hr.sto.notF t B b ht' hm'

/-! ### How long slices are -/
inductive Sub : PV → PV → Prop where
  | refl (p : PV) : Sub p p
  | agg {cs : List PV} {p q : PV} (h : p ∈ cs) (hs : Sub p q) : Sub (.agg cs) q
  | sl {full : Bool} {rows : List (List PV)} {r : List PV} {p q : PV} (hr : r ∈ rows) (h : p ∈ r) (hs : Sub p q) : Sub (.sl full rows) q
  | ip {cs : List PV} {p q : PV} (h : p ∈ cs) (hs : Sub p q) : Sub (.ip cs) q

theorem sub_len {w : World} {O : Nat → Prop} {p q : PV} (hs : Sub p q) : ∀ (y : Value), PRep w O p y → ∀ full rows, q = .sl full rows → rows.length ≤ 140737488355328 := by
  induction hs with
  | refl p => intro y h full rows e; subst e; cases h with
    | nil => exact Nat.zero_le _
    | sl _ _ _ _ _ _ _ _ _ hlen => exact hlen
  | agg hm _ ih =>
    intro y h full rows e
    cases h with
    | agg cs ys hl h =>
      obtain ⟨i, hi⟩ := List.getElem?_of_mem hm
      have : i < ys.size := by have := (List.getElem?_eq_some_iff.1 hi).1; omega
      exact ih ys[i] (h i _ ys[i] hi (by simp [this])) full rows e
  | sl hr hm _ ih =>
    intro y h full rows e
    cases h with
    | nil => cases hr
    | sl _ _ _ _ _ _ vs _ _ _ _ _ _ _ h8 =>
      obtain ⟨i, hi⟩ := List.getElem?_of_mem hr
      obtain ⟨j, hj⟩ := List.getElem?_of_mem hm
      exact ih (vs i j) (h8 i _ j _ hi hj) full rows e
  | ip hm _ ih =>
    intro y h full rows e
    cases h with
    | ip _ _ _ vs _ _ _ h8 =>
      obtain ⟨j, hj⟩ := List.getElem?_of_mem hm
      exact ih (vs j) (h8 j _ hj) full rows e

theorem AW_len {N pin : Nat} {c : Code} {Q : Exit → St → Prop} {st : St} {p : PV} {full : Bool} {rows : List (List PV)} (k : Nat) (hk : st.a k = p) (hp : isP p = true) (hs : Sub p (.sl full rows))
    (h : rows.length ≤ 140737488355328 → AW Γ P N pin c Q st) : AW Γ P N pin c Q st := by
  intro F μ a w hr
  refine h ?_ F μ a w hr
  have h1 := hr.tmp k
  rw [hk] at h1
  exact sub_len hs _ (h1.isP hp) full rows rfl

/-- A fresh slice, as data. -/
theorem EC.pure {f : FuncId} {args : List PV} {r p : PV} {s1 : List (Option Blk)} (h : EC Γ P f args [] r s1) (hv : view (ofO s1) r = some p) : Pure Γ P f args p := by
  intro F w cargs hfr ha
  have hno : ∀ t, ofB [] t = .fresh := fun t => by simp [ofB]
  have hown : ∀ b, ¬ Own (fun _ => .no) (ofB []) b := by rintro b ⟨t, B, ht, _⟩; rw [hno t] at ht; cases ht
  have hs : SRel Γ F w (fun _ => .no) (ofB []) := by
    refine ⟨fun _ _ => rfl, ?_, ?_, ?_, hfr.ffin, ?_⟩
    · intro t B ht; rw [hno t] at ht; cases ht
    · intro t u B B' b ht; rw [hno t] at ht; cases ht
    · intro t B b ht; rw [hno t] at ht; cases ht
    · intro b o hb
      exact ⟨(hfr.gam b o hb).1, fun h' => h'.elim (hfr.gam b o hb).2 (hown b)⟩
  refine (h F (fun _ => .no) w cargs hs ⟨ha.1, fun i q y h1 h2 => .pure ((ha.2 i q y h1 h2).weaken fun b hb => hb.elim id fun h' => absurd h' (hown b))⟩).mono ?_
  rintro e w' ⟨y, μ', rfl, hs', hy, hx, _⟩
  exact ⟨y, rfl, view_spec hs' r p y hv hy, hx.toNone hown⟩

end Go.Am
/- Small rules for the walks, and what the library's own contracts say in the abstract machine's words. -/
namespace Go.Am
variable {Γ : Nat → Option Obj} {P : Program}

abbrev pI (n : Int) : PV := .v (.int .i64 n)
abbrev pB (b : Bool) : PV := .v (.bool b)
abbrev pS (l : List UInt8) : PV := .v (.string ⟨l.toArray⟩)
abbrev iRows (l : List Int) : List (List PV) := l.map fun n => [pI n]
abbrev ints (l : List Int) : PV := .sl false (iRows l)

section
variable {t : TypeId} {x y : Operand}
theorem bin_eql_str {l m : List UInt8} : binS P .eql t x y (.string ⟨l.toArray⟩) (.string ⟨m.toArray⟩) = some (.bool (l == m)) := by
  simp [binS, eqGuard, binOp, Op.stringOp, sc_pure]
theorem bin_neq_str {l m : List UInt8} : binS P .neq t x y (.string ⟨l.toArray⟩) (.string ⟨m.toArray⟩) = some (.bool (!(l == m))) := by
  simp [binS, eqGuard, binOp, Op.stringOp, sc_pure]
theorem sc_underlying {d : TypeDesc} (h : P.underlying t = some d) : sc P (underlying t) = some d := by
  simp [underlying, program, sc, sc_bind, sc_pure, h]
theorem sc_equal_bool {a b : Bool} (h : P.underlying t = some .bool) (d : Nat) : sc P (Op.equalIn (d + 1) t (.bool a) (.bool b)) = some (a == b) := by
  rw [Op.equalIn, sc_bind, sc_underlying h]; rfl
theorem bin_eql_bool {a b : Bool} (h : P.underlying t = some .bool) : binS P .eql t x y (.bool a) (.bool b) = some (.bool (a == b)) := by
  have e : binS P .eql t x y (.bool a) (.bool b) = sc P (do let r ← Op.equalIn (9999 + 1) t (.bool a) (.bool b); pure (.bool r)) := rfl
  rw [e, sc_bind, sc_equal_bool h]; rfl
theorem bin_neq_bool {a b : Bool} (h : P.underlying t = some .bool) : binS P .neq t x y (.bool a) (.bool b) = some (.bool (!(a == b))) := by
  have e : binS P .neq t x y (.bool a) (.bool b) = sc P (do let r ← Op.equalIn (9999 + 1) t (.bool a) (.bool b); pure (.bool !r)) := rfl
  rw [e, sc_bind, sc_equal_bool h]; rfl
theorem sc_min2 {ts : Array TypeId} {ty : TypeId} {k : IntKind} {a b : Int} : sc P (Builtin.min_ ts ty [.int k a, .int k b].toArray) = some (.int k (min a b)) := by
  have : min a b = if b < a then b else a := by omega
  rw [this]; rfl
theorem sc_max2 {ts : Array TypeId} {ty : TypeId} {k : IntKind} {a b : Int} : sc P (Builtin.max_ ts ty [.int k a, .int k b].toArray) = some (.int k (max a b)) := by
  have : max a b = if b > a then b else a := by omega
  rw [this]; rfl
theorem sc_min5 {ts : Array TypeId} {ty : TypeId} {k : IntKind} {a b c d e : Int} : sc P (Builtin.min_ ts ty [.int k a, .int k b, .int k c, .int k d, .int k e].toArray) = some (.int k (min (min (min (min a b) c) d) e)) := by
  have h : ∀ a b : Int, min a b = if b < a then b else a := fun a b => by omega
  rw [h, h, h, h]; rfl
theorem wrap_ok {n : Int} (h0 : -9223372036854775808 ≤ n) (h1 : n ≤ 9223372036854775807) : IntKind.i64.wrap n = n := wrap_i64 h0 h1
end

/-! ### New memory that a contract of the library's tells -/
theorem alloc_ext (w : World) (o : Obj) : Ext w (fun _ => False) (w.alloc o) (fun _ => False) :=
  (show Ext w (fun _ => False) (pushW w o) (fun _ => False) from ⟨by simp [pushW], fun b hb _ => ⟨pushW_old hb, fun h => h⟩, fun b hb => by simp only [World.shape?, pushW_old hb], rfl, rfl⟩)

theorem alloc_rows {F : Nat → Prop} {w : World} (hF : ∀ b, F b → b < w.heap.size) (vs : List Value) (ty : TypeId) (hl : vs.length ≤ 140737488355328) :
    PRep (w.alloc (.cells vs.toArray ty)) F (.sl true (vs.map fun v => [.v v])) (.slice (some ⟨w.heap.size, 0, none⟩) vs.length vs.length) := by
  have := PRep.sl (w := w.alloc (.cells vs.toArray ty)) (O := F) true (vs.map fun v => [.v v]) 1 w.heap.size 0 vs.length (fun i _ => vs.getD i undef)
    (fun r hr => by obtain ⟨v, _, rfl⟩ := List.mem_map.1 hr; rfl) (by simp) (by simpa using hl) (by simp) (fun h => Nat.lt_irrefl _ (hF _ h)) (show w.heap.size < (pushW w (.cells vs.toArray ty)).heap.size by simp [pushW])
    (fun i r j p h1 h2 => by
      rw [List.getElem?_map] at h1
      cases hv : vs[i]? with
      | none => simp [hv] at h1
      | some v =>
        simp [hv] at h1
        subst h1
        have hj : j = 0 := by have := (List.getElem?_eq_some_iff.1 h2).1; simpa using this
        subst hj
        show (pushW w (.cells vs.toArray ty)).cell? ⟨w.heap.size, 0 + (i * 1 + 0), none⟩ = _
        simp [World.cell?, pushW_new, hv, List.getD_eq_getElem?_getD])
    (fun i r j p h1 h2 => by
      rw [List.getElem?_map] at h1
      cases hv : vs[i]? with
      | none => simp [hv] at h1
      | some v =>
        simp [hv] at h1
        subst h1
        have hj : j = 0 := by have := (List.getElem?_eq_some_iff.1 h2).1; simpa using this
        subst hj
        simp at h2
        subst h2
        simp only [List.getD_eq_getElem?_getD, hv]
        exact .v v)
  simpa using this

attribute [go_sem] optI bnds srcRows srcIds chunk zfill view viewL vids vidsL flat flatL resP resL resK tupOf mcap
  bin_eql_str bin_neq_str sc_min2 sc_max2 sc_min5
attribute [go_sem] Option.getD_some Option.getD_none Option.isNone_none Option.isNone_some Option.isSome_none Option.some.injEq Bool.false_or Bool.or_false Bool.true_and Bool.and_true Bool.false_and Bool.and_false Bool.true_or Bool.or_true
  exists_eq_left' Int.toNat_natCast List.drop_zero List.take_zero List.toList_toArray and_self

end Go.Am
/- Statements one behind the other, as a list. -/
namespace Go.Am
variable {Γ : Nat → Option Obj} {P : Program}

/-- A region in parts. -/
theorem RW_app {ds : List (Option Tmp)} {K : St → Nat → List (List Nat × List Nat) → Prop} (l2 : List Oper) : ∀ (l1 : List Oper) (st : St) (nx : Nat) (log : List (List Nat × List Nat)),
    RW Γ P ds l1 st nx log (fun s n lg => RW Γ P ds l2 s n lg K) → RW Γ P ds (l1 ++ l2) st nx log K
  | [], _, _, _, h => h
  | o :: l1, st, nx, log, h => by
    show RW Γ P ds (o :: (l1 ++ l2)) st nx log K
    unfold RW at h ⊢
    split
    · rename_i e; rw [e] at h; exact h
    · rename_i b e
      rw [e] at h
      simp only at h
      split
      · rename_i hb
        rw [if_pos hb] at h
        exact opK_mono h fun v rd wr nx' h => RW_app l2 l1 _ _ _ h
      · rename_i hb
        rw [if_neg hb] at h
        exact RW_app l2 l1 _ _ _ h
theorem RW_cut {ds : List (Option Tmp)} {l : List Oper} {st : St} {nx : Nat} {log : List (List Nat × List Nat)} {K : St → Nat → List (List Nat × List Nat) → Prop} (n : Nat)
    (h : ∀ K' : St → Nat → List (List Nat × List Nat) → Prop, (∀ s nx' log', RW Γ P ds (l.drop n) s nx' log' K → K' s nx' log') → RW Γ P ds (l.take n) st nx log K') : RW Γ P ds l st nx log K := by
  have := RW_app (l.drop n) (l.take n) st nx log (h _ fun _ _ _ h => h)
  rwa [List.take_append_drop] at this

theorem RW_cutc {ds : List (Option Tmp)} {o : Oper} {l : List Oper} {st : St} {nx : Nat} {log : List (List Nat × List Nat)} {K : St → Nat → List (List Nat × List Nat) → Prop} (n : Nat)
    (h : ∀ K' : St → Nat → List (List Nat × List Nat) → Prop, (∀ s nx' log', RW Γ P ds ((o :: l).drop n) s nx' log' K → K' s nx' log') → RW Γ P ds ((o :: l).take n) st nx log K') : RW Γ P ds (o :: l) st nx log K := RW_cut n h

/-- Pieces of code, one behind the other. -/
def AL (Γ : Nat → Option Obj) (P : Program) (N pin : Nat) : List Code → (Exit → St → Prop) → St → Prop
  | [], Q, st => Q .normal st
  | c :: r, Q, st => AW Γ P N pin c (SeqQ (AL Γ P N pin r Q) Q) st

variable {N pin : Nat} {r : List Code} {Q : Exit → St → Prop} {st : St}

theorem AL_start {c : Code} (h : AL Γ P N pin [c] Q st) : AW Γ P N pin c Q st :=
  h.mono fun e st' h' => by cases e <;> exact h'
theorem AL_seq {x y : Code} (h : AL Γ P N pin (x :: y :: r) Q st) : AL Γ P N pin (.seq x y :: r) Q st := by
  refine AW_seq (AW.mono h fun e st' h' => ?_)
  cases e <;> exact h'
theorem AL_skip (h : AL Γ P N pin r Q st) : AL Γ P N pin (.skip :: r) Q st := AW_skip h
theorem AL_exit {i : Nat} (h : Q (.exit i) st) : AL Γ P N pin (.exit i :: r) Q st := AW_exit h
theorem AL_ret (h : Q .ret st) : AL Γ P N pin (.ret :: r) Q st := AW_ret h
theorem AL_cond {c : Operand} {x y : Code} {b : Bool} (hc : ev st.a c = .v (.bool b)) (ht : b = true → AL Γ P N pin (x :: r) Q st) (hf : b = false → AL Γ P N pin (y :: r) Q st) : AL Γ P N pin (.cond c x y :: r) Q st :=
  AW_cond hc ht hf
theorem AL_cond_t {c : Operand} {x y : Code} (hc : ev st.a c = .v (.bool true)) (h : AL Γ P N pin (x :: r) Q st) : AL Γ P N pin (.cond c x y :: r) Q st :=
  AL_cond hc (fun _ => h) fun h => by cases h
theorem AL_cond_f {c : Operand} {x y : Code} (hc : ev st.a c = .v (.bool false)) (h : AL Γ P N pin (y :: r) Q st) : AL Γ P N pin (.cond c x y :: r) Q st :=
  AL_cond hc (fun h => by cases h) fun _ => h
theorem AL_block {id : Nat} {c : Code} (h : AL Γ P N pin [c] (BlockQ id (SeqQ (AL Γ P N pin r Q) Q)) st) : AL Γ P N pin (.block id c :: r) Q st :=
  AW_block (AL_start h)
theorem AL_weak {st2 : St} (hw : Weak Γ pin st st2) (h : AL Γ P N pin r Q st2) (hr : r ≠ []) : AL Γ P N pin r Q st := by
  cases r with
  | nil => exact absurd rfl hr
  | cons c r => exact AW_weak hw h
theorem AL_text {nx : Nat} {id : Nat} {l : List Oper} (hd : dstB N l = true)
    (h : ∀ K : St → Prop, (∀ s, AL Γ P N pin r Q s → K s) → RW Γ P (l.map (·.dst)) l st nx [] (fun st' _ _ => K st')) : AL Γ P N pin (.region id l.toArray false :: r) Q st :=
  AW_text_k hd (h _ fun _ h => h)
theorem AL_draw {nx : Nat} (hm : P.follows .mixedOrders = true) {id : Nat} {l : List Oper} (hd : dstB N l = true) (hB : Region.lexB .any l.toArray = true)
    (h : ∀ K : St → Prop, (∀ s, AL Γ P N pin r Q s → K s) → RW Γ P (l.map (·.dst)) l st nx [] (fun st' _ log => fpB l.toArray log = true ∧ K st')) : AL Γ P N pin (.region id l.toArray true :: r) Q st :=
  AW_draw_k hm hd hB (h _ fun _ h => h)
theorem AL_loop {α : Type} {body : Code} (S : α → St) (I : α → Prop) (m : α → Nat) (x0 : α) (hI : I x0) (h0 : Weak Γ pin st (S x0))
    (round : ∀ x, I x → AL Γ P N pin [body] (SeqQ (fun st' => ∃ y, I y ∧ m y < m x ∧ Weak Γ pin st' (S y)) (SeqQ (AL Γ P N pin r Q) Q)) (S x)) : AL Γ P N pin (.loop body :: r) Q st :=
  AW_loopI S I m x0 hI h0 fun x hx => AL_start (round x hx)

theorem AL_end {id : Nat} (h : AL Γ P N pin r Q st) : AL Γ P N pin [] (BlockQ id (SeqQ (AL Γ P N pin r Q) Q)) st := h
theorem preps_vs {w : World} {F : Nat → Prop} {vs : List Value} {l : List Value} (h : PReps w F (vs.map PV.v) l) : l = vs := by
  obtain ⟨h1, h2⟩ := h
  apply List.ext_getElem (by simpa using h1.symm)
  intro i h3 h4
  have := h2 i (.v vs[i]) l[i] (by simp) (by simp)
  generalize l[i] = z at this
  cases this; rfl
theorem nat_nonneg (k : Nat) : (0 ≤ (k : Int)) = True := by simp
theorem cast0 : ((0 : Nat) : Int) = 0 := rfl
theorem cast1 : ((1 : Nat) : Int) = 1 := rfl
theorem cast2 : ((2 : Nat) : Int) = 2 := rfl
theorem cast3 : ((3 : Nat) : Int) = 3 := rfl
attribute [go_sem] cast0 cast1 cast2 cast3 sc_pure sc_pure' nat_nonneg ofO ofB wrOf rdOf frOf noσ List.set_cons_zero List.set_cons_succ List.take_succ_cons List.drop_succ_cons List.drop_nil List.take_nil List.all_cons List.all_nil List.replicate_succ List.replicate_zero List.drop_zero
/-- Where ways meet. -/
theorem AL_cut {α : Type} {c d : Code} (S : α → St) (I : α → Prop) (h1 : AL Γ P N pin [c] (SeqQ (fun s => ∃ x, I x ∧ Weak Γ pin s (S x)) Q) st) (h2 : ∀ x, I x → AL Γ P N pin (d :: r) Q (S x)) : AL Γ P N pin (c :: d :: r) Q st :=
  AW.mono h1 fun e st' h => by
    cases e with
    | normal => obtain ⟨x, hx, hw⟩ := h; exact AW_weak hw (h2 x hx)
    | _ => exact h
theorem AL_cutend {α : Type} {S : α → St} {I : α → Prop} (h : ∃ x, I x ∧ Weak Γ pin st (S x)) : AL Γ P N pin [] (SeqQ (fun s => ∃ x, I x ∧ Weak Γ pin s (S x)) Q) st := h
theorem AL_len {p : PV} {full : Bool} {rows : List (List PV)} {c : Code} (k : Nat) (hk : st.a k = p) (hp : isP p = true) (hs : Sub p (.sl full rows))
    (h : rows.length ≤ 140737488355328 → AL Γ P N pin (c :: r) Q st) : AL Γ P N pin (c :: r) Q st := AW_len k hk hp hs h
theorem AL_round {K : St → Prop} {Q : Exit → St → Prop} (h : K st) : AL Γ P N pin [] (SeqQ K Q) st := h
theorem row_get {l : List Int} {k : Nat} (h : k < l.length) : (iRows l)[k]? = some [pI l[k]] := by simp [iRows, h]
theorem wrap_succ {k : Nat} (h : k < 9223372036854775807) : IntKind.i64.wrap ((k : Int) + 1) = ((k + 1 : Nat) : Int) := by rw [wrap_ok (by omega) (by omega)]; rfl
theorem AL_len_os {sz t i n : Nat} {c : Code} (k : Nat) (hk : st.a k = .os sz t i n) (h : n ≤ 140737488355328 → AL Γ P N pin (c :: r) Q st) : AL Γ P N pin (c :: r) Q st := by
  intro F μ a w hr
  refine h ?_ F μ a w hr
  have h1 := hr.tmp k
  rw [hk] at h1
  generalize a.tmps.getD k undef = z at h1
  cases h1 with
  | pure h => cases h
  | os _ _ _ _ _ _ _ _ hlen _ => exact hlen
  | ph => exact Nat.zero_le _
theorem ec_of_AL {f : FuncId} {fn : Func} {c : Code} {args : List PV} {s0 : List Blk} {p : PV} {s1 : List (Option Blk)} (pin : Nat) (hp : s0.length = pin) (hf : P.funcs[f]? = some fn) (hb : fn.body = some c) (hn : args.length ≤ fn.ntmps)
    (h : AL Γ P fn.ntmps pin [c] (ECQ P fn p s1) ⟨entry args, ofB s0⟩) : EC Γ P f args s0 p s1 := ec_of_AW hf hb hn (hp ▸ AL_start h)
/-! ### Ends -/
theorem PureQ_ret {fn : Func} {p : PV} (h : resP P fn st = some p) (hp : isP p = true) : PureQ Γ P fn p .ret st := ⟨.inr rfl, p, resA_of h, Viewable.isP hp⟩
theorem PureQ_normal {fn : Func} {p : PV} (h : resP P fn st = some p) (hp : isP p = true) : PureQ Γ P fn p .normal st := ⟨.inl rfl, p, resA_of h, Viewable.isP hp⟩
theorem PureQ_view {fn : Func} {p q : PV} (h : resP P fn st = some q) (hp : view st.σ q = some p) : PureQ Γ P fn p .ret st := ⟨.inr rfl, q, resA_of h, fun _ _ _ y hs hr => view_spec hs q p y hp hr⟩
theorem ECQ_ret {fn : Func} {p : PV} {s1 : List (Option Blk)} (hσ : st.σ = ofO s1) (h : resP P fn st = some p) : ECQ P fn p s1 .ret st := ⟨.inr rfl, hσ, h⟩
attribute [go_sem] Bool.true_beq Bool.false_beq Bool.false_eq_true ne_eq not_false_eq_true not_true_eq_false decide_true decide_false

end Go.Am
/- States as lists, and regions walked a step at a time: for walks that split by themselves. -/
namespace Go.Am
variable {Γ : Nat → Option Obj} {P : Program} {N pin : Nat} {r : List Code} {Q : Exit → St → Prop} {st : St}

def tA : List (Nat × PV) → Nat → PV := ofA
def tO : List (Option Blk) → Nat → Slot := ofO
def consO (x : Option Blk) (f : Nat → Slot) : Nat → Slot
  | 0 => match x with
    | some B => .live B
    | none => .dead
  | n + 1 => f n

theorem tA_cons {t u : Nat} {p : PV} {l : List (Nat × PV)} : tA ((t, p) :: l) u = if u = t then p else tA l u := rfl
theorem tA_nil {u : Nat} : tA [] u = .any := rfl
theorem upd_tA {l : List (Nat × PV)} {k : Nat} {x : PV} : upd (tA l) k x = tA ((k, x) :: l) := rfl
theorem put_tA {l : List (Nat × PV)} {k : Nat} {x : PV} : put (tA l) (some k) x = tA ((k, x) :: l) := rfl
theorem put_none {A : Nat → PV} {x : PV} : put A none x = A := rfl
theorem tO_nil {n : Nat} : tO [] n = .fresh := by simp [tO, ofO]
theorem tO_zero_some {B : Blk} {l : List (Option Blk)} : tO (some B :: l) 0 = .live B := by simp [tO, ofO]
theorem tO_zero_none {l : List (Option Blk)} : tO (none :: l) 0 = .dead := by simp [tO, ofO]
theorem tO_succ {x : Option Blk} {l : List (Option Blk)} {n : Nat} : tO (x :: l) (n + 1) = tO l n := by simp [tO, ofO]
theorem consO_tO {x : Option Blk} {l : List (Option Blk)} : consO x (tO l) = tO (x :: l) := by
  funext n
  cases n with
  | zero => cases x <;> simp [consO, tO, ofO]
  | succ n => simp [consO, tO_succ]
theorem upd_tO_nil {B : Blk} : upd (tO []) 0 (.live B) = tO [some B] := by
  funext n; cases n <;> simp [upd, tO, ofO]
theorem upd_tO_live {B : Blk} {x : Option Blk} {l : List (Option Blk)} : upd (tO (x :: l)) 0 (.live B) = tO (some B :: l) := by
  funext n; cases n <;> simp [upd, tO, ofO]
theorem upd_tO_dead {x : Option Blk} {l : List (Option Blk)} : upd (tO (x :: l)) 0 .dead = tO (none :: l) := by
  funext n; cases n <;> simp [upd, tO, ofO]
theorem upd_tO_succ {s : Slot} {x : Option Blk} {l : List (Option Blk)} {n : Nat} : upd (tO (x :: l)) (n + 1) s = consO x (upd (tO l) n s) := by
  funext k
  cases k with
  | zero => cases x <;> simp [upd, consO, tO, ofO]
  | succ k => simp [upd, consO, tO_succ]
attribute [go_sem 20000] upd_tA put_tA put_none upd_tO_nil upd_tO_live upd_tO_dead upd_tO_succ
attribute [go_sem] tA_cons tA_nil tO_nil tO_zero_some tO_zero_none tO_succ consO_tO

theorem entry_eq (args : List PV) : entry args = tA (args.zipIdx.map fun p => (p.2, p.1)) := by
  have key : ∀ (l : List PV) (k t : Nat), tA ((l.zipIdx k).map fun p => (p.2, p.1)) t = if k ≤ t then l.getD (t - k) .any else .any := by
    intro l
    induction l with
    | nil => intro k t; simp [tA_nil]
    | cons x l ih =>
      intro k t
      simp only [List.zipIdx_cons, List.map_cons, tA_cons, ih]
      by_cases h : t = k
      · subst h; simp
      · by_cases h2 : k ≤ t
        · rw [if_neg h, if_pos (by omega), if_pos h2, show t - k = (t - (k + 1)) + 1 from by omega]; simp
        · rw [if_neg h, if_neg (by omega), if_neg h2]
  funext t
  rw [key args 0 t]
  simp [entry]

/-! ### A region's run without its log -/
def RT (Γ : Nat → Option Obj) (P : Program) (ds : List (Option Tmp)) : List Oper → St → Nat → (St → Nat → Prop) → Prop
  | [], st, nx, K => K st nx
  | o :: rest, st, nx, K => match wantedD ds o.guard st.a with
    | none => False
    | some b => if b = true then opK Γ P st.a st.σ nx o.op fun v _ wr nx' => RT Γ P ds rest ⟨put st.a o.dst v, wrAll st.σ wr⟩ nx' K
      else RT Γ P ds rest ⟨put st.a o.dst pU, st.σ⟩ nx K

theorem RT_RW {ds : List (Option Tmp)} {K : St → Nat → Prop} : ∀ (l : List Oper) (st : St) (nx : Nat) (log : List (List Nat × List Nat)), RT Γ P ds l st nx K → RW Γ P ds l st nx log fun s n _ => K s n
  | [], _, _, _, h => h
  | o :: l, st, nx, log, h => by
    unfold RT at h
    unfold RW
    split
    · rename_i e; rw [e] at h; exact h
    · rename_i b e
      rw [e] at h
      simp only at h
      split
      · rename_i hb; rw [if_pos hb] at h; exact opK_mono h fun v _ wr nx' h => RT_RW l _ _ _ h
      · rename_i hb; rw [if_neg hb] at h; exact RT_RW l _ _ _ h

theorem RT_mono {ds : List (Option Tmp)} {K K' : St → Nat → Prop} (hK : ∀ s n, K s n → K' s n) : ∀ (l : List Oper) (st : St) (nx : Nat), RT Γ P ds l st nx K → RT Γ P ds l st nx K'
  | [], _, _, h => hK _ _ h
  | o :: l, st, nx, h => by
    unfold RT at h ⊢
    split
    · rename_i e; rw [e] at h; exact h
    · rename_i b e
      rw [e] at h
      simp only at h
      split
      · rename_i hb; rw [if_pos hb] at h; exact opK_mono h fun v _ wr nx' h => RT_mono hK l _ _ h
      · rename_i hb; rw [if_neg hb] at h; exact RT_mono hK l _ _ h

/-- One step, with the rest out of sight. -/
def R1 (Γ : Nat → Option Obj) (P : Program) (ds : List (Option Tmp)) (o : Oper) (st : St) (nx : Nat) (K : St → Nat → Prop) : Prop :=
  match wantedD ds o.guard st.a with
  | none => False
  | some b => if b = true then opK Γ P st.a st.σ nx o.op fun v _ wr nx' => K ⟨put st.a o.dst v, wrAll st.σ wr⟩ nx' else K ⟨put st.a o.dst pU, st.σ⟩ nx
theorem RT_step {ds : List (Option Tmp)} {o : Oper} {l : List Oper} {st : St} {nx : Nat} {K : St → Nat → Prop}
    (h : ∀ K' : St → Nat → Prop, (∀ s n, RT Γ P ds l s n K → K' s n) → R1 Γ P ds o st nx K') : RT Γ P ds (o :: l) st nx K := h _ fun _ _ h => h
theorem RT_nil {ds : List (Option Tmp)} {st : St} {nx : Nat} {K : St → Nat → Prop} (h : K st nx) : RT Γ P ds [] st nx K := h

theorem AL_text2 {A : Nat → PV} {S : List (Option Blk)} {id : Nat} {l : List Oper} (hd : dstB N l = true)
    (h : ∀ K : St → Prop, (∀ s, AL Γ P N pin r Q s → K s) → RT Γ P (l.map (·.dst)) l ⟨A, tO S⟩ S.length (fun st' _ => K st')) : AL Γ P N pin (.region id l.toArray false :: r) Q ⟨A, tO S⟩ :=
  AL_text hd fun K hK => RT_RW l _ _ _ (h K hK)

/-! ### .. and with it, for a region that draws -/
def RL (Γ : Nat → Option Obj) (P : Program) (ds : List (Option Tmp)) : List Oper → St → Nat → List (List Nat × List Nat) → (St → List (List Nat × List Nat) → Prop) → Prop
  | [], st, _, log, K => K st log
  | o :: rest, st, nx, log, K => match wantedD ds o.guard st.a with
    | none => False
    | some b => if b = true then opK Γ P st.a st.σ nx o.op fun v rd wr nx' => RL Γ P ds rest ⟨put st.a o.dst v, wrAll st.σ wr⟩ nx' ((rd, wr.map (·.1)) :: log) K
      else RL Γ P ds rest ⟨put st.a o.dst pU, st.σ⟩ nx (([], []) :: log) K
theorem RL_RW {ds : List (Option Tmp)} {K : St → List (List Nat × List Nat) → Prop} : ∀ (l : List Oper) (st : St) (nx : Nat) (log : List (List Nat × List Nat)), RL Γ P ds l st nx log K → RW Γ P ds l st nx log.reverse fun s _ lg => K s lg.reverse
  | [], _, _, log, h => by
    show K _ log.reverse.reverse
    rw [List.reverse_reverse]; exact h
  | o :: l, st, nx, log, h => by
    unfold RL at h
    unfold RW
    split
    · rename_i e; rw [e] at h; exact h
    · rename_i b e
      rw [e] at h
      simp only at h
      split
      · rename_i hb
        rw [if_pos hb] at h
        refine opK_mono h fun v rd wr nx' h => ?_
        have := RL_RW l _ _ _ h
        rwa [List.reverse_cons] at this
      · rename_i hb
        rw [if_neg hb] at h
        have := RL_RW l _ _ _ h
        rwa [List.reverse_cons] at this
def L1 (Γ : Nat → Option Obj) (P : Program) (ds : List (Option Tmp)) (o : Oper) (st : St) (nx : Nat) (log : List (List Nat × List Nat)) (K : St → Nat → List (List Nat × List Nat) → Prop) : Prop :=
  match wantedD ds o.guard st.a with
  | none => False
  | some b => if b = true then opK Γ P st.a st.σ nx o.op fun v rd wr nx' => K ⟨put st.a o.dst v, wrAll st.σ wr⟩ nx' ((rd, wr.map (·.1)) :: log) else K ⟨put st.a o.dst pU, st.σ⟩ nx (([], []) :: log)
theorem RL_step {ds : List (Option Tmp)} {o : Oper} {l : List Oper} {st : St} {nx : Nat} {log : List (List Nat × List Nat)} {K : St → List (List Nat × List Nat) → Prop}
    (h : ∀ K' : St → Nat → List (List Nat × List Nat) → Prop, (∀ s n lg, RL Γ P ds l s n lg K → K' s n lg) → L1 Γ P ds o st nx log K') : RL Γ P ds (o :: l) st nx log K := h _ fun _ _ _ h => h
theorem RL_nil {ds : List (Option Tmp)} {st : St} {nx : Nat} {log : List (List Nat × List Nat)} {K : St → List (List Nat × List Nat) → Prop} (h : K st log) : RL Γ P ds [] st nx log K := h
theorem AL_draw2 (hm : P.follows .mixedOrders = true) {A : Nat → PV} {S : List (Option Blk)} {id : Nat} {l : List Oper} (hd : dstB N l = true) (hB : Region.lexB .any l.toArray = true)
    (h : ∀ K : St → Prop, (∀ s, AL Γ P N pin r Q s → K s) → RL Γ P (l.map (·.dst)) l ⟨A, tO S⟩ S.length [] (fun st' log => fpB l.toArray log.reverse = true ∧ K st')) : AL Γ P N pin (.region id l.toArray true :: r) Q ⟨A, tO S⟩ :=
  AL_draw hm hd hB fun K hK => by
    have := RL_RW l _ _ _ (h K hK)
    simpa using this
attribute [go_sem] R1 L1

/-! ### Where a function begins, and a state told anew -/
theorem pure_start {f : FuncId} {fn : Func} {c : Code} {args : List PV} {p : PV} (hf : P.funcs[f]? = some fn) (hb : fn.body = some c) (hn : args.length ≤ fn.ntmps)
    (h : AL Γ P fn.ntmps 0 [c] (PureQ Γ P fn p) ⟨tA (args.zipIdx.map fun p => (p.2, p.1)), tO []⟩) : Pure Γ P f args p := by
  refine pure_of_AW hf hb hn (AL_start ?_)
  rw [entry_eq]
  have : noσ = tO [] := by funext n; simp [noσ, tO_nil]
  rw [this]; exact h
theorem ec_start {f : FuncId} {fn : Func} {c : Code} {args : List PV} {s0 : List Blk} {p : PV} {s1 : List (Option Blk)} (pin : Nat) (hp : s0.length = pin) (hf : P.funcs[f]? = some fn) (hb : fn.body = some c) (hn : args.length ≤ fn.ntmps)
    (h : AL Γ P fn.ntmps pin [c] (ECQ P fn p s1) ⟨tA (args.zipIdx.map fun p => (p.2, p.1)), tO (s0.map some)⟩) : EC Γ P f args s0 p s1 := by
  refine ec_of_AL pin hp hf hb hn ?_
  rw [entry_eq]
  have : ofB s0 = tO (s0.map some) := by
    funext n
    simp only [ofB, tO, ofO, List.getElem?_map]
    cases s0[n]? <;> rfl
  rw [this]; exact h
theorem weak_t {pin : Nat} {st : St} (ids : List Nat) (A2 : List (Nat × PV)) (s2 : List (Option Blk)) (hk : ids.length = s2.length) (hnd : ids.Nodup)
    (hpin : pin ≤ ids.length ∧ ∀ i, i < pin → ids[i]? = some i) (hS : SubS (fun? ids) ids.length st.σ 0 s2) (hA : SubA (fun? ids) ids.length st.a A2) : Weak Γ pin st ⟨tA A2, tO s2⟩ :=
  weak_sub ids A2 s2 hk hnd hpin hS hA
/-- A row of a list. -/
theorem row_of {α : Type} {l : List α} {f : α → List PV} {k : Nat} (h : k < l.length) : (l.map f)[k]? = some (f l[k]) := by simp [h]
theorem ECQ_end {fn : Func} {p : PV} {s1 : List (Option Blk)} {S : List (Option Blk)} {A : Nat → PV} (hσ : S = s1) (h : resP P fn ⟨A, tO S⟩ = some p) : ECQ P fn p s1 .ret ⟨A, tO S⟩ := ⟨.inr rfl, by rw [hσ]; rfl, h⟩
theorem ite_elim {c : Prop} {_ : Decidable c} {A B : Prop} (h1 : c → A) (h2 : ¬ c → B) : if c then A else B := by
  split
  · exact h1 ‹_›
  · exact h2 ‹_›
theorem pure_start0 {f : FuncId} {fn : Func} {c : Code} {p : PV} (hf : P.funcs[f]? = some fn) (hb : fn.body = some c) (hn : 0 ≤ fn.ntmps)
    (h : AL Γ P fn.ntmps 0 [c] (PureQ Γ P fn p) ⟨tA [], tO []⟩) : Pure Γ P f [] p := pure_start hf hb hn h
theorem ec_start0 {f : FuncId} {fn : Func} {c : Code} {s0 : List Blk} {p : PV} {s1 : List (Option Blk)} (pin : Nat) (hp : s0.length = pin) (hf : P.funcs[f]? = some fn) (hb : fn.body = some c) (hn : 0 ≤ fn.ntmps)
    {S : List (Option Blk)} (hS : s0.map some = S) (h : AL Γ P fn.ntmps pin [c] (ECQ P fn p s1) ⟨tA [], tO S⟩) : EC Γ P f [] s0 p s1 := ec_start pin hp hf hb hn (by rw [hS]; exact h)
theorem pure_start1 {f : FuncId} {fn : Func} {c : Code} {a0 : PV} {p : PV} (hf : P.funcs[f]? = some fn) (hb : fn.body = some c) (hn : 1 ≤ fn.ntmps)
    (h : AL Γ P fn.ntmps 0 [c] (PureQ Γ P fn p) ⟨tA [(0, a0)], tO []⟩) : Pure Γ P f [a0] p := pure_start hf hb hn h
theorem ec_start1 {f : FuncId} {fn : Func} {c : Code} {a0 : PV} {s0 : List Blk} {p : PV} {s1 : List (Option Blk)} (pin : Nat) (hp : s0.length = pin) (hf : P.funcs[f]? = some fn) (hb : fn.body = some c) (hn : 1 ≤ fn.ntmps)
    {S : List (Option Blk)} (hS : s0.map some = S) (h : AL Γ P fn.ntmps pin [c] (ECQ P fn p s1) ⟨tA [(0, a0)], tO S⟩) : EC Γ P f [a0] s0 p s1 := ec_start pin hp hf hb hn (by rw [hS]; exact h)
theorem pure_start2 {f : FuncId} {fn : Func} {c : Code} {a0 a1 : PV} {p : PV} (hf : P.funcs[f]? = some fn) (hb : fn.body = some c) (hn : 2 ≤ fn.ntmps)
    (h : AL Γ P fn.ntmps 0 [c] (PureQ Γ P fn p) ⟨tA [(0, a0), (1, a1)], tO []⟩) : Pure Γ P f [a0, a1] p := pure_start hf hb hn h
theorem ec_start2 {f : FuncId} {fn : Func} {c : Code} {a0 a1 : PV} {s0 : List Blk} {p : PV} {s1 : List (Option Blk)} (pin : Nat) (hp : s0.length = pin) (hf : P.funcs[f]? = some fn) (hb : fn.body = some c) (hn : 2 ≤ fn.ntmps)
    {S : List (Option Blk)} (hS : s0.map some = S) (h : AL Γ P fn.ntmps pin [c] (ECQ P fn p s1) ⟨tA [(0, a0), (1, a1)], tO S⟩) : EC Γ P f [a0, a1] s0 p s1 := ec_start pin hp hf hb hn (by rw [hS]; exact h)
theorem pure_start3 {f : FuncId} {fn : Func} {c : Code} {a0 a1 a2 : PV} {p : PV} (hf : P.funcs[f]? = some fn) (hb : fn.body = some c) (hn : 3 ≤ fn.ntmps)
    (h : AL Γ P fn.ntmps 0 [c] (PureQ Γ P fn p) ⟨tA [(0, a0), (1, a1), (2, a2)], tO []⟩) : Pure Γ P f [a0, a1, a2] p := pure_start hf hb hn h
theorem ec_start3 {f : FuncId} {fn : Func} {c : Code} {a0 a1 a2 : PV} {s0 : List Blk} {p : PV} {s1 : List (Option Blk)} (pin : Nat) (hp : s0.length = pin) (hf : P.funcs[f]? = some fn) (hb : fn.body = some c) (hn : 3 ≤ fn.ntmps)
    {S : List (Option Blk)} (hS : s0.map some = S) (h : AL Γ P fn.ntmps pin [c] (ECQ P fn p s1) ⟨tA [(0, a0), (1, a1), (2, a2)], tO S⟩) : EC Γ P f [a0, a1, a2] s0 p s1 := ec_start pin hp hf hb hn (by rw [hS]; exact h)
theorem pure_start4 {f : FuncId} {fn : Func} {c : Code} {a0 a1 a2 a3 : PV} {p : PV} (hf : P.funcs[f]? = some fn) (hb : fn.body = some c) (hn : 4 ≤ fn.ntmps)
    (h : AL Γ P fn.ntmps 0 [c] (PureQ Γ P fn p) ⟨tA [(0, a0), (1, a1), (2, a2), (3, a3)], tO []⟩) : Pure Γ P f [a0, a1, a2, a3] p := pure_start hf hb hn h
theorem ec_start4 {f : FuncId} {fn : Func} {c : Code} {a0 a1 a2 a3 : PV} {s0 : List Blk} {p : PV} {s1 : List (Option Blk)} (pin : Nat) (hp : s0.length = pin) (hf : P.funcs[f]? = some fn) (hb : fn.body = some c) (hn : 4 ≤ fn.ntmps)
    {S : List (Option Blk)} (hS : s0.map some = S) (h : AL Γ P fn.ntmps pin [c] (ECQ P fn p s1) ⟨tA [(0, a0), (1, a1), (2, a2), (3, a3)], tO S⟩) : EC Γ P f [a0, a1, a2, a3] s0 p s1 := ec_start pin hp hf hb hn (by rw [hS]; exact h)
theorem pure_start5 {f : FuncId} {fn : Func} {c : Code} {a0 a1 a2 a3 a4 : PV} {p : PV} (hf : P.funcs[f]? = some fn) (hb : fn.body = some c) (hn : 5 ≤ fn.ntmps)
    (h : AL Γ P fn.ntmps 0 [c] (PureQ Γ P fn p) ⟨tA [(0, a0), (1, a1), (2, a2), (3, a3), (4, a4)], tO []⟩) : Pure Γ P f [a0, a1, a2, a3, a4] p := pure_start hf hb hn h
theorem ec_start5 {f : FuncId} {fn : Func} {c : Code} {a0 a1 a2 a3 a4 : PV} {s0 : List Blk} {p : PV} {s1 : List (Option Blk)} (pin : Nat) (hp : s0.length = pin) (hf : P.funcs[f]? = some fn) (hb : fn.body = some c) (hn : 5 ≤ fn.ntmps)
    {S : List (Option Blk)} (hS : s0.map some = S) (h : AL Γ P fn.ntmps pin [c] (ECQ P fn p s1) ⟨tA [(0, a0), (1, a1), (2, a2), (3, a3), (4, a4)], tO S⟩) : EC Γ P f [a0, a1, a2, a3, a4] s0 p s1 := ec_start pin hp hf hb hn (by rw [hS]; exact h)
theorem pure_start6 {f : FuncId} {fn : Func} {c : Code} {a0 a1 a2 a3 a4 a5 : PV} {p : PV} (hf : P.funcs[f]? = some fn) (hb : fn.body = some c) (hn : 6 ≤ fn.ntmps)
    (h : AL Γ P fn.ntmps 0 [c] (PureQ Γ P fn p) ⟨tA [(0, a0), (1, a1), (2, a2), (3, a3), (4, a4), (5, a5)], tO []⟩) : Pure Γ P f [a0, a1, a2, a3, a4, a5] p := pure_start hf hb hn h
theorem ec_start6 {f : FuncId} {fn : Func} {c : Code} {a0 a1 a2 a3 a4 a5 : PV} {s0 : List Blk} {p : PV} {s1 : List (Option Blk)} (pin : Nat) (hp : s0.length = pin) (hf : P.funcs[f]? = some fn) (hb : fn.body = some c) (hn : 6 ≤ fn.ntmps)
    {S : List (Option Blk)} (hS : s0.map some = S) (h : AL Γ P fn.ntmps pin [c] (ECQ P fn p s1) ⟨tA [(0, a0), (1, a1), (2, a2), (3, a3), (4, a4), (5, a5)], tO S⟩) : EC Γ P f [a0, a1, a2, a3, a4, a5] s0 p s1 := ec_start pin hp hf hb hn (by rw [hS]; exact h)
theorem R1_n {ds : List (Option Tmp)} {o : Oper} {A : Nat → PV} {σ : Nat → Slot} {nx : Nat} {K : St → Nat → Prop} (ho : o.guard = none)
    (h : opK Γ P A σ nx o.op fun v _ wr nx' => K ⟨put A o.dst v, wrAll σ wr⟩ nx') : R1 Γ P ds o ⟨A, σ⟩ nx K := by
  unfold R1 wantedD; rw [ho]; exact h
theorem R1_g {ds : List (Option Tmp)} {o : Oper} {A : Nat → PV} {σ : Nat → Slot} {nx : Nat} {K : St → Nat → Prop} {j d : Nat} {w b : Bool} (ho : o.guard = some (j, w)) (hd : ds[j]? = some (some d)) (hA : A d = .v (.bool b))
    (h1 : b = w → opK Γ P A σ nx o.op fun v _ wr nx' => K ⟨put A o.dst v, wrAll σ wr⟩ nx') (h0 : b = !w → K ⟨put A o.dst pU, σ⟩ nx) : R1 Γ P ds o ⟨A, σ⟩ nx K := by
  unfold R1 wantedD; rw [ho]; simp only [hd, hA]
  cases b <;> cases w <;> simp_all
theorem L1_n {ds : List (Option Tmp)} {o : Oper} {A : Nat → PV} {σ : Nat → Slot} {nx : Nat} {log : List (List Nat × List Nat)} {K : St → Nat → List (List Nat × List Nat) → Prop} (ho : o.guard = none)
    (h : opK Γ P A σ nx o.op fun v rd wr nx' => K ⟨put A o.dst v, wrAll σ wr⟩ nx' ((rd, wr.map (·.1)) :: log)) : L1 Γ P ds o ⟨A, σ⟩ nx log K := by
  unfold L1 wantedD; rw [ho]; exact h
theorem L1_g {ds : List (Option Tmp)} {o : Oper} {A : Nat → PV} {σ : Nat → Slot} {nx : Nat} {log : List (List Nat × List Nat)} {K : St → Nat → List (List Nat × List Nat) → Prop} {j d : Nat} {w b : Bool} (ho : o.guard = some (j, w)) (hd : ds[j]? = some (some d)) (hA : A d = .v (.bool b))
    (h1 : b = w → opK Γ P A σ nx o.op fun v rd wr nx' => K ⟨put A o.dst v, wrAll σ wr⟩ nx' ((rd, wr.map (·.1)) :: log)) (h0 : b = !w → K ⟨put A o.dst pU, σ⟩ nx (([], []) :: log)) : L1 Γ P ds o ⟨A, σ⟩ nx log K := by
  unfold L1 wantedD; rw [ho]; simp only [hd, hA]
  cases b <;> cases w <;> simp_all
theorem AL_condb {c : Operand} {x y : Code} {b : Bool} (hc : ev st.a c = .v (.bool b)) (ht : b = true → AL Γ P N pin (x :: r) Q st) (hf : b = false → AL Γ P N pin (y :: r) Q st) : AL Γ P N pin (.cond c x y :: r) Q st :=
  AL_cond hc ht hf
section
variable {ds : List (Option Tmp)} {o : Oper} {l : List (Nat × PV)} {σ : Nat → Slot} {nx : Nat} {log : List (List Nat × List Nat)} {K : St → Nat → Prop} {KL : St → Nat → List (List Nat × List Nat) → Prop} {j d e : Nat} {w b : Bool}
theorem R1_gt (ho : o.guard = some (j, w)) (hd : ds[j]? = some (some d)) (hA : tA l d = .v (.bool b)) (hb : b = w)
    (h : opK Γ P (tA l) σ nx o.op fun v _ wr nx' => K ⟨put (tA l) o.dst v, wrAll σ wr⟩ nx') : R1 Γ P ds o ⟨tA l, σ⟩ nx K := R1_g ho hd hA (fun _ => h) fun h' => by subst hb; cases b <;> cases h'
theorem R1_gf (ho : o.guard = some (j, true)) (hd : ds[j]? = some (some d)) (hA : tA l d = .v (.bool b)) (hb : b = false) (he : o.dst = some e)
    (h : K ⟨tA ((e, pU) :: l), σ⟩ nx) : R1 Γ P ds o ⟨tA l, σ⟩ nx K := R1_g ho hd hA (fun h' => by subst hb; cases h') fun _ => by rw [he]; exact h
theorem R1_gf' (ho : o.guard = some (j, false)) (hd : ds[j]? = some (some d)) (hA : tA l d = .v (.bool b)) (hb : b = true) (he : o.dst = some e)
    (h : K ⟨tA ((e, pU) :: l), σ⟩ nx) : R1 Γ P ds o ⟨tA l, σ⟩ nx K := R1_g ho hd hA (fun h' => by subst hb; cases h') fun _ => by rw [he]; exact h
theorem R1_gu {ys : Array Value} (ho : o.guard = some (j, w)) (hd : ds[j]? = some (some d)) (hA : tA l d = .v (.tuple ys)) (he : o.dst = some e)
    (h : K ⟨tA ((e, pU) :: l), σ⟩ nx) : R1 Γ P ds o ⟨tA l, σ⟩ nx K := by
  unfold R1 wantedD; rw [ho]; simp only [hd, hA, he]; exact h
theorem L1_gu {ys : Array Value} (ho : o.guard = some (j, w)) (hd : ds[j]? = some (some d)) (hA : tA l d = .v (.tuple ys)) (he : o.dst = some e)
    (h : KL ⟨tA ((e, pU) :: l), σ⟩ nx (([], []) :: log)) : L1 Γ P ds o ⟨tA l, σ⟩ nx log KL := by
  unfold L1 wantedD; rw [ho]; simp only [hd, hA, he]; exact h
theorem L1_gt (ho : o.guard = some (j, w)) (hd : ds[j]? = some (some d)) (hA : tA l d = .v (.bool b)) (hb : b = w)
    (h : opK Γ P (tA l) σ nx o.op fun v rd wr nx' => KL ⟨put (tA l) o.dst v, wrAll σ wr⟩ nx' ((rd, wr.map (·.1)) :: log)) : L1 Γ P ds o ⟨tA l, σ⟩ nx log KL := L1_g ho hd hA (fun _ => h) fun h' => by subst hb; cases b <;> cases h'
theorem L1_gf (ho : o.guard = some (j, true)) (hd : ds[j]? = some (some d)) (hA : tA l d = .v (.bool b)) (hb : b = false) (he : o.dst = some e)
    (h : KL ⟨tA ((e, pU) :: l), σ⟩ nx (([], []) :: log)) : L1 Γ P ds o ⟨tA l, σ⟩ nx log KL := L1_g ho hd hA (fun h' => by subst hb; cases h') fun _ => by rw [he]; exact h
theorem L1_gf' (ho : o.guard = some (j, false)) (hd : ds[j]? = some (some d)) (hA : tA l d = .v (.bool b)) (hb : b = true) (he : o.dst = some e)
    (h : KL ⟨tA ((e, pU) :: l), σ⟩ nx (([], []) :: log)) : L1 Γ P ds o ⟨tA l, σ⟩ nx log KL := L1_g ho hd hA (fun h' => by subst hb; cases h') fun _ => by rw [he]; exact h
theorem AL_cond_t' {c : Operand} {x y : Code} (hc : ev st.a c = .v (.bool b)) (hb : b = true) (h : AL Γ P N pin (x :: r) Q st) : AL Γ P N pin (.cond c x y :: r) Q st := AL_cond_t (by rw [hc, hb]) h
theorem AL_cond_f' {c : Operand} {x y : Code} (hc : ev st.a c = .v (.bool b)) (hb : b = false) (h : AL Γ P N pin (y :: r) Q st) : AL Γ P N pin (.cond c x y :: r) Q st := AL_cond_f (by rw [hc, hb]) h
end
end Go.Am
/- The library's contracts on rows of whole numbers, over blocks of the call's own; nil handed back as data. -/
namespace Go.Am
variable {Γ : Nat → Option Obj} {P : Program} {N pin : Nat} {r : List Code} {Q : Exit → St → Prop} {st : St}

theorem grow_ext (w : World) (n : Nat) (os : Array Obj) : Ext w (fun _ => False) (Sort.grow (Sort.ahead w n) os) (fun _ => False) := by
  have h : ∀ k, k < w.heap.size → (Sort.grow (Sort.ahead w n) os).heap[k]? = w.heap[k]? := fun k hk => Sort.heap_grow_old (Sort.ahead w n) os hk
  exact ⟨by rw [Sort.size_grow]; exact Nat.le_add_right _ _, fun b hb _ => ⟨h b hb, fun h => h⟩, fun b hb => by simp only [World.shape?, h b hb], rfl, rfl⟩

theorem iRows_get {l : List Int} {i j : Nat} {row : List PV} {p : PV} (h1 : (iRows l)[i]? = some row) (h2 : row[j]? = some p) : j = 0 ∧ ∃ h : i < l.length, p = pI l[i] := by
  simp only [iRows, List.getElem?_map, Option.map_eq_some_iff] at h1
  obtain ⟨n, hn, rfl⟩ := h1
  obtain ⟨hi, rfl⟩ := List.getElem?_eq_some_iff.1 hn
  cases j with
  | zero => simp at h2; exact ⟨rfl, hi, h2.symm⟩
  | succ j => simp at h2

theorem putRow_setBlk {w : World} {b ty : Nat} {c : Array Value} {fr : Nat × Nat} (h : w.heap[b]? = some (.cells c ty fr)) (d : Array Int) :
    Sort.putRow (Value.int .i64) w b 0 d = setBlk w b (.cells (Sort.putCells (Value.int .i64) 0 d c) ty fr) := by
  have hlt := lt_of_heap h
  unfold Sort.putRow Sort.mapBlock setBlk
  congr 1
  apply Array.ext_getElem?
  intro k
  rw [Array.getElem?_modify]
  by_cases hk : b = k
  · subst hk
    rw [h]; simp [hlt, Sort.onCells]
  · simp [hk]

/-- A row of whole numbers in a block of one's own is turned into another one of the same length. -/
theorem srel_ints {F : Nat → Prop} {μ : Nat → Mu} {σ : Nat → Slot} {w : World} (h : SRel Γ F w μ σ) {t b : Nat} {l m : List Int} (ht : σ t = .live (.rows 1 (iRows l))) (hm : μ t = .at b) (hl : m.length = l.length) :
    SRel Γ F (Sort.putRow (Value.int .i64) w b 0 m.toArray) μ (upd σ t (.live (.rows 1 (iRows m)))) ∧
      Ext w (Own μ σ) (Sort.putRow (Value.int .i64) w b 0 m.toArray) (Own μ (upd σ t (.live (.rows 1 (iRows m))))) := by
  have hB := h.live t _ ht
  rw [hm] at hB
  obtain ⟨c, ty, lo, hi, e1, e2, e3, e4, e5⟩ := hB
  have e3' : m.length ≤ c.size := by simpa [hl] using e3
  rw [putRow_setBlk e1]
  refine srel_set h ht hm (by simp [World.shape?, setBlk_same (lt_of_heap e1), e1, Sort.putCells]) ⟨_, ty, lo, hi, setBlk_same (lt_of_heap e1), e2, by simpa [Sort.putCells] using e3', ?_, ?_⟩
  · intro r hr
    obtain ⟨n, _, rfl⟩ := List.mem_map.1 hr
    rfl
  · intro i r j p g1 g2
    obtain ⟨rfl, hi', rfl⟩ := iRows_get g1 g2
    refine ⟨.int .i64 m[i], ?_, .pure (.v _)⟩
    simp only [Sort.putCells, Array.getElem?_mapIdx]
    rw [show i * 1 + 0 = i from by omega]
    simp [show i < c.size from by omega, hi']

theorem holds_ints {F : Nat → Prop} {μ : Nat → Mu} {σ : Nat → Slot} {w : World} (h : SRel Γ F w μ σ) {t b : Nat} {l : List Int} (ht : σ t = .live (.rows 1 (iRows l))) (hm : μ t = .at b) :
    Sort.Holds (Value.int .i64) w b 0 l.toArray ∧ b < w.heap.size := by
  have hB := h.live t _ ht
  rw [hm] at hB
  obtain ⟨c, ty, lo, hi, e1, e2, e3, e4, e5⟩ := hB
  refine ⟨fun j hj => ?_, lt_of_heap e1⟩
  have hj' : j < l.length := by simpa using hj
  obtain ⟨y, y1, y2⟩ := e5 j [pI l[j]] 0 (pI l[j]) (row_get hj') rfl
  have hy := y2.of_v
  subst hy
  rw [show j * 1 + 0 = j from by omega] at y1
  constructor
  · simp [World.cell?, e1, y1, hj']
  · simp only [World.frozen?, e1]; simp; omega

theorem os_slice {w : World} {O : Nat → Prop} {μ : Nat → Mu} {sz t n : Nat} {y : Value} (h : Rep w O μ (.os sz t 0 n) y) :
    (∃ b cap, μ t = .at b ∧ y = .slice (some ⟨b, 0, none⟩) n cap ∧ n ≤ cap ∧ n ≤ 140737488355328) ∨ (μ t = .ph ∧ n = 0 ∧ ∃ a, y = .slice a 0 0) := by
  cases h with
  | pure h => cases h
  | os _ _ _ _ b cap h hn hlen _ => exact .inl ⟨b, cap, h, by simp, hn, hlen⟩
  | ph _ _ a h => exact .inr ⟨h, rfl, a, rfl⟩

theorem os_shape {w : World} {O : Nat → Prop} {μ : Nat → Mu} {sz t n b cap : Nat} (h : Rep w O μ (.os sz t 0 n) (.slice (some ⟨b, 0, none⟩) n cap)) (hm : μ t = .at b) : ∃ ty m, w.shape? b = some (ty, m) ∧ (0 + cap) * sz ≤ m := by
  generalize hy : (Value.slice (some ⟨b, 0, none⟩) n cap) = y at h
  cases h with
  | pure h => cases h
  | os _ _ _ _ b' cap' h' _ _ hs' => rw [hm] at h'; cases h'; injection hy with q1 q2 q3; subst q3; exact hs'
  | ph _ _ a h' => rw [hm] at h'; cases h'
theorem ec_args1 {w : World} {O : Nat → Prop} {μ : Nat → Mu} {p : PV} {cargs : Array Value} (ha : Reps w O μ [p] cargs.toList) : ∃ y, cargs = #[y] ∧ Rep w O μ p y := by
  obtain ⟨l⟩ := cargs
  match l, ha with
  | [], h => exact absurd h.1 (by simp)
  | [y], h => exact ⟨y, rfl, h.of_cons.1⟩
  | _ :: _ :: _, h => exact absurd h.1 (by simp)

theorem ofB_one (B : Blk) : ofB [B] = tO [some B] := by
  funext n; cases n <;> simp [ofB, tO, ofO]
theorem own_pin {μ : Nat → Mu} (k : Nat) : ∀ t, t < k → μ t ≠ .no → μ t = μ t := fun _ _ _ => rfl

theorem ec_sort {f : FuncId} (h1 : ∀ (blk off cap : Nat) (zs : List Int) (w : World), Sort.Holds (Value.int .i64) w blk off zs.toArray → blk < w.heap.size → zs.length < 4611686018427387904 →
      Calls P f #[.slice (some ⟨blk, off, none⟩) zs.length cap] w fun e w' => e = .returned (.tuple #[]) ∧ ∃ n os, w' = Sort.grow (Sort.putRow (Value.int .i64) (Sort.ahead w n) blk off (zs.mergeSort fun x y => decide (x ≤ y)).toArray) os)
    (h0 : ∀ (p : Option Addr) (cap : Nat) (w : World), Calls P f #[.slice p 0 cap] w fun e w' => e = .returned (.tuple #[]) ∧ w' = w) (l : List Int) :
    EC Γ P f [.os 1 0 0 l.length] [.rows 1 (iRows l)] (.tup []) [some (.rows 1 (iRows (l.mergeSort fun x y => decide (x ≤ y))))] := by
  intro F μ w cargs hs ha
  obtain ⟨y, rfl, hy⟩ := ec_args1 ha
  have h00 : ofB [Blk.rows 1 (iRows l)] 0 = .live (.rows 1 (iRows l)) := rfl
  rcases os_slice hy with ⟨b, cap, hm, rfl, hn, hlen⟩ | ⟨hm, hl, a, rfl⟩
  · obtain ⟨hH, hb⟩ := holds_ints hs h00 hm
    refine (h1 b 0 cap l w hH hb (by omega)).mono ?_
    rintro e w' ⟨rfl, n, os, rfl⟩
    have hlen' : (l.mergeSort fun x y => decide (x ≤ y)).length = l.length := List.length_mergeSort l
    obtain ⟨k1, k2⟩ := srel_ints hs h00 hm hlen'
    have hσ : upd (ofB [Blk.rows 1 (iRows l)]) 0 (.live (.rows 1 (iRows (l.mergeSort fun x y => decide (x ≤ y))))) = ofO [some (.rows 1 (iRows (l.mergeSort fun x y => decide (x ≤ y))))] := by
      rw [ofB_one, upd_tO_live]; rfl
    rw [hσ] at k1 k2
    have hx := grow_ext (Sort.putRow (Value.int .i64) w b 0 (l.mergeSort fun x y => decide (x ≤ y)).toArray) n os
    exact ⟨_, μ, rfl, k1.out hx, .pure (.tup [] #[] rfl fun i p y h => by simp at h), k2.trans hx.anyO, own_pin _⟩
  · have hl' : l = [] := List.length_eq_zero_iff.1 hl
    subst hl'
    refine (h0 a 0 w).mono ?_
    rintro e w' ⟨rfl, rfl⟩
    have hσ : ofB [Blk.rows 1 (iRows [])] = ofO [some (Blk.rows 1 (iRows (([] : List Int).mergeSort fun x y => decide (x ≤ y))))] := by rw [ofB_one]; simp [tO]
    rw [← hσ]
    exact ⟨_, μ, rfl, hs, .pure (.tup [] #[] rfl fun i p y h => by simp at h), Ext.refl _ _, own_pin _⟩

theorem compact_le (l : List Int) : (Lib.compact l).length ≤ l.length := by
  unfold Lib.compact Lib.compactUpTo
  rw [List.length_map]
  exact Nat.le_trans (List.length_filter_le _ _) (by simp)

theorem ec_compact {f : FuncId} (h1 : ∀ (blk off cap : Nat) (zs : List Int) (w : World), Sort.Holds (Value.int .i64) w blk off zs.toArray → zs.length ≤ 9223372036854775807 → zs.length ≤ cap →
      Calls P f #[.slice (some ⟨blk, off, none⟩) zs.length cap] w fun e w' => e = .returned (.slice (some ⟨blk, off, none⟩) (Lib.compact zs).length cap) ∧
        ∃ q, w' = Sort.putRow (Value.int .i64) (Sort.ahead w q) blk off (Lib.compact zs ++ List.replicate (zs.length - (Lib.compact zs).length) 0).toArray)
    (h0 : ∀ (p : Option Addr) (cap : Nat) (w : World), Calls P f #[.slice p 0 cap] w fun e w' => e = .returned (.slice p 0 cap) ∧ w' = w) (l : List Int) :
    EC Γ P f [.os 1 0 0 l.length] [.rows 1 (iRows l)] (.os 1 0 0 (Lib.compact l).length) [some (.rows 1 (iRows (Lib.compact l ++ List.replicate (l.length - (Lib.compact l).length) 0)))] := by
  intro F μ w cargs hs ha
  obtain ⟨y, rfl, hy⟩ := ec_args1 ha
  have h00 : ofB [Blk.rows 1 (iRows l)] 0 = .live (.rows 1 (iRows l)) := rfl
  have hle := compact_le l
  rcases os_slice hy with ⟨b, cap, hm, rfl, hn, hlen⟩ | ⟨hm, hl, a, rfl⟩
  · obtain ⟨hH, hb⟩ := holds_ints hs h00 hm
    have hshape : ∃ ty m, w.shape? b = some (ty, m) ∧ (0 + cap) * 1 ≤ m := os_shape hy hm
    refine (h1 b 0 cap l w hH (by omega) hn).mono ?_
    rintro e w' ⟨rfl, q, rfl⟩
    obtain ⟨k1, k2⟩ := srel_ints hs h00 hm (m := Lib.compact l ++ List.replicate (l.length - (Lib.compact l).length) 0) (by simp; omega)
    have hσ : upd (ofB [Blk.rows 1 (iRows l)]) 0 (.live (.rows 1 (iRows (Lib.compact l ++ List.replicate (l.length - (Lib.compact l).length) 0)))) = ofO [some (.rows 1 (iRows (Lib.compact l ++ List.replicate (l.length - (Lib.compact l).length) 0)))] := by
      rw [ofB_one, upd_tO_live]; rfl
    rw [hσ] at k1 k2
    have hx := grow_ext (Sort.putRow (Value.int .i64) w b 0 (Lib.compact l ++ List.replicate (l.length - (Lib.compact l).length) 0).toArray) q #[]
    rw [Sort.grow_empty] at hx
    refine ⟨_, μ, rfl, k1.out hx, ?_, k2.trans hx.anyO, own_pin _⟩
    have : (⟨b, 0, none⟩ : Addr) = ⟨b, 0 * 1, none⟩ := by simp
    rw [this]
    refine .os 1 0 0 _ b cap hm (by omega) (by omega) ?_
    obtain ⟨ty, m, s1, s2⟩ := hshape
    exact ⟨ty, m, ((k2.trans hx.anyO).shape b hb).trans s1, s2⟩
  · have hl' : l = [] := List.length_eq_zero_iff.1 hl
    subst hl'
    refine (h0 a 0 w).mono ?_
    rintro e w' ⟨rfl, rfl⟩
    have hc : Lib.compact ([] : List Int) = [] := rfl
    simp only [hc, List.length_nil, Nat.sub_self, List.replicate_zero, List.append_nil]
    have hσ : ofB [Blk.rows 1 (iRows [])] = ofO [some (Blk.rows 1 (iRows []))] := by rw [ofB_one]; rfl
    rw [← hσ]
    exact ⟨_, μ, rfl, hs, .ph 1 0 a hm, Ext.refl _ _, own_pin _⟩

/-- A nil handed back where a row of a known length is told. -/
theorem prep_nil {w : World} {O : Nat → Prop} {y : Value} (h : PRep w O (.sl true []) y) : PRep w O (.sl false []) y := by
  cases h with
  | nil _ a cap _ => exact .nil false a cap fun h => by cases h
  | sl _ _ sz b off cap vs h1 h2 h3 h4 h5 h6 h7 h8 => exact .sl false [] sz b off cap vs h1 h2 h3 (fun h => by cases h) h5 h6 h7 h8
theorem prep_loose {w : World} {O : Nat → Prop} {rows : List (List PV)} {y : Value} (h : PRep w O (.sl true rows) y) : PRep w O (.sl false rows) y := by
  cases h with
  | nil _ a cap _ => exact .nil false a cap fun h => by cases h
  | sl _ _ sz b off cap vs h1 h2 h3 h4 h5 h6 h7 h8 => exact .sl false rows sz b off cap vs h1 h2 h3 (fun h => by cases h) h5 h6 h7 h8
theorem PureQ_nil {fn : Func} (h : resP P fn st = some (.sl true [])) : PureQ Γ P fn (.sl false []) .ret st :=
  ⟨.inr rfl, _, resA_of h, fun _ _ _ _ _ hr => prep_nil ((hr.isP rfl).weaken fun _ hb => .inl hb)⟩
theorem PureQ_loose {fn : Func} {rows : List (List PV)} (h : resP P fn st = some (.sl true rows)) (hp : isP (.sl true rows) = true) : PureQ Γ P fn (.sl false rows) .ret st :=
  ⟨.inr rfl, _, resA_of h, fun _ _ _ _ _ hr => prep_loose ((hr.isP hp).weaken fun _ hb => .inl hb)⟩
/-- nil taken as a block of no rows, at the end of the list of blocks. -/
theorem weak_nil {pin : Nat} {A : List (Nat × PV)} {S : List (Option Blk)} (k sz : Nat) (hk : tA A k = .sl true []) :
    Weak Γ pin ⟨tA A, tO S⟩ ⟨tA ((k, .os sz S.length 0 0) :: A), tO (S ++ [some (.rows sz [])])⟩ := by
  have h := weak_adopt (Γ := Γ) (pin := pin) (A := tA A) (σ := tO S) k sz S.length hk (by simp [tO, ofO])
  rw [upd_tA] at h
  have e : upd (tO S) S.length (.live (.rows sz [])) = tO (S ++ [some (.rows sz [])]) := by
    clear h hk
    induction S with
    | nil => exact upd_tO_nil
    | cons x S ih => rw [List.length_cons, upd_tO_succ, ih, consO_tO]; rfl
  rw [e] at h
  exact h

theorem iRows_lens {l : List Int} : (∀ r ∈ iRows l, r.length = 1) = True := by
  simp only [eq_iff_iff, iff_true]
  intro r hr
  obtain ⟨n, _, rfl⟩ := List.mem_map.1 hr
  rfl
theorem iRows_cell {l : List Int} : ((iRows l).all fun r => r.all cellP) = true := by
  rw [List.all_eq_true]
  intro r hr
  obtain ⟨n, _, rfl⟩ := List.mem_map.1 hr
  rfl
theorem iRows_isP {l : List Int} : (iRows l).all isPL = true := by
  rw [List.all_eq_true]
  intro r hr
  obtain ⟨n, _, rfl⟩ := List.mem_map.1 hr
  rfl
theorem iRows_app {l m : List Int} : iRows l ++ iRows m = iRows (l ++ m) := by simp [iRows]
theorem iRows_app1 {l : List Int} {n : Int} : iRows l ++ [[pI n]] = iRows (l ++ [n]) := by simp [iRows]
theorem iRows_take {l : List Int} {n : Nat} : List.take n (iRows l) = iRows (l.take n) := by simp [iRows, List.map_take]
theorem iRows_nil : iRows [] = [] := rfl
theorem iRows_ren {l : List Int} {f : Nat → Nat} : List.map (renL f) (iRows l) = iRows l := by
  simp only [iRows, List.map_map]; rfl
attribute [go_sem] iRows_ren
attribute [go_sem] iRows_lens iRows_cell iRows_isP List.take_length

theorem AL_nil (h : Q .normal st) : AL Γ P N pin [] Q st := h
theorem SeqQ_n {K : St → Prop} (h : K st) : SeqQ K Q .normal st := h
theorem BlockQ_n {id : Nat} (h : Q .normal st) : BlockQ id Q .normal st := h

theorem preps_set {w : World} {F : Nat → Prop} {l l' : List PV} {ys : List Value} (hl : l.length = l'.length) (h : ∀ (i : Nat) p p' y, l[i]? = some p → l'[i]? = some p' → PRep w F p y → PRep w F p' y) (hp : PReps w F l ys) : PReps w F l' ys :=
  ⟨by rw [← hl]; exact hp.1, fun i p' y h1 h2 => by
    have hi : i < l.length := by rw [hl]; exact (List.getElem?_eq_some_iff.1 h1).1
    exact h i l[i] p' y (by simp [hi]) h1 (hp.2 i l[i] y (by simp [hi]) h2)⟩
/-- What is told of a row is less where its spare room is not told. -/
theorem Pure.loose {f : FuncId} {rows : List (List PV)} {p : PV} {l1 l2 : List PV} (h : Pure Γ P f (l1 ++ .sl false rows :: l2) p) : Pure Γ P f (l1 ++ .sl true rows :: l2) p := by
  intro F w cargs hfr ha
  refine h F w cargs hfr (preps_set (by simp) (fun i q q' y g1 g2 hq => ?_) ha)
  rcases Nat.lt_or_ge i l1.length with hi | hi
  · rw [List.getElem?_append_left hi] at g1 g2
    rw [g1] at g2; cases g2; exact hq
  · rw [List.getElem?_append_right hi] at g1 g2
    generalize i - l1.length = k at g1 g2
    cases k with
    | zero => simp at g1 g2; subst g1 g2; exact prep_loose hq
    | succ k => simp at g1 g2; rw [g1] at g2; cases g2; exact hq
theorem Pure.loose1 {f : FuncId} {rows : List (List PV)} {p : PV} {l2 : List PV} (h : Pure Γ P f (.sl false rows :: l2) p) : Pure Γ P f (.sl true rows :: l2) p := Pure.loose (l1 := []) h
theorem Pure.loose2 {f : FuncId} {a : PV} {rows : List (List PV)} {p : PV} {l2 : List PV} (h : Pure Γ P f (a :: .sl false rows :: l2) p) : Pure Γ P f (a :: .sl true rows :: l2) p := Pure.loose (l1 := [a]) h

theorem okI_isP : ∀ (p : PV) (k : Nat), isP p = true → okI k p = true := by
  refine @PV.rec (fun p => ∀ k, isP p = true → okI k p = true) (fun l => ∀ k, isPL l = true → okL k l = true) (fun _ => True) ?_ ?_ ?_ ?_ ?_ ?_ ?_ ?_ ?_ ?_ ?_ ?_ ?_ ?_ ?_ ?_
  · intros; rfl
  · intro cs ih k h; simp only [isP] at h; simp only [okI]; exact ih k h
  · intro cs ih k h; simp only [isP] at h; simp only [okI]; exact ih k h
  · intros; rfl
  · intros; rfl
  · intro sz t i off k h; simp [isP] at h
  · intro sz t i n k h; simp [isP] at h
  · intro sz t i off n k h; simp [isP] at h
  · intro f a b ih1 ih2 k h; simp only [isP, Bool.and_eq_true] at h; simp only [okI, Bool.and_eq_true]; exact ⟨ih1 k h.1, ih2 k h.2⟩
  · intro ty x ih k h; simp only [isP] at h; simp only [okI]; exact ih k h
  · intro t k h; simp [isP] at h
  · intro k h; simp [isP] at h
  · intros; rfl
  · intro x xs ih1 ih2 k h; simp only [isPL, Bool.and_eq_true] at h; simp only [okL, Bool.and_eq_true]; exact ⟨ih1 k h.1, ih2 k h.2⟩
  · trivial
  · intros; trivial
theorem okL_isP {l : List PV} {k : Nat} (h : isPL l = true) : okL k l = true := by
  rw [okL_eq, List.all_eq_true]
  rw [isPL_eq, List.all_eq_true] at h
  exact fun p hp => okI_isP p k (h p hp)
theorem ren_isP (f : Nat → Nat) : ∀ (p : PV), isP p = true → ren f p = p := by
  refine @PV.rec (fun p => isP p = true → ren f p = p) (fun l => isPL l = true → renL f l = l) (fun _ => True) ?_ ?_ ?_ ?_ ?_ ?_ ?_ ?_ ?_ ?_ ?_ ?_ ?_ ?_ ?_ ?_
  · intros; rfl
  · intro cs ih h; simp only [isP] at h; simp only [ren, ih h]
  · intro cs ih h; simp only [isP] at h; simp only [ren, ih h]
  · intros; rfl
  · intros; rfl
  · intro sz t i off h; simp [isP] at h
  · intro sz t i n h; simp [isP] at h
  · intro sz t i off n h; simp [isP] at h
  · intro g a b ih1 ih2 h; simp only [isP, Bool.and_eq_true] at h; simp only [ren, ih1 h.1, ih2 h.2]
  · intro ty x ih h; simp only [isP] at h; simp only [ren, ih h]
  · intro t h; simp [isP] at h
  · intro h; simp [isP] at h
  · intros; rfl
  · intro x xs ih1 ih2 h; simp only [isPL, Bool.and_eq_true] at h; simp only [renL, ih1 h.1, ih2 h.2]
  · trivial
  · intros; trivial
theorem renL_isP {f : Nat → Nat} {l : List PV} (h : isPL l = true) : renL f l = l := by
  rw [renL_eq]
  rw [isPL_eq, List.all_eq_true] at h
  exact (List.map_congr_left (g := id) fun p hp => ren_isP f p (h p hp)).trans (List.map_id l)
end Go.Am
/- A row that is told less of: how many cells its slice may grow over. -/
namespace Go.Am
variable {Γ : Nat → Option Obj} {P : Program} {st : St}
mutual
def loosen : PV → PV
  | .agg cs => .agg (loosenL cs)
  | .tup cs => .tup (loosenL cs)
  | .sl _ rows => .sl false rows
  | .ifc ty x => .ifc ty (loosen x)
  | .v x => .v x
  | .ip cs => .ip cs
  | .fn f a b => .fn f a b
  | .op a b c d => .op a b c d
  | .os a b c d => .os a b c d
  | .oa a b c d e => .oa a b c d e
  | .om t => .om t
  | .any => .any
def loosenL : List PV → List PV
  | [] => []
  | x :: xs => loosen x :: loosenL xs
end
theorem loosenL_eq (l : List PV) : loosenL l = l.map loosen := by
  induction l with
  | nil => rfl
  | cons x xs ih => simp [loosenL, ih]
theorem PRep.loosen {w : World} {O : Nat → Prop} {p : PV} {y : Value} (h : PRep w O p y) : PRep w O (Am.loosen p) y := by
  induction h with
  | v x => exact .v x
  | agg cs ys hl _ ih =>
    simp only [Am.loosen, loosenL_eq]
    exact .agg _ ys (by simpa using hl) fun i p y h1 h2 => by
      simp only [List.getElem?_map, Option.map_eq_some_iff] at h1
      obtain ⟨q, hq, rfl⟩ := h1
      exact ih i q y hq h2
  | tup cs ys hl _ ih =>
    simp only [Am.loosen, loosenL_eq]
    exact .tup _ ys (by simpa using hl) fun i p y h1 h2 => by
      simp only [List.getElem?_map, Option.map_eq_some_iff] at h1
      obtain ⟨q, hq, rfl⟩ := h1
      exact ih i q y hq h2
  | nil full a cap hf => exact .nil false a cap fun h => by cases h
  | sl full rows sz b off cap vs h1 h2 h3 h4 h5 h6 h7 h8 _ => exact .sl false rows sz b off cap vs h1 h2 h3 (fun h => by cases h) h5 h6 h7 h8
  | ip cs b off vs h1 h2 h3 h4 _ => exact .ip cs b off vs h1 h2 h3 h4
  | fn f first caps xs ys hl hl' h h' _ _ => exact .fn f first caps xs ys hl hl' h h'
  | ifc ty p y _ ih => exact .ifc ty _ y ih
theorem PureQ_lo {fn : Func} {p q : PV} (h : resP P fn st = some p) (hp : isP p = true) (hq : loosen p = q) : PureQ Γ P fn q .ret st :=
  ⟨.inr rfl, _, resA_of h, fun _ _ _ _ _ hr => by subst hq; exact ((hr.isP hp).weaken fun _ hb => .inl hb).loosen⟩
/-! ### All the way down -/
mutual
def loosenD : PV → PV
  | .agg cs => .agg (loosenDL cs)
  | .tup cs => .tup (loosenDL cs)
  | .sl _ rows => .sl false (loosenDR rows)
  | .ifc ty x => .ifc ty (loosenD x)
  | .v x => .v x
  | .ip cs => .ip cs
  | .fn f a b => .fn f a b
  | .op a b c d => .op a b c d
  | .os a b c d => .os a b c d
  | .oa a b c d e => .oa a b c d e
  | .om t => .om t
  | .any => .any
def loosenDL : List PV → List PV
  | [] => []
  | x :: xs => loosenD x :: loosenDL xs
def loosenDR : List (List PV) → List (List PV)
  | [] => []
  | x :: xs => loosenDL x :: loosenDR xs
end
theorem loosenDL_eq (l : List PV) : loosenDL l = l.map loosenD := by
  induction l with
  | nil => rfl
  | cons x xs ih => simp [loosenDL, ih]
theorem loosenDR_eq (l : List (List PV)) : loosenDR l = l.map fun r => r.map loosenD := by
  induction l with
  | nil => rfl
  | cons x xs ih => simp [loosenDR, loosenDL_eq, ih]
theorem PRep.loosenD {w : World} {O : Nat → Prop} {p : PV} {y : Value} (h : PRep w O p y) : PRep w O (Am.loosenD p) y := by
  induction h with
  | v x => exact .v x
  | agg cs ys hl _ ih =>
    simp only [Am.loosenD, loosenDL_eq]
    exact .agg _ ys (by simpa using hl) fun i p y h1 h2 => by
      simp only [List.getElem?_map, Option.map_eq_some_iff] at h1
      obtain ⟨q, hq, rfl⟩ := h1
      exact ih i q y hq h2
  | tup cs ys hl _ ih =>
    simp only [Am.loosenD, loosenDL_eq]
    exact .tup _ ys (by simpa using hl) fun i p y h1 h2 => by
      simp only [List.getElem?_map, Option.map_eq_some_iff] at h1
      obtain ⟨q, hq, rfl⟩ := h1
      exact ih i q y hq h2
  | nil full a cap hf => exact .nil false a cap fun h => by cases h
  | sl full rows sz b off cap vs h1 h2 h3 h4 h5 h6 h7 h8 ih =>
    simp only [Am.loosenD, loosenDR_eq]
    have hl : (rows.map fun r => r.map Am.loosenD).length = rows.length := by simp
    rw [← hl]
    refine .sl false _ sz b off cap vs (fun r hr => ?_) (by simpa using h2) (by simpa using h3) (fun h => by cases h) h5 h6 (fun i r j p g1 g2 => ?_) (fun i r j p g1 g2 => ?_)
    · obtain ⟨r', hr', rfl⟩ := List.mem_map.1 hr
      simpa using h1 r' hr'
    · simp only [List.getElem?_map, Option.map_eq_some_iff] at g1
      obtain ⟨r', hr', rfl⟩ := g1
      simp only [List.getElem?_map, Option.map_eq_some_iff] at g2
      obtain ⟨q, hq, rfl⟩ := g2
      exact h7 i r' j q hr' hq
    · simp only [List.getElem?_map, Option.map_eq_some_iff] at g1
      obtain ⟨r', hr', rfl⟩ := g1
      simp only [List.getElem?_map, Option.map_eq_some_iff] at g2
      obtain ⟨q, hq, rfl⟩ := g2
      exact ih i r' j q hr' hq
  | ip cs b off vs h1 h2 h3 h4 _ => exact .ip cs b off vs h1 h2 h3 h4
  | fn f first caps xs ys hl hl' h h' _ _ => exact .fn f first caps xs ys hl hl' h h'
  | ifc ty p y _ ih => exact .ifc ty _ y ih
theorem Pure.lo {f : FuncId} {args args' : List PV} {r : PV} (h : Pure Γ P f args r) (e : loosenDL args' = args) : Pure Γ P f args' r := by
  subst e
  intro F w cargs hf ha
  refine h F w cargs hf ⟨by rw [loosenDL_eq, List.length_map]; exact ha.1, fun i p y g1 g2 => ?_⟩
  rw [loosenDL_eq, List.getElem?_map, Option.map_eq_some_iff] at g1
  obtain ⟨q, hq, rfl⟩ := g1
  exact (ha.2 i q y hq g2).loosenD
/-! ### Told again at the end -/
def WQ (Γ : Nat → Option Obj) (pin : Nat) (Q : Exit → St → Prop) (e : Exit) (st : St) : Prop := ∃ st2, Weak Γ pin st st2 ∧ Q e st2
theorem AW_wq {N pin : Nat} {c : Code} {Q : Exit → St → Prop} (h : AW Γ P N pin c (WQ Γ pin Q) st) : AW Γ P N pin c Q st := by
  intro F μ a w hr
  refine wp_mono (h F μ a w hr) ?_
  rintro e a' w' ⟨μ', st', k1, k2, k3, st2, hw, hq⟩
  obtain ⟨μ2, r2, o2, p2⟩ := hw F N μ' a' w' k1
  exact ⟨μ2, st2, r2, ⟨k2.size, fun b hb hO => ⟨(k2.keep b hb hO).1, fun h => (k2.keep b hb hO).2 (o2 b h)⟩, k2.shape, k2.os, k2.out⟩, pin_trans k3 p2, hq⟩
theorem AL_wq {N pin : Nat} {c : Code} {Q : Exit → St → Prop} (h : AL Γ P N pin [c] (WQ Γ pin Q) st) : AL Γ P N pin [c] Q st := by
  refine AW_wq (AW.mono h ?_)
  intro e s hs
  cases e <;> exact hs
end Go.Am
/- One equation for each kind of step. -/
namespace Go.Am
variable {Γ : Nat → Option Obj} {P : Program} {A : Nat → PV} {σ : Nat → Slot} {nx : Nat} {K : PV → List Nat → List (Nat × Slot) → Nat → Prop}
def evP (A : Nat → PV) : List (Nat × Operand) → List (Nat × PV)
  | [] => []
  | (i, x) :: r => (i, ev A x) :: evP A r
theorem evP_eq (A : Nat → PV) (l : List (Nat × Operand)) : (l.map fun p => (p.1, ev A p.2)) = evP A l := by
  induction l with
  | nil => rfl
  | cons p l ih => simp [evP, ih]
attribute [go_sem] evP
/-- A step, under a name of its own. -/
def opJ (Γ : Nat → Option Obj) (P : Program) (A : Nat → PV) (σ : Nat → Slot) (nx : Nat) (op : Op) (K : PV → List Nat → List (Nat × Slot) → Nat → Prop) : Prop := opK Γ P A σ nx op K
theorem opJ_move {x : Operand} : opJ Γ P A σ nx (.move x) K = ( K (ev A x) [] [] nx) := rfl
theorem opJ_assign {x : Operand} : opJ Γ P A σ nx (.assign x) K = ( K (ev A x) [] [] nx) := rfl
theorem opJ_pick {c : Operand} {x : Operand} {y : Operand} : opJ Γ P A σ nx (.pick c x y) K = ( match ev A c with
    | .v (.bool t) => K (cond t (ev A x) (ev A y)) [] [] nx
    | _ => False) := rfl
theorem opJ_alloc {t : TypeId} : opJ Γ P A σ nx (.alloc t) K = ( match tzero P t with
    | some cs => σ nx = .fresh ∧ K (.op cs.length nx 0 0) [nx] [(nx, .live (.rows cs.length [cs]))] (nx + 1)
    | none => False) := rfl
theorem opJ_box {t : TypeId} {x : Operand} : opJ Γ P A σ nx (.box t x) K = ( layable (ev A x) = true ∧ σ nx = .fresh ∧ K (.op (cellsOf (ev A x)).length nx 0 0) [nx] [(nx, .live (.rows (cellsOf (ev A x)).length [cellsOf (ev A x)]))] (nx + 1)) := rfl
theorem opJ_build {t : TypeId} {parts : Array (Nat × Operand)} : opJ Γ P A σ nx (.build t parts) K = ( match tzero P t with
    | some zs => fieldsOK P t = true ∧ match fillA (plc P t) zs (evP A parts.toList) with
      | some out => K (.agg out) [] [] nx
      | none => False
    | none => False) := by rw [← evP_eq]; rfl
theorem opJ_load {t : TypeId} {x : Operand} : opJ Γ P A σ nx (.load t x) K = ( match tsz P t, tag P t with
    | some n, some g => n ≠ 0 ∧ match ev A x with
      | .op sz b i off => match σ b with
        | .live (.rows sz' rs) => sz' = sz ∧ ∃ row, rs[i]? = some row ∧ off + n ≤ row.length ∧ K (ldV g row off n) [b] [] nx
        | _ => False
      | .ip cs => n ≤ cs.length ∧ K (ldV g cs 0 n) [] [] nx
      | _ => False
    | _, _ => False) := rfl
theorem opJ_store {t : TypeId} {x : Operand} {y : Operand} : opJ Γ P A σ nx (.store t x y) K = ( match tsz P t, ev A x with
    | some n, .op sz b i off => match σ b with
      | .live (.rows sz' rs) => sz' = sz ∧ layable (ev A y) = true ∧ (cellsOf (ev A y)).all cellP = true ∧ (cellsOf (ev A y)).length = n ∧ ∃ row, rs[i]? = some row ∧ off + n ≤ row.length ∧
        K .any [b] [(b, .live (.rows sz (rs.set i (putRow row off (cellsOf (ev A y))))))] nx
      | _ => False
    | _, _ => False) := rfl
theorem opJ_nilCheck {x : Operand} : opJ Γ P A σ nx (.nilCheck x) K = ( match ev A x with
    | .op sz b i off => K (.op sz b i off) [] [] nx
    | .ip cs => K (.ip cs) [] [] nx
    | .fn (.func f) xs ys => K (.fn (.func f) xs ys) [] [] nx
    | _ => False) := rfl
theorem opJ_binOp {op : BinOp} {t : TypeId} {x : Operand} {y : Operand} {z : TypeId} : opJ Γ P A σ nx (.binOp op t x y z) K = ( binK P op t x y (ev A x) (ev A y) fun v => K v [] [] nx) := rfl
theorem opJ_unOp {op : UnOp} {t : TypeId} {x : Operand} : opJ Γ P A σ nx (.unOp op t x) K = ( match toV (ev A x) with
    | some a => match sc P (Op.unary op a) with
      | some c => K (.v c) [] [] nx
      | none => False
    | none => False) := rfl
theorem opJ_convert {s : TypeId} {d : TypeId} {x : Operand} : opJ Γ P A σ nx (.convert s d x) K = ( match toV (ev A x) with
    | some a => match sc P (convert s d a) with
      | some c => K (.v c) [] [] nx
      | none => False
    | none => False) := rfl
theorem opJ_makeInterface {t : TypeId} {x : Operand} : opJ Γ P A σ nx (.makeInterface t x) K = ( match P.underlying t with
    | some (.interface _) => False
    | some _ => K (.ifc t (ev A x)) [] [] nx
    | none => False) := rfl
theorem opJ_makeFunc {fn : Fn} {first : Array Operand} {caps : Array Operand} : opJ Γ P A σ nx (.makeFunc fn first caps) K = ( K (.fn fn (first.toList.map (ev A)) (caps.toList.map (ev A))) [] [] nx) := rfl
theorem opJ_fieldAddr {t : TypeId} {x : Operand} {f : Nat} : opJ Γ P A σ nx (.fieldAddr t x f) K = ( match fld P t f with
    | some (off, n, _) => n ≠ 0 ∧ match ev A x with
      | .op sz b i k => K (.op sz b i (k + off)) [] [] nx
      | .ip cs => K (.ip (cs.drop off)) [] [] nx
      | _ => False
    | none => False) := rfl
theorem opJ_field {t : TypeId} {x : Operand} {f : Nat} : opJ Γ P A σ nx (.field t x f) K = ( match fld P t f, ev A x with
    | some (off, n, g), .agg cs => n ≠ 0 ∧ off + n ≤ cs.length ∧ K (if g then .agg ((cs.drop off).take n) else cs.getD off .any) [] [] nx
    | _, _ => False) := rfl
theorem opJ_indexAddr {t : TypeId} {x : Operand} {ix : Operand} : opJ Γ P A σ nx (.indexAddr t x ix) K = ( match ev A ix with
    | .v (.int _ i) => match ev A x with
      | .sl _ rows => match sel P t with
        | some s => 0 ≤ i ∧ ∃ row, rows[i.toNat]? = some row ∧ row.length = s ∧ K (.ip row) [] [] nx
        | none => False
      | .os sz b j n => match sel P t with
        | some s => s = sz ∧ 0 ≤ i ∧ i < n ∧ K (.op sz b (j + i.toNat) 0) [] [] nx
        | none => False
      | .oa sz b j off n => sel P t = some 1 ∧ 0 ≤ i ∧ i < n ∧ K (.op sz b j (off + i.toNat)) [] [] nx
      | .op sz b j off => match ael P t with
        | some (n, s) => 0 ≤ i ∧ i < n ∧ K (.op sz b j (off + i.toNat * s)) [] [] nx
        | none => False
      | .ip cs => match ael P t with
        | some (n, s) => 0 ≤ i ∧ i < n ∧ K (.ip (cs.drop (i.toNat * s))) [] [] nx
        | none => False
      | _ => False
    | _ => False) := rfl
theorem opJ_index {t : TypeId} {x : Operand} {ix : Operand} : opJ Γ P A σ nx (.index t x ix) K = ( match toV (ev A x), toV (ev A ix) with
    | some a, some b => match sc P (Instr.index t a b) with
      | some c => K (.v c) [] [] nx
      | none => False
    | _, _ => False) := rfl
theorem opJ_extract {x : Operand} {i : Nat} : opJ Γ P A σ nx (.extract x i) K = ( match ev A x with
    | .tup cs => match cs[i]? with
      | some p => K p [] [] nx
      | none => False
    | _ => False) := rfl
theorem opJ_call_len {xs : Array Operand} {ts : Array TypeId} : opJ Γ P A σ nx (.call { callee := .builtin .len, args := xs, argTypes := ts }) K = ( match xs.toList, ts[0]? with
    | [x], some t => (sel P t).isSome = true ∧ match lenP (ev A x) with
      | some n => K (.v (.int .i64 n)) [] [] nx
      | none => False
    | _, _ => False) := rfl
theorem opJ_call_value {f : Operand} {xs : Array Operand} {ts : Array TypeId} : opJ Γ P A σ nx (.call { callee := .value f, args := xs, argTypes := ts }) K = ( match ev A f with
    | .fn (.func g) first caps => CallK Γ P g (first ++ xs.toList.map (ev A) ++ caps) σ nx K .mk
    | _ => False) := rfl
theorem opJ_buildSlice {t : TypeId} {len : Nat} {parts : Array (Nat × Operand)} : opJ Γ P A σ nx (.buildSlice t len parts) K = ( match sfact P t with
    | some (s, _, zs) => len * s ≤ 16777216 ∧ len ≤ 140737488355328 ∧ match fillA (fun i => some (i * s, s)) (zfill zs len) (evP A parts.toList) with
      | some out => if isPL out = true then K (.sl true (chunk s len out)) [] [] nx else σ nx = .fresh ∧ K (.os s nx 0 len) [nx] [(nx, .live (.rows s (chunk s len out)))] (nx + 1)
      | none => False
    | none => False) := by rw [← evP_eq]; rfl
theorem opJ_slice {t : TypeId} {x : Operand} {lo : Option Operand} {hi : Option Operand} {mx : Option Operand} : opJ Γ P A σ nx (.slice t x lo hi mx) K = ( match ev A x with
    | .sl full rows => match sel P t, optI A lo, optI A hi, optI A mx with
      | some s, some lo', some hi', some mx' => bnds rows.length lo' hi' mx' (lo'.getD 0).toNat (hi'.getD rows.length).toNat ∧ (∀ r ∈ rows.head?, r.length = s) ∧
        K (.sl (mx'.isSome || full && hi'.isNone) ((rows.drop (lo'.getD 0).toNat).take ((hi'.getD rows.length).toNat - (lo'.getD 0).toNat))) [] [] nx
      | _, _, _, _ => False
    | .os sz b j n => match lo, optI A hi, optI A mx with
      | none, some hi', some mx' => sel P t = some sz ∧ bnds n none hi' mx' 0 (hi'.getD n).toNat ∧ K (.os sz b j (hi'.getD n).toNat) [] [] nx
      | _, _, _ => False
    | .op sz b j off => match lo, optI A hi, mx, ael P t with
      | none, some hi', none, some (n, 1) => n ≠ 0 ∧ n ≤ 1048576 ∧ bnds n none hi' none 0 (hi'.getD n).toNat ∧ K (.oa sz b j off (hi'.getD n).toNat) [] [] nx
      | _, _, _, _ => False
    | _ => False) := rfl
theorem opJ_makeSlice {t : TypeId} {x : Operand} {y : Operand} : opJ Γ P A σ nx (.makeSlice t x y) K = ( match ev A x, ev A y, sfact P t with
    | .v (.int _ n), .v (.int _ m), some (s, _, zs) => m = n ∧ 0 ≤ n ∧ n ≤ 137438953472 ∧ σ nx = .fresh ∧ K (.os s nx 0 n.toNat) [nx] [(nx, .live (.rows s (List.replicate n.toNat zs)))] (nx + 1)
    | _, _, _ => False) := rfl
theorem opJ_call_append {xs : Array Operand} {ts : Array TypeId} : opJ Γ P A σ nx (.call { callee := .builtin .append, args := xs, argTypes := ts }) K = ( match xs.toList, ts[0]?, ts[1]? with
    | [x, y], some t, some t' => match sfact P t, sel P t', srcRows σ (ev A y) with
      | some (s, _, _), some _, some rows1 => (∀ r ∈ rows1, r.length = s) ∧ match ev A x with
        | .sl true rows => (∀ r ∈ rows, r.length = s) ∧ rows.length + rows1.length ≤ 68719476736 ∧ (rows = [] ∨ rows1 ≠ []) ∧ σ nx = .fresh ∧
          K (.os s nx 0 (rows.length + rows1.length)) (nx :: srcIds (ev A y)) [(nx, .live (.rows s (rows ++ rows1)))] (nx + 1)
        | .os s' b0 i0 n0 => match σ b0 with
          | .live (.rows s'' rows) => s' = s ∧ s'' = s ∧ i0 = 0 ∧ n0 = rows.length ∧ rows1.all (fun r => r.all cellP) = true ∧ rows.length + rows1.length ≤ 68719476736 ∧ σ nx = .fresh ∧
            K (.os s nx 0 (rows.length + rows1.length)) (nx :: b0 :: srcIds (ev A y)) [(nx, .live (.rows s (rows ++ rows1))), (b0, .dead)] (nx + 1)
          | _ => False
        | _ => False
      | _, _, _ => False
    | _, _, _ => False) := rfl
theorem opJ_call_min {xs : Array Operand} {ts : Array TypeId} : opJ Γ P A σ nx (.call { callee := .builtin .min, args := xs, argTypes := ts }) K = ( match vsOf (xs.toList.map (ev A)) with
    | some vs => match sc P (Builtin.min_ ts 0 vs.toArray) with
      | some c => K (.v c) [] [] nx
      | none => False
    | none => False) := rfl
theorem opJ_call_max {xs : Array Operand} {ts : Array TypeId} : opJ Γ P A σ nx (.call { callee := .builtin .max, args := xs, argTypes := ts }) K = ( match vsOf (xs.toList.map (ev A)) with
    | some vs => match sc P (Builtin.max_ ts 0 vs.toArray) with
      | some c => K (.v c) [] [] nx
      | none => False
    | none => False) := rfl
theorem opJ_call_clear {xs : Array Operand} {ts : Array TypeId} : opJ Γ P A σ nx (.call { callee := .builtin .clear, args := xs, argTypes := ts }) K = ( match xs.toList, ts[0]? with
    | [x], some t => match zfact P t, ev A x with
      | some z, .oa sz b i off n => match σ b with
        | .live (.rows sz' rs) => sz' = sz ∧ ∃ row, rs[i]? = some row ∧ off + n ≤ row.length ∧ K (.tup []) [b] [(b, .live (.rows sz (rs.set i (putRow row off (List.replicate n (constCell z))))))] nx
        | _ => False
      | _, _ => False
    | _, _ => False) := rfl
theorem opJ_makeMap {t : TypeId} {r : Option Operand} : opJ Γ P A σ nx (.makeMap t r) K = ( match r with
    | none => σ nx = .fresh ∧ K (.om nx) [nx] [(nx, .live (.mib []))] (nx + 1)
    | some _ => False) := rfl
theorem opJ_lookup {t : TypeId} {x : Operand} {y : Operand} {c : Bool} : opJ Γ P A σ nx (.lookup t x y c) K = ( mfact P t = true ∧ c = false ∧ match ev A x, ev A y with
    | .om b, .v (.int .i64 n) => match σ b with
      | .live (.mib es) => K (.v (.bool ((mibGet es n).getD false))) [b] [] nx
      | _ => False
    | _, _ => False) := rfl
theorem opJ_mapUpdate {t : TypeId} {x : Operand} {y : Operand} {z : Operand} : opJ Γ P A σ nx (.mapUpdate t x y z) K = ( mfact P t = true ∧ match ev A x, ev A y, ev A z with
    | .om b, .v (.int .i64 n), .v (.bool v) => match σ b with
      | .live (.mib es) => K .any [b] [(b, .live (.mib (mibPut es n v)))] nx
      | _ => False
    | _, _, _ => False) := rfl
/-- Marks: what is to be reckoned on. -/
def Mk (p : Prop) : Prop := p
theorem Mk_i {p : Prop} (h : p) : Mk p := h
def MkG (p : Prop) : Prop := p
theorem MkG_i {p : Prop} (h : p) : MkG p := h
theorem ite_elimM {c : Prop} {_ : Decidable c} {A B : Prop} (h1 : c → MkG A) (h2 : ¬ c → MkG B) : if c then A else B := by
  split
  · exact h1 ‹_›
  · exact h2 ‹_›
theorem CallK_pureM {g : FuncId} {args : List PV} {p : PV} {σ : Nat → Slot} {nx : Nat} {K : PV → List Nat → List (Nat × Slot) → Nat → Prop} (h : Pure Γ P g args p) (he : Ent P g)
    (hp : isPL args = true) (hK : Mk (K p [] [] nx)) : CallK Γ P g args σ nx K .mk := CallK_pure h he hp hK
theorem CallK_viewM {g : FuncId} {args : List PV} {p : PV} {σ : Nat → Slot} {nx : Nat} {K : PV → List Nat → List (Nat × Slot) → Nat → Prop} (pargs : List PV) (h : Pure Γ P g pargs p) (he : Ent P g)
    (hp : flat p = true) (hv : viewL σ args = some pargs) (hK : Mk (K p (vidsL args) [] nx)) : CallK Γ P g args σ nx K .mk := CallK_view pargs h he hp hv hK
theorem CallK_ecM {g : FuncId} {args0 args : List PV} {s0 : List Blk} {r0 : PV} {s1 : List (Option Blk)} {σ : Nat → Slot} {nx : Nat} {K : PV → List Nat → List (Nat × Slot) → Nat → Prop} (h : EC Γ P g args0 s0 r0 s1) (he : Ent P g)
    (ids : List Nat) (nx' : Nat) (hnx : nx ≤ nx') (hk : s0.length ≤ s1.length) (hlen : ids.length = s1.length) (hnd : ids.Nodup) (hoka : okL s0.length args0 = true) (hokb : s0.all (okB s0.length) = true) (hargs : args = renL (fun? ids) args0)
    (hrd : ∀ p ∈ rdOf (fun? ids) 0 s0 ++ frOf (fun? ids) s0.length (s1.length - s0.length), σ p.1 = p.2)
    (hK : Mk (K (ren (fun? ids) r0) ((rdOf (fun? ids) 0 s0 ++ frOf (fun? ids) s0.length (s1.length - s0.length)).map (·.1)) (wrOf (fun? ids) 0 s1) nx')) : CallK Γ P g args σ nx K .mk := CallK_ec h he ids nx' hnx hk hlen hnd hoka hokb hargs hrd hK
section
variable {ds : List (Option Tmp)} {dst : Option Tmp} {op : Op} {ty : TypeId} {pos : String} {after : Array Edge} {j d e : Nat} {w b : Bool} {l : List (Nat × PV)} {log : List (List Nat × List Nat)} {k : St → Nat → Prop} {kl : St → Nat → List (List Nat × List Nat) → Prop}
theorem R2_n (h : Mk <| opJ Γ P (tA l) σ nx op fun v _ wr nx' => k ⟨put (tA l) dst v, wrAll σ wr⟩ nx') : R1 Γ P ds ⟨dst, op, ty, pos, after, none⟩ ⟨tA l, σ⟩ nx k := R1_n rfl h
theorem R2_gt (hd : ds[j]? = some (some d)) (hA : tA l d = .v (.bool b)) (hb : b = w) (h : Mk <| opJ Γ P (tA l) σ nx op fun v _ wr nx' => k ⟨put (tA l) dst v, wrAll σ wr⟩ nx') : R1 Γ P ds ⟨dst, op, ty, pos, after, some (j, w)⟩ ⟨tA l, σ⟩ nx k := R1_gt rfl hd hA hb h
theorem R2_gf (hd : ds[j]? = some (some d)) (hA : tA l d = .v (.bool b)) (hb : b = false) (h : k ⟨tA ((e, pU) :: l), σ⟩ nx) : R1 Γ P ds ⟨some e, op, ty, pos, after, some (j, true)⟩ ⟨tA l, σ⟩ nx k := R1_gf rfl hd hA hb rfl h
theorem R2_gf' (hd : ds[j]? = some (some d)) (hA : tA l d = .v (.bool b)) (hb : b = true) (h : k ⟨tA ((e, pU) :: l), σ⟩ nx) : R1 Γ P ds ⟨some e, op, ty, pos, after, some (j, false)⟩ ⟨tA l, σ⟩ nx k := R1_gf' rfl hd hA hb rfl h
theorem R2_g (hd : ds[j]? = some (some d)) (hA : tA l d = .v (.bool b)) (h1 : b = w → MkG (opJ Γ P (tA l) σ nx op fun v _ wr nx' => k ⟨put (tA l) dst v, wrAll σ wr⟩ nx')) (h0 : b = !w → MkG (k ⟨tA ((e, pU) :: l), σ⟩ nx)) (he : dst = some e) : R1 Γ P ds ⟨dst, op, ty, pos, after, some (j, w)⟩ ⟨tA l, σ⟩ nx k := R1_g rfl hd hA h1 (by subst he; exact h0)
theorem R2_gu {ys : Array Value} (hd : ds[j]? = some (some d)) (hA : tA l d = .v (.tuple ys)) (h : k ⟨tA ((e, pU) :: l), σ⟩ nx) : R1 Γ P ds ⟨some e, op, ty, pos, after, some (j, w)⟩ ⟨tA l, σ⟩ nx k := R1_gu rfl hd hA rfl h
theorem L2_gu {ys : Array Value} (hd : ds[j]? = some (some d)) (hA : tA l d = .v (.tuple ys)) (h : kl ⟨tA ((e, pU) :: l), σ⟩ nx (([], []) :: log)) : L1 Γ P ds ⟨some e, op, ty, pos, after, some (j, w)⟩ ⟨tA l, σ⟩ nx log kl := L1_gu rfl hd hA rfl h
theorem L2_n (h : Mk <| opJ Γ P (tA l) σ nx op fun v rd wr nx' => kl ⟨put (tA l) dst v, wrAll σ wr⟩ nx' ((rd, wr.map (·.1)) :: log)) : L1 Γ P ds ⟨dst, op, ty, pos, after, none⟩ ⟨tA l, σ⟩ nx log kl := L1_n rfl h
theorem L2_gt (hd : ds[j]? = some (some d)) (hA : tA l d = .v (.bool b)) (hb : b = w) (h : Mk <| opJ Γ P (tA l) σ nx op fun v rd wr nx' => kl ⟨put (tA l) dst v, wrAll σ wr⟩ nx' ((rd, wr.map (·.1)) :: log)) : L1 Γ P ds ⟨dst, op, ty, pos, after, some (j, w)⟩ ⟨tA l, σ⟩ nx log kl := L1_gt rfl hd hA hb h
theorem L2_gf (hd : ds[j]? = some (some d)) (hA : tA l d = .v (.bool b)) (hb : b = false) (h : kl ⟨tA ((e, pU) :: l), σ⟩ nx (([], []) :: log)) : L1 Γ P ds ⟨some e, op, ty, pos, after, some (j, true)⟩ ⟨tA l, σ⟩ nx log kl := L1_gf rfl hd hA hb rfl h
theorem L2_gf' (hd : ds[j]? = some (some d)) (hA : tA l d = .v (.bool b)) (hb : b = true) (h : kl ⟨tA ((e, pU) :: l), σ⟩ nx (([], []) :: log)) : L1 Γ P ds ⟨some e, op, ty, pos, after, some (j, false)⟩ ⟨tA l, σ⟩ nx log kl := L1_gf' rfl hd hA hb rfl h
theorem L2_g (hd : ds[j]? = some (some d)) (hA : tA l d = .v (.bool b)) (h1 : b = w → MkG (opJ Γ P (tA l) σ nx op fun v rd wr nx' => kl ⟨put (tA l) dst v, wrAll σ wr⟩ nx' ((rd, wr.map (·.1)) :: log))) (h0 : b = !w → MkG (kl ⟨tA ((e, pU) :: l), σ⟩ nx (([], []) :: log))) (he : dst = some e) : L1 Γ P ds ⟨dst, op, ty, pos, after, some (j, w)⟩ ⟨tA l, σ⟩ nx log kl := L1_g rfl hd hA h1 (by subst he; exact h0)
end
attribute [go_sem ↓] opJ_move opJ_assign opJ_pick opJ_alloc opJ_box opJ_build opJ_load opJ_store opJ_nilCheck opJ_binOp opJ_unOp opJ_convert opJ_makeInterface opJ_makeFunc opJ_fieldAddr opJ_field opJ_indexAddr opJ_index opJ_extract opJ_call_len opJ_call_value opJ_buildSlice opJ_slice opJ_makeSlice opJ_call_append opJ_call_min opJ_call_max opJ_call_clear opJ_makeMap opJ_lookup opJ_mapUpdate
attribute [go_sem] row_of iRows_nil mibGet mibPut
end Go.Am
/- The walk's steps, told briefly. -/
namespace Go.Am
variable {Γ : Nat → Option Obj} {P : Program} {N pin : Nat} {r : List Code} {Q : Exit → St → Prop} {st : St}
attribute [go_sem] Nat.zero_add Nat.add_zero Nat.le_refl Nat.sub_self Nat.sub_zero wrap_ok List.mem_cons List.not_mem_nil or_false forall_eq
theorem bdq : (∀ (p : Prop) [Decidable p], (decide p = true) = p) ∧ (∀ (p : Prop) [Decidable p], (decide p = false) = ¬ p) ∧ (∀ a b : Int, ((a == b) = true) = (a = b)) ∧ (∀ a b : Int, ((a == b) = false) = ¬ (a = b)) ∧
    (∀ a b : Int, ((a != b) = true) = ¬ (a = b)) ∧ (∀ a b : Int, ((a != b) = false) = (a = b)) ∧ (∀ a b : Bool, ((a == b) = true) = (a = b)) ∧ (∀ a b : Bool, ((a == b) = false) = ¬ (a = b)) ∧
    (∀ a b : Bool, ((a != b) = true) = ¬ (a = b)) ∧ (∀ a b : Bool, ((a != b) = false) = (a = b)) := by
  refine ⟨?_, ?_, ?_, ?_, ?_, ?_, ?_, ?_, ?_, ?_⟩ <;> intros <;> simp
theorem irw : (∀ l m : List Int, iRows l ++ iRows m = iRows (l ++ m)) ∧ (∀ (l : List Int) (n : Int), iRows l ++ [[pI n]] = iRows (l ++ [n])) ∧ (∀ (l : List Int) (n : Nat), List.take n (iRows l) = iRows (l.take n)) :=
  ⟨fun _ _ => iRows_app, fun _ _ => iRows_app1, fun _ _ => iRows_take⟩
theorem bnq : (∀ b : Bool, ((!b) = true) = (b = false)) ∧ (∀ b : Bool, ((!b) = false) = (b = true)) ∧ (!true) = false ∧ (!false) = true := by
  refine ⟨?_, ?_, rfl, rfl⟩ <;> intros <;> simp
section
variable {ds : List (Option Tmp)} {dst : Option Tmp} {op : Op} {ty : TypeId} {pos : String} {after : Array Edge} {j d e : Nat} {w b : Bool} {l : List (Nat × PV)} {σ : Nat → Slot} {nx : Nat} {log : List (List Nat × List Nat)} {k : St → Nat → Prop} {kl : St → Nat → List (List Nat × List Nat) → Prop}
theorem Rt (hd : ds[j]? = some (some d)) (hA : tA l d = .v (.bool b)) (h : Mk <| opJ Γ P (tA l) σ nx op fun v _ wr nx' => k ⟨put (tA l) dst v, wrAll σ wr⟩ nx') (hb : b = w := by first | with_reducible rfl | assumption | decide) : R1 Γ P ds ⟨dst, op, ty, pos, after, some (j, w)⟩ ⟨tA l, σ⟩ nx k := R2_gt hd hA hb h
theorem Rf (hd : ds[j]? = some (some d)) (hA : tA l d = .v (.bool b)) (h : k ⟨tA ((e, pU) :: l), σ⟩ nx) (hb : b = false := by first | with_reducible rfl | assumption | decide) : R1 Γ P ds ⟨some e, op, ty, pos, after, some (j, true)⟩ ⟨tA l, σ⟩ nx k := R2_gf hd hA hb h
theorem Rf' (hd : ds[j]? = some (some d)) (hA : tA l d = .v (.bool b)) (h : k ⟨tA ((e, pU) :: l), σ⟩ nx) (hb : b = true := by first | with_reducible rfl | assumption | decide) : R1 Γ P ds ⟨some e, op, ty, pos, after, some (j, false)⟩ ⟨tA l, σ⟩ nx k := R2_gf' hd hA hb h
theorem Lt (hd : ds[j]? = some (some d)) (hA : tA l d = .v (.bool b)) (h : Mk <| opJ Γ P (tA l) σ nx op fun v rd wr nx' => kl ⟨put (tA l) dst v, wrAll σ wr⟩ nx' ((rd, wr.map (·.1)) :: log)) (hb : b = w := by first | with_reducible rfl | assumption | decide) : L1 Γ P ds ⟨dst, op, ty, pos, after, some (j, w)⟩ ⟨tA l, σ⟩ nx log kl := L2_gt hd hA hb h
theorem Lf (hd : ds[j]? = some (some d)) (hA : tA l d = .v (.bool b)) (h : kl ⟨tA ((e, pU) :: l), σ⟩ nx (([], []) :: log)) (hb : b = false := by first | with_reducible rfl | assumption | decide) : L1 Γ P ds ⟨some e, op, ty, pos, after, some (j, true)⟩ ⟨tA l, σ⟩ nx log kl := L2_gf hd hA hb h
theorem Lf' (hd : ds[j]? = some (some d)) (hA : tA l d = .v (.bool b)) (h : kl ⟨tA ((e, pU) :: l), σ⟩ nx (([], []) :: log)) (hb : b = true := by first | with_reducible rfl | assumption | decide) : L1 Γ P ds ⟨some e, op, ty, pos, after, some (j, false)⟩ ⟨tA l, σ⟩ nx log kl := L2_gf' hd hA hb h
variable {c : Operand} {x y : Code}
theorem Ct (hc : ev st.a c = .v (.bool b)) (h : AL Γ P N pin (x :: r) Q st) (hb : b = true := by first | with_reducible rfl | assumption | decide) : AL Γ P N pin (.cond c x y :: r) Q st := AL_cond_t' hc hb h
theorem Cf (hc : ev st.a c = .v (.bool b)) (h : AL Γ P N pin (y :: r) Q st) (hb : b = false := by first | with_reducible rfl | assumption | decide) : AL Γ P N pin (.cond c x y :: r) Q st := AL_cond_f' hc hb h
end
end Go.Am
/- What the arguments of a call read as, in the abstract machine's words; a call's end, in the row's words. -/
namespace Go.Am
open Go.ChangeShapes Go.WideShapes

inductive Sh where
  | int (k : IntKind)
  | bool
  | sl (row : List Sh)

def shFs (P : Program) (g : TypeId → Option (List Sh)) : List Field → Nat → Option (List Sh)
  | [], _ => some []
  | f :: r, off => match g f.type with
    | some s => if f.offset = off ∧ s.length = P.cellsOf f.type then (shFs P g r (off + s.length)).map (s ++ ·) else none
    | none => none

/-- A type's cells, where it is of numbers, truths, and slices of such. -/
def shOf (P : Program) : Nat → TypeId → Option (List Sh)
  | 0, _ => none
  | n + 1, t => match P.underlying t with
    | some (.int k) => some [.int k]
    | some .bool => some [.bool]
    | some (.slice e) => match shOf P n e with
      | some s => if s.length = P.cellsOf e ∧ s.isEmpty = false ∧ P.bytesOf e ≠ 0 then some [.sl s] else none
      | none => none
    | some (.struct fs) => match shFs P (shOf P n) fs.toList 0 with
      | some S => if S.length = P.cellsOf t then some S else none
      | none => none
    | some (.array m e) => match shOf P n e with
      | some s => if s.length = P.cellsOf e ∧ m * s.length = P.cellsOf t then some (List.replicate m s).flatten else none
      | none => none
    | _ => none

mutual
def HasSh : Sh → PV → Prop
  | .int k, p => ∃ n, p = .v (.int k n) ∧ (Lit.int k n).wf = true
  | .bool, p => ∃ b, p = .v (.bool b)
  | .sl row, p => ∃ rows, p = .sl false rows ∧ ∀ r ∈ rows, HasShL row r
def HasShL : List Sh → List PV → Prop
  | [], [] => True
  | s :: ss, p :: ps => HasSh s p ∧ HasShL ss ps
  | _, _ => False
end

theorem HasShL.len : ∀ {S : List Sh} {ps : List PV}, HasShL S ps → S.length = ps.length
  | [], [], _ => rfl
  | _ :: _, _ :: _, h => by simp only [HasShL] at h; simp [HasShL.len h.2]
  | [], _ :: _, h => by simp [HasShL] at h
  | _ :: _, [], h => by simp [HasShL] at h
theorem HasShL.append : ∀ {S T : List Sh} {ps qs : List PV}, HasShL S ps → HasShL T qs → HasShL (S ++ T) (ps ++ qs)
  | [], _, [], _, _, h => h
  | _ :: _, _, _ :: _, _, h, h' => by simp only [HasShL, List.cons_append] at h ⊢; exact ⟨h.1, h.2.append h'⟩
  | [], _, _ :: _, _, h, _ => by simp [HasShL] at h
  | _ :: _, _, [], _, h, _ => by simp [HasShL] at h
theorem PReps.append {w : World} {O : Nat → Prop} {ps qs : List PV} {ys zs : List Value} (h : PReps w O ps ys) (h' : PReps w O qs zs) : PReps w O (ps ++ qs) (ys ++ zs) := by
  refine ⟨by simp [h.1, h'.1], fun i p y h1 h2 => ?_⟩
  rcases Nat.lt_or_ge i ps.length with hi | hi
  · rw [List.getElem?_append_left hi] at h1
    rw [List.getElem?_append_left (by rw [← h.1]; exact hi)] at h2
    exact h.2 i p y h1 h2
  · rw [List.getElem?_append_right hi] at h1
    rw [List.getElem?_append_right (by rw [← h.1]; exact hi), ← h.1] at h2
    exact h'.2 _ p y h1 h2
theorem PReps.one {w : World} {O : Nat → Prop} {p : PV} {y : Value} (h : PRep w O p y) : PReps w O [p] [y] :=
  ⟨rfl, fun i q z h1 h2 => by
    cases i with
    | zero => simp at h1 h2; subst h1 h2; exact h
    | succ i => simp at h1⟩

theorem list_choose {α β : Type} {R : α → β → Prop} : ∀ (l : List α), (∀ x ∈ l, ∃ y, R x y) → ∃ m : List β, m.length = l.length ∧ ∀ (i : Nat) x y, l[i]? = some x → m[i]? = some y → R x y
  | [], _ => ⟨[], rfl, fun i x y h => by simp at h⟩
  | a :: l, h => by
    obtain ⟨y, hy⟩ := h a (by simp)
    obtain ⟨m, hm, hR⟩ := list_choose l fun x hx => h x (by simp [hx])
    refine ⟨y :: m, by simp [hm], fun i x z h1 h2 => ?_⟩
    cases i with
    | zero => simp at h1 h2; subst h1 h2; exact hy
    | succ i => exact hR i x z (by simpa using h1) (by simpa using h2)
theorem rows_choose {α : Type} {f : α → List PV} {rows : List (List PV)} (h : ∀ r ∈ rows, ∃ x, r = f x) : ∃ l : List α, rows = l.map f := by
  induction rows with
  | nil => exact ⟨[], rfl⟩
  | cons r rows ih =>
    obtain ⟨x, hx⟩ := h r (by simp)
    obtain ⟨l, hl⟩ := ih fun r hr => h r (by simp [hr])
    exact ⟨x :: l, by simp [hx, hl]⟩

section
variable {H : Type} {enc : TypeId × Value → H} {P : Program} {w : World} {spare : Nat → Bool}

theorem weightsAll_mem {e : TypeId} : ∀ {ds : List (DataW H)} {j : Nat} {d : DataW H}, ds[j]? = some d → ∀ n ∈ d.weights P e, n ∈ DataW.weightsAll P e ds
  | [], j, d, h, _, _ => by simp at h
  | x :: r, 0, d, h, n, hn => by simp at h; subst h; simp only [DataW.weightsAll]; exact List.mem_append_left _ hn
  | x :: r, j + 1, d, h, n, hn => by simp only [DataW.weightsAll]; exact List.mem_append_right _ (weightsAll_mem (ds := r) (j := j) (by simpa using h) n hn)

theorem cells?_some {base : Nat} {a : Addr} {n : Nat} {cs : List Value} (h : w.cells? base a n = some cs) : cs.length = n ∧ ∀ j, j < n → w.cell? (a.add j) = cs[j]? := by
  unfold World.cells? at h
  split at h
  · have key : ∀ (l : List Nat) (cs : List Value), l.mapM (fun i => w.cell? (a.add i)) = some cs → cs.length = l.length ∧ ∀ (j k : Nat), l[j]? = some k → w.cell? (a.add k) = cs[j]? := by
      intro l
      induction l with
      | nil => intro cs h; simp at h; subst h; exact ⟨rfl, fun j k h => by simp at h⟩
      | cons x l ih =>
        intro cs h
        simp only [List.mapM_cons, Option.bind_eq_bind, Option.bind_eq_some_iff, Option.pure_def, Option.some.injEq] at h
        obtain ⟨y, hy, ys, hys, rfl⟩ := h
        obtain ⟨i1, i2⟩ := ih ys hys
        refine ⟨by simp [i1], fun j k hk => ?_⟩
        cases j with
        | zero => simp at hk; subst hk; simpa using hy
        | succ j => simpa using i2 j k (by simpa using hk)
    obtain ⟨k1, k2⟩ := key _ _ h
    exact ⟨by simpa using k1, fun j hj => k2 j j (by simp [hj])⟩
  · cases h

theorem addr_add2 (b off i j : Nat) : ((⟨b, off, none⟩ : Addr).add i).add j = ⟨b, off + (i + j), none⟩ := by rw [addr_add, addr_add, Nat.add_assoc]

theorem trod_sh : ∀ (n fuel : Nat) (t : TypeId) (cs : List Value) (x : DataW H × List MemPlace) (S : List Sh), shOf P n t = some S → DataW.trod enc P w 0 spare true fuel t cs = some x →
    (∀ m ∈ x.1.weights P t, m ≤ 140737488355328) → ∃ ps, HasShL S ps ∧ PReps w (fun _ => False) ps cs
  | 0, _, _, _, _, _, hS, _, _ => by simp [shOf] at hS
  | n + 1, fuel, t, cs, x, S, hS, h, hw => by
    unfold shOf at hS
    split at hS
    · rename_i k hu
      obtain rfl := (Option.some.inj hS).symm
      obtain ⟨m, rfl, rfl, hwf⟩ := DataW.trod_int hu h
      exact ⟨[.v (.int k m)], by simp [HasShL, HasSh, hwf], .one (.v _)⟩
    · rename_i hu
      obtain rfl := (Option.some.inj hS).symm
      obtain ⟨b, rfl, rfl⟩ := DataW.trod_bool hu h
      exact ⟨[.v (.bool b)], by simp [HasShL, HasSh], .one (.v _)⟩
    · rename_i e hu
      split at hS
      · rename_i s hs
        split at hS
        · rename_i hc
          obtain ⟨hc1, hc2, hc3⟩ := hc
          obtain rfl := (Option.some.inj hS).symm
          rcases DataW.trod_slice hu h with ⟨rfl, rfl⟩ | ⟨a, len, cap, elems, rest, m, rfl, rfl, rfl, _, hl, _, hlen, hel, _⟩
          · exact ⟨[.sl false []], by simp [HasShL, HasSh], .one (.nil false none 0 fun h => by cases h)⟩
          · have hlen47 : len ≤ 140737488355328 := by
              have h1 : (elems.map (·.1)).length = len := by simpa using hlen
              have := hw (((elems.map (·.1)).length + (rest.map (·.1)).length) * P.bytesOf e) (by
                simp only [DataW.weights, hu]; exact List.mem_cons_self ..)
              have h2 : 1 ≤ P.bytesOf e := by omega
              have h3 : (elems.map (·.1)).length * 1 ≤ ((elems.map (·.1)).length + (rest.map (·.1)).length) * P.bytesOf e := Nat.mul_le_mul (by omega) h2
              omega
            by_cases h0 : len = 0
            · subst h0
              exact ⟨[.sl false []], by simp [HasShL, HasSh], .one (.nil false (some a) cap fun h => by cases h)⟩
            have hsz : 0 < P.cellsOf e := by rw [← hc1]; cases s with | nil => cases hc2 | cons x s => simp
            have hi0 : ∀ i, i < len → ∃ c y, w.cells? 0 (a.add (i * P.cellsOf e)) (P.cellsOf e) = some c ∧ elems[i]? = some y ∧ DataW.trod enc P w 0 spare true m e c = some y := by
              intro i hi
              have h1 := hel i hi
              have h2 : elems[i]? = some (elems[i]'(by omega)) := by simp [show i < elems.length by omega]
              rw [h2] at h1
              simp only [Option.bind_eq_some_iff] at h1
              obtain ⟨c, g1, g2⟩ := h1
              exact ⟨c, _, g1, h2, g2⟩
            obtain ⟨b, off, spot⟩ := a
            have hspot : spot = none := by
              obtain ⟨c, y, g1, _⟩ := hi0 0 (by omega)
              have := (cells?_some g1).2 0 hsz
              rw [Nat.zero_mul] at this
              have e0 : ((⟨b, off, spot⟩ : Addr).add 0).add 0 = ⟨b, off, spot⟩ := by simp [Addr.add]
              rw [e0] at this
              cases spot with
              | none => rfl
              | some q =>
                have hlc : 0 < c.length := by rw [(cells?_some g1).1]; exact hsz
                rw [show c[0]? = some c[0] by simp [hlc]] at this
                simp only [World.cell?] at this
                split at this <;> simp at this
            subst hspot
            have hrow : ∀ i ∈ List.range len, ∃ r : List PV, HasShL s r ∧ ∃ c, w.cells? 0 (⟨b, off + i * P.cellsOf e, none⟩ : Addr) (P.cellsOf e) = some c ∧ PReps w (fun _ => False) r c := by
              intro i hi
              have hi := List.mem_range.1 hi
              obtain ⟨c, y, g1, g2, g3⟩ := hi0 i hi
              rw [addr_add] at g1
              obtain ⟨r, r1, r2⟩ := trod_sh n m e c y s hs g3 (fun q hq => hw q (by
                simp only [DataW.weights, hu]
                refine List.mem_cons_of_mem _ (List.mem_append_left _ ?_)
                exact weightsAll_mem (j := i) (d := y.1) (by simp [g2]) q hq))
              exact ⟨r, r1, c, g1, r2⟩
            obtain ⟨rows, q1, q2⟩ := list_choose _ hrow
            rw [List.length_range] at q1
            have hq : ∀ i r, rows[i]? = some r → i < len ∧ HasShL s r ∧ ∃ c, w.cells? 0 (⟨b, off + i * P.cellsOf e, none⟩ : Addr) (P.cellsOf e) = some c ∧ PReps w (fun _ => False) r c := by
              intro i r hr
              have hi : i < len := by have := (List.getElem?_eq_some_iff.1 hr).1; omega
              have := q2 i i r (by simp [hi]) hr
              exact ⟨hi, this⟩
            have hcell : ∀ i r j p, rows[i]? = some r → r[j]? = some p → ∃ y, w.cell? ⟨b, off + (i * P.cellsOf e + j), none⟩ = some y ∧ PRep w (fun _ => False) p y := by
              intro i r j p hr hp
              obtain ⟨hi, g1, c, g2, g3⟩ := hq i r hr
              have hj : j < P.cellsOf e := by
                have := g1.len
                have := (List.getElem?_eq_some_iff.1 hp).1
                omega
              have h4 := (cells?_some g2).2 j hj
              rw [addr_add, Nat.add_assoc] at h4
              have h5 : j < c.length := by rw [(cells?_some g2).1]; exact hj
              exact ⟨c[j], by rw [h4]; simp [h5], g3.2 j p c[j] hp (by simp [h5])⟩
            have hb : b < w.heap.size := by
              obtain ⟨c, y, g1, _⟩ := hi0 0 (by omega)
              have := (cells?_some g1).2 0 hsz
              have h5 : 0 < c.length := by rw [(cells?_some g1).1]; exact hsz
              rw [addr_add2, show c[0]? = some c[0] by simp [h5]] at this
              simp only [World.cell?] at this
              split at this
              · rename_i hh; exact lt_of_heap hh
              · cases this
            have hr1 : ∀ r ∈ rows, HasShL s r := fun r hr => by
              obtain ⟨i, hi⟩ := List.mem_iff_getElem?.1 hr
              exact (hq i r hi).2.1
            refine ⟨[.sl false rows], by simp only [HasShL, HasSh]; exact ⟨⟨rows, rfl, hr1⟩, trivial⟩, .one ?_⟩
            have := PRep.sl (w := w) (O := fun _ => False) false rows (P.cellsOf e) b off cap (fun i j => (w.cell? ⟨b, off + (i * P.cellsOf e + j), none⟩).getD undef) (fun r hr => by rw [← (hr1 r hr).len]; exact hc1)
              (by omega) (by omega) (fun h => by cases h) (fun h => h) hb (fun i r j p g1 g2 => by
                obtain ⟨y, y1, _⟩ := hcell i r j p g1 g2
                rw [y1]; rfl) (fun i r j p g1 g2 => by
                obtain ⟨y, y1, y2⟩ := hcell i r j p g1 g2
                rw [y1]; exact y2)
            rw [q1] at this
            exact this
        · cases hS
      · cases hS
    · rename_i fs hu
      split at hS
      · rename_i S' hs
        split at hS
        · rename_i hc
          obtain rfl := (Option.some.inj hS).symm
          obtain ⟨xs, m, rfl, rfl, hcl, hxl, hf⟩ := DataW.trod_struct hu h
          have key : ∀ (l : List Field) (k off : Nat) (T : List Sh), (∀ (i : Nat), l[i]? = fs[k + i]?) → shFs P (shOf P n) l off = some T → off + T.length ≤ cs.length →
              ∃ ps, HasShL T ps ∧ PReps w (fun _ => False) ps ((cs.drop off).take T.length) := by
            intro l
            induction l with
            | nil =>
              intro k off T _ hT _
              simp [shFs] at hT
              subst hT
              exact ⟨[], trivial, by simp; exact ⟨rfl, fun i p y h => by simp at h⟩⟩
            | cons f l ih =>
              intro k off T hl hT hle
              simp only [shFs] at hT
              split at hT
              · rename_i s hs
                split at hT
                · rename_i hcc
                  simp only [Option.map_eq_some_iff] at hT
                  obtain ⟨T', hT', rfl⟩ := hT
                  rw [List.length_append] at hle
                  have hf0 : fs[k]? = some f := by have := hl 0; simpa using this.symm
                  have hk : k < xs.length := by
                    rw [hxl]
                    exact (Array.getElem?_eq_some_iff.1 hf0).1
                  have h1 := hf k f hf0
                  rw [show xs[k]? = some xs[k] by simp [hk], hcc.1, ← hcc.2] at h1
                  obtain ⟨ps, p1, p2⟩ := trod_sh n m f.type _ xs[k] s hs h1 (fun q hq => hw q (by
                    simp only [DataW.weights, hu]
                    exact DataW.weights_mem_each (j := k) (t := f.type) (d := xs[k].1) (by simp [hf0]) (by simp [hk]) q hq))
                  obtain ⟨qs, g1, g2⟩ := ih (k + 1) (off + s.length) T' (fun i => by
                    have := hl (i + 1)
                    rw [List.getElem?_cons_succ] at this
                    rw [this]; congr 1; omega) hT' (by omega)
                  refine ⟨ps ++ qs, p1.append g1, ?_⟩
                  rw [List.length_append]
                  have e1 : (cs.drop off).take (s.length + T'.length) = (cs.drop off).take s.length ++ (cs.drop (off + s.length)).take T'.length := by
                    rw [List.take_add, List.drop_drop]
                  rw [e1]
                  exact p2.append g2
                · cases hT
              · cases hT
          obtain ⟨ps, p1, p2⟩ := key fs.toList 0 0 _ (fun i => by simp) hs (by omega)
          refine ⟨ps, p1, ?_⟩
          rw [List.drop_zero, List.take_of_length_le (by omega)] at p2
          exact p2
        · cases hS
      · cases hS
    · rename_i m0 e hu
      split at hS
      · rename_i s hs
        split at hS
        · rename_i hc
          obtain rfl := (Option.some.inj hS).symm
          obtain ⟨xs, m, rfl, rfl, hcl, hxl, hf⟩ := DataW.trod_array hu h
          have key : ∀ k, k ≤ m0 → ∃ ps, HasShL (List.replicate k s).flatten ps ∧ PReps w (fun _ => False) ps (cs.take (k * s.length)) := by
            intro k
            induction k with
            | zero => intro _; exact ⟨[], trivial, by simp; exact ⟨rfl, fun i p y h => by simp at h⟩⟩
            | succ k ih =>
              intro hk
              obtain ⟨ps, p1, p2⟩ := ih (by omega)
              have h1 := hf k (by omega)
              rw [show xs[k]? = some (xs[k]'(by omega)) by simp [show k < xs.length by omega], ← hc.1] at h1
              obtain ⟨qs, g1, g2⟩ := trod_sh n m e _ (xs[k]'(by omega)) s hs h1 (fun q hq => hw q (by
                simp only [DataW.weights, hu]
                exact weightsAll_mem (j := k) (d := (xs[k]'(by omega)).1) (by simp [show k < xs.length by omega]) q hq))
              refine ⟨ps ++ qs, ?_, ?_⟩
              · rw [List.replicate_succ', List.flatten_append]
                simpa using p1.append g1
              · have e1 : cs.take ((k + 1) * s.length) = cs.take (k * s.length) ++ (cs.drop (k * s.length)).take s.length := by
                  rw [Nat.add_mul, Nat.one_mul, List.take_add]
                rw [e1]
                exact p2.append g2
          obtain ⟨ps, p1, p2⟩ := key m0 (Nat.le_refl _)
          refine ⟨ps, p1, ?_⟩
          rw [List.take_of_length_le (by omega)] at p2
          exact p2
        · cases hS
      · cases hS
    · cases hS
end
end Go.Am
